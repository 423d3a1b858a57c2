/- v, ok := m[k]. -/
import Derived.Test.YtbihckigennlhaaGreatDoorWe
import Derived.Test.YtbihckigennlhaaGreatDoorVc
import Derived.Test.YtbihckigennlhaaGreatDoorUe
import Derived.Test.YtbihckigennlhaaGreatDoorTj
set_option linter.unusedSimpArgs false
set_option linter.unusedVariables false
set_option linter.unusedSectionVars false
set_option maxRecDepth 100000
namespace Go.Sx
open Go.RowKit Go.Proofs
section
variable {P:Program}[Glob P]{σ:Store}
def aB4(o:Option AV)(z:Value):AV:= .aI [o.getD (.v z),.v (.bool o.isSome)]
theorem aEa{tg b dY:Nat}{es:List (Value×Nat×AV)}{t ty kt vt:TypeId}{q:TI}{kd:TypeDesc}{m k:Operand}{key z:Value}{o:Option AV}(hz:∀ w,(zeroValue vt).run P w= .ok z w)(hp:ox q=some kd)(hl:aN σ tg=some (b,.map es dY))(hf:mr kd key es=some o):
  kh P (.lookup t m k true) ty [.mp kt vt,q] [m,k] [.eA tg b,.v key] σ fun y σ'=>y=aB4 o z∧σ'=σ:=by
 intro dR M w0 w ρ hI hR
 simp only[fW,ZW,and_true]at dR
 have ht:=Ci dR.1
 have hk:P.underlying kt=some kd:=by
  have:=dR.2
  unfold Fw at this
  rw[ht]at this
  exact NQ hp this
 obtain⟨v1,vs1,e1,h1,iV⟩:=hR.cN
 obtain⟨v2,e2,h2⟩:=iV.dV
 subst e2
 simp only[ZH,YX,ZW,and_true]at e1
 obtain⟨hM,l,hh,jC,kH⟩:=hI.xL hl
 have g1:=h1.yJ
 have g2:=h2.az
 subst g1 g2
 cases o with
 |some v=>
  obtain⟨j,u,hfn,hu⟩:=Kr (M:=M) 0 jC kH hf
  refine⟨.value (.tuple #[u,.bool true]),w,M,aB4 (some v) z,.tuple #[u,.bool true],σ,?_,rfl,Mem.le.refl _,hI,R.FE (cs:=[_,_]) (RL.cons hu (RL.cons (.v _) RL.nil)),rfl,rfl⟩
  simp only[execOp,e1.1,e1.2,Instr.lookup,Sem.run_bind,aY ht,Result.andThen_ok,getObj,Sem.run,hh,run_checkKey hp hk,Instr.findKey,aY hk,hfn,Sem.run_pure]
  rfl
 |none=>
  have hfn:=Kq (M:=M) 0 jC hf
  refine⟨.value (.tuple #[z,.bool false]),w,M,aB4 none z,.tuple #[z,.bool false],σ,?_,rfl,Mem.le.refl _,hI,R.FE (cs:=[_,_]) (RL.cons (.v _) (RL.cons (.v _) RL.nil)),rfl,rfl⟩
  simp only[execOp,e1.1,e1.2,Instr.lookup,Sem.run_bind,aY ht,Result.andThen_ok,getObj,Sem.run,hh,run_checkKey hp hk,Instr.findKey,aY hk,hfn,Sem.run_pure,hz]
  rfl
theorem aCh{cfg:Nat→Nat}{K:ae→Store→Prop}{E:List PanicEntry→Store→Prop}{l:List CI}{d:Nat}{xr:XR}{ps:List Prop}{og:Option Bool}{t kt vt:TypeId}{q:TI}{ty:TypeId}{m k:Operand}{kd:TypeDesc}{tg b b' dY:Nat}{es:List (Value×Nat×AV)}{key z:Value}{o:Option AV}
  (hz:∀ w,(zeroValue vt).run P w= .ok z w) (hp:ox q=some kd) (h:aA xr none [m,k]=some (og,[.eA tg b,.v key],ps)) (hl:aN σ tg=some (b',.map es dY)) (hb:b=b') (hf:mr kd key es=some o) (al:OB ps)
  (kk:VX P cfg l K E ((d,.s (aB4 o z))::xr) σ):VX P cfg (⟨some d,.cp (.lookup t m k true) ty [.mp kt vt,q] [m,k],none⟩::l) K E xr σ:=by
 obtain⟨hc,he⟩:=bZ h
 have cI:=uJ h
 subst cI
 subst hb
 constructor
 simp only[dW,di,aj,he al rfl]
 refine(aEa hz hp hl hf).mono fun y s ⟨e1,e2⟩=> ?_
 subst e1 e2
 exact kk.h
end
theorem xe{P:Program}[Glob P]{N i:Nat}{v:Value}{cfg:Nat→Nat}{Q:Exit→ae→Store→Prop}{rg:ae}{σ:Store}{l:List CI}(h:WK P N cfg Q (.cj l) [] rg σ):ej P N i v (.cj l) Q rg σ:=QJ h.h.h
end Go.Sx
namespace Go.Proofs.YtbihckigennlhaaGreatDoor
open Go.Sx Go.Proofs
theorem aCI(w:World):(zeroValue 1).run Tryz.prog w= .ok .nilFunc w:=by
 have h:(Tryz.prog.info? 1).bind (fun i=>i.zero)=some .nilFunc:=by kernel_rfl
 obtain⟨i,h1,h2⟩:=Option.bind_eq_some_iff.1 h
 simp[zeroValue,typeInfo,h1,h2]
end Go.Proofs.YtbihckigennlhaaGreatDoor
set_option maxHeartbeats 4000000
namespace Go.Proofs.YtbihckigennlhaaGreatDoor
open Go.Sx Go.Proofs Go.RowKit
def xm(bad:List dw)(p:dw):List dw:=if bad.length<32 then bad++[p]else bad
theorem Aj(all:List dw)(p:dw):xm (all.take 32) p=(all++[p]).take 32:=by
 unfold xm
 rw[ZT]
 by_cases h:all.length<32
 ·rw[if_pos (by omega),ZC (by omega),ZC (by simp;omega)]
 ·rw[if_neg (by omega),YQ (by omega)]
def nk(e tg:Nat)(rows:List (List AV))(x:AV)(τ:Store):Prop:=(rows=[]∧x=fE∧τ=[])∨(rows≠[]∧∃ bb u c,x= .own e tg bb u c rows∧τ=[(tg,bb,.tail u c)]∧u=rows.length * e)
theorem BV(cd:Int)(at_:Int)(bad:List dw)(azL:bad.length≤32)(bb ba:Nat)(x:AV)(τb cK:Store)(hS:nk 2 12 (bad.map dw.cells) x τb):
  Sx.Spec Tryz.prog 48 [iv cd,.lp 3 bb 0,.lp 6 ba 0] ((6,ba,.cells [iv at_])::(3,bb,.cells [x])::(τb++cK))
   fun r σ'=>∃ x' dF,nk 2 12 ((xm bad ⟨at_,cd⟩).map dw.cells) x' dF∧r= .ret (.aI [])∧σ'=(6,ba,.cells [iv at_])::(3,bb,.cells [x'])::(dF++cK):=by
 suffices h:Sx.Spec Tryz.prog 48 [iv cd,.lp 3 bb 0,.lp 6 ba 0] ((6,ba,.cells [iv at_])::(3,bb,.cells [x])::(τb++cK))
   fun r σ'=>∃ x' dF σ2,nk 2 12 ((xm bad ⟨at_,cd⟩).map dw.cells) x' dF∧r= .ret (.aI [])∧σ'.Perm σ2∧σ2=(6,ba,.cells [iv at_])::(3,bb,.cells [x'])::(dF++cK) by
  exact Spec.adq h fun r σ' ⟨x',dF,σ2,h1,h2,h3,h4⟩=>⟨σ2,h3,x',dF,h1,h2,h4⟩
 unfold xm
 rcases hS with⟨h0,rfl,rfl⟩|⟨h0,b1,u1,c1,rfl,rfl,Bm⟩
 ·have WX:bad=[]:=YO.1 h0
  subst WX
  refine Spec.cY (fun _=>0) Tryz.func48 Js JW (Z8 rfl) ?_
  repeat'((fail_if_success (show VX _ _ (⟨_,.append _ _ _ _ _ _,_⟩::_) _ _ _ _));(first|exact .nil|refine .k0 ?_|refine .k1 ?_|refine .k2 ?_|refine .k3 ?_|refine .k9 ?_|(refine .cd ?_ ?_<;>(intro hc;skip))|refine .r1 ?_ ?_|refine .r2 ?_ ?_|refine .r8 ?_ ?_|fail))
  all_goals try refine QW rfl rfl ?_ ?_ ?_ (fun b u c hu=> ?_)
  repeat'(first|exact .nil|refine .k0 ?_|refine .k1 ?_|refine .k3 ?_|refine .r1 ?_ ?_|refine .r2 ?_ ?_|fail)
  try any_goals(exact Zo)
  all_goals(try simp only[BL]at *)
  ·exact Z8 rfl
  ·exact Z8 rfl
  ·exact⟨.own 2 12 b u c [[iv at_,iv cd]],[(12,b,.tail u c)],_,.inr ⟨by simp,b,u,c,by simp[dw.cells],rfl,by rw[hu];rfl⟩,trivial,(Yk (l₁:=[_,_])).symm,rfl⟩
  ·exact absurd (show((0:Nat):Int)<32 by decide) hc
 ·refine Spec.cY (fun _=>0) Tryz.func48 Js JW (Z8 rfl) ?_
  repeat'((fail_if_success (show VX _ _ (⟨_,.append _ _ _ _ _ _,_⟩::_) _ _ _ _));(first|exact .nil|refine .k0 ?_|refine .k1 ?_|refine .k2 ?_|refine .k3 ?_|refine .k9 ?_|(refine .cd ?_ ?_<;>(intro hc;skip))|refine .r1 ?_ ?_|(refine .m2 ?_ ?_;intro hlen)|refine .r2 ?_ ?_|fail))
  all_goals try refine QY rfl rfl rfl ?_ ?_ ?_ (fun b u c hu=> ?_)
  repeat'(first|exact .nil|refine .k0 ?_|refine .k1 ?_|refine .k3 ?_|refine .r1 ?_ ?_|refine .r2 ?_ ?_|(show List.all _ _=true;rfl)|fail)
  all_goals(try simp only[BL]at *)
  ·exact Z8 rfl
  ·show(_+1) * 16≤_;rw[Z3];omega
  ·rw[if_pos (by omega)]
   exact⟨.own 2 12 b u c (bad.map dw.cells++[[iv at_,iv cd]]),[(12,b,.tail u c)],_,.inr ⟨by simp,b,u,c,by simp[dw.cells],rfl,by rw[hu Bm];simp⟩,trivial,.refl _,rfl⟩
  ·rw[if_neg (by omega)]
   exact⟨_,_,_,.inr ⟨h0,b1,u1,c1,rfl,rfl,Bm⟩,trivial,.refl _,rfl⟩
def T2:AC:=match Db with
 | .seq _ (.keep _ (.scope b))=>b
 |a=>a
def Og(l:Nat):AC:=match oj T2 l with
 |some (.seq _ b)=>b
 |_=> .skip
def ksT(l:Nat):List Nat:=bif Nat.beq l 0 then[0,2,3,5,6,7,8]else[0,2,3,5,6,7,8,11]
def sk(bb ba:Nat):AV:= .v (.func (.func 48) #[] #[.pointer (some ⟨bb,0,none⟩),.pointer (some ⟨ba,0,none⟩)])
abbrev PF:=List Tok×List dw
structure w5(src:List UInt8)(F:PF)(at_ k:Nat)(de:Int)(toks:List Tok)(all:List dw)(lV cV:AV)(jN τb:Store):Prop where
 le:at_≤src.length
 fu:src.length-at_≤k
 tl:toks.length≤at_
 st: -1≤de∧de≤16384
 f1:F.1=toks++(cA k at_ de (src.drop at_)).1
 f2:F.2=all++(cA k at_ de (src.drop at_)).2
 cl:rV 3 58 (toks.map Tok.cells) lV jN
 cb:nk 2 12 ((all.take 32).map dw.cells) cV τb
def zF(bb ba:Nat)(σ:Store)(at_:Nat)(cV:AV)(jN τb:Store):Store:=(6,ba,.cells [iv (at_:Nat)])::(3,bb,.cells [cV])::(jN++(τb++σ))
def wj(src:List UInt8)(nn:Bool)(bb ba:Nat)(lV:AV)(de:Int)(more:ae):ae:=[(0,.sl nn 1 (src.map bn)),(2,lV),(3,.lp 3 bb 0),(5,.pc jU),(6,.lp 6 ba 0),(7,iv de),(8,sk bb ba)]++more
def JT(src:List UInt8)(nn:Bool)(bb ba:Nat)(σ:Store)(F:PF)(l n:Nat)(rg:ae)(σ':Store):Prop:=
 ∃ (at_ k:Nat) (de:Int) (toks:List Tok) (all:List dw) (lV cV:AV) (jN τb:Store),w5 src F at_ k de toks all lV cV jN τb∧σ'=zF bb ba σ at_ cV jN τb∧
  ((l=0∧n=2 * (src.length-at_)+1∧rg=wj src nn bb ba lV de [])∨(l=1∧at_<src.length∧n=2 * (src.length-at_)∧(ax (src.drop at_)).1= -1∧rg=wj src nn bb ba lV de [(11,iv (ax (src.drop at_)).2.2)]))
def RT(σ:Store)(F:PF)(x:dj)(σ':Store):Prop:=∃ (lA cV:AV) (τb:Store),nk 2 12 ((F.2.take 32).map dw.cells) cV τb∧x= .ret (.aI [lA,cV,iv 0])∧Wk lA (.sl false 3 (F.1.map Tok.cells))∧Sub (τb++σ) σ'
theorem BP{α:Type}(e:α)(l1 l2:List α):([e]++(l1++l2)).Perm (l1++([e]++l2)):=by
 rw[List.singleton_append,List.singleton_append];exact List.perm_middle.symm
theorem NM:∀ s:List UInt8,(ax s).1=4→2≤(ax s).2.1
 |[],h=>by cases h
 |c::r,h=>by
  by_cases h1:aC c=1
  ·rw[p_1 h1]at h;cases h
  by_cases h6:aC c=6
  ·rw[BN h6]at h;cases h
  by_cases h2:aC c=2
  ·rw[FR h2]at h;cases h
  by_cases h3:aC c=3
  ·rw[BK h3]at h;split at h<;>cases h
  by_cases h5:aC c=5
  ·rw[BM h5]at h ⊢;split at h
   ·rename_i h7;rw[if_pos h7];simp
   ·cases h
  by_cases h7:aC c=7∨aC c=8
  ·rw[q9 h7]at h;repeat' split at h
   all_goals cases h
  ·rw[FQ ⟨h1,h6,h2,h3,h5,fun e=>h7 (.inl e),fun e=>h7 (.inr e)⟩]at h;cases h
theorem MK(hG:ux)(hA:ur)(src:List UInt8)(hl:src.length≤16384)(nn:Bool)(bb ba:Nat)(σ:Store)(F:PF)(no:Option Nat)(at_ k:Nat)(de:Int)(toks:List Tok)(all:List dw)(lV cV:AV)(jN τb:Store)
  (hI:w5 src F at_ k de toks all lV cV jN τb) (fA:∀ m,no=some m→m=2 * (src.length-at_)+1):
  WK Tryz.prog ql.N (fun _=>0) (qT (uy (JT src nn bb ba σ F) ksT no) (fun e=>FK Tryz.prog ql.N (fun _=>0) (kQ ql.res (RT σ F)) e [])) (Og 0) [] (wj src nn bb ba lV de []) (zF bb ba σ at_ cV jN τb):=by
 have hle:=hI.le
 have vj:=hI.fu
 have htl:=hI.tl
 unfold zF wj sk
 simp only[Zn]
 rcases hI.cl with⟨h0,rfl,rfl⟩|⟨h0,b1,u1,c1,rfl,rfl⟩
 ·show WK _ _ _ _ (.keep _ _) _ _ _
  repeat'((fail_if_success (show WK _ _ _ _ (.dr _ _) _ _ _));(fail_if_success (show WK _ _ _ _ (.seq (.block _ _) _) _ _ _));(first|exact .nil|refine .k0 ?_|refine .k1 ?_|refine .k2 ?_|refine .k9 ?_|(refine .cd ?_ ?_<;>(intro hc;skip))|refine .r1 ?_ ?_|(refine .m2 ?_ ?_;intro hlen)|refine .an rfl (by intro bx;exact NN hG hA src hl nn at_ (by(simp at hc;omega))) ?_ ?_|fail))
  try any_goals(exact YE _ _)
  all_goals(try simp only[BL]at *)
  ·have gJ:at_=src.length:=by omega
   have hd:src.drop at_=[]:=Yc (by omega)
   have oZ:F.1=toks++[⟨6,⟨#[]⟩,(at_:Nat)⟩]:=by rw[hI.f1,hd,lex_nil]
   have mw:F.2=all:=by rw[hI.f2,hd,lex_nil,Zn]
   rcases hI.cb with⟨g0,rfl,rfl⟩|⟨g0,b2,u2,c2,rfl,rfl,hu2⟩
   all_goals
    repeat'(first|exact .nil|refine .k0 ?_|refine .k1 ?_|refine .k3 ?_|refine .k7 ?_|refine .r1 ?_ ?_|refine .u1 ?_ ?_ ?_ (fun b u c=> ?_)|fail)
    try any_goals(exact YE _ _)
    ·exact Z8 rfl
    ·exact Z8 rfl
    refine tn ?_
    repeat'(first|exact .nil|refine .k0 ?_|refine .r1 ?_ ?_|fail)
    refine⟨_,_,_,by rw[mw];exact hI.cb,rfl,?_,Zs⟩
    exact(by rw[oZ,YO.1 h0];exact .own false)
  ·have gJ:at_<src.length:=by omega
   have al:src.drop at_≠[]:=fun h=>by have:=congrArg List.length h;rw[Zx]at this;simp at this;omega
   obtain⟨k,rfl⟩:∃ k',k=k'+1:=⟨k-1,by omega⟩
   have hL:=om k at_ de al
   have qJ:=BQ al
   have jb:=NM (src.drop at_)
   rw[Zx]at qJ
   have bQ:=hI.f1
   have da:=hI.f2
   rw[hL]at bQ da
   have iY:∀ n:Nat,(src.drop at_).drop n=src.drop (at_+n):=fun n=>YK
   simp only[iY]at bQ da
   have xU:∀ n:Nat,((at_:Int)+(n:Nat))=((at_+n:Nat):Int):=fun n=>by omega
   simp only[xU]at bQ da
   obtain⟨p,hp⟩:∃ p,ax (src.drop at_)=p:=⟨_,rfl⟩
   simp only[hp]at qJ bQ da jb ⊢
   refine lq (fun rg σ'=>∃ (toks':List Tok) (ft:List dw) (tp iB:AV) (uj dF:Store),(F.1=toks'++(cA k (at_+p.2.1:Nat) de (src.drop (at_+p.2.1))).1∧F.2=ft++(cA k (at_+p.2.1:Nat) de (src.drop (at_+p.2.1))).2)∧toks'.length≤at_+1∧
    rV 3 58 (toks'.map Tok.cells) tp uj∧nk 2 12 ((ft.take 32).map dw.cells) iB dF∧σ'=(6,ba,.cells [iv (at_:Nat)])::(3,bb,.cells [iB])::(uj++(dF++σ))∧
    rg=[(0,.sl nn 1 (src.map bn)),(2,tp),(3,.lp 3 bb 0),(5,.pc jU),(6,.lp 6 ba 0),(7,iv de),(8,sk bb ba),(10,iv (at_+p.2.1:Nat))]) ?_ ?_
   ·have jf:IntKind.i64.wrap ((at_:Int)+1)=((at_+1:Nat):Int):=by rw[aW (by omega)];rfl
    have s9:IntKind.i64.wrap (((at_+p.2.1:Nat):Int)-1)=((at_+p.2.1-1:Nat):Int):=by rw[aW (by omega)];omega
    repeat'((fail_if_success (show WK _ _ _ _ (.goto _) _ _ _));(first|exact .nil|refine .k0 ?_|refine .k1 ?_|refine .k2 ?_|refine .k4 ?_|refine .k6 ?_|refine .k9 ?_|(refine .cd ?_ ?_<;>(intro hc;skip))|refine .r1 ?_ ?_|refine .r8 ?_ ?_|fail))
    try any_goals(exact YE _ _)
    all_goals(try simp only[BL]at *)
    ·refine qj ?_
     exact⟨_,rfl,2 * (src.length-at_),fun m h=>by have:=fA m h;omega,_,_,Zr,Zs,at_,k+1,de,toks,all,_,_,_,_,hI,rfl,.inr ⟨rfl,gJ,rfl,by rw[hp];exact hc,by rw[hp];rfl⟩⟩
    ·rename_i h1
     rw[if_neg h1,if_pos hc]at bQ da
     refine iP rfl rfl (by rfl) (((BV p.2.2 (at_:Nat) (all.take 32) (by rw[ZT];omega) bb ba cV τb ([]++σ) hI.cb).wk (.cons (.refl _) (.cons .raw (.cons .raw .nil)))).permA ?_) .nil (fun x σ' hR=> ?_) (fun ch σ' hR=> ?_)
     ·exact .refl _
     ·obtain⟨x',dF,g1,e1,rfl⟩:=hR
      cases e1
      rw[Aj]at g1
      repeat'(first|refine .k1 ?_|refine .k2 ?_|fail)
      exact dH.vC rfl ⟨toks,all++[⟨(at_:Nat),p.2.2⟩],fE,x',[],dF,⟨bQ,by rw[da,ZA];rfl⟩,by omega,.inl ⟨h0,rfl,rfl⟩,g1,rfl,rfl⟩ (.refl _)
     ·obtain⟨_,_,_,e1,_⟩:=hR;cases e1
    ·simp only[jf,s9,Z3]
     have:=jb hc
     exact⟨trivial,by omega,by omega,by omega⟩
    ·rename_i h1 h2
     simp only[jf,s9,Y8]
     rw[if_neg h1,if_neg (fun h=>h h2),if_pos hc]at bQ da
     rw[← XZ,← X9]
     obtain⟨T,hT⟩:∃ T:Tok,T=⟨4,⟨((src.take (at_+p.2.1-1)).drop (at_+1)).toArray⟩,(at_:Nat)⟩:=⟨_,rfl⟩
     have kr:(⟨4,⟨(((src.drop at_).take (p.2.1-1)).drop 1).toArray⟩,(at_:Nat)⟩:Tok)=T:=by
      rw[hT];congr 3
      have:=jb hc
      rw[show p.2.1-1=(at_+p.2.1-1)-at_ by omega,← Yh,YK]
     rw[kr]at bQ
     have sM:Tok.cells T=[iv p.1,sv ⟨((src.take (at_+p.2.1-1)).drop (at_+1)).toArray⟩,iv (at_:Nat)]:=by rw[hT,hc];rfl
     clear hT kr
     repeat'(first|exact .nil|refine .k0 ?_|refine .k1 ?_|refine .k2 ?_|refine .r1 ?_ ?_|refine .u1 ?_ ?_ ?_ (fun b u c=> ?_)|refine .r5 ?_ ?_|fail)
     try any_goals(exact YE _ _)
     ·exact Z8 rfl
     ·exact Z8 rfl
     exact dH.vC rfl ⟨toks++[T],all,.own 3 58 b u c [[iv p.1,sv ⟨((src.take (at_+p.2.1-1)).drop (at_+1)).toArray⟩,iv (at_:Nat)]],cV,[(58,b,.tail u c)],τb,⟨by rw[bQ,ZA];rfl,da⟩,by rw[Z7];simp;omega,.inr ⟨by simp,b,u,c,by rw[YO.1 h0,Ze,ZH,YX,sM],rfl⟩,hI.cb,rfl,rfl⟩ (.perm (Yk (l₁:=[_,_])).symm (.refl _))
    ·simp only[Z3]
     exact⟨trivial,by omega,by omega,by omega⟩
    ·rename_i h1 h2 h3
     rw[if_neg h1,if_neg (fun h=>h h2),if_neg h3,if_pos hc]at bQ da
     rw[← XZ,← X9]
     obtain⟨T,hT⟩:∃ T:Tok,T=⟨p.1,⟨((src.take (at_+p.2.1)).drop at_).toArray⟩,(at_:Nat)⟩:=⟨_,rfl⟩
     have kr:(⟨p.1,⟨((src.drop at_).take p.2.1).toArray⟩,(at_:Nat)⟩:Tok)=T:=by
      rw[hT];congr 3
      rw[Yh];congr 1;omega
     rw[kr]at bQ
     have sM:Tok.cells T=[iv p.1,sv ⟨((src.take (at_+p.2.1)).drop at_).toArray⟩,iv (at_:Nat)]:=by rw[hT];rfl
     clear hT kr
     repeat'(first|exact .nil|refine .k0 ?_|refine .k1 ?_|refine .k2 ?_|refine .r1 ?_ ?_|refine .u1 ?_ ?_ ?_ (fun b u c=> ?_)|refine .r5 ?_ ?_|fail)
     try any_goals(exact YE _ _)
     ·exact Z8 rfl
     ·exact Z8 rfl
     exact dH.vC rfl ⟨toks++[T],all,.own 3 58 b u c [[iv p.1,sv ⟨((src.take (at_+p.2.1)).drop at_).toArray⟩,iv (at_:Nat)]],cV,[(58,b,.tail u c)],τb,⟨by rw[bQ,ZA];rfl,da⟩,by rw[Z7];simp;omega,.inr ⟨by simp,b,u,c,by rw[YO.1 h0,Ze,ZH,YX,sM],rfl⟩,hI.cb,rfl,rfl⟩ (.perm (Yk (l₁:=[_,_])).symm (.refl _))
    ·rename_i h1 h2 h3
     rw[if_neg h1,if_neg (fun h=>h h2),if_neg h3,if_neg (fun h=>h hc)]at bQ da
     exact dH.intro rfl ⟨toks,all,fE,cV,[],τb,⟨bQ,da⟩,by omega,.inl ⟨h0,rfl,rfl⟩,hI.cb,rfl,rfl⟩
   ·rintro _ _ ⟨toks',ft,tp,iB,uj,dF,⟨oZ,mw⟩,aaK,vb,sQ,rfl,rfl⟩
    have sX:at_+p.2.1≤src.length:=by omega
    have hIn:∀ (tq:AV) (uk:Store),rV 3 58 (toks'.map Tok.cells) tq uk→w5 src F (at_+p.2.1) k de toks' ft tq iB uk dF:=fun tq uk h=>⟨sX,by omega,by omega,hI.st,oZ,mw,h,sQ⟩
    rcases vb with⟨g0,rfl,rfl⟩|⟨g0,b3,u3,c3,rfl,rfl⟩
    ·repeat'((fail_if_success (show WK _ _ _ _ (.goto _) _ _ _));(first|exact .nil|refine .k0 ?_|refine .k1 ?_|refine .k2 ?_|refine .r1 ?_ ?_|fail))
     refine qj ?_
     exact⟨_,rfl,2 * (src.length-(at_+p.2.1))+1,fun m h=>by have:=fA m h;omega,_,_,Zr,Zs,at_+p.2.1,k,de,toks',ft,_,_,_,_,hIn _ _ (.inl ⟨g0,rfl,rfl⟩),rfl,.inl ⟨rfl,rfl,rfl⟩⟩
    ·repeat'((fail_if_success (show WK _ _ _ _ (.goto _) _ _ _));(first|exact .nil|refine .k0 ?_|refine .k1 ?_|refine .k2 ?_|refine .r1 ?_ ?_|fail))
     refine qj ?_
     exact⟨_,rfl,2 * (src.length-(at_+p.2.1))+1,fun m h=>by have:=fA m h;omega,_,_,Zr,Zs,at_+p.2.1,k,de,toks',ft,_,_,_,_,hIn _ _ (.inr ⟨g0,b3,u3,c3,rfl,rfl⟩),rfl,.inl ⟨rfl,rfl,rfl⟩⟩
 ·show WK _ _ _ _ (.keep _ _) _ _ _
  repeat'((fail_if_success (show WK _ _ _ _ (.dr _ _) _ _ _));(fail_if_success (show WK _ _ _ _ (.seq (.block _ _) _) _ _ _));(first|exact .nil|refine .k0 ?_|refine .k1 ?_|refine .k2 ?_|refine .k9 ?_|(refine .cd ?_ ?_<;>(intro hc;skip))|refine .r1 ?_ ?_|(refine .m2 ?_ ?_;intro hlen)|refine .an rfl (by intro bx;exact NN hG hA src hl nn at_ (by(simp at hc;omega))) ?_ ?_|fail))
  try any_goals(exact YE _ _)
  all_goals(try simp only[BL]at *)
  ·have gJ:at_=src.length:=by omega
   have hd:src.drop at_=[]:=Yc (by omega)
   have oZ:F.1=toks++[⟨6,⟨#[]⟩,(at_:Nat)⟩]:=by rw[hI.f1,hd,lex_nil]
   have mw:F.2=all:=by rw[hI.f2,hd,lex_nil,Zn]
   rcases hI.cb with⟨g0,rfl,rfl⟩|⟨g0,b2,u2,c2,rfl,rfl,hu2⟩
   all_goals
    repeat'(first|exact .nil|refine .k0 ?_|refine .k1 ?_|refine .k3 ?_|refine .k7 ?_|refine .r1 ?_ ?_|refine .u2 ?_ ?_ ?_ (fun b u c=> ?_)|(show List.all _ _=true;rfl)|fail)
    try any_goals(exact YE _ _)
    ·exact Z8 rfl
    ·show(_+1) * 32≤_;rw[Z3];omega
    refine tn ?_
    repeat'(first|exact .nil|refine .k0 ?_|refine .r1 ?_ ?_|fail)
    refine⟨_,_,_,by rw[mw];exact hI.cb,rfl,?_,Zs⟩
    exact(by rw[oZ,Y2];exact .own false)
  ·have gJ:at_<src.length:=by omega
   have al:src.drop at_≠[]:=fun h=>by have:=congrArg List.length h;rw[Zx]at this;simp at this;omega
   obtain⟨k,rfl⟩:∃ k',k=k'+1:=⟨k-1,by omega⟩
   have hL:=om k at_ de al
   have qJ:=BQ al
   have jb:=NM (src.drop at_)
   rw[Zx]at qJ
   have bQ:=hI.f1
   have da:=hI.f2
   rw[hL]at bQ da
   have iY:∀ n:Nat,(src.drop at_).drop n=src.drop (at_+n):=fun n=>YK
   simp only[iY]at bQ da
   have xU:∀ n:Nat,((at_:Int)+(n:Nat))=((at_+n:Nat):Int):=fun n=>by omega
   simp only[xU]at bQ da
   obtain⟨p,hp⟩:∃ p,ax (src.drop at_)=p:=⟨_,rfl⟩
   simp only[hp]at qJ bQ da jb ⊢
   refine lq (fun rg σ'=>∃ (toks':List Tok) (ft:List dw) (tp iB:AV) (uj dF:Store),(F.1=toks'++(cA k (at_+p.2.1:Nat) de (src.drop (at_+p.2.1))).1∧F.2=ft++(cA k (at_+p.2.1:Nat) de (src.drop (at_+p.2.1))).2)∧toks'.length≤at_+1∧
    rV 3 58 (toks'.map Tok.cells) tp uj∧nk 2 12 ((ft.take 32).map dw.cells) iB dF∧σ'=(6,ba,.cells [iv (at_:Nat)])::(3,bb,.cells [iB])::(uj++(dF++σ))∧
    rg=[(0,.sl nn 1 (src.map bn)),(2,tp),(3,.lp 3 bb 0),(5,.pc jU),(6,.lp 6 ba 0),(7,iv de),(8,sk bb ba),(10,iv (at_+p.2.1:Nat))]) ?_ ?_
   ·have jf:IntKind.i64.wrap ((at_:Int)+1)=((at_+1:Nat):Int):=by rw[aW (by omega)];rfl
    have s9:IntKind.i64.wrap (((at_+p.2.1:Nat):Int)-1)=((at_+p.2.1-1:Nat):Int):=by rw[aW (by omega)];omega
    repeat'((fail_if_success (show WK _ _ _ _ (.goto _) _ _ _));(first|exact .nil|refine .k0 ?_|refine .k1 ?_|refine .k2 ?_|refine .k4 ?_|refine .k6 ?_|refine .k9 ?_|(refine .cd ?_ ?_<;>(intro hc;skip))|refine .r1 ?_ ?_|refine .r8 ?_ ?_|fail))
    try any_goals(exact YE _ _)
    all_goals(try simp only[BL]at *)
    ·refine qj ?_
     exact⟨_,rfl,2 * (src.length-at_),fun m h=>by have:=fA m h;omega,_,_,Zr,Zs,at_,k+1,de,toks,all,_,_,_,_,hI,rfl,.inr ⟨rfl,gJ,rfl,by rw[hp];exact hc,by rw[hp];rfl⟩⟩
    ·rename_i h1
     rw[if_neg h1,if_pos hc]at bQ da
     refine iP rfl rfl (by rfl) (((BV p.2.2 (at_:Nat) (all.take 32) (by rw[ZT];omega) bb ba cV τb ([(58,b1,.tail u1 c1)]++σ) hI.cb).wk (.cons (.refl _) (.cons .raw (.cons .raw .nil)))).permA ?_) .nil (fun x σ' hR=> ?_) (fun ch σ' hR=> ?_)
     ·exact .cons _ (.cons _ (BP _ _ _))
     ·obtain⟨x',dF,g1,e1,rfl⟩:=hR
      cases e1
      rw[Aj]at g1
      repeat'(first|refine .k1 ?_|refine .k2 ?_|fail)
      exact dH.vC rfl ⟨toks,all++[⟨(at_:Nat),p.2.2⟩],.own 3 58 b1 u1 c1 (toks.map Tok.cells),x',[(58,b1,.tail u1 c1)],dF,⟨bQ,by rw[da,ZA];rfl⟩,by omega,.inr ⟨h0,b1,u1,c1,rfl,rfl⟩,g1,rfl,rfl⟩ (.perm (.cons _ (.cons _ (BP _ _ _).symm)) (.refl _))
     ·obtain⟨_,_,_,e1,_⟩:=hR;cases e1
    ·simp only[jf,s9,Z3]
     have:=jb hc
     exact⟨trivial,by omega,by omega,by omega⟩
    ·rename_i h1 h2
     simp only[jf,s9,Y8]
     rw[if_neg h1,if_neg (fun h=>h h2),if_pos hc]at bQ da
     rw[← XZ,← X9]
     obtain⟨T,hT⟩:∃ T:Tok,T=⟨4,⟨((src.take (at_+p.2.1-1)).drop (at_+1)).toArray⟩,(at_:Nat)⟩:=⟨_,rfl⟩
     have kr:(⟨4,⟨(((src.drop at_).take (p.2.1-1)).drop 1).toArray⟩,(at_:Nat)⟩:Tok)=T:=by
      rw[hT];congr 3
      have:=jb hc
      rw[show p.2.1-1=(at_+p.2.1-1)-at_ by omega,← Yh,YK]
     rw[kr]at bQ
     have sM:Tok.cells T=[iv p.1,sv ⟨((src.take (at_+p.2.1-1)).drop (at_+1)).toArray⟩,iv (at_:Nat)]:=by rw[hT,hc];rfl
     clear hT kr
     repeat'(first|exact .nil|refine .k0 ?_|refine .k1 ?_|refine .k2 ?_|refine .r1 ?_ ?_|refine .u2 ?_ ?_ ?_ (fun b u c=> ?_)|refine .r5 ?_ ?_|(show List.all _ _=true;rfl)|fail)
     try any_goals(exact YE _ _)
     ·exact Z8 rfl
     ·show(_+1) * 32≤_;rw[Z3];omega
     exact dH.intro rfl ⟨toks++[T],all,.own 3 58 b u c (toks.map Tok.cells++[[iv p.1,sv ⟨((src.take (at_+p.2.1-1)).drop (at_+1)).toArray⟩,iv (at_:Nat)]]),cV,[(58,b,.tail u c)],τb,⟨by rw[bQ,ZA];rfl,da⟩,by rw[Z7];simp;omega,.inr ⟨by simp,b,u,c,by rw[Y2,ZH,YX,sM],rfl⟩,hI.cb,rfl,rfl⟩
    ·simp only[Z3]
     exact⟨trivial,by omega,by omega,by omega⟩
    ·rename_i h1 h2 h3
     rw[if_neg h1,if_neg (fun h=>h h2),if_neg h3,if_pos hc]at bQ da
     rw[← XZ,← X9]
     obtain⟨T,hT⟩:∃ T:Tok,T=⟨p.1,⟨((src.take (at_+p.2.1)).drop at_).toArray⟩,(at_:Nat)⟩:=⟨_,rfl⟩
     have kr:(⟨p.1,⟨((src.drop at_).take p.2.1).toArray⟩,(at_:Nat)⟩:Tok)=T:=by
      rw[hT];congr 3
      rw[Yh];congr 1;omega
     rw[kr]at bQ
     have sM:Tok.cells T=[iv p.1,sv ⟨((src.take (at_+p.2.1)).drop at_).toArray⟩,iv (at_:Nat)]:=by rw[hT];rfl
     clear hT kr
     repeat'(first|exact .nil|refine .k0 ?_|refine .k1 ?_|refine .k2 ?_|refine .r1 ?_ ?_|refine .u2 ?_ ?_ ?_ (fun b u c=> ?_)|refine .r5 ?_ ?_|(show List.all _ _=true;rfl)|fail)
     try any_goals(exact YE _ _)
     ·exact Z8 rfl
     ·show(_+1) * 32≤_;rw[Z3];omega
     exact dH.intro rfl ⟨toks++[T],all,.own 3 58 b u c (toks.map Tok.cells++[[iv p.1,sv ⟨((src.take (at_+p.2.1)).drop at_).toArray⟩,iv (at_:Nat)]]),cV,[(58,b,.tail u c)],τb,⟨by rw[bQ,ZA];rfl,da⟩,by rw[Z7];simp;omega,.inr ⟨by simp,b,u,c,by rw[Y2,ZH,YX,sM],rfl⟩,hI.cb,rfl,rfl⟩
    ·rename_i h1 h2 h3
     rw[if_neg h1,if_neg (fun h=>h h2),if_neg h3,if_neg (fun h=>h hc)]at bQ da
     exact dH.intro rfl ⟨toks,all,.own 3 58 b1 u1 c1 (toks.map Tok.cells),cV,[(58,b1,.tail u1 c1)],τb,⟨bQ,da⟩,by omega,.inr ⟨h0,b1,u1,c1,rfl,rfl⟩,hI.cb,rfl,rfl⟩
   ·rintro _ _ ⟨toks',ft,tp,iB,uj,dF,⟨oZ,mw⟩,aaK,vb,sQ,rfl,rfl⟩
    have sX:at_+p.2.1≤src.length:=by omega
    have hIn:∀ (tq:AV) (uk:Store),rV 3 58 (toks'.map Tok.cells) tq uk→w5 src F (at_+p.2.1) k de toks' ft tq iB uk dF:=fun tq uk h=>⟨sX,by omega,by omega,hI.st,oZ,mw,h,sQ⟩
    rcases vb with⟨g0,rfl,rfl⟩|⟨g0,b3,u3,c3,rfl,rfl⟩
    ·repeat'((fail_if_success (show WK _ _ _ _ (.goto _) _ _ _));(first|exact .nil|refine .k0 ?_|refine .k1 ?_|refine .k2 ?_|refine .r1 ?_ ?_|fail))
     refine qj ?_
     exact⟨_,rfl,2 * (src.length-(at_+p.2.1))+1,fun m h=>by have:=fA m h;omega,_,_,Zr,Zs,at_+p.2.1,k,de,toks',ft,_,_,_,_,hIn _ _ (.inl ⟨g0,rfl,rfl⟩),rfl,.inl ⟨rfl,rfl,rfl⟩⟩
    ·repeat'((fail_if_success (show WK _ _ _ _ (.goto _) _ _ _));(first|exact .nil|refine .k0 ?_|refine .k1 ?_|refine .k2 ?_|refine .r1 ?_ ?_|fail))
     refine qj ?_
     exact⟨_,rfl,2 * (src.length-(at_+p.2.1))+1,fun m h=>by have:=fA m h;omega,_,_,Zr,Zs,at_+p.2.1,k,de,toks',ft,_,_,_,_,hIn _ _ (.inr ⟨g0,b3,u3,c3,rfl,rfl⟩),rfl,.inl ⟨rfl,rfl,rfl⟩⟩
theorem acr(src:List UInt8)(hl:src.length≤16384)(nn:Bool)(bb ba:Nat)(σ:Store)(F:PF)(no:Option Nat)(at_ k:Nat)(de:Int)(toks:List Tok)(all:List dw)(lV cV:AV)(jN τb:Store)
  (hI:w5 src F at_ k de toks all lV cV jN τb) (gJ:at_<src.length) (hp:(ax (src.drop at_)).1= -1) (fA:∀ m,no=some m→m=2 * (src.length-at_)):
  WK Tryz.prog ql.N (fun _=>0) (qT (uy (JT src nn bb ba σ F) ksT no) (fun e=>FK Tryz.prog ql.N (fun _=>0) (kQ ql.res (RT σ F)) e [])) (Og 1) [] (wj src nn bb ba lV de [(11,iv (ax (src.drop at_)).2.2)]) (zF bb ba σ at_ cV jN τb):=by
 have hle:=hI.le
 have vj:=hI.fu
 have htl:=hI.tl
 have ep:=hI.st
 have al:src.drop at_≠[]:=fun h=>by have:=congrArg List.length h;rw[Zx]at this;simp at this;omega
 obtain⟨k,rfl⟩:∃ k',k=k'+1:=⟨k-1,by omega⟩
 have bQ:=hI.f1
 have da:=hI.f2
 rw[om k at_ de al,if_pos hp]at bQ da
 have iY:∀ n:Nat,(src.drop at_).drop n=src.drop (at_+n):=fun n=>YK
 have xU:((at_:Int)+1)=((at_+1:Nat):Int):=by omega
 simp only[iY,xU]at bQ da
 have mK:IntKind.i64.wrap ((at_:Int)-1)=(at_:Int)-1:=by rw[aW (by omega)]
 have jf:IntKind.i64.wrap ((at_:Int)+1)=((at_+1:Nat):Int):=by rw[aW (by omega)];rfl
 unfold zF wj sk
 simp only[ZD,Ze]
 rcases hI.cl with⟨h0,rfl,rfl⟩|⟨h0,b1,u1,c1,rfl,rfl⟩
 ·show WK _ _ _ _ (.keep _ _) _ _ _
  refine jQ rfl ?_
  refine lq (fun rg σ'=>∃ (ft:List dw) (iB:AV) (dF:Store),F.2=ft++(cA k (at_+1:Nat) (at_:Nat) (src.drop (at_+1))).2∧nk 2 12 ((ft.take 32).map dw.cells) iB dF∧σ'=(6,ba,.cells [iv (at_:Nat)])::(3,bb,.cells [iB])::([]++(dF++σ))∧
   rg=[(0,.sl nn 1 (src.map bn)),(2,fE),(3,.lp 3 bb 0),(5,.pc jU),(6,.lp 6 ba 0),(8,sk bb ba)]) ?_ ?_
  ·repeat'(first|exact .nil|refine .k0 ?_|refine .k1 ?_|refine .k2 ?_|refine .k4 ?_|refine .k9 ?_|(refine .cd ?_ ?_<;>(intro hc;skip))|refine .r1 ?_ ?_|fail)
   try any_goals(exact Zo)
   all_goals(try simp only[BL]at *)
   ·rw[mK]at hc
    rw[if_pos (by rcases hc with h|h;exact .inl h;exact .inr h)]at da
    refine iP rfl rfl (by rfl) (((BV _ (at_:Nat) (all.take 32) (by rw[ZT];omega) bb ba cV τb ([]++σ) hI.cb).wk (.cons (.refl _) (.cons .raw (.cons .raw .nil)))).permA ?_) .nil (fun x σ' hR=> ?_) (fun ch σ' hR=> ?_)
    ·exact .refl _
    ·obtain⟨x',dF,g1,e1,rfl⟩:=hR
     cases e1
     rw[Aj]at g1
     repeat'(first|refine .k1 ?_|refine .k2 ?_|fail)
     exact dH.vC rfl ⟨all++[⟨(at_:Nat),(ax (src.drop at_)).2.2⟩],x',dF,by rw[da,ZA];rfl,g1,rfl,rfl⟩ (.refl _)
    ·obtain⟨_,_,_,e1,_⟩:=hR;cases e1
   ·rw[mK]at hc
    rw[if_neg (by rintro(h|h);exact h hc.1;exact hc.2 h)]at da
    exact dH.intro rfl ⟨all,cV,τb,da,hI.cb,rfl,rfl⟩
  ·rintro _ _ ⟨ft,iB,dF,mw,sQ,rfl,rfl⟩
   repeat'((fail_if_success (show WK _ _ _ _ (.goto _) _ _ _));(first|exact .nil|refine .k0 ?_|refine .k1 ?_|refine .k2 ?_|refine .r1 ?_ ?_|fail))
   rw[jf]
   refine qj ?_
   exact⟨_,rfl,2 * (src.length-(at_+1))+1,fun m h=>by have:=fA m h;omega,_,_,Zr,Zs,at_+1,k,(at_:Nat),toks,ft,_,_,_,_,⟨by omega,by omega,by omega,by omega,bQ,mw,.inl ⟨h0,rfl,rfl⟩,sQ⟩,rfl,.inl ⟨rfl,rfl,rfl⟩⟩
 ·show WK _ _ _ _ (.keep _ _) _ _ _
  refine jQ rfl ?_
  refine lq (fun rg σ'=>∃ (ft:List dw) (iB:AV) (dF:Store),F.2=ft++(cA k (at_+1:Nat) (at_:Nat) (src.drop (at_+1))).2∧nk 2 12 ((ft.take 32).map dw.cells) iB dF∧σ'=(6,ba,.cells [iv (at_:Nat)])::(3,bb,.cells [iB])::([(58,b1,.tail u1 c1)]++(dF++σ))∧
   rg=[(0,.sl nn 1 (src.map bn)),(2,.own 3 58 b1 u1 c1 (toks.map Tok.cells)),(3,.lp 3 bb 0),(5,.pc jU),(6,.lp 6 ba 0),(8,sk bb ba)]) ?_ ?_
  ·repeat'(first|exact .nil|refine .k0 ?_|refine .k1 ?_|refine .k2 ?_|refine .k4 ?_|refine .k9 ?_|(refine .cd ?_ ?_<;>(intro hc;skip))|refine .r1 ?_ ?_|fail)
   try any_goals(exact Zo)
   all_goals(try simp only[BL]at *)
   ·rw[mK]at hc
    rw[if_pos (by rcases hc with h|h;exact .inl h;exact .inr h)]at da
    refine iP rfl rfl (by rfl) (((BV _ (at_:Nat) (all.take 32) (by rw[ZT];omega) bb ba cV τb ([(58,b1,.tail u1 c1)]++σ) hI.cb).wk (.cons (.refl _) (.cons .raw (.cons .raw .nil)))).permA ?_) .nil (fun x σ' hR=> ?_) (fun ch σ' hR=> ?_)
    ·exact .cons _ (.cons _ (BP _ _ _))
    ·obtain⟨x',dF,g1,e1,rfl⟩:=hR
     cases e1
     rw[Aj]at g1
     repeat'(first|refine .k1 ?_|refine .k2 ?_|fail)
     exact dH.vC rfl ⟨all++[⟨(at_:Nat),(ax (src.drop at_)).2.2⟩],x',dF,by rw[da,ZA];rfl,g1,rfl,rfl⟩ (.perm (.cons _ (.cons _ (BP _ _ _).symm)) (.refl _))
    ·obtain⟨_,_,_,e1,_⟩:=hR;cases e1
   ·rw[mK]at hc
    rw[if_neg (by rintro(h|h);exact h hc.1;exact hc.2 h)]at da
    exact dH.intro rfl ⟨all,cV,τb,da,hI.cb,rfl,rfl⟩
  ·rintro _ _ ⟨ft,iB,dF,mw,sQ,rfl,rfl⟩
   repeat'((fail_if_success (show WK _ _ _ _ (.goto _) _ _ _));(first|exact .nil|refine .k0 ?_|refine .k1 ?_|refine .k2 ?_|refine .r1 ?_ ?_|fail))
   rw[jf]
   refine qj ?_
   exact⟨_,rfl,2 * (src.length-(at_+1))+1,fun m h=>by have:=fA m h;omega,_,_,Zr,Zs,at_+1,k,(at_:Nat),toks,ft,_,_,_,_,⟨by omega,by omega,by omega,by omega,bQ,mw,.inr ⟨h0,b1,u1,c1,rfl,rfl⟩,sQ⟩,rfl,.inl ⟨rfl,rfl,rfl⟩⟩
theorem C7{P:Program}[Glob P]{N:Nat}{cfg:Nat→Nat}{Q Q':Exit→ae→Store→Prop}{a:AC}{rg:ae}{σ:Store}(h:WK P N cfg Q a [] rg σ)(hq:∀ e rg σ,Q e rg σ→Q' e rg σ):WK P N cfg Q' a [] rg σ:=⟨h.h.mono hq⟩
theorem Fu{src:List UInt8}{nn:Bool}{bb ba:Nat}{σ:Store}{F:PF}{no:Option Nat}{l:Nat}{rg:ae}{br:Store}(h:uy (JT src nn bb ba σ F) ksT no l rg br):uy (fun l n rg σ'=>∃ ba,JT src nn bb ba σ F l n rg σ') ksT no l rg br:=by
 obtain⟨cC,h1,n',h2,rg',σ',h3,h4,h5⟩:=h
 exact⟨cC,h1,n',h2,rg',σ',h3,h4,ba,h5⟩
theorem ayE{P:Program}[Glob P]{N:Nat}{cfg:Nat→Nat}{Q:Exit→ae→Store→Prop}{a:AC}{k:List Fr}{σ:Store}{xs:List AV}{i0 i1 i2 i3:Nat}{r0 r1 r2:AV}(h:xs=jU)(hW:WK P N cfg Q a k [(i0,r0),(i1,r1),(i2,r2),(i3,.pc jU)] σ):WK P N cfg Q a k [(i0,r0),(i1,r1),(i2,r2),(i3,.pc xs)] σ:=by
 subst h;exact hW
theorem GK(hG:ux)(hA:ur)(src:List UInt8)(hl:src.length≤16384)(nn:Bool)(σ:Store):
  Sx.Spec Tryz.prog 15 [.sl nn 1 (src.map bn)] σ fun x σ'=>∃ (cV:AV) (τb:Store),nk 2 12 ((dh src).2.map dw.cells) cV τb∧x= .ret (.aI [.sl false 3 ((dh src).1.map Tok.cells),cV,iv 0])∧σ'=τb++σ:=by
 have hF:(dh src).2=(cA src.length 0 (-1) src).2.take 32:=rfl
 have oZ:(dh src).1=(cA src.length 0 (-1) src).1:=rfl
 suffices h:Sx.Spec Tryz.prog 15 [.sl nn 1 (src.map bn)] σ (RT σ (cA src.length 0 (-1) src)) by
  refine Spec.weak h fun x σ' ⟨lA,cV,τb,h1,h2,h3,h4⟩=>⟨.ret (.aI [.sl false 3 ((dh src).1.map Tok.cells),cV,iv 0]),τb++σ,⟨cV,τb,by rw[hF];exact h1,rfl,rfl⟩,h4,?_⟩
  subst h2
  exact .aI (.cons (by rw[oZ];exact h3) (.cons (.refl _) (.cons (.refl _) .nil)))
 refine Spec.cY (fun _=>0) Tryz.func15 Jq JU (Z8 rfl) ?_
 first|refine .k1 ?_|fail
 first|refine .k2 ?_|fail
 repeat'((fail_if_success (show WK _ _ _ _ _ _ _ _));(first|exact .nil|refine .k0 ?_|refine .k1 ?_|refine .r1 ?_ ?_|(refine .l1 ?_;intro b)|fail))
 rename Nat=>bb
 refine jQ rfl ?_
 generalize KO:cA src.length 0 (-1) src=F
 refine C8 (fun l n rg σ'=>∃ ba,JT src nn bb ba σ F l n rg σ') ksT ?_ ?_
 ·repeat'((fail_if_success (show VX _ _ (⟨_,.alloc _ (.agg _),_⟩::_) _ _ _ _));(first|exact .nil|refine .k0 ?_|refine .k1 ?_|refine .k2 ?_|refine .k7 ?_|refine .k9 ?_|(refine .cd ?_ ?_<;>(intro hc;skip))|refine .r1 ?_ ?_|(refine .m2 ?_ ?_;intro hlen)|refine .an rfl (by intro bx;exact Jn) ?_ ?_|fail))
  all_goals(try simp only[BL]at *)
  ·exact absurd hc (by omega)
  ·refine xh (cs:=nc) rfl (fun b5=> ?_)
   repeat'((fail_if_success (show WK _ _ _ _ _ _ _ _));(first|exact .nil|refine .k0 ?_|refine .k1 ?_|refine .r1 ?_ ?_|fail))
   repeat'((fail_if_success (show WK _ _ _ _ (.keep _ _) _ _ _));(fail))
   refine jQ rfl ?_
   refine C6 5 b5 .here (.same (.same (.same (.p0 .nil)))) ?_
   refine ayE (by kernel_rfl) ?_
   clear hc
   repeat'((fail_if_success (show WK _ _ _ _ (.seq (.label _) _) _ _ _));(first|exact .nil|refine .k0 ?_|refine .k1 ?_|refine .k2 ?_|refine .r1 ?_ ?_|(refine .l1 ?_;intro b)|fail))
   rename Nat=>ba
   refine uF (Ib (wX ?_))
   have hle:src.length≤16384:=hl
   refine C7 (MK hG hA src hl nn bb ba σ F none 0 src.length (-1) [] [] fE fE [] [] ⟨ZK _,Nat.sub_le _ _,ZI _,by decide,KO.symm ▸ rfl,KO.symm ▸ rfl,.inl ⟨rfl,rfl,rfl⟩,.inl ⟨rfl,rfl,rfl⟩⟩ (fun m h=>nomatch h)) fun e rg σ' h=> ?_
   cases e<;>first|exact h|exact Fu h
 ·rintro l n _ _ ⟨ba,at_,k,de,toks,all,lV,cV,jN,τb,hI,rfl,⟨rfl,rfl,rfl⟩|⟨rfl,gJ,rfl,hp,rfl⟩⟩
  ·refine⟨_,rfl,?_⟩
   refine C7 (uF (C9 (wX (MK hG hA src hl nn bb ba σ F (some _) at_ k de toks all lV cV jN τb hI fun m h=>(Zf h).symm)))) fun e rg σ' h=> ?_
   cases e<;>first|exact h|exact Fu h
  ·refine⟨_,rfl,?_⟩
   refine C7 (uF (C9 (wX (acr src hl nn bb ba σ F (some _) at_ k de toks all lV cV jN τb hI gJ hp fun m h=>(Zf h).symm)))) fun e rg σ' h=> ?_
   cases e<;>first|exact h|exact Fu h
theorem ayI(src:List UInt8)(hl:16384<src.length)(nn:Bool)(σ:Store):
  Sx.Spec Tryz.prog 15 [.sl nn 1 (src.map bn)] σ fun x σ'=>x= .ret (.aI [fE,fE,iv 2])∧σ'=σ:=by
 suffices h:Sx.Spec Tryz.prog 15 [.sl nn 1 (src.map bn)] σ (fun x σ'=>x= .ret (.aI [fE,fE,iv 2])∧Sub σ σ') by
  refine Spec.weak h fun x σ' ⟨h2,h4⟩=>⟨.ret (.aI [fE,fE,iv 2]),σ,⟨rfl,rfl⟩,h4,?_⟩
  subst h2
  exact .refl _
 refine Spec.cY (fun _=>0) Tryz.func15 Jq JU (Z8 rfl) ?_
 first|refine .k1 ?_|fail
 first|refine .k2 ?_|fail
 repeat'((fail_if_success (show WK _ _ _ _ _ _ _ _));(first|exact .nil|refine .k0 ?_|refine .k1 ?_|refine .r1 ?_ ?_|(refine .l1 ?_;intro b)|fail))
 rename Nat=>bb
 refine jQ rfl ?_
 refine C8 (fun l n rg σ'=>False) ksT ?_ (fun _ _ _ _ h=>h.elim)
 ·repeat'((fail_if_success (show VX _ _ (⟨_,.alloc _ (.agg _),_⟩::_) _ _ _ _));(first|exact .nil|refine .k0 ?_|refine .k1 ?_|refine .k2 ?_|refine .k7 ?_|refine .k9 ?_|(refine .cd ?_ ?_<;>(intro hc;skip))|refine .r1 ?_ ?_|(refine .m2 ?_ ?_;intro hlen)|refine .an rfl (by intro bx;exact Jn) ?_ ?_|fail))
  all_goals(try simp only[BL]at *)
  ·refine tn ?_
   repeat'(first|exact .nil|refine .k0 ?_|refine .r1 ?_ ?_|fail)
   exact⟨rfl,Zs⟩
  ·exact absurd hl (by omega)
end Go.Proofs.YtbihckigennlhaaGreatDoor
namespace Go.Proofs.YtbihckigennlhaaGreatDoor
open Go.Sx Go.Proofs
def aCf(b:Nat)(cK:Store)(m:oK)(x1 x2:AV)(ke lh:Store)(r:PR rX)(x:dj)(σ':Store):Prop:=match r with
 | .ok a L'=>∃ y1 y2 um uo,HK (IE m a) y1 y2 um uo∧Gd L'∧x= .ret (.agg [iv 0,iv 0])∧σ'=(1000,b,.cells (bh L' false++[y1,y2]))::(um++uo++cK)
 | .err p c=>x= .ret (.agg [iv p,iv c])∧∃ L' i',σ'=(1000,b,.cells (bh L' i'++[x1,x2]))::(ke++lh++cK)
theorem Ag{P:Program}[Glob P]{N i:Nat}{v:Value}{Q:Exit→ae→Store→Prop}{rg rg':ae}{σ:Store}{s:SC}{ks:List Nat}(hk:eY ks rg=rg')(h:ej P N i v s Q rg' σ):ej P N i v s Q rg σ:=by
 intro c hc hf M w0 a w hI hR hN hD hv
 refine h c hc hf M w0 a w hI ?_ hN hD hv
 rw[← hk]
 exact hR.eY _
theorem QI{P:Program}[Glob P]{N i:Nat}{v:Value}{Q:Exit→ae→Store→Prop}{rg:ae}{σ σ':Store}{s:SC}(hp:σ.Perm σ')(h:ej P N i v s Q rg σ'):ej P N i v s Q rg σ:=
 fun c hc hf M w0 a w hI hR hN hD hv=>h c hc hf M w0 a w (hI.perm hp) hR hN hD hv
theorem aCz{α:Type}(a c d:α)(s t:List α):(a::c::d::(s++t)).Perm (d::(s++a::c::t)):=
 ((List.Perm.cons _ (List.Perm.swap _ _ _)).trans (List.Perm.swap _ _ _)).trans (List.Perm.cons _ (List.perm_append_comm_assoc [a,c] s t))
def fnP(f b:Nat):Value:= .func (.func f) #[.pointer (some ⟨b,0,none⟩)] #[]
theorem aIS(a b:ByteArray):(a == b)=decide (a=b):=by
 obtain⟨a⟩:=a
 obtain⟨b⟩:=b
 rw[YD]
 show(a == b)=true↔_
 simp
theorem aCq(s a b:af)(i j:Nat)(x y:AV):mr .string (.string s) [(.string a,i,x),(.string b,j,y)]=some (if s=a then some x else if s=b then some y else none):=by
 have h:∀ a:af,Instr.sameNow .string (.string s) (.string a)=some (decide (s=a)):=fun a=>by
  show some (s == a)=_
  rw[aIS]
 simp only[mr,h]
 by_cases h1:s=a
 ·simp[h1]
 ·by_cases h2:s=b
  ·subst h2;simp[h1]
  ·simp[h1,h2]
theorem aFd[g2:Glob Tryz.prog](b0 bb:Nat)(L:List Tok)(hL:Gd L)(x1 x2:AV)(u:Value)(σ:Store)(ok:Bool)(bm:Nat)(B:bN)(τ:Store)(Q:Exit→ae→Store→Prop)
  (hσ:σ=(7,bm,B)::(2,bb,.cells [iv 0,iv 0])::(1000,b0,.cells (bh L false++[x1,x2]))::τ)
  (h:∀ rg,eY [0,2,4,38] rg=[(0,.lp 1000 b0 0),(2,.lp 2 bb 0),(4,.v u),(38,.v (.bool (!ok || !decide ((hd L).kind=1))))]→Q .normal rg σ):
  WK Tryz.prog 56 (fun _=>0) Q (.cj aCC) [] [(0,.lp 1000 b0 0),(2,.lp 2 bb 0),(4,.v u),(5,.v (.bool ok))] σ:=by
 have hp:=hL.pos
 subst hσ
 rw[← lF]at h
 unfold bh at h ⊢
 cases ok
 ·repeat'(first|exact .nil|refine .k1 ?_|refine .k2 ?_|refine .k3 ?_|refine .k4 ?_|refine .r1 ?_ ?_|refine .t1 ?_ ?_ ?_|fail)
  any_goals(first|exact fun _=>⟨Yu _,hp⟩|skip)
  exact h _ rfl
 ·repeat'(first|exact .nil|refine .k1 ?_|refine .k2 ?_|refine .k3 ?_|refine .r1 ?_ ?_|refine .t1 ?_ ?_ ?_|fail)
  any_goals(first|exact fun _=>⟨Yu _,hp⟩|skip)
  exact h _ rfl
theorem aCx[g2:Glob Tryz.prog](b0 bb bm:Nat)(B:bN)(L:List Tok)(hL:Gd L)(m:oK)(x1 x2:AV)(u:Value)(cK ke lh:Store)(f:Nat)(ok:Bool)(r:PR rX)
  (hW:∀ τ,Sx.Spec Tryz.prog 76 [.lp 1000 b0 0] ((1000,b0,.cells (bh L false++[x1,x2]))::τ) fun x σ'=>∃ cs',uC false [x1,x2] (eS L:PR Unit) (fun _=> .any) x cs'∧σ'=(1000,b0,.cells cs')::τ)
  (h0:ok=true→(hd L).kind=1→u=fnP f b0∧aJe L=r∧gV Tryz.prog f=true∧∀ τ,Sx.Spec Tryz.prog f [.v (.pointer (some ⟨b0,0,none⟩))] ((1000,b0,.cells (bh L.tail false++[x1,x2]))::(ke++lh++τ)) (Qn b0 τ m x1 x2 ke lh r))
  (h1:¬(ok=true∧(hd L).kind=1)→aJe L=eS L):
  ej Tryz.prog 56 2 (.pointer (some ⟨bb,0,none⟩)) (.seq (.seq (.cj aCC) (.cond (.tmp 38) (.cj aDP) .skip)) (.seq (.cj aDQ) (.seq (.cj aDR) (.seq (.cj aDS) .ret)))) (AG bb (aCf b0 cK m x1 x2 ke lh (aJe L))) [(0,.lp 1000 b0 0),(2,.lp 2 bb 0),(4,.v u),(5,.v (.bool ok))]
   ((7,bm,B)::(2,bb,.cells [iv 0,iv 0])::(1000,b0,.cells (bh L false++[x1,x2]))::(ke++lh++cK)):=by
 have hp:=hL.pos
 refine xf (xf (xe (aFd b0 bb L hL x1 x2 u _ ok _ _ _ _ rfl fun rg yk=>Ag yk ?_)))
 refine QH rfl (fun hc=> ?_) (fun hc=> ?_)
 ·have hw:aJe L=eS L:=h1 (fun h=>by rw[h.1,Zi h.2]at hc;cases hc)
  rw[hw]
  refine xe (cfg:=fun _=>0) ?_
  repeat'(first|exact .nil|refine .k2 ?_|refine .r1 ?_ ?_|fail)
  refine se rfl ((hW ((7,bm,B)::(2,bb,.cells [iv 0,iv 0])::(ke++lh++cK))).permA ?_) .nil (fun x σ' hR=> ?_) (fun ch σ' hR=> ?_)
  ·exact(List.Perm.cons _ (List.Perm.swap _ _ _)).trans (List.Perm.swap _ _ _)
  ·obtain⟨_,⟨e,_⟩,_⟩:=hR;cases e
  ·obtain⟨cs',⟨e,L',i',rfl⟩,rfl⟩:=hR
   cases e
   refine aR ?_
   show AG _ _ (.panic _) [] _
   refine⟨(hd L).at_,90,2,0,0,(1000,b0,.cells (bh L' i'++[x1,x2]))::(ke++lh++cK),(7,bm,B)::(2,bb,.cells [iv 0,iv 0])::(1000,b0,.cells (bh L' i'++[x1,x2]))::(ke++lh++cK),rfl,(List.Perm.swap _ _ _).trans (List.Perm.cons _ (List.Perm.swap _ _ _)),Sub.cons (.refl _),?_⟩
   exact⟨rfl,L',i',rfl⟩
 ·have hk:ok=true∧(hd L).kind=1:=by
   cases ok
   ·cases hc
   ·exact⟨rfl,by simpa using hc⟩
  obtain⟨rfl,hi,bJ,hC⟩:=h0 hk.1 hk.2
  rw[hi]
  refine QL ?_
  show ej _ _ _ _ _ _ _ _
  refine aCJ (ks:=[0,2,4]) (rg':=[(0,.lp 1000 b0 0),(2,.lp 2 bb 0),(4,.v (fnP f b0))]) rfl ?_
  refine xf (xe (cfg:=fun _=>0) ?_)
  repeat'(first|exact .nil|refine .k0 ?_|refine .k2 ?_|refine .r1 ?_ ?_|refine .t3 ?_ ?_ ?_|refine .r8 ?_ ?_|fail)
  any_goals(first|exact fun _=>⟨by decide,by omega⟩|skip)
  refine nA (cs':=[.sl false 3 ((L.drop 1).map Tok.cells),.v (.bool false)]++[x1,x2]) rfl rfl rfl rfl rfl ⟨rfl,by simp⟩ .nil ?_
  repeat'(first|refine .k1 ?_|refine .k3 ?_|fail)
  rw[XY]
  show ej _ _ _ _ _ _ _ _
  refine Ag (ks:=[2,4]) (rg':=[(2,.lp 2 bb 0),(4,.v (fnP f b0))]) rfl ?_
  refine xf (xe (cfg:=fun _=>0) ?_)
  repeat'(first|exact .nil|refine .k2 ?_|refine .r1 ?_ ?_|fail)
  refine iP rfl rfl bJ ((hC ((7,bm,B)::(2,bb,.cells [iv 0,iv 0])::cK)).permA (aCz _ _ _ _ _)) .nil (fun x σ' hR=> ?_) (fun ch σ' hR=> ?_)
  ·cases r with
   |err p c=>obtain⟨e,_⟩:=hR;cases e
   |ok a L'=>
    obtain⟨y1,y2,um,uo,g1,g2,e,rfl⟩:=hR
    cases e
    repeat'(first|refine .k1 ?_|refine .k3 ?_|fail)
    show ej _ _ _ _ _ _ _ _
    refine Ag (ks:=[2]) (rg':=[(2,.lp 2 bb 0)]) rfl ?_
    refine QI (aCz _ _ _ _ _).symm ?_
    refine xf (xe (cfg:=fun _=>0) ?_)
    repeat'(first|exact .nil|refine .k0 ?_|refine .k1 ?_|refine .k2 ?_|refine .k3 ?_|refine .r1 ?_ ?_|fail)
    show ej _ _ _ _ _ _ _ _
    refine QK ?_
    exact⟨2,0,0,(1000,b0,.cells (bh L' false++[y1,y2]))::(um++uo++cK),_,.refl _,Sub.cons (.refl _),y1,y2,um,uo,g1,g2,rfl,rfl⟩
  ·cases r with
   |ok a L'=>obtain⟨_,_,_,_,_,_,e,_⟩:=hR;cases e
   |err p c=>
    obtain⟨e,L',i',rfl⟩:=hR
    cases e
    refine aR ?_
    show AG _ _ (.panic _) [] _
    refine⟨p,c,2,0,0,(1000,b0,.cells (bh L' i'++[x1,x2]))::(ke++lh++cK),_,rfl,(aCz _ _ _ _ _).symm,Sub.cons (.refl _),?_⟩
    exact⟨rfl,L',i',rfl⟩
theorem aFe[g2:Glob Tryz.prog](b0 bb:Nat)(L:List Tok)(hL:Gd L)(m:oK)(x1 x2:AV)(cK ke lh:Store)
  (hW:∀ τ,Sx.Spec Tryz.prog 76 [.lp 1000 b0 0] ((1000,b0,.cells (bh L false++[x1,x2]))::τ) fun x σ'=>∃ cs',uC false [x1,x2] (eS L:PR Unit) (fun _=> .any) x cs'∧σ'=(1000,b0,.cells cs')::τ)
  (hT:Gd L.tail→∀ τ,Sx.Spec Tryz.prog 114 [.lp 1000 b0 0] ((1000,b0,.cells (bh L.tail false++[x1,x2]))::(ke++lh++τ)) (Qn b0 τ m x1 x2 ke lh ((O8 L.tail).map .O6)))
  (hF:Gd L.tail→∀ τ,Sx.Spec Tryz.prog 115 [.lp 1000 b0 0] ((1000,b0,.cells (bh L.tail false++[x1,x2]))::(ke++lh++τ)) (Qn b0 τ m x1 x2 ke lh ((Kh L.tail).map .Kg))):
  ej Tryz.prog 56 2 (.pointer (some ⟨bb,0,none⟩)) aCm.code (AG bb (aCf b0 cK m x1 x2 ke lh (aJe L))) [(0,.lp 1000 b0 0),(2,.lp 2 bb 0)] ((2,bb,.cells [iv 0,iv 0])::(1000,b0,.cells (bh L false++[x1,x2]))::(ke++lh++cK)):=by
 have hp:=hL.pos
 show ej _ _ _ _ (.seq (.cj aDN) _) _ _ _
 refine xf (xe (cfg:=fun _=>0) ?_)
 first|refine .k2 ?_|fail
 refine Rk fun bm=> ?_
 repeat'(first|exact .nil|refine .k1 ?_|refine .k3 ?_|refine .r1 ?_ ?_|refine .r6 ?_ ?_|fail)
 refine aCJ (ks:=[0,2,3]) (rg':=[(0,.lp 1000 b0 0),(2,.lp 2 bb 0),(3,.eA 7 bm)]) rfl ?_
 show ej _ _ _ _ (.seq (.cj aDO) _) _ _ _
 refine xf (xe (cfg:=fun _=>0) ?_)
 unfold bh
 repeat'(first|exact .nil|refine .k0 ?_|refine .k1 ?_|refine .k2 ?_|refine .r1 ?_ ?_|refine .t1 ?_ ?_ ?_|fail)
 any_goals(first|exact fun _=>⟨Yu _,hp⟩|skip)
 by_cases h1:(hd L).text=azj
 ·refine aCh aCI rfl rfl rfl rfl (o:=some (.v (fnP 114 b0))) ((aCq (L.getD 0 default).text azj azf 0 1 (.v (fnP 114 b0)) (.v (fnP 115 b0))).trans (by rw[lF,if_pos h1])) .nil ?_
  repeat'(first|exact .nil|refine .k1 ?_|refine .k3 ?_|refine .r1 ?_ ?_|fail)
  show ej _ _ _ _ _ _ _ _
  refine Ag (ks:=[0,2,4,5]) (rg':=[(0,.lp 1000 b0 0),(2,.lp 2 bb 0),(4,.v (fnP 114 b0)),(5,.v (.bool true))]) rfl ?_
  exact aCx b0 bb bm _ L hL m x1 x2 _ cK ke lh 114 true ((O8 L.tail).map .O6) hW
   (fun _ hk=>⟨rfl,by simp[aJe,au,hk,h1],rfl,fun τ=>(hT (hL.tail (by rw[hk];decide)).1 τ).wk (.cons .raw .nil)⟩)
   (fun hn=>by simp[aJe,au,show(hd L).kind≠1 from fun e=>hn ⟨rfl,e⟩])
 ·by_cases h2:(hd L).text=azf
  ·refine aCh aCI rfl rfl rfl rfl (o:=some (.v (fnP 115 b0))) ((aCq (L.getD 0 default).text azj azf 0 1 (.v (fnP 114 b0)) (.v (fnP 115 b0))).trans (by rw[lF,if_neg h1,if_pos h2])) .nil ?_
   repeat'(first|exact .nil|refine .k1 ?_|refine .k3 ?_|refine .r1 ?_ ?_|fail)
   show ej _ _ _ _ _ _ _ _
   refine Ag (ks:=[0,2,4,5]) (rg':=[(0,.lp 1000 b0 0),(2,.lp 2 bb 0),(4,.v (fnP 115 b0)),(5,.v (.bool true))]) rfl ?_
   exact aCx b0 bb bm _ L hL m x1 x2 _ cK ke lh 115 true ((Kh L.tail).map .Kg) hW
    (fun _ hk=>⟨rfl,by simp[aJe,au,hk,h1,h2],rfl,fun τ=>(hF (hL.tail (by rw[hk];decide)).1 τ).wk (.cons .raw .nil)⟩)
    (fun hn=>by simp[aJe,au,show(hd L).kind≠1 from fun e=>hn ⟨rfl,e⟩])
  ·refine aCh aCI rfl rfl rfl rfl (o:=none) ((aCq (L.getD 0 default).text azj azf 0 1 (.v (fnP 114 b0)) (.v (fnP 115 b0))).trans (by rw[lF,if_neg h1,if_neg h2])) .nil ?_
   repeat'(first|exact .nil|refine .k1 ?_|refine .k3 ?_|refine .r1 ?_ ?_|fail)
   show ej _ _ _ _ _ _ _ _
   refine Ag (ks:=[0,2,4,5]) (rg':=[(0,.lp 1000 b0 0),(2,.lp 2 bb 0),(4,.v .nilFunc),(5,.v (.bool false))]) rfl ?_
   exact aCx b0 bb bm _ L hL m x1 x2 _ cK ke lh 0 false (eS L) hW (fun h=>nomatch h) (fun hn=>by simp[aJe,au,h1,h2])
theorem aFb(hN:rZ)(hD:uw)(b0:Nat)(m:oK)(hm:m.tables.length≤100000∧m.AK.length≤100000)(x1 x2:AV)(cK ke lh:Store)(hS:HK m x1 x2 ke lh)(L:List Tok)(hL:Gd L):
  Sx.Spec Tryz.prog 65 [.lp 1000 b0 0] ((1000,b0,.cells (bh L false++[x1,x2]))::(ke++lh++cK)) (aCf b0 cK m x1 x2 ke lh (aJe L)):=
 aE9 b0 _ _ fun bb=> @aFe (qz Tryz.prog [sr 113 bb]) b0 bb L hL m x1 x2 cK ke lh (fun τ=>Spec.toD (wO L hL false b0 [x1,x2] τ))
  (fun dq τ=>Spec.toD (aI1 wO hN b0 m hm.1 x1 x2 τ ke lh hS L.tail dq)) (fun dq τ=>Spec.toD (aEN wO hN hD b0 m hm.2 x1 x2 τ ke lh hS L.tail dq))
end Go.Proofs.YtbihckigennlhaaGreatDoor
