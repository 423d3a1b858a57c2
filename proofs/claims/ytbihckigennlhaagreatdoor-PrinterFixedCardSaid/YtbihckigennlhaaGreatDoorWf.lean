/- v, ok := m[k]. -/
import Derived.Test.YtbihckigennlhaaGreatDoorWe
import Derived.Test.YtbihckigennlhaaGreatDoorVc
import Derived.Test.YtbihckigennlhaaGreatDoorUe
import Derived.Test.YtbihckigennlhaaGreatDoorTj
set_option linter.unusedSimpArgs false
set_option linter.unusedVariables false
set_option linter.unusedSectionVars false
set_option maxRecDepth 100000
namespace Go.Sx
open Go.RowKit Go.Proofs
section
variable {P:Program}[Glob P]{σ:Store}
end
theorem vJ{P:Program}[Glob P]{N i:Nat}{v:Value}{cfg:Nat→Nat}{Q:Exit→ae→Store→Prop}{rg:ae}{σ:Store}{l:List CI}(h:WK P N cfg Q (.bX l) [] rg σ):dT P N i v (.bX l) Q rg σ:=Ou h.h.h
end Go.Sx
namespace Go.Proofs.YtbihckigennlhaaGreatDoor
open Go.Sx Go.Proofs
end Go.Proofs.YtbihckigennlhaaGreatDoor
set_option maxHeartbeats 4000000
namespace Go.Proofs.YtbihckigennlhaaGreatDoor
open Go.Sx Go.Proofs Go.RowKit
def vQ(bad:List dn)(p:dn):List dn:=if bad.length<32 then bad++[p]else bad
theorem yz(all:List dn)(p:dn):vQ (all.take 32) p=(all++[p]).take 32:=by
 unfold vQ
 rw[ZW]
 by_cases h:all.length<32
 ·rw[if_pos (by omega),ZD (by omega),ZD (by simp;omega)]
 ·rw[if_neg (by omega),Y1 (by omega)]
def mq(e tg:Nat)(rows:List (List AV))(x:AV)(τ:Store):Prop:=(rows=[]∧x=fJ∧τ=[])∨(rows≠[]∧∃ bb u c,x= .own e tg bb u c rows∧τ=[(tg,bb,.tail u c)]∧u=rows.length * e)
theorem Aq(cd:Int)(at_:Int)(bad:List dn)(atJ:bad.length≤32)(bb ba:Nat)(x:AV)(cG cB:Store)(hS:mq 2 12 (bad.map dn.cells) x cG):
  Sx.Spec Tryz.prog 48 [iv cd,.lp 3 bb 0,.lp 6 ba 0] ((6,ba,.cells [iv at_])::(3,bb,.cells [x])::(cG++cB))
   fun r σ'=>∃ x' dv,mq 2 12 ((vQ bad ⟨at_,cd⟩).map dn.cells) x' dv∧r= .ret (.aL [])∧σ'=(6,ba,.cells [iv at_])::(3,bb,.cells [x'])::(dv++cB):=by
 suffices h:Sx.Spec Tryz.prog 48 [iv cd,.lp 3 bb 0,.lp 6 ba 0] ((6,ba,.cells [iv at_])::(3,bb,.cells [x])::(cG++cB))
   fun r σ'=>∃ x' dv aw,mq 2 12 ((vQ bad ⟨at_,cd⟩).map dn.cells) x' dv∧r= .ret (.aL [])∧σ'.Perm aw∧aw=(6,ba,.cells [iv at_])::(3,bb,.cells [x'])::(dv++cB) by
  exact Spec.abl h fun r σ' ⟨x',dv,aw,h1,h2,h3,h4⟩=>⟨aw,h3,x',dv,h1,h2,h4⟩
 unfold vQ
 rcases hS with⟨h0,rfl,rfl⟩|⟨h0,b1,u1,c1,rfl,rfl,zQ⟩
 ·have T8:bad=[]:=YV.1 h0
  subst T8
  refine Spec.cN (fun _=>0) Tryz.func48 Hy H7 (Z9 rfl) ?_
  repeat'((fail_if_success (show VX _ _ (⟨_,.append _ _ _ _ _ _,_⟩::_) _ _ _ _));(first|exact .nil|refine .k0 ?_|refine .k1 ?_|refine .k2 ?_|refine .k3 ?_|refine .k9 ?_|(refine .cd ?_ ?_<;>(intro hc;skip))|refine .r1 ?_ ?_|refine .r2 ?_ ?_|refine .r8 ?_ ?_|fail))
  all_goals try refine OG rfl rfl ?_ ?_ ?_ (fun b u c hu=> ?_)
  repeat'(first|exact .nil|refine .k0 ?_|refine .k1 ?_|refine .k3 ?_|refine .r1 ?_ ?_|refine .r2 ?_ ?_|fail)
  try any_goals(exact Zo)
  all_goals(try simp only[BL]at *)
  ·exact Z9 rfl
  ·exact Z9 rfl
  ·exact⟨.own 2 12 b u c [[iv at_,iv cd]],[(12,b,.tail u c)],_,.inr ⟨by simp,b,u,c,by simp[dn.cells],rfl,by rw[hu];rfl⟩,trivial,(Yq (l₁:=[_,_])).symm,rfl⟩
  ·exact absurd (show((0:Nat):Int)<32 by decide) hc
 ·refine Spec.cN (fun _=>0) Tryz.func48 Hy H7 (Z9 rfl) ?_
  repeat'((fail_if_success (show VX _ _ (⟨_,.append _ _ _ _ _ _,_⟩::_) _ _ _ _));(first|exact .nil|refine .k0 ?_|refine .k1 ?_|refine .k2 ?_|refine .k3 ?_|refine .k9 ?_|(refine .cd ?_ ?_<;>(intro hc;skip))|refine .r1 ?_ ?_|(refine .m2 ?_ ?_;intro hlen)|refine .r2 ?_ ?_|fail))
  all_goals try refine OI rfl rfl rfl ?_ ?_ ?_ (fun b u c hu=> ?_)
  repeat'(first|exact .nil|refine .k0 ?_|refine .k1 ?_|refine .k3 ?_|refine .r1 ?_ ?_|refine .r2 ?_ ?_|(show List.all _ _=true;rfl)|fail)
  all_goals(try simp only[BL]at *)
  ·exact Z9 rfl
  ·show(_+1) * 16≤_;rw[Z5];omega
  ·rw[if_pos (by omega)]
   exact⟨.own 2 12 b u c (bad.map dn.cells++[[iv at_,iv cd]]),[(12,b,.tail u c)],_,.inr ⟨by simp,b,u,c,by simp[dn.cells],rfl,by rw[hu zQ];simp⟩,trivial,.refl _,rfl⟩
  ·rw[if_neg (by omega)]
   exact⟨_,_,_,.inr ⟨h0,b1,u1,c1,rfl,rfl,zQ⟩,trivial,.refl _,rfl⟩
def Rf:AC:=match BJ with
 | .seq _ (.keep _ (.scope b))=>b
 |a=>a
def LV(l:Nat):AC:=match nr Rf l with
 |some (.seq _ b)=>b
 |_=> .skip
def uD(l:Nat):List Nat:=bif Nat.beq l 0 then[0,2,3,5,6,7,8]else[0,2,3,5,6,7,8,11]
def qM(bb ba:Nat):AV:= .v (.func (.func 48) #[] #[.pointer (some ⟨bb,0,none⟩),.pointer (some ⟨ba,0,none⟩)])
abbrev PF:=List Tok×List dn
structure vD(src:List UInt8)(F:PF)(at_ k:Nat)(cR:Int)(toks:List Tok)(all:List dn)(lV cW:AV)(jg cG:Store):Prop where
 le:at_≤src.length
 fu:src.length-at_≤k
 tl:toks.length≤at_
 st: -1≤cR∧cR≤16384
 f1:F.1=toks++(cJ k at_ cR (src.drop at_)).1
 f2:F.2=all++(cJ k at_ cR (src.drop at_)).2
 cl:qz 3 58 (toks.map Tok.cells) lV jg
 cb:mq 2 12 ((all.take 32).map dn.cells) cW cG
def x3(bb ba:Nat)(σ:Store)(at_:Nat)(cW:AV)(jg cG:Store):Store:=(6,ba,.cells [iv (at_:Nat)])::(3,bb,.cells [cW])::(jg++(cG++σ))
def u5(src:List UInt8)(nn:Bool)(bb ba:Nat)(lV:AV)(cR:Int)(more:ae):ae:=[(0,.sl nn 1 (src.map bA)),(2,lV),(3,.lp 3 bb 0),(5,.pc jm),(6,.lp 6 ba 0),(7,iv cR),(8,qM bb ba)]++more
def JT(src:List UInt8)(nn:Bool)(bb ba:Nat)(σ:Store)(F:PF)(l n:Nat)(rg:ae)(σ':Store):Prop:=
 ∃ (at_ k:Nat) (cR:Int) (toks:List Tok) (all:List dn) (lV cW:AV) (jg cG:Store),vD src F at_ k cR toks all lV cW jg cG∧σ'=x3 bb ba σ at_ cW jg cG∧
  ((l=0∧n=2 * (src.length-at_)+1∧rg=u5 src nn bb ba lV cR [])∨(l=1∧at_<src.length∧n=2 * (src.length-at_)∧(aJ (src.drop at_)).1= -1∧rg=u5 src nn bb ba lV cR [(11,iv (aJ (src.drop at_)).2.2)]))
def RT(σ:Store)(F:PF)(x:cU)(σ':Store):Prop:=∃ (lA cW:AV) (cG:Store),mq 2 12 ((F.2.take 32).map dn.cells) cW cG∧x= .ret (.aL [lA,cW,iv 0])∧Wk lA (.sl false 3 (F.1.map Tok.cells))∧Sub (cG++σ) σ'
theorem Al{α:Type}(e:α)(l1 l2:List α):([e]++(l1++l2)).Perm (l1++([e]++l2)):=by
 rw[List.singleton_append,List.singleton_append];exact List.perm_middle.symm
theorem Lw:∀ s:List UInt8,(aJ s).1=4→2≤(aJ s).2.1
 |[],h=>by cases h
 |c::r,h=>by
  by_cases h1:aB c=1
  ·rw[p_1 h1]at h;cases h
  by_cases h6:aB c=6
  ·rw[Ak h6]at h;cases h
  by_cases h2:aB c=2
  ·rw[Eb h2]at h;cases h
  by_cases h3:aB c=3
  ·rw[Ai h3]at h;split at h<;>cases h
  by_cases h5:aB c=5
  ·rw[Aj h5]at h ⊢;split at h
   ·rename_i h7;rw[if_pos h7];simp
   ·cases h
  by_cases h7:aB c=7∨aB c=8
  ·rw[qa h7]at h;repeat' split at h
   all_goals cases h
  ·rw[Ea ⟨h1,h6,h2,h3,h5,fun e=>h7 (.inl e),fun e=>h7 (.inr e)⟩]at h;cases h
theorem KD(hG:sX)(hA:sU)(src:List UInt8)(hl:src.length≤16384)(nn:Bool)(bb ba:Nat)(σ:Store)(F:PF)(no:Option Nat)(at_ k:Nat)(cR:Int)(toks:List Tok)(all:List dn)(lV cW:AV)(jg cG:Store)
  (hI:vD src F at_ k cR toks all lV cW jg cG) (eZ:∀ m,no=some m→m=2 * (src.length-at_)+1):
  WK Tryz.prog o8.N (fun _=>0) (pS (sY (JT src nn bb ba σ F) uD no) (fun e=>FK Tryz.prog o8.N (fun _=>0) (j0 o8.res (RT σ F)) e [])) (LV 0) [] (u5 src nn bb ba lV cR []) (x3 bb ba σ at_ cW jg cG):=by
 have hle:=hI.le
 have ue:=hI.fu
 have V8:=hI.tl
 unfold x3 u5 qM
 simp only[Zx]
 rcases hI.cl with⟨h0,rfl,rfl⟩|⟨h0,b1,u1,c1,rfl,rfl⟩
 ·show WK _ _ _ _ (.keep _ _) _ _ _
  repeat'((fail_if_success (show WK _ _ _ _ (.c8 _ _) _ _ _));(fail_if_success (show WK _ _ _ _ (.seq (.block _ _) _) _ _ _));(first|exact .nil|refine .k0 ?_|refine .k1 ?_|refine .k2 ?_|refine .k9 ?_|(refine .cd ?_ ?_<;>(intro hc;skip))|refine .r1 ?_ ?_|(refine .m2 ?_ ?_;intro hlen)|refine .an rfl (by intro aO;exact Lx hG hA src hl nn at_ (by(simp at hc;omega))) ?_ ?_|fail))
  try any_goals(exact YK _ _)
  all_goals(try simp only[BL]at *)
  ·have gm:at_=src.length:=by omega
   have hd:src.drop at_=[]:=Yi (by omega)
   have n0:F.1=toks++[⟨6,⟨#[]⟩,(at_:Nat)⟩]:=by rw[hI.f1,hd,lex_nil]
   have lB:F.2=all:=by rw[hI.f2,hd,lex_nil,Zx]
   rcases hI.cb with⟨g0,rfl,rfl⟩|⟨g0,b2,u2,c2,rfl,rfl,Wd⟩
   all_goals
    repeat'(first|exact .nil|refine .k0 ?_|refine .k1 ?_|refine .k3 ?_|refine .k7 ?_|refine .r1 ?_ ?_|refine .u1 ?_ ?_ ?_ (fun b u c=> ?_)|fail)
    try any_goals(exact YK _ _)
    ·exact Z9 rfl
    ·exact Z9 rfl
    refine rT ?_
    repeat'(first|exact .nil|refine .k0 ?_|refine .r1 ?_ ?_|fail)
    refine⟨_,_,_,by rw[lB];exact hI.cb,rfl,?_,Zs⟩
    exact(by rw[n0,YV.1 h0];exact .own false)
  ·have gm:at_<src.length:=by omega
   have al:src.drop at_≠[]:=fun h=>by have:=congrArg List.length h;rw[Zq]at this;simp at this;omega
   obtain⟨k,rfl⟩:∃ k',k=k'+1:=⟨k-1,by omega⟩
   have hL:=pU k at_ cR al
   have pI:=Eg al
   have iz:=Lw (src.drop at_)
   rw[Zq]at pI
   have bQ:=hI.f1
   have cO:=hI.f2
   rw[hL]at bQ cO
   have iq:∀ n:Nat,(src.drop at_).drop n=src.drop (at_+n):=fun n=>YP
   simp only[iq]at bQ cO
   have wH:∀ n:Nat,((at_:Int)+(n:Nat))=((at_+n:Nat):Int):=fun n=>by omega
   simp only[wH]at bQ cO
   obtain⟨p,hp⟩:∃ p,aJ (src.drop at_)=p:=⟨_,rfl⟩
   simp only[hp]at pI bQ cO iz ⊢
   refine kb (fun rg σ'=>∃ (toks':List Tok) (eU:List dn) (rU gR:AV) (sP dv:Store),(F.1=toks'++(cJ k (at_+p.2.1:Nat) cR (src.drop (at_+p.2.1))).1∧F.2=eU++(cJ k (at_+p.2.1:Nat) cR (src.drop (at_+p.2.1))).2)∧toks'.length≤at_+1∧
    qz 3 58 (toks'.map Tok.cells) rU sP∧mq 2 12 ((eU.take 32).map dn.cells) gR dv∧σ'=(6,ba,.cells [iv (at_:Nat)])::(3,bb,.cells [gR])::(sP++(dv++σ))∧
    rg=[(0,.sl nn 1 (src.map bA)),(2,rU),(3,.lp 3 bb 0),(5,.pc jm),(6,.lp 6 ba 0),(7,iv cR),(8,qM bb ba),(10,iv (at_+p.2.1:Nat))]) ?_ ?_
   ·have iC:IntKind.i64.wrap ((at_:Int)+1)=((at_+1:Nat):Int):=by rw[bw (by omega)];rfl
    have rO:IntKind.i64.wrap (((at_+p.2.1:Nat):Int)-1)=((at_+p.2.1-1:Nat):Int):=by rw[bw (by omega)];omega
    repeat'((fail_if_success (show WK _ _ _ _ (.goto _) _ _ _));(first|exact .nil|refine .k0 ?_|refine .k1 ?_|refine .k2 ?_|refine .k4 ?_|refine .k6 ?_|refine .k9 ?_|(refine .cd ?_ ?_<;>(intro hc;skip))|refine .r1 ?_ ?_|refine .r8 ?_ ?_|fail))
    try any_goals(exact YK _ _)
    all_goals(try simp only[BL]at *)
    ·refine o6 ?_
     exact⟨_,rfl,2 * (src.length-at_),fun m h=>by have:=eZ m h;omega,_,_,Zr,Zs,at_,k+1,cR,toks,all,_,_,_,_,hI,rfl,.inr ⟨rfl,gm,rfl,by rw[hp];exact hc,by rw[hp];rfl⟩⟩
    ·rename_i h1
     rw[if_neg h1,if_pos hc]at bQ cO
     refine hY rfl rfl (by rfl) (((Aq p.2.2 (at_:Nat) (all.take 32) (by rw[ZW];omega) bb ba cW cG ([]++σ) hI.cb).wk (.cons (.refl _) (.cons .raw (.cons .raw .nil)))).permA ?_) .nil (fun x σ' hR=> ?_) (fun ch σ' hR=> ?_)
     ·exact .refl _
     ·obtain⟨x',dv,g1,e1,rfl⟩:=hR
      cases e1
      rw[yz]at g1
      repeat'(first|refine .k1 ?_|refine .k2 ?_|fail)
      exact dw.uB rfl ⟨toks,all++[⟨(at_:Nat),p.2.2⟩],fJ,x',[],dv,⟨bQ,by rw[cO,Zv];rfl⟩,by omega,.inl ⟨h0,rfl,rfl⟩,g1,rfl,rfl⟩ (.refl _)
     ·obtain⟨_,_,_,e1,_⟩:=hR;cases e1
    ·simp only[iC,rO,Z5]
     have:=iz hc
     exact⟨trivial,by omega,by omega,by omega⟩
    ·rename_i h1 h2
     simp only[iC,rO,YS]
     rw[if_neg h1,if_neg (fun h=>h h2),if_pos hc]at bQ cO
     rw[← Yb,← List.map_drop]
     obtain⟨T,hT⟩:∃ T:Tok,T=⟨4,⟨((src.take (at_+p.2.1-1)).drop (at_+1)).toArray⟩,(at_:Nat)⟩:=⟨_,rfl⟩
     have jK:(⟨4,⟨(((src.drop at_).take (p.2.1-1)).drop 1).toArray⟩,(at_:Nat)⟩:Tok)=T:=by
      rw[hT];congr 3
      have:=iz hc
      rw[show p.2.1-1=(at_+p.2.1-1)-at_ by omega,← Yo,YP]
     rw[jK]at bQ
     have rj:Tok.cells T=[iv p.1,sv ⟨((src.take (at_+p.2.1-1)).drop (at_+1)).toArray⟩,iv (at_:Nat)]:=by rw[hT,hc];rfl
     clear hT jK
     repeat'(first|exact .nil|refine .k0 ?_|refine .k1 ?_|refine .k2 ?_|refine .r1 ?_ ?_|refine .u1 ?_ ?_ ?_ (fun b u c=> ?_)|refine .r5 ?_ ?_|fail)
     try any_goals(exact YK _ _)
     ·exact Z9 rfl
     ·exact Z9 rfl
     exact dw.uB rfl ⟨toks++[T],all,.own 3 58 b u c [[iv p.1,sv ⟨((src.take (at_+p.2.1-1)).drop (at_+1)).toArray⟩,iv (at_:Nat)]],cW,[(58,b,.tail u c)],cG,⟨by rw[bQ,Zv];rfl,cO⟩,by rw[Z7];simp;omega,.inr ⟨by simp,b,u,c,by rw[YV.1 h0,Zh,ZL,Y7,rj],rfl⟩,hI.cb,rfl,rfl⟩ (.perm (Yq (l₁:=[_,_])).symm (.refl _))
    ·simp only[Z5]
     exact⟨trivial,by omega,by omega,by omega⟩
    ·rename_i h1 h2 h3
     rw[if_neg h1,if_neg (fun h=>h h2),if_neg h3,if_pos hc]at bQ cO
     rw[← Yb,← List.map_drop]
     obtain⟨T,hT⟩:∃ T:Tok,T=⟨p.1,⟨((src.take (at_+p.2.1)).drop at_).toArray⟩,(at_:Nat)⟩:=⟨_,rfl⟩
     have jK:(⟨p.1,⟨((src.drop at_).take p.2.1).toArray⟩,(at_:Nat)⟩:Tok)=T:=by
      rw[hT];congr 3
      rw[Yo];congr 1;omega
     rw[jK]at bQ
     have rj:Tok.cells T=[iv p.1,sv ⟨((src.take (at_+p.2.1)).drop at_).toArray⟩,iv (at_:Nat)]:=by rw[hT];rfl
     clear hT jK
     repeat'(first|exact .nil|refine .k0 ?_|refine .k1 ?_|refine .k2 ?_|refine .r1 ?_ ?_|refine .u1 ?_ ?_ ?_ (fun b u c=> ?_)|refine .r5 ?_ ?_|fail)
     try any_goals(exact YK _ _)
     ·exact Z9 rfl
     ·exact Z9 rfl
     exact dw.uB rfl ⟨toks++[T],all,.own 3 58 b u c [[iv p.1,sv ⟨((src.take (at_+p.2.1)).drop at_).toArray⟩,iv (at_:Nat)]],cW,[(58,b,.tail u c)],cG,⟨by rw[bQ,Zv];rfl,cO⟩,by rw[Z7];simp;omega,.inr ⟨by simp,b,u,c,by rw[YV.1 h0,Zh,ZL,Y7,rj],rfl⟩,hI.cb,rfl,rfl⟩ (.perm (Yq (l₁:=[_,_])).symm (.refl _))
    ·rename_i h1 h2 h3
     rw[if_neg h1,if_neg (fun h=>h h2),if_neg h3,if_neg (fun h=>h hc)]at bQ cO
     exact dw.intro rfl ⟨toks,all,fJ,cW,[],cG,⟨bQ,cO⟩,by omega,.inl ⟨h0,rfl,rfl⟩,hI.cb,rfl,rfl⟩
   ·rintro _ _ ⟨toks',eU,rU,gR,sP,dv,⟨n0,lB⟩,V9,tX,ru,rfl,rfl⟩
    have rF:at_+p.2.1≤src.length:=by omega
    have hIn:∀ (rV:AV) (sQ:Store),qz 3 58 (toks'.map Tok.cells) rV sQ→vD src F (at_+p.2.1) k cR toks' eU rV gR sQ dv:=fun rV sQ h=>⟨rF,by omega,by omega,hI.st,n0,lB,h,ru⟩
    rcases tX with⟨g0,rfl,rfl⟩|⟨g0,b3,u3,c3,rfl,rfl⟩
    ·repeat'((fail_if_success (show WK _ _ _ _ (.goto _) _ _ _));(first|exact .nil|refine .k0 ?_|refine .k1 ?_|refine .k2 ?_|refine .r1 ?_ ?_|fail))
     refine o6 ?_
     exact⟨_,rfl,2 * (src.length-(at_+p.2.1))+1,fun m h=>by have:=eZ m h;omega,_,_,Zr,Zs,at_+p.2.1,k,cR,toks',eU,_,_,_,_,hIn _ _ (.inl ⟨g0,rfl,rfl⟩),rfl,.inl ⟨rfl,rfl,rfl⟩⟩
    ·repeat'((fail_if_success (show WK _ _ _ _ (.goto _) _ _ _));(first|exact .nil|refine .k0 ?_|refine .k1 ?_|refine .k2 ?_|refine .r1 ?_ ?_|fail))
     refine o6 ?_
     exact⟨_,rfl,2 * (src.length-(at_+p.2.1))+1,fun m h=>by have:=eZ m h;omega,_,_,Zr,Zs,at_+p.2.1,k,cR,toks',eU,_,_,_,_,hIn _ _ (.inr ⟨g0,b3,u3,c3,rfl,rfl⟩),rfl,.inl ⟨rfl,rfl,rfl⟩⟩
 ·show WK _ _ _ _ (.keep _ _) _ _ _
  repeat'((fail_if_success (show WK _ _ _ _ (.c8 _ _) _ _ _));(fail_if_success (show WK _ _ _ _ (.seq (.block _ _) _) _ _ _));(first|exact .nil|refine .k0 ?_|refine .k1 ?_|refine .k2 ?_|refine .k9 ?_|(refine .cd ?_ ?_<;>(intro hc;skip))|refine .r1 ?_ ?_|(refine .m2 ?_ ?_;intro hlen)|refine .an rfl (by intro aO;exact Lx hG hA src hl nn at_ (by(simp at hc;omega))) ?_ ?_|fail))
  try any_goals(exact YK _ _)
  all_goals(try simp only[BL]at *)
  ·have gm:at_=src.length:=by omega
   have hd:src.drop at_=[]:=Yi (by omega)
   have n0:F.1=toks++[⟨6,⟨#[]⟩,(at_:Nat)⟩]:=by rw[hI.f1,hd,lex_nil]
   have lB:F.2=all:=by rw[hI.f2,hd,lex_nil,Zx]
   rcases hI.cb with⟨g0,rfl,rfl⟩|⟨g0,b2,u2,c2,rfl,rfl,Wd⟩
   all_goals
    repeat'(first|exact .nil|refine .k0 ?_|refine .k1 ?_|refine .k3 ?_|refine .k7 ?_|refine .r1 ?_ ?_|refine .u2 ?_ ?_ ?_ (fun b u c=> ?_)|(show List.all _ _=true;rfl)|fail)
    try any_goals(exact YK _ _)
    ·exact Z9 rfl
    ·show(_+1) * 32≤_;rw[Z5];omega
    refine rT ?_
    repeat'(first|exact .nil|refine .k0 ?_|refine .r1 ?_ ?_|fail)
    refine⟨_,_,_,by rw[lB];exact hI.cb,rfl,?_,Zs⟩
    exact(by rw[n0,Y2];exact .own false)
  ·have gm:at_<src.length:=by omega
   have al:src.drop at_≠[]:=fun h=>by have:=congrArg List.length h;rw[Zq]at this;simp at this;omega
   obtain⟨k,rfl⟩:∃ k',k=k'+1:=⟨k-1,by omega⟩
   have hL:=pU k at_ cR al
   have pI:=Eg al
   have iz:=Lw (src.drop at_)
   rw[Zq]at pI
   have bQ:=hI.f1
   have cO:=hI.f2
   rw[hL]at bQ cO
   have iq:∀ n:Nat,(src.drop at_).drop n=src.drop (at_+n):=fun n=>YP
   simp only[iq]at bQ cO
   have wH:∀ n:Nat,((at_:Int)+(n:Nat))=((at_+n:Nat):Int):=fun n=>by omega
   simp only[wH]at bQ cO
   obtain⟨p,hp⟩:∃ p,aJ (src.drop at_)=p:=⟨_,rfl⟩
   simp only[hp]at pI bQ cO iz ⊢
   refine kb (fun rg σ'=>∃ (toks':List Tok) (eU:List dn) (rU gR:AV) (sP dv:Store),(F.1=toks'++(cJ k (at_+p.2.1:Nat) cR (src.drop (at_+p.2.1))).1∧F.2=eU++(cJ k (at_+p.2.1:Nat) cR (src.drop (at_+p.2.1))).2)∧toks'.length≤at_+1∧
    qz 3 58 (toks'.map Tok.cells) rU sP∧mq 2 12 ((eU.take 32).map dn.cells) gR dv∧σ'=(6,ba,.cells [iv (at_:Nat)])::(3,bb,.cells [gR])::(sP++(dv++σ))∧
    rg=[(0,.sl nn 1 (src.map bA)),(2,rU),(3,.lp 3 bb 0),(5,.pc jm),(6,.lp 6 ba 0),(7,iv cR),(8,qM bb ba),(10,iv (at_+p.2.1:Nat))]) ?_ ?_
   ·have iC:IntKind.i64.wrap ((at_:Int)+1)=((at_+1:Nat):Int):=by rw[bw (by omega)];rfl
    have rO:IntKind.i64.wrap (((at_+p.2.1:Nat):Int)-1)=((at_+p.2.1-1:Nat):Int):=by rw[bw (by omega)];omega
    repeat'((fail_if_success (show WK _ _ _ _ (.goto _) _ _ _));(first|exact .nil|refine .k0 ?_|refine .k1 ?_|refine .k2 ?_|refine .k4 ?_|refine .k6 ?_|refine .k9 ?_|(refine .cd ?_ ?_<;>(intro hc;skip))|refine .r1 ?_ ?_|refine .r8 ?_ ?_|fail))
    try any_goals(exact YK _ _)
    all_goals(try simp only[BL]at *)
    ·refine o6 ?_
     exact⟨_,rfl,2 * (src.length-at_),fun m h=>by have:=eZ m h;omega,_,_,Zr,Zs,at_,k+1,cR,toks,all,_,_,_,_,hI,rfl,.inr ⟨rfl,gm,rfl,by rw[hp];exact hc,by rw[hp];rfl⟩⟩
    ·rename_i h1
     rw[if_neg h1,if_pos hc]at bQ cO
     refine hY rfl rfl (by rfl) (((Aq p.2.2 (at_:Nat) (all.take 32) (by rw[ZW];omega) bb ba cW cG ([(58,b1,.tail u1 c1)]++σ) hI.cb).wk (.cons (.refl _) (.cons .raw (.cons .raw .nil)))).permA ?_) .nil (fun x σ' hR=> ?_) (fun ch σ' hR=> ?_)
     ·exact .cons _ (.cons _ (Al _ _ _))
     ·obtain⟨x',dv,g1,e1,rfl⟩:=hR
      cases e1
      rw[yz]at g1
      repeat'(first|refine .k1 ?_|refine .k2 ?_|fail)
      exact dw.uB rfl ⟨toks,all++[⟨(at_:Nat),p.2.2⟩],.own 3 58 b1 u1 c1 (toks.map Tok.cells),x',[(58,b1,.tail u1 c1)],dv,⟨bQ,by rw[cO,Zv];rfl⟩,by omega,.inr ⟨h0,b1,u1,c1,rfl,rfl⟩,g1,rfl,rfl⟩ (.perm (.cons _ (.cons _ (Al _ _ _).symm)) (.refl _))
     ·obtain⟨_,_,_,e1,_⟩:=hR;cases e1
    ·simp only[iC,rO,Z5]
     have:=iz hc
     exact⟨trivial,by omega,by omega,by omega⟩
    ·rename_i h1 h2
     simp only[iC,rO,YS]
     rw[if_neg h1,if_neg (fun h=>h h2),if_pos hc]at bQ cO
     rw[← Yb,← List.map_drop]
     obtain⟨T,hT⟩:∃ T:Tok,T=⟨4,⟨((src.take (at_+p.2.1-1)).drop (at_+1)).toArray⟩,(at_:Nat)⟩:=⟨_,rfl⟩
     have jK:(⟨4,⟨(((src.drop at_).take (p.2.1-1)).drop 1).toArray⟩,(at_:Nat)⟩:Tok)=T:=by
      rw[hT];congr 3
      have:=iz hc
      rw[show p.2.1-1=(at_+p.2.1-1)-at_ by omega,← Yo,YP]
     rw[jK]at bQ
     have rj:Tok.cells T=[iv p.1,sv ⟨((src.take (at_+p.2.1-1)).drop (at_+1)).toArray⟩,iv (at_:Nat)]:=by rw[hT,hc];rfl
     clear hT jK
     repeat'(first|exact .nil|refine .k0 ?_|refine .k1 ?_|refine .k2 ?_|refine .r1 ?_ ?_|refine .u2 ?_ ?_ ?_ (fun b u c=> ?_)|refine .r5 ?_ ?_|(show List.all _ _=true;rfl)|fail)
     try any_goals(exact YK _ _)
     ·exact Z9 rfl
     ·show(_+1) * 32≤_;rw[Z5];omega
     exact dw.intro rfl ⟨toks++[T],all,.own 3 58 b u c (toks.map Tok.cells++[[iv p.1,sv ⟨((src.take (at_+p.2.1-1)).drop (at_+1)).toArray⟩,iv (at_:Nat)]]),cW,[(58,b,.tail u c)],cG,⟨by rw[bQ,Zv];rfl,cO⟩,by rw[Z7];simp;omega,.inr ⟨by simp,b,u,c,by rw[Y2,ZL,Y7,rj],rfl⟩,hI.cb,rfl,rfl⟩
    ·simp only[Z5]
     exact⟨trivial,by omega,by omega,by omega⟩
    ·rename_i h1 h2 h3
     rw[if_neg h1,if_neg (fun h=>h h2),if_neg h3,if_pos hc]at bQ cO
     rw[← Yb,← List.map_drop]
     obtain⟨T,hT⟩:∃ T:Tok,T=⟨p.1,⟨((src.take (at_+p.2.1)).drop at_).toArray⟩,(at_:Nat)⟩:=⟨_,rfl⟩
     have jK:(⟨p.1,⟨((src.drop at_).take p.2.1).toArray⟩,(at_:Nat)⟩:Tok)=T:=by
      rw[hT];congr 3
      rw[Yo];congr 1;omega
     rw[jK]at bQ
     have rj:Tok.cells T=[iv p.1,sv ⟨((src.take (at_+p.2.1)).drop at_).toArray⟩,iv (at_:Nat)]:=by rw[hT];rfl
     clear hT jK
     repeat'(first|exact .nil|refine .k0 ?_|refine .k1 ?_|refine .k2 ?_|refine .r1 ?_ ?_|refine .u2 ?_ ?_ ?_ (fun b u c=> ?_)|refine .r5 ?_ ?_|(show List.all _ _=true;rfl)|fail)
     try any_goals(exact YK _ _)
     ·exact Z9 rfl
     ·show(_+1) * 32≤_;rw[Z5];omega
     exact dw.intro rfl ⟨toks++[T],all,.own 3 58 b u c (toks.map Tok.cells++[[iv p.1,sv ⟨((src.take (at_+p.2.1)).drop at_).toArray⟩,iv (at_:Nat)]]),cW,[(58,b,.tail u c)],cG,⟨by rw[bQ,Zv];rfl,cO⟩,by rw[Z7];simp;omega,.inr ⟨by simp,b,u,c,by rw[Y2,ZL,Y7,rj],rfl⟩,hI.cb,rfl,rfl⟩
    ·rename_i h1 h2 h3
     rw[if_neg h1,if_neg (fun h=>h h2),if_neg h3,if_neg (fun h=>h hc)]at bQ cO
     exact dw.intro rfl ⟨toks,all,.own 3 58 b1 u1 c1 (toks.map Tok.cells),cW,[(58,b1,.tail u1 c1)],cG,⟨bQ,cO⟩,by omega,.inr ⟨h0,b1,u1,c1,rfl,rfl⟩,hI.cb,rfl,rfl⟩
   ·rintro _ _ ⟨toks',eU,rU,gR,sP,dv,⟨n0,lB⟩,V9,tX,ru,rfl,rfl⟩
    have rF:at_+p.2.1≤src.length:=by omega
    have hIn:∀ (rV:AV) (sQ:Store),qz 3 58 (toks'.map Tok.cells) rV sQ→vD src F (at_+p.2.1) k cR toks' eU rV gR sQ dv:=fun rV sQ h=>⟨rF,by omega,by omega,hI.st,n0,lB,h,ru⟩
    rcases tX with⟨g0,rfl,rfl⟩|⟨g0,b3,u3,c3,rfl,rfl⟩
    ·repeat'((fail_if_success (show WK _ _ _ _ (.goto _) _ _ _));(first|exact .nil|refine .k0 ?_|refine .k1 ?_|refine .k2 ?_|refine .r1 ?_ ?_|fail))
     refine o6 ?_
     exact⟨_,rfl,2 * (src.length-(at_+p.2.1))+1,fun m h=>by have:=eZ m h;omega,_,_,Zr,Zs,at_+p.2.1,k,cR,toks',eU,_,_,_,_,hIn _ _ (.inl ⟨g0,rfl,rfl⟩),rfl,.inl ⟨rfl,rfl,rfl⟩⟩
    ·repeat'((fail_if_success (show WK _ _ _ _ (.goto _) _ _ _));(first|exact .nil|refine .k0 ?_|refine .k1 ?_|refine .k2 ?_|refine .r1 ?_ ?_|fail))
     refine o6 ?_
     exact⟨_,rfl,2 * (src.length-(at_+p.2.1))+1,fun m h=>by have:=eZ m h;omega,_,_,Zr,Zs,at_+p.2.1,k,cR,toks',eU,_,_,_,_,hIn _ _ (.inr ⟨g0,b3,u3,c3,rfl,rfl⟩),rfl,.inl ⟨rfl,rfl,rfl⟩⟩
theorem aan(src:List UInt8)(hl:src.length≤16384)(nn:Bool)(bb ba:Nat)(σ:Store)(F:PF)(no:Option Nat)(at_ k:Nat)(cR:Int)(toks:List Tok)(all:List dn)(lV cW:AV)(jg cG:Store)
  (hI:vD src F at_ k cR toks all lV cW jg cG) (gm:at_<src.length) (hp:(aJ (src.drop at_)).1= -1) (eZ:∀ m,no=some m→m=2 * (src.length-at_)):
  WK Tryz.prog o8.N (fun _=>0) (pS (sY (JT src nn bb ba σ F) uD no) (fun e=>FK Tryz.prog o8.N (fun _=>0) (j0 o8.res (RT σ F)) e [])) (LV 1) [] (u5 src nn bb ba lV cR [(11,iv (aJ (src.drop at_)).2.2)]) (x3 bb ba σ at_ cW jg cG):=by
 have hle:=hI.le
 have ue:=hI.fu
 have V8:=hI.tl
 have dW:=hI.st
 have al:src.drop at_≠[]:=fun h=>by have:=congrArg List.length h;rw[Zq]at this;simp at this;omega
 obtain⟨k,rfl⟩:∃ k',k=k'+1:=⟨k-1,by omega⟩
 have bQ:=hI.f1
 have cO:=hI.f2
 rw[pU k at_ cR al,if_pos hp]at bQ cO
 have iq:∀ n:Nat,(src.drop at_).drop n=src.drop (at_+n):=fun n=>YP
 have wH:((at_:Int)+1)=((at_+1:Nat):Int):=by omega
 simp only[iq,wH]at bQ cO
 have lR:IntKind.i64.wrap ((at_:Int)-1)=(at_:Int)-1:=by rw[bw (by omega)]
 have iC:IntKind.i64.wrap ((at_:Int)+1)=((at_+1:Nat):Int):=by rw[bw (by omega)];rfl
 unfold x3 u5 qM
 simp only[ZH,Zh]
 rcases hI.cl with⟨h0,rfl,rfl⟩|⟨h0,b1,u1,c1,rfl,rfl⟩
 ·show WK _ _ _ _ (.keep _ _) _ _ _
  refine ji rfl ?_
  refine kb (fun rg σ'=>∃ (eU:List dn) (gR:AV) (dv:Store),F.2=eU++(cJ k (at_+1:Nat) (at_:Nat) (src.drop (at_+1))).2∧mq 2 12 ((eU.take 32).map dn.cells) gR dv∧σ'=(6,ba,.cells [iv (at_:Nat)])::(3,bb,.cells [gR])::([]++(dv++σ))∧
   rg=[(0,.sl nn 1 (src.map bA)),(2,fJ),(3,.lp 3 bb 0),(5,.pc jm),(6,.lp 6 ba 0),(8,qM bb ba)]) ?_ ?_
  ·repeat'(first|exact .nil|refine .k0 ?_|refine .k1 ?_|refine .k2 ?_|refine .k4 ?_|refine .k9 ?_|(refine .cd ?_ ?_<;>(intro hc;skip))|refine .r1 ?_ ?_|fail)
   try any_goals(exact Zo)
   all_goals(try simp only[BL]at *)
   ·rw[lR]at hc
    rw[if_pos (by rcases hc with h|h;exact .inl h;exact .inr h)]at cO
    refine hY rfl rfl (by rfl) (((Aq _ (at_:Nat) (all.take 32) (by rw[ZW];omega) bb ba cW cG ([]++σ) hI.cb).wk (.cons (.refl _) (.cons .raw (.cons .raw .nil)))).permA ?_) .nil (fun x σ' hR=> ?_) (fun ch σ' hR=> ?_)
    ·exact .refl _
    ·obtain⟨x',dv,g1,e1,rfl⟩:=hR
     cases e1
     rw[yz]at g1
     repeat'(first|refine .k1 ?_|refine .k2 ?_|fail)
     exact dw.uB rfl ⟨all++[⟨(at_:Nat),(aJ (src.drop at_)).2.2⟩],x',dv,by rw[cO,Zv];rfl,g1,rfl,rfl⟩ (.refl _)
    ·obtain⟨_,_,_,e1,_⟩:=hR;cases e1
   ·rw[lR]at hc
    rw[if_neg (by rintro(h|h);exact h hc.1;exact hc.2 h)]at cO
    exact dw.intro rfl ⟨all,cW,cG,cO,hI.cb,rfl,rfl⟩
  ·rintro _ _ ⟨eU,gR,dv,lB,ru,rfl,rfl⟩
   repeat'((fail_if_success (show WK _ _ _ _ (.goto _) _ _ _));(first|exact .nil|refine .k0 ?_|refine .k1 ?_|refine .k2 ?_|refine .r1 ?_ ?_|fail))
   rw[iC]
   refine o6 ?_
   exact⟨_,rfl,2 * (src.length-(at_+1))+1,fun m h=>by have:=eZ m h;omega,_,_,Zr,Zs,at_+1,k,(at_:Nat),toks,eU,_,_,_,_,⟨by omega,by omega,by omega,by omega,bQ,lB,.inl ⟨h0,rfl,rfl⟩,ru⟩,rfl,.inl ⟨rfl,rfl,rfl⟩⟩
 ·show WK _ _ _ _ (.keep _ _) _ _ _
  refine ji rfl ?_
  refine kb (fun rg σ'=>∃ (eU:List dn) (gR:AV) (dv:Store),F.2=eU++(cJ k (at_+1:Nat) (at_:Nat) (src.drop (at_+1))).2∧mq 2 12 ((eU.take 32).map dn.cells) gR dv∧σ'=(6,ba,.cells [iv (at_:Nat)])::(3,bb,.cells [gR])::([(58,b1,.tail u1 c1)]++(dv++σ))∧
   rg=[(0,.sl nn 1 (src.map bA)),(2,.own 3 58 b1 u1 c1 (toks.map Tok.cells)),(3,.lp 3 bb 0),(5,.pc jm),(6,.lp 6 ba 0),(8,qM bb ba)]) ?_ ?_
  ·repeat'(first|exact .nil|refine .k0 ?_|refine .k1 ?_|refine .k2 ?_|refine .k4 ?_|refine .k9 ?_|(refine .cd ?_ ?_<;>(intro hc;skip))|refine .r1 ?_ ?_|fail)
   try any_goals(exact Zo)
   all_goals(try simp only[BL]at *)
   ·rw[lR]at hc
    rw[if_pos (by rcases hc with h|h;exact .inl h;exact .inr h)]at cO
    refine hY rfl rfl (by rfl) (((Aq _ (at_:Nat) (all.take 32) (by rw[ZW];omega) bb ba cW cG ([(58,b1,.tail u1 c1)]++σ) hI.cb).wk (.cons (.refl _) (.cons .raw (.cons .raw .nil)))).permA ?_) .nil (fun x σ' hR=> ?_) (fun ch σ' hR=> ?_)
    ·exact .cons _ (.cons _ (Al _ _ _))
    ·obtain⟨x',dv,g1,e1,rfl⟩:=hR
     cases e1
     rw[yz]at g1
     repeat'(first|refine .k1 ?_|refine .k2 ?_|fail)
     exact dw.uB rfl ⟨all++[⟨(at_:Nat),(aJ (src.drop at_)).2.2⟩],x',dv,by rw[cO,Zv];rfl,g1,rfl,rfl⟩ (.perm (.cons _ (.cons _ (Al _ _ _).symm)) (.refl _))
    ·obtain⟨_,_,_,e1,_⟩:=hR;cases e1
   ·rw[lR]at hc
    rw[if_neg (by rintro(h|h);exact h hc.1;exact hc.2 h)]at cO
    exact dw.intro rfl ⟨all,cW,cG,cO,hI.cb,rfl,rfl⟩
  ·rintro _ _ ⟨eU,gR,dv,lB,ru,rfl,rfl⟩
   repeat'((fail_if_success (show WK _ _ _ _ (.goto _) _ _ _));(first|exact .nil|refine .k0 ?_|refine .k1 ?_|refine .k2 ?_|refine .r1 ?_ ?_|fail))
   rw[iC]
   refine o6 ?_
   exact⟨_,rfl,2 * (src.length-(at_+1))+1,fun m h=>by have:=eZ m h;omega,_,_,Zr,Zs,at_+1,k,(at_:Nat),toks,eU,_,_,_,_,⟨by omega,by omega,by omega,by omega,bQ,lB,.inr ⟨h0,b1,u1,c1,rfl,rfl⟩,ru⟩,rfl,.inl ⟨rfl,rfl,rfl⟩⟩
theorem BF{P:Program}[Glob P]{N:Nat}{cfg:Nat→Nat}{Q Q':Exit→ae→Store→Prop}{a:AC}{rg:ae}{σ:Store}(h:WK P N cfg Q a [] rg σ)(hq:∀ e rg σ,Q e rg σ→Q' e rg σ):WK P N cfg Q' a [] rg σ:=⟨h.h.mono hq⟩
theorem DQ{src:List UInt8}{nn:Bool}{bb ba:Nat}{σ:Store}{F:PF}{no:Option Nat}{l:Nat}{rg:ae}{bn:Store}(h:sY (JT src nn bb ba σ F) uD no l rg bn):sY (fun l n rg σ'=>∃ ba,JT src nn bb ba σ F l n rg σ') uD no l rg bn:=by
 obtain⟨ct,h1,n',h2,ao,σ',h3,h4,h5⟩:=h
 exact⟨ct,h1,n',h2,ao,σ',h3,h4,ba,h5⟩
theorem asJ{P:Program}[Glob P]{N:Nat}{cfg:Nat→Nat}{Q:Exit→ae→Store→Prop}{a:AC}{k:List Fr}{σ:Store}{xs:List AV}{i0 i1 i2 i3:Nat}{r0 r1 r2:AV}(h:xs=jm)(hW:WK P N cfg Q a k [(i0,r0),(i1,r1),(i2,r2),(i3,.pc jm)] σ):WK P N cfg Q a k [(i0,r0),(i1,r1),(i2,r2),(i3,.pc xs)] σ:=by
 subst h;exact hW
theorem asO(hG:sX)(hA:sU)(src:List UInt8)(hl:src.length≤16384)(nn:Bool)(σ:Store):
  Sx.Spec Tryz.prog 15 [.sl nn 1 (src.map bA)] σ fun x σ'=>∃ (cW:AV) (cG:Store),mq 2 12 ((dD src).2.map dn.cells) cW cG∧x= .ret (.aL [.sl false 3 ((dD src).1.map Tok.cells),cW,iv 0])∧σ'=cG++σ:=by
 have hF:(dD src).2=(cJ src.length 0 (-1) src).2.take 32:=rfl
 have n0:(dD src).1=(cJ src.length 0 (-1) src).1:=rfl
 suffices h:Sx.Spec Tryz.prog 15 [.sl nn 1 (src.map bA)] σ (RT σ (cJ src.length 0 (-1) src)) by
  refine Spec.weak h fun x σ' ⟨lA,cW,cG,h1,h2,h3,h4⟩=>⟨.ret (.aL [.sl false 3 ((dD src).1.map Tok.cells),cW,iv 0]),cG++σ,⟨cW,cG,by rw[hF];exact h1,rfl,rfl⟩,h4,?_⟩
  subst h2
  exact .aL (.cons (by rw[n0];exact h3) (.cons (.refl _) (.cons (.refl _) .nil)))
 refine Spec.cN (fun _=>0) Tryz.func15 Hw H5 (Z9 rfl) ?_
 first|refine .k1 ?_|fail
 first|refine .k2 ?_|fail
 repeat'((fail_if_success (show WK _ _ _ _ _ _ _ _));(first|exact .nil|refine .k0 ?_|refine .k1 ?_|refine .r1 ?_ ?_|(refine .l1 ?_;intro b)|fail))
 rename Nat=>bb
 refine ji rfl ?_
 generalize Ja:cJ src.length 0 (-1) src=F
 refine BG (fun l n rg σ'=>∃ ba,JT src nn bb ba σ F l n rg σ') uD ?_ ?_
 ·repeat'((fail_if_success (show VX _ _ (⟨_,.alloc _ (.agg _),_⟩::_) _ _ _ _));(first|exact .nil|refine .k0 ?_|refine .k1 ?_|refine .k2 ?_|refine .k7 ?_|refine .k9 ?_|(refine .cd ?_ ?_<;>(intro hc;skip))|refine .r1 ?_ ?_|(refine .m2 ?_ ?_;intro hlen)|refine .an rfl (by intro aO;exact Hu) ?_ ?_|fail))
  all_goals(try simp only[BL]at *)
  ·exact absurd hc (by omega)
  ·refine vL (cs:=ml) rfl (fun b5=> ?_)
   repeat'((fail_if_success (show WK _ _ _ _ _ _ _ _));(first|exact .nil|refine .k0 ?_|refine .k1 ?_|refine .r1 ?_ ?_|fail))
   repeat'((fail_if_success (show WK _ _ _ _ (.keep _ _) _ _ _));(fail))
   refine ji rfl ?_
   refine BD 5 b5 .here (.same (.same (.same (.p0 .nil)))) ?_
   refine asJ (by kernel_rfl) ?_
   clear hc
   repeat'((fail_if_success (show WK _ _ _ _ (.seq (.label _) _) _ _ _));(first|exact .nil|refine .k0 ?_|refine .k1 ?_|refine .k2 ?_|refine .r1 ?_ ?_|(refine .l1 ?_;intro b)|fail))
   rename Nat=>ba
   refine s9 (Gg (vB ?_))
   have hle:src.length≤16384:=hl
   refine BF (KD hG hA src hl nn bb ba σ F none 0 src.length (-1) [] [] fJ fJ [] [] ⟨ZF _,Nat.sub_le _ _,ZK _,by decide,Ja.symm ▸ rfl,Ja.symm ▸ rfl,.inl ⟨rfl,rfl,rfl⟩,.inl ⟨rfl,rfl,rfl⟩⟩ (fun m h=>nomatch h)) fun e rg σ' h=> ?_
   cases e<;>first|exact h|exact DQ h
 ·rintro l n _ _ ⟨ba,at_,k,cR,toks,all,lV,cW,jg,cG,hI,rfl,⟨rfl,rfl,rfl⟩|⟨rfl,gm,rfl,hp,rfl⟩⟩
  ·refine⟨_,rfl,?_⟩
   refine BF (s9 (BH (vB (KD hG hA src hl nn bb ba σ F (some _) at_ k cR toks all lV cW jg cG hI fun m h=>(Zc h).symm)))) fun e rg σ' h=> ?_
   cases e<;>first|exact h|exact DQ h
  ·refine⟨_,rfl,?_⟩
   refine BF (s9 (BH (vB (aan src hl nn bb ba σ F (some _) at_ k cR toks all lV cW jg cG hI gm hp fun m h=>(Zc h).symm)))) fun e rg σ' h=> ?_
   cases e<;>first|exact h|exact DQ h
theorem asN(src:List UInt8)(hl:16384<src.length)(nn:Bool)(σ:Store):
  Sx.Spec Tryz.prog 15 [.sl nn 1 (src.map bA)] σ fun x σ'=>x= .ret (.aL [fJ,fJ,iv 2])∧σ'=σ:=by
 suffices h:Sx.Spec Tryz.prog 15 [.sl nn 1 (src.map bA)] σ (fun x σ'=>x= .ret (.aL [fJ,fJ,iv 2])∧Sub σ σ') by
  refine Spec.weak h fun x σ' ⟨h2,h4⟩=>⟨.ret (.aL [fJ,fJ,iv 2]),σ,⟨rfl,rfl⟩,h4,?_⟩
  subst h2
  exact .refl _
 refine Spec.cN (fun _=>0) Tryz.func15 Hw H5 (Z9 rfl) ?_
 first|refine .k1 ?_|fail
 first|refine .k2 ?_|fail
 repeat'((fail_if_success (show WK _ _ _ _ _ _ _ _));(first|exact .nil|refine .k0 ?_|refine .k1 ?_|refine .r1 ?_ ?_|(refine .l1 ?_;intro b)|fail))
 rename Nat=>bb
 refine ji rfl ?_
 refine BG (fun l n rg σ'=>False) uD ?_ (fun _ _ _ _ h=>h.elim)
 ·repeat'((fail_if_success (show VX _ _ (⟨_,.alloc _ (.agg _),_⟩::_) _ _ _ _));(first|exact .nil|refine .k0 ?_|refine .k1 ?_|refine .k2 ?_|refine .k7 ?_|refine .k9 ?_|(refine .cd ?_ ?_<;>(intro hc;skip))|refine .r1 ?_ ?_|(refine .m2 ?_ ?_;intro hlen)|refine .an rfl (by intro aO;exact Hu) ?_ ?_|fail))
  all_goals(try simp only[BL]at *)
  ·refine rT ?_
   repeat'(first|exact .nil|refine .k0 ?_|refine .r1 ?_ ?_|fail)
   exact⟨rfl,Zs⟩
  ·exact absurd hl (by omega)
end Go.Proofs.YtbihckigennlhaaGreatDoor
namespace Go.Proofs.YtbihckigennlhaaGreatDoor
open Go.Sx Go.Proofs
theorem yv{P:Program}[Glob P]{N i:Nat}{v:Value}{Q:Exit→ae→Store→Prop}{rg ao:ae}{σ:Store}{s:SC}{ks:List Nat}(hk:eC ks rg=ao)(h:dT P N i v s Q ao σ):dT P N i v s Q rg σ:=by
 intro c hc hf M w0 a w hI hR hN hD hv
 refine h c hc hf M w0 a w hI ?_ hN hD hv
 rw[← hk]
 exact hR.eC _
theorem Ot{P:Program}[Glob P]{N i:Nat}{v:Value}{Q:Exit→ae→Store→Prop}{rg:ae}{σ σ':Store}{s:SC}(hp:σ.Perm σ')(h:dT P N i v s Q rg σ'):dT P N i v s Q rg σ:=
 fun c hc hf M w0 a w hI hR hN hD hv=>h c hc hf M w0 a w (hI.perm hp) hR hN hD hv
end Go.Proofs.YtbihckigennlhaaGreatDoor
