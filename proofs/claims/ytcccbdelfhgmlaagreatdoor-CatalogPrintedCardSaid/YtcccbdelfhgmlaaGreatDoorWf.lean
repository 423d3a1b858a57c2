/- v, ok := m[k]. -/
import Derived.Test.YtcccbdelfhgmlaaGreatDoorWe
import Derived.Test.YtcccbdelfhgmlaaGreatDoorVc
import Derived.Test.YtcccbdelfhgmlaaGreatDoorUe
import Derived.Test.YtcccbdelfhgmlaaGreatDoorTz
set_option linter.unusedSimpArgs false
set_option linter.unusedVariables false
set_option linter.unusedSectionVars false
set_option maxRecDepth 100000
namespace Go.Sx
open Go.RowKit Go.Proofs
section
variable {P:Program}[Glob P]{σ:Store}
end
theorem Ah{P:Program}[Glob P]{N i:Nat}{v:Value}{cfg:Nat→Nat}{Q:Exit→ag→Store→Prop}{rg:ag}{σ:Store}{l:List CI}(h:WK P N cfg Q (.cE l) [] rg σ):eO P N i v (.cE l) Q rg σ:=WL h.h.h
end Go.Sx
namespace Go.Proofs.YtcccbdelfhgmlaaGreatDoor
open Go.Sx Go.Proofs
end Go.Proofs.YtcccbdelfhgmlaaGreatDoor
set_option maxHeartbeats 4000000
namespace Go.Proofs.YtcccbdelfhgmlaaGreatDoor
open Go.Sx Go.Proofs Go.RowKit
def Aq(bad:List dW)(p:dW):List dW:=if bad.length<32 then bad++[p]else bad
theorem Da(all:List dW)(p:dW):Aq (all.take 32) p=(all++[p]).take 32:=by
 unfold Aq
 rw[ZK]
 by_cases h:all.length<32
 ·rw[Z8 (by omega),ZD (by omega),ZD (by simp;omega)]
 ·rw[Z9 (by omega),Y0 (by omega)]
def oY(e tg:Nat)(rows:List (List AV))(x:AV)(τ:Store):Prop:=(rows=[]∧x=gQ∧τ=[])∨(rows≠[]∧∃ bb u c,x= .own e tg bb u c rows∧τ=[(tg,bb,.tail u c)]∧u=rows.length * e)
theorem E9(cd:Int)(at_:Int)(bad:List dW)(ayo:bad.length≤32)(bb ba:Nat)(x:AV)(dq dh:Store)(hS:oY 2 12 (bad.map dW.cells) x dq):
  Sx.Spec Tryz.prog 73 [iv cd,.lp 3 bb 0,.lp 6 ba 0] ((6,ba,.cells [iv at_])::(3,bb,.cells [x])::(dq++dh))
   fun r σ'=>∃ x' ej,oY 2 12 ((Aq bad ⟨at_,cd⟩).map dW.cells) x' ej∧r= .ret (.aT [])∧σ'=(6,ba,.cells [iv at_])::(3,bb,.cells [x'])::(ej++dh):=by
 suffices h:Sx.Spec Tryz.prog 73 [iv cd,.lp 3 bb 0,.lp 6 ba 0] ((6,ba,.cells [iv at_])::(3,bb,.cells [x])::(dq++dh))
   fun r σ'=>∃ x' ej az,oY 2 12 ((Aq bad ⟨at_,cd⟩).map dW.cells) x' ej∧r= .ret (.aT [])∧σ'.Perm az∧az=(6,ba,.cells [iv at_])::(3,bb,.cells [x'])::(ej++dh) by
  exact Spec.ahk h fun r σ' ⟨x',ej,az,h1,h2,h3,h4⟩=>⟨az,h3,x',ej,h1,h2,h4⟩
 unfold Aq
 rcases hS with⟨h0,rfl,rfl⟩|⟨h0,b1,u1,c1,rfl,rfl,Eh⟩
 ·have h0':bad=[]:=YQ.1 h0
  subst h0'
  refine Spec.dF (fun _=>0) Tryz.func73 Oi OX (Z7 rfl) ?_
  repeat'((fail_if_success (show VX _ _ (⟨_,.append _ _ _ _ _ _,_⟩::_) _ _ _ _));(first|exact .nil|refine .k0 ?_|refine .k1 ?_|refine .k2 ?_|refine .k3 ?_|refine .k9 ?_|(refine .cd ?_ ?_<;>(intro hc;skip))|refine .r1 ?_ ?_|refine .r2 ?_ ?_|refine .r8 ?_ ?_|fail))
  all_goals try refine WV rfl rfl ?_ ?_ ?_ (fun b u c hu=> ?_)
  repeat'(first|exact .nil|refine .k0 ?_|refine .k1 ?_|refine .k3 ?_|refine .r1 ?_ ?_|refine .r2 ?_ ?_|fail)
  try any_goals(exact Zo)
  all_goals(try simp only[BL]at *)
  ·exact Z7 rfl
  ·exact Z7 rfl
  ·exact⟨.own 2 12 b u c [[iv at_,iv cd]],[(12,b,.tail u c)],_,.inr ⟨by simp,b,u,c,by simp[dW.cells],rfl,by rw[hu];rfl⟩,trivial,(Yb (l₁:=[_,_])).symm,rfl⟩
  ·exact absurd (show((0:Nat):Int)<32 by decide) hc
 ·refine Spec.dF (fun _=>0) Tryz.func73 Oi OX (Z7 rfl) ?_
  repeat'((fail_if_success (show VX _ _ (⟨_,.append _ _ _ _ _ _,_⟩::_) _ _ _ _));(first|exact .nil|refine .k0 ?_|refine .k1 ?_|refine .k2 ?_|refine .k3 ?_|refine .k9 ?_|(refine .cd ?_ ?_<;>(intro hc;skip))|refine .r1 ?_ ?_|(refine .m2 ?_ ?_;intro hlen)|refine .r2 ?_ ?_|fail))
  all_goals try refine WW rfl rfl rfl ?_ ?_ ?_ (fun b u c hu=> ?_)
  repeat'(first|exact .nil|refine .k0 ?_|refine .k1 ?_|refine .k3 ?_|refine .r1 ?_ ?_|refine .r2 ?_ ?_|(show List.all _ _=true;rfl)|fail)
  all_goals(try simp only[BL]at *)
  ·exact Z7 rfl
  ·show(_+1) * 16≤_;rw[Z3];omega
  ·rw[Z8 (by omega)]
   exact⟨.own 2 12 b u c (bad.map dW.cells++[[iv at_,iv cd]]),[(12,b,.tail u c)],_,.inr ⟨by simp,b,u,c,by simp[dW.cells],rfl,by rw[hu Eh];simp⟩,trivial,.refl _,rfl⟩
  ·rw[Z9 (by omega)]
   exact⟨_,_,_,.inr ⟨h0,b1,u1,c1,rfl,rfl,Eh⟩,trivial,.refl _,rfl⟩
def abu:AC:=match a42 with
 | .seq _ (.keep _ (.scope b))=>b
 |a=>a
def TW(l:Nat):AC:=match pZ abu l with
 |some (.seq _ b)=>b
 |_=> .skip
def yt(l:Nat):List Nat:=bif Nat.beq l 0 then[0,2,3,5,6,7,8]else[0,2,3,5,6,7,8,11]
def uR(bb ba:Nat):AV:= .v (.func (.func 73) #[] #[.pointer (some ⟨bb,0,none⟩),.pointer (some ⟨ba,0,none⟩)])
abbrev PF:=List Tok×List dW
structure Aa(src:List UInt8)(F:PF)(at_ k:Nat)(dG:Int)(toks:List Tok)(all:List dW)(lV dJ:AV)(kB dq:Store):Prop where
 le:at_≤src.length
 fu:src.length-at_≤k
 tl:toks.length≤at_
 st: -1≤dG∧dG≤16384
 f1:F.1=toks++(dB k at_ dG (src.drop at_)).1
 f2:F.2=all++(dB k at_ dG (src.drop at_)).2
 cl:uC 3 58 (toks.map Tok.cells) lV kB
 cb:oY 2 12 ((all.take 32).map dW.cells) dJ dq
def Cz(bb ba:Nat)(σ:Store)(at_:Nat)(dJ:AV)(kB dq:Store):Store:=(6,ba,.cells [iv (at_:Nat)])::(3,bb,.cells [dJ])::(kB++(dq++σ))
def yX(src:List UInt8)(nn:Bool)(bb ba:Nat)(lV:AV)(dG:Int)(more:ag):ag:=[(0,.sl nn 1 (src.map ck)),(2,lV),(3,.lp 3 bb 0),(5,.pc kK),(6,.lp 6 ba 0),(7,iv dG),(8,uR bb ba)]++more
def JT(src:List UInt8)(nn:Bool)(bb ba:Nat)(σ:Store)(F:PF)(l n:Nat)(rg:ag)(σ':Store):Prop:=
 ∃ (at_ k:Nat) (dG:Int) (toks:List Tok) (all:List dW) (lV dJ:AV) (kB dq:Store),Aa src F at_ k dG toks all lV dJ kB dq∧σ'=Cz bb ba σ at_ dJ kB dq∧
  ((l=0∧n=2 * (src.length-at_)+1∧rg=yX src nn bb ba lV dG [])∨(l=1∧at_<src.length∧n=2 * (src.length-at_)∧(aS (src.drop at_)).1= -1∧rg=yX src nn bb ba lV dG [(11,iv (aS (src.drop at_)).2.2)]))
def RT(σ:Store)(F:PF)(x:dH)(σ':Store):Prop:=∃ (lA dJ:AV) (dq:Store),oY 2 12 ((F.2.take 32).map dW.cells) dJ dq∧x= .ret (.aT [lA,dJ,iv 0])∧Wk lA (.sl false 3 (F.1.map Tok.cells))∧Sub (dq++σ) σ'
theorem E2{α:Type}(e:α)(l1 l2:List α):([e]++(l1++l2)).Perm (l1++([e]++l2)):=by
 rw[List.singleton_append,List.singleton_append];exact List.perm_middle.symm
theorem Tm:∀ s:List UInt8,(aS s).1=4→2≤(aS s).2.1
 |[],h=>by cases h
 |c::r,h=>by
  by_cases h1:aE c=1
  ·rw[p_1 h1]at h;cases h
  by_cases h6:aE c=6
  ·rw[E1 h6]at h;cases h
  by_cases h2:aE c=2
  ·rw[Kp h2]at h;cases h
  by_cases h3:aE c=3
  ·rw[EZ h3]at h;split at h<;>cases h
  by_cases h5:aE c=5
  ·rw[E0 h5]at h ⊢;split at h
   ·rename_i h7;rw[Z8 h7];simp
   ·cases h
  by_cases h7:aE c=7∨aE c=8
  ·rw[tQ h7]at h;repeat' split at h
   all_goals cases h
  ·rw[Ko ⟨h1,h6,h2,h3,h5,fun e=>h7 (.inl e),fun e=>h7 (.inr e)⟩]at h;cases h
theorem Sd(hG:wT)(hA:wP)(src:List UInt8)(hl:src.length≤16384)(nn:Bool)(bb ba:Nat)(σ:Store)(F:PF)(no:Option Nat)(at_ k:Nat)(dG:Int)(toks:List Tok)(all:List dW)(lV dJ:AV)(kB dq:Store)
  (hI:Aa src F at_ k dG toks all lV dJ kB dq) (ep:∀ m,no=some m→m=2 * (src.length-at_)+1):
  WK Tryz.prog sH.N (fun _=>0) (tH (wX (JT src nn bb ba σ F) yt no) (fun e=>FK Tryz.prog sH.N (fun _=>0) (mD sH.res (RT σ F)) e [])) (TW 0) [] (yX src nn bb ba lV dG []) (Cz bb ba σ at_ dJ kB dq):=by
 have hle:=hI.le
 have x7:=hI.fu
 have htl:=hI.tl
 unfold Cz yX uR
 simp only[Zg]
 rcases hI.cl with⟨h0,rfl,rfl⟩|⟨h0,b1,u1,c1,rfl,rfl⟩
 ·show WK _ _ _ _ (.keep _ _) _ _ _
  repeat'((fail_if_success (show WK _ _ _ _ (.dC _ _) _ _ _));(fail_if_success (show WK _ _ _ _ (.seq (.block _ _) _) _ _ _));(first|exact .nil|refine .k0 ?_|refine .k1 ?_|refine .k2 ?_|refine .k9 ?_|(refine .cd ?_ ?_<;>(intro hc;skip))|refine .r1 ?_ ?_|(refine .m2 ?_ ?_;intro hlen)|refine .an rfl (by intro br;exact Tn hG hA src hl nn at_ (by(simp at hc;omega))) ?_ ?_|fail))
  try any_goals(exact YD _ _)
  all_goals(try simp only[BL]at *)
  ·have fP:at_=src.length:=by omega
   have hd:src.drop at_=[]:=X3 (by omega)
   have qR:F.1=toks++[⟨6,⟨#[]⟩,(at_:Nat)⟩]:=by rw[hI.f1,hd,lex_nil]
   have lL:F.2=all:=by rw[hI.f2,hd,lex_nil,Zg]
   rcases hI.cb with⟨g0,rfl,rfl⟩|⟨g0,b2,u2,c2,rfl,rfl,hu2⟩
   all_goals
    repeat'(first|exact .nil|refine .k0 ?_|refine .k1 ?_|refine .k3 ?_|refine .k7 ?_|refine .r1 ?_ ?_|refine .u1 ?_ ?_ ?_ (fun b u c=> ?_)|fail)
    try any_goals(exact YD _ _)
    ·exact Z7 rfl
    ·exact Z7 rfl
    refine vG ?_
    repeat'(first|exact .nil|refine .k0 ?_|refine .r1 ?_ ?_|fail)
    refine⟨_,_,_,by rw[lL];exact hI.cb,rfl,?_,Zs⟩
    exact(by rw[qR,YQ.1 h0];exact .own false)
  ·have fP:at_<src.length:=by omega
   have ak:src.drop at_≠[]:=fun h=>by have:=Zy List.length h;rw[Zj]at this;simp at this;omega
   obtain⟨k,rfl⟩:∃ k',k=k'+1:=⟨k-1,by omega⟩
   have hL:=vL k at_ dG ak
   have tp:=Ku ak
   have jO:=Tm (src.drop at_)
   rw[Zj]at tp
   have cr:=hI.f1
   have dz:=hI.f2
   rw[hL]at cr dz
   have jM:∀ n:Nat,(src.drop at_).drop n=src.drop (at_+n):=fun n=>YL
   simp only[jM]at cr dz
   have Bd:∀ n:Nat,((at_:Int)+(n:Nat))=((at_+n:Nat):Int):=fun n=>by omega
   simp only[Bd]at cr dz
   obtain⟨p,hp⟩:∃ p,aS (src.drop at_)=p:=⟨_,rfl⟩
   simp only[hp]at tp cr dz jO ⊢
   refine mM (fun rg σ'=>∃ (toks':List Tok) (fZ:List dW) (vH jm:AV) (wK ej:Store),(F.1=toks'++(dB k (at_+p.2.1:Nat) dG (src.drop (at_+p.2.1))).1∧F.2=fZ++(dB k (at_+p.2.1:Nat) dG (src.drop (at_+p.2.1))).2)∧toks'.length≤at_+1∧
    uC 3 58 (toks'.map Tok.cells) vH wK∧oY 2 12 ((fZ.take 32).map dW.cells) jm ej∧σ'=(6,ba,.cells [iv (at_:Nat)])::(3,bb,.cells [jm])::(wK++(ej++σ))∧
    rg=[(0,.sl nn 1 (src.map ck)),(2,vH),(3,.lp 3 bb 0),(5,.pc kK),(6,.lp 6 ba 0),(7,iv dG),(8,uR bb ba),(10,iv (at_+p.2.1:Nat))]) ?_ ?_
   ·have ib:IntKind.i64.wrap ((at_:Int)+1)=((at_+1:Nat):Int):=by rw[bG (by omega)];rfl
    have gD:IntKind.i64.wrap (((at_+p.2.1:Nat):Int)-1)=((at_+p.2.1-1:Nat):Int):=by rw[bG (by omega)];omega
    repeat'((fail_if_success (show WK _ _ _ _ (.goto _) _ _ _));(first|exact .nil|refine .k0 ?_|refine .k1 ?_|refine .k2 ?_|refine .k4 ?_|refine .k6 ?_|refine .k9 ?_|(refine .cd ?_ ?_<;>(intro hc;skip))|refine .r1 ?_ ?_|refine .r8 ?_ ?_|fail))
    try any_goals(exact YD _ _)
    all_goals(try simp only[BL]at *)
    ·refine sw ?_
     exact⟨_,rfl,2 * (src.length-at_),fun m h=>by have:=ep m h;omega,_,_,Zr,Zs,at_,k+1,dG,toks,all,_,_,_,_,hI,rfl,.inr ⟨rfl,fP,rfl,by rw[hp];exact hc,by rw[hp];rfl⟩⟩
    ·rename_i h1
     rw[Z9 h1,Z8 hc]at cr dz
     refine jC rfl rfl (by rfl) (((E9 p.2.2 (at_:Nat) (all.take 32) (by rw[ZK];omega) bb ba dJ dq ([]++σ) hI.cb).wk (.cons (.refl _) (.cons .raw (.cons .raw .nil)))).permA ?_) .nil (fun x σ' hR=> ?_) (fun ch σ' hR=> ?_)
     ·exact .refl _
     ·obtain⟨x',ej,g1,e1,rfl⟩:=hR
      cases e1
      rw[Da]at g1
      repeat'(first|refine .k1 ?_|refine .k2 ?_|fail)
      exact ek.yr rfl ⟨toks,all++[⟨(at_:Nat),p.2.2⟩],gQ,x',[],ej,⟨cr,by rw[dz,Zz];rfl⟩,by omega,.inl ⟨h0,rfl,rfl⟩,g1,rfl,rfl⟩ (.refl _)
     ·obtain⟨_,_,_,e1,_⟩:=hR;cases e1
    ·simp only[ib,gD,Z3]
     have:=jO hc
     exact⟨trivial,by omega,by omega,by omega⟩
    ·rename_i h1 h2
     simp only[ib,gD,YN]
     rw[Z9 h1,Z9 (fun h=>h h2),Z8 hc]at cr dz
     rw[← XM,← List.map_drop]
     obtain⟨T,hT⟩:∃ T:Tok,T=⟨4,⟨((src.take (at_+p.2.1-1)).drop (at_+1)).toArray⟩,(at_:Nat)⟩:=⟨_,rfl⟩
     have j5:(⟨4,⟨(((src.drop at_).take (p.2.1-1)).drop 1).toArray⟩,(at_:Nat)⟩:Tok)=T:=by
      rw[hT];congr 3
      have:=jO hc
      rw[show p.2.1-1=(at_+p.2.1-1)-at_ by omega,← Ya,YL]
     rw[j5]at cr
     have vi:Tok.cells T=[iv p.1,sv ⟨((src.take (at_+p.2.1-1)).drop (at_+1)).toArray⟩,iv (at_:Nat)]:=by rw[hT,hc];rfl
     clear hT j5
     repeat'(first|exact .nil|refine .k0 ?_|refine .k1 ?_|refine .k2 ?_|refine .r1 ?_ ?_|refine .u1 ?_ ?_ ?_ (fun b u c=> ?_)|refine .r5 ?_ ?_|fail)
     try any_goals(exact YD _ _)
     ·exact Z7 rfl
     ·exact Z7 rfl
     exact ek.yr rfl ⟨toks++[T],all,.own 3 58 b u c [[iv p.1,sv ⟨((src.take (at_+p.2.1-1)).drop (at_+1)).toArray⟩,iv (at_:Nat)]],dJ,[(58,b,.tail u c)],dq,⟨by rw[cr,Zz];rfl,dz⟩,by rw[Z5];simp;omega,.inr ⟨by simp,b,u,c,by rw[YQ.1 h0,Za,Zu,YO,vi],rfl⟩,hI.cb,rfl,rfl⟩ (.perm (Yb (l₁:=[_,_])).symm (.refl _))
    ·simp only[Z3]
     exact⟨trivial,by omega,by omega,by omega⟩
    ·rename_i h1 h2 h3
     rw[Z9 h1,Z9 (fun h=>h h2),Z9 h3,Z8 hc]at cr dz
     rw[← XM,← List.map_drop]
     obtain⟨T,hT⟩:∃ T:Tok,T=⟨p.1,⟨((src.take (at_+p.2.1)).drop at_).toArray⟩,(at_:Nat)⟩:=⟨_,rfl⟩
     have j5:(⟨p.1,⟨((src.drop at_).take p.2.1).toArray⟩,(at_:Nat)⟩:Tok)=T:=by
      rw[hT];congr 3
      rw[Ya];congr 1;omega
     rw[j5]at cr
     have vi:Tok.cells T=[iv p.1,sv ⟨((src.take (at_+p.2.1)).drop at_).toArray⟩,iv (at_:Nat)]:=by rw[hT];rfl
     clear hT j5
     repeat'(first|exact .nil|refine .k0 ?_|refine .k1 ?_|refine .k2 ?_|refine .r1 ?_ ?_|refine .u1 ?_ ?_ ?_ (fun b u c=> ?_)|refine .r5 ?_ ?_|fail)
     try any_goals(exact YD _ _)
     ·exact Z7 rfl
     ·exact Z7 rfl
     exact ek.yr rfl ⟨toks++[T],all,.own 3 58 b u c [[iv p.1,sv ⟨((src.take (at_+p.2.1)).drop at_).toArray⟩,iv (at_:Nat)]],dJ,[(58,b,.tail u c)],dq,⟨by rw[cr,Zz];rfl,dz⟩,by rw[Z5];simp;omega,.inr ⟨by simp,b,u,c,by rw[YQ.1 h0,Za,Zu,YO,vi],rfl⟩,hI.cb,rfl,rfl⟩ (.perm (Yb (l₁:=[_,_])).symm (.refl _))
    ·rename_i h1 h2 h3
     rw[Z9 h1,Z9 (fun h=>h h2),Z9 h3,Z9 (fun h=>h hc)]at cr dz
     exact ek.intro rfl ⟨toks,all,gQ,dJ,[],dq,⟨cr,dz⟩,by omega,.inl ⟨h0,rfl,rfl⟩,hI.cb,rfl,rfl⟩
   ·rintro _ _ ⟨toks',fZ,vH,jm,wK,ej,⟨qR,lL⟩,afk,xW,vj,rfl,rfl⟩
    have vw:at_+p.2.1≤src.length:=by omega
    have hIn:∀ (vI:AV) (wL:Store),uC 3 58 (toks'.map Tok.cells) vI wL→Aa src F (at_+p.2.1) k dG toks' fZ vI jm wL ej:=fun vI wL h=>⟨vw,by omega,by omega,hI.st,qR,lL,h,vj⟩
    rcases xW with⟨g0,rfl,rfl⟩|⟨g0,b3,u3,c3,rfl,rfl⟩
    ·repeat'((fail_if_success (show WK _ _ _ _ (.goto _) _ _ _));(first|exact .nil|refine .k0 ?_|refine .k1 ?_|refine .k2 ?_|refine .r1 ?_ ?_|fail))
     refine sw ?_
     exact⟨_,rfl,2 * (src.length-(at_+p.2.1))+1,fun m h=>by have:=ep m h;omega,_,_,Zr,Zs,at_+p.2.1,k,dG,toks',fZ,_,_,_,_,hIn _ _ (.inl ⟨g0,rfl,rfl⟩),rfl,.inl ⟨rfl,rfl,rfl⟩⟩
    ·repeat'((fail_if_success (show WK _ _ _ _ (.goto _) _ _ _));(first|exact .nil|refine .k0 ?_|refine .k1 ?_|refine .k2 ?_|refine .r1 ?_ ?_|fail))
     refine sw ?_
     exact⟨_,rfl,2 * (src.length-(at_+p.2.1))+1,fun m h=>by have:=ep m h;omega,_,_,Zr,Zs,at_+p.2.1,k,dG,toks',fZ,_,_,_,_,hIn _ _ (.inr ⟨g0,b3,u3,c3,rfl,rfl⟩),rfl,.inl ⟨rfl,rfl,rfl⟩⟩
 ·show WK _ _ _ _ (.keep _ _) _ _ _
  repeat'((fail_if_success (show WK _ _ _ _ (.dC _ _) _ _ _));(fail_if_success (show WK _ _ _ _ (.seq (.block _ _) _) _ _ _));(first|exact .nil|refine .k0 ?_|refine .k1 ?_|refine .k2 ?_|refine .k9 ?_|(refine .cd ?_ ?_<;>(intro hc;skip))|refine .r1 ?_ ?_|(refine .m2 ?_ ?_;intro hlen)|refine .an rfl (by intro br;exact Tn hG hA src hl nn at_ (by(simp at hc;omega))) ?_ ?_|fail))
  try any_goals(exact YD _ _)
  all_goals(try simp only[BL]at *)
  ·have fP:at_=src.length:=by omega
   have hd:src.drop at_=[]:=X3 (by omega)
   have qR:F.1=toks++[⟨6,⟨#[]⟩,(at_:Nat)⟩]:=by rw[hI.f1,hd,lex_nil]
   have lL:F.2=all:=by rw[hI.f2,hd,lex_nil,Zg]
   rcases hI.cb with⟨g0,rfl,rfl⟩|⟨g0,b2,u2,c2,rfl,rfl,hu2⟩
   all_goals
    repeat'(first|exact .nil|refine .k0 ?_|refine .k1 ?_|refine .k3 ?_|refine .k7 ?_|refine .r1 ?_ ?_|refine .u2 ?_ ?_ ?_ (fun b u c=> ?_)|(show List.all _ _=true;rfl)|fail)
    try any_goals(exact YD _ _)
    ·exact Z7 rfl
    ·show(_+1) * 32≤_;rw[Z3];omega
    refine vG ?_
    repeat'(first|exact .nil|refine .k0 ?_|refine .r1 ?_ ?_|fail)
    refine⟨_,_,_,by rw[lL];exact hI.cb,rfl,?_,Zs⟩
    exact(by rw[qR,YS];exact .own false)
  ·have fP:at_<src.length:=by omega
   have ak:src.drop at_≠[]:=fun h=>by have:=Zy List.length h;rw[Zj]at this;simp at this;omega
   obtain⟨k,rfl⟩:∃ k',k=k'+1:=⟨k-1,by omega⟩
   have hL:=vL k at_ dG ak
   have tp:=Ku ak
   have jO:=Tm (src.drop at_)
   rw[Zj]at tp
   have cr:=hI.f1
   have dz:=hI.f2
   rw[hL]at cr dz
   have jM:∀ n:Nat,(src.drop at_).drop n=src.drop (at_+n):=fun n=>YL
   simp only[jM]at cr dz
   have Bd:∀ n:Nat,((at_:Int)+(n:Nat))=((at_+n:Nat):Int):=fun n=>by omega
   simp only[Bd]at cr dz
   obtain⟨p,hp⟩:∃ p,aS (src.drop at_)=p:=⟨_,rfl⟩
   simp only[hp]at tp cr dz jO ⊢
   refine mM (fun rg σ'=>∃ (toks':List Tok) (fZ:List dW) (vH jm:AV) (wK ej:Store),(F.1=toks'++(dB k (at_+p.2.1:Nat) dG (src.drop (at_+p.2.1))).1∧F.2=fZ++(dB k (at_+p.2.1:Nat) dG (src.drop (at_+p.2.1))).2)∧toks'.length≤at_+1∧
    uC 3 58 (toks'.map Tok.cells) vH wK∧oY 2 12 ((fZ.take 32).map dW.cells) jm ej∧σ'=(6,ba,.cells [iv (at_:Nat)])::(3,bb,.cells [jm])::(wK++(ej++σ))∧
    rg=[(0,.sl nn 1 (src.map ck)),(2,vH),(3,.lp 3 bb 0),(5,.pc kK),(6,.lp 6 ba 0),(7,iv dG),(8,uR bb ba),(10,iv (at_+p.2.1:Nat))]) ?_ ?_
   ·have ib:IntKind.i64.wrap ((at_:Int)+1)=((at_+1:Nat):Int):=by rw[bG (by omega)];rfl
    have gD:IntKind.i64.wrap (((at_+p.2.1:Nat):Int)-1)=((at_+p.2.1-1:Nat):Int):=by rw[bG (by omega)];omega
    repeat'((fail_if_success (show WK _ _ _ _ (.goto _) _ _ _));(first|exact .nil|refine .k0 ?_|refine .k1 ?_|refine .k2 ?_|refine .k4 ?_|refine .k6 ?_|refine .k9 ?_|(refine .cd ?_ ?_<;>(intro hc;skip))|refine .r1 ?_ ?_|refine .r8 ?_ ?_|fail))
    try any_goals(exact YD _ _)
    all_goals(try simp only[BL]at *)
    ·refine sw ?_
     exact⟨_,rfl,2 * (src.length-at_),fun m h=>by have:=ep m h;omega,_,_,Zr,Zs,at_,k+1,dG,toks,all,_,_,_,_,hI,rfl,.inr ⟨rfl,fP,rfl,by rw[hp];exact hc,by rw[hp];rfl⟩⟩
    ·rename_i h1
     rw[Z9 h1,Z8 hc]at cr dz
     refine jC rfl rfl (by rfl) (((E9 p.2.2 (at_:Nat) (all.take 32) (by rw[ZK];omega) bb ba dJ dq ([(58,b1,.tail u1 c1)]++σ) hI.cb).wk (.cons (.refl _) (.cons .raw (.cons .raw .nil)))).permA ?_) .nil (fun x σ' hR=> ?_) (fun ch σ' hR=> ?_)
     ·exact .cons _ (.cons _ (E2 _ _ _))
     ·obtain⟨x',ej,g1,e1,rfl⟩:=hR
      cases e1
      rw[Da]at g1
      repeat'(first|refine .k1 ?_|refine .k2 ?_|fail)
      exact ek.yr rfl ⟨toks,all++[⟨(at_:Nat),p.2.2⟩],.own 3 58 b1 u1 c1 (toks.map Tok.cells),x',[(58,b1,.tail u1 c1)],ej,⟨cr,by rw[dz,Zz];rfl⟩,by omega,.inr ⟨h0,b1,u1,c1,rfl,rfl⟩,g1,rfl,rfl⟩ (.perm (.cons _ (.cons _ (E2 _ _ _).symm)) (.refl _))
     ·obtain⟨_,_,_,e1,_⟩:=hR;cases e1
    ·simp only[ib,gD,Z3]
     have:=jO hc
     exact⟨trivial,by omega,by omega,by omega⟩
    ·rename_i h1 h2
     simp only[ib,gD,YN]
     rw[Z9 h1,Z9 (fun h=>h h2),Z8 hc]at cr dz
     rw[← XM,← List.map_drop]
     obtain⟨T,hT⟩:∃ T:Tok,T=⟨4,⟨((src.take (at_+p.2.1-1)).drop (at_+1)).toArray⟩,(at_:Nat)⟩:=⟨_,rfl⟩
     have j5:(⟨4,⟨(((src.drop at_).take (p.2.1-1)).drop 1).toArray⟩,(at_:Nat)⟩:Tok)=T:=by
      rw[hT];congr 3
      have:=jO hc
      rw[show p.2.1-1=(at_+p.2.1-1)-at_ by omega,← Ya,YL]
     rw[j5]at cr
     have vi:Tok.cells T=[iv p.1,sv ⟨((src.take (at_+p.2.1-1)).drop (at_+1)).toArray⟩,iv (at_:Nat)]:=by rw[hT,hc];rfl
     clear hT j5
     repeat'(first|exact .nil|refine .k0 ?_|refine .k1 ?_|refine .k2 ?_|refine .r1 ?_ ?_|refine .u2 ?_ ?_ ?_ (fun b u c=> ?_)|refine .r5 ?_ ?_|(show List.all _ _=true;rfl)|fail)
     try any_goals(exact YD _ _)
     ·exact Z7 rfl
     ·show(_+1) * 32≤_;rw[Z3];omega
     exact ek.intro rfl ⟨toks++[T],all,.own 3 58 b u c (toks.map Tok.cells++[[iv p.1,sv ⟨((src.take (at_+p.2.1-1)).drop (at_+1)).toArray⟩,iv (at_:Nat)]]),dJ,[(58,b,.tail u c)],dq,⟨by rw[cr,Zz];rfl,dz⟩,by rw[Z5];simp;omega,.inr ⟨by simp,b,u,c,by rw[YS,Zu,YO,vi],rfl⟩,hI.cb,rfl,rfl⟩
    ·simp only[Z3]
     exact⟨trivial,by omega,by omega,by omega⟩
    ·rename_i h1 h2 h3
     rw[Z9 h1,Z9 (fun h=>h h2),Z9 h3,Z8 hc]at cr dz
     rw[← XM,← List.map_drop]
     obtain⟨T,hT⟩:∃ T:Tok,T=⟨p.1,⟨((src.take (at_+p.2.1)).drop at_).toArray⟩,(at_:Nat)⟩:=⟨_,rfl⟩
     have j5:(⟨p.1,⟨((src.drop at_).take p.2.1).toArray⟩,(at_:Nat)⟩:Tok)=T:=by
      rw[hT];congr 3
      rw[Ya];congr 1;omega
     rw[j5]at cr
     have vi:Tok.cells T=[iv p.1,sv ⟨((src.take (at_+p.2.1)).drop at_).toArray⟩,iv (at_:Nat)]:=by rw[hT];rfl
     clear hT j5
     repeat'(first|exact .nil|refine .k0 ?_|refine .k1 ?_|refine .k2 ?_|refine .r1 ?_ ?_|refine .u2 ?_ ?_ ?_ (fun b u c=> ?_)|refine .r5 ?_ ?_|(show List.all _ _=true;rfl)|fail)
     try any_goals(exact YD _ _)
     ·exact Z7 rfl
     ·show(_+1) * 32≤_;rw[Z3];omega
     exact ek.intro rfl ⟨toks++[T],all,.own 3 58 b u c (toks.map Tok.cells++[[iv p.1,sv ⟨((src.take (at_+p.2.1)).drop at_).toArray⟩,iv (at_:Nat)]]),dJ,[(58,b,.tail u c)],dq,⟨by rw[cr,Zz];rfl,dz⟩,by rw[Z5];simp;omega,.inr ⟨by simp,b,u,c,by rw[YS,Zu,YO,vi],rfl⟩,hI.cb,rfl,rfl⟩
    ·rename_i h1 h2 h3
     rw[Z9 h1,Z9 (fun h=>h h2),Z9 h3,Z9 (fun h=>h hc)]at cr dz
     exact ek.intro rfl ⟨toks,all,.own 3 58 b1 u1 c1 (toks.map Tok.cells),dJ,[(58,b1,.tail u1 c1)],dq,⟨cr,dz⟩,by omega,.inr ⟨h0,b1,u1,c1,rfl,rfl⟩,hI.cb,rfl,rfl⟩
   ·rintro _ _ ⟨toks',fZ,vH,jm,wK,ej,⟨qR,lL⟩,afk,xW,vj,rfl,rfl⟩
    have vw:at_+p.2.1≤src.length:=by omega
    have hIn:∀ (vI:AV) (wL:Store),uC 3 58 (toks'.map Tok.cells) vI wL→Aa src F (at_+p.2.1) k dG toks' fZ vI jm wL ej:=fun vI wL h=>⟨vw,by omega,by omega,hI.st,qR,lL,h,vj⟩
    rcases xW with⟨g0,rfl,rfl⟩|⟨g0,b3,u3,c3,rfl,rfl⟩
    ·repeat'((fail_if_success (show WK _ _ _ _ (.goto _) _ _ _));(first|exact .nil|refine .k0 ?_|refine .k1 ?_|refine .k2 ?_|refine .r1 ?_ ?_|fail))
     refine sw ?_
     exact⟨_,rfl,2 * (src.length-(at_+p.2.1))+1,fun m h=>by have:=ep m h;omega,_,_,Zr,Zs,at_+p.2.1,k,dG,toks',fZ,_,_,_,_,hIn _ _ (.inl ⟨g0,rfl,rfl⟩),rfl,.inl ⟨rfl,rfl,rfl⟩⟩
    ·repeat'((fail_if_success (show WK _ _ _ _ (.goto _) _ _ _));(first|exact .nil|refine .k0 ?_|refine .k1 ?_|refine .k2 ?_|refine .r1 ?_ ?_|fail))
     refine sw ?_
     exact⟨_,rfl,2 * (src.length-(at_+p.2.1))+1,fun m h=>by have:=ep m h;omega,_,_,Zr,Zs,at_+p.2.1,k,dG,toks',fZ,_,_,_,_,hIn _ _ (.inr ⟨g0,b3,u3,c3,rfl,rfl⟩),rfl,.inl ⟨rfl,rfl,rfl⟩⟩
theorem af9(src:List UInt8)(hl:src.length≤16384)(nn:Bool)(bb ba:Nat)(σ:Store)(F:PF)(no:Option Nat)(at_ k:Nat)(dG:Int)(toks:List Tok)(all:List dW)(lV dJ:AV)(kB dq:Store)
  (hI:Aa src F at_ k dG toks all lV dJ kB dq) (fP:at_<src.length) (hp:(aS (src.drop at_)).1= -1) (ep:∀ m,no=some m→m=2 * (src.length-at_)):
  WK Tryz.prog sH.N (fun _=>0) (tH (wX (JT src nn bb ba σ F) yt no) (fun e=>FK Tryz.prog sH.N (fun _=>0) (mD sH.res (RT σ F)) e [])) (TW 1) [] (yX src nn bb ba lV dG [(11,iv (aS (src.drop at_)).2.2)]) (Cz bb ba σ at_ dJ kB dq):=by
 have hle:=hI.le
 have x7:=hI.fu
 have htl:=hI.tl
 have er:=hI.st
 have ak:src.drop at_≠[]:=fun h=>by have:=Zy List.length h;rw[Zj]at this;simp at this;omega
 obtain⟨k,rfl⟩:∃ k',k=k'+1:=⟨k-1,by omega⟩
 have cr:=hI.f1
 have dz:=hI.f2
 rw[vL k at_ dG ak,Z8 hp]at cr dz
 have jM:∀ n:Nat,(src.drop at_).drop n=src.drop (at_+n):=fun n=>YL
 have Bd:((at_:Int)+1)=((at_+1:Nat):Int):=by omega
 simp only[jM,Bd]at cr dz
 have oB:IntKind.i64.wrap ((at_:Int)-1)=(at_:Int)-1:=by rw[bG (by omega)]
 have ib:IntKind.i64.wrap ((at_:Int)+1)=((at_+1:Nat):Int):=by rw[bG (by omega)];rfl
 unfold Cz yX uR
 simp only[ZC,Za]
 rcases hI.cl with⟨h0,rfl,rfl⟩|⟨h0,b1,u1,c1,rfl,rfl⟩
 ·show WK _ _ _ _ (.keep _ _) _ _ _
  refine kH rfl ?_
  refine mM (fun rg σ'=>∃ (fZ:List dW) (jm:AV) (ej:Store),F.2=fZ++(dB k (at_+1:Nat) (at_:Nat) (src.drop (at_+1))).2∧oY 2 12 ((fZ.take 32).map dW.cells) jm ej∧σ'=(6,ba,.cells [iv (at_:Nat)])::(3,bb,.cells [jm])::([]++(ej++σ))∧
   rg=[(0,.sl nn 1 (src.map ck)),(2,gQ),(3,.lp 3 bb 0),(5,.pc kK),(6,.lp 6 ba 0),(8,uR bb ba)]) ?_ ?_
  ·repeat'(first|exact .nil|refine .k0 ?_|refine .k1 ?_|refine .k2 ?_|refine .k4 ?_|refine .k9 ?_|(refine .cd ?_ ?_<;>(intro hc;skip))|refine .r1 ?_ ?_|fail)
   try any_goals(exact Zo)
   all_goals(try simp only[BL]at *)
   ·rw[oB]at hc
    rw[Z8 (by rcases hc with h|h;exact .inl h;exact .inr h)]at dz
    refine jC rfl rfl (by rfl) (((E9 _ (at_:Nat) (all.take 32) (by rw[ZK];omega) bb ba dJ dq ([]++σ) hI.cb).wk (.cons (.refl _) (.cons .raw (.cons .raw .nil)))).permA ?_) .nil (fun x σ' hR=> ?_) (fun ch σ' hR=> ?_)
    ·exact .refl _
    ·obtain⟨x',ej,g1,e1,rfl⟩:=hR
     cases e1
     rw[Da]at g1
     repeat'(first|refine .k1 ?_|refine .k2 ?_|fail)
     exact ek.yr rfl ⟨all++[⟨(at_:Nat),(aS (src.drop at_)).2.2⟩],x',ej,by rw[dz,Zz];rfl,g1,rfl,rfl⟩ (.refl _)
    ·obtain⟨_,_,_,e1,_⟩:=hR;cases e1
   ·rw[oB]at hc
    rw[Z9 (by rintro(h|h);exact h hc.1;exact hc.2 h)]at dz
    exact ek.intro rfl ⟨all,dJ,dq,dz,hI.cb,rfl,rfl⟩
  ·rintro _ _ ⟨fZ,jm,ej,lL,vj,rfl,rfl⟩
   repeat'((fail_if_success (show WK _ _ _ _ (.goto _) _ _ _));(first|exact .nil|refine .k0 ?_|refine .k1 ?_|refine .k2 ?_|refine .r1 ?_ ?_|fail))
   rw[ib]
   refine sw ?_
   exact⟨_,rfl,2 * (src.length-(at_+1))+1,fun m h=>by have:=ep m h;omega,_,_,Zr,Zs,at_+1,k,(at_:Nat),toks,fZ,_,_,_,_,⟨by omega,by omega,by omega,by omega,cr,lL,.inl ⟨h0,rfl,rfl⟩,vj⟩,rfl,.inl ⟨rfl,rfl,rfl⟩⟩
 ·show WK _ _ _ _ (.keep _ _) _ _ _
  refine kH rfl ?_
  refine mM (fun rg σ'=>∃ (fZ:List dW) (jm:AV) (ej:Store),F.2=fZ++(dB k (at_+1:Nat) (at_:Nat) (src.drop (at_+1))).2∧oY 2 12 ((fZ.take 32).map dW.cells) jm ej∧σ'=(6,ba,.cells [iv (at_:Nat)])::(3,bb,.cells [jm])::([(58,b1,.tail u1 c1)]++(ej++σ))∧
   rg=[(0,.sl nn 1 (src.map ck)),(2,.own 3 58 b1 u1 c1 (toks.map Tok.cells)),(3,.lp 3 bb 0),(5,.pc kK),(6,.lp 6 ba 0),(8,uR bb ba)]) ?_ ?_
  ·repeat'(first|exact .nil|refine .k0 ?_|refine .k1 ?_|refine .k2 ?_|refine .k4 ?_|refine .k9 ?_|(refine .cd ?_ ?_<;>(intro hc;skip))|refine .r1 ?_ ?_|fail)
   try any_goals(exact Zo)
   all_goals(try simp only[BL]at *)
   ·rw[oB]at hc
    rw[Z8 (by rcases hc with h|h;exact .inl h;exact .inr h)]at dz
    refine jC rfl rfl (by rfl) (((E9 _ (at_:Nat) (all.take 32) (by rw[ZK];omega) bb ba dJ dq ([(58,b1,.tail u1 c1)]++σ) hI.cb).wk (.cons (.refl _) (.cons .raw (.cons .raw .nil)))).permA ?_) .nil (fun x σ' hR=> ?_) (fun ch σ' hR=> ?_)
    ·exact .cons _ (.cons _ (E2 _ _ _))
    ·obtain⟨x',ej,g1,e1,rfl⟩:=hR
     cases e1
     rw[Da]at g1
     repeat'(first|refine .k1 ?_|refine .k2 ?_|fail)
     exact ek.yr rfl ⟨all++[⟨(at_:Nat),(aS (src.drop at_)).2.2⟩],x',ej,by rw[dz,Zz];rfl,g1,rfl,rfl⟩ (.perm (.cons _ (.cons _ (E2 _ _ _).symm)) (.refl _))
    ·obtain⟨_,_,_,e1,_⟩:=hR;cases e1
   ·rw[oB]at hc
    rw[Z9 (by rintro(h|h);exact h hc.1;exact hc.2 h)]at dz
    exact ek.intro rfl ⟨all,dJ,dq,dz,hI.cb,rfl,rfl⟩
  ·rintro _ _ ⟨fZ,jm,ej,lL,vj,rfl,rfl⟩
   repeat'((fail_if_success (show WK _ _ _ _ (.goto _) _ _ _));(first|exact .nil|refine .k0 ?_|refine .k1 ?_|refine .k2 ?_|refine .r1 ?_ ?_|fail))
   rw[ib]
   refine sw ?_
   exact⟨_,rfl,2 * (src.length-(at_+1))+1,fun m h=>by have:=ep m h;omega,_,_,Zr,Zs,at_+1,k,(at_:Nat),toks,fZ,_,_,_,_,⟨by omega,by omega,by omega,by omega,cr,lL,.inr ⟨h0,b1,u1,c1,rfl,rfl⟩,vj⟩,rfl,.inl ⟨rfl,rfl,rfl⟩⟩
theorem Gx{P:Program}[Glob P]{N:Nat}{cfg:Nat→Nat}{Q Q':Exit→ag→Store→Prop}{a:AC}{rg:ag}{σ:Store}(h:WK P N cfg Q a [] rg σ)(hq:∀ e rg σ,Q e rg σ→Q' e rg σ):WK P N cfg Q' a [] rg σ:=⟨h.h.mono hq⟩
theorem JV{src:List UInt8}{nn:Bool}{bb ba:Nat}{σ:Store}{F:PF}{no:Option Nat}{l:Nat}{rg:ag}{bI:Store}(h:wX (JT src nn bb ba σ F) yt no l rg bI):wX (fun l n rg σ'=>∃ ba,JT src nn bb ba σ F l n rg σ') yt no l rg bI:=by
 obtain⟨cQ,h1,n',h2,ao,σ',h3,h4,h5⟩:=h
 exact⟨cQ,h1,n',h2,ao,σ',h3,h4,ba,h5⟩
theorem axb{P:Program}[Glob P]{N:Nat}{cfg:Nat→Nat}{Q:Exit→ag→Store→Prop}{a:AC}{k:List Fr}{σ:Store}{xs:List AV}{i0 i1 i2 i3:Nat}{r0 r1 r2:AV}(h:xs=kK)(hW:WK P N cfg Q a k [(i0,r0),(i1,r1),(i2,r2),(i3,.pc kK)] σ):WK P N cfg Q a k [(i0,r0),(i1,r1),(i2,r2),(i3,.pc xs)] σ:=by
 subst h;exact hW
theorem axg(hG:wT)(hA:wP)(src:List UInt8)(hl:src.length≤16384)(nn:Bool)(σ:Store):
  Sx.Spec Tryz.prog 42 [.sl nn 1 (src.map ck)] σ fun x σ'=>∃ (dJ:AV) (dq:Store),oY 2 12 ((eU src).2.map dW.cells) dJ dq∧x= .ret (.aT [.sl false 3 ((eU src).1.map Tok.cells),dJ,iv 0])∧σ'=dq++σ:=by
 have hF:(eU src).2=(dB src.length 0 (-1) src).2.take 32:=rfl
 have qR:(eU src).1=(dB src.length 0 (-1) src).1:=rfl
 suffices h:Sx.Spec Tryz.prog 42 [.sl nn 1 (src.map ck)] σ (RT σ (dB src.length 0 (-1) src)) by
  refine Spec.weak h fun x σ' ⟨lA,dJ,dq,h1,h2,h3,h4⟩=>⟨.ret (.aT [.sl false 3 ((eU src).1.map Tok.cells),dJ,iv 0]),dq++σ,⟨dJ,dq,by rw[hF];exact h1,rfl,rfl⟩,h4,?_⟩
  subst h2
  exact .aT (.cons (by rw[qR];exact h3) (.cons (.refl _) (.cons (.refl _) .nil)))
 refine Spec.dF (fun _=>0) Tryz.func42 Oh OW (Z7 rfl) ?_
 first|refine .k1 ?_|fail
 first|refine .k2 ?_|fail
 repeat'((fail_if_success (show WK _ _ _ _ _ _ _ _));(first|exact .nil|refine .k0 ?_|refine .k1 ?_|refine .r1 ?_ ?_|(refine .l1 ?_;intro b)|fail))
 rename Nat=>bb
 refine kH rfl ?_
 generalize P7:dB src.length 0 (-1) src=F
 refine Gy (fun l n rg σ'=>∃ ba,JT src nn bb ba σ F l n rg σ') yt ?_ ?_
 ·repeat'((fail_if_success (show VX _ _ (⟨_,.alloc _ (.agg _),_⟩::_) _ _ _ _));(first|exact .nil|refine .k0 ?_|refine .k1 ?_|refine .k2 ?_|refine .k7 ?_|refine .k9 ?_|(refine .cd ?_ ?_<;>(intro hc;skip))|refine .r1 ?_ ?_|(refine .m2 ?_ ?_;intro hlen)|refine .an rfl (by intro br;exact Oc) ?_ ?_|fail))
  all_goals(try simp only[BL]at *)
  ·exact absurd hc (by omega)
  ·refine Ak (cs:=oU) rfl (fun b5=> ?_)
   repeat'((fail_if_success (show WK _ _ _ _ _ _ _ _));(first|exact .nil|refine .k0 ?_|refine .k1 ?_|refine .r1 ?_ ?_|fail))
   repeat'((fail_if_success (show WK _ _ _ _ (.keep _ _) _ _ _));(fail))
   refine kH rfl ?_
   refine Gw 5 b5 .here (.same (.same (.same (.p0 .nil)))) ?_
   refine axb (by kernel_rfl) ?_
   clear hc
   repeat'((fail_if_success (show WK _ _ _ _ (.seq (.label _) _) _ _ _));(first|exact .nil|refine .k0 ?_|refine .k1 ?_|refine .k2 ?_|refine .r1 ?_ ?_|(refine .l1 ?_;intro b)|fail))
   rename Nat=>ba
   refine xg (MK (zY ?_))
   have hle:src.length≤16384:=hl
   refine Gx (Sd hG hA src hl nn bb ba σ F none 0 src.length (-1) [] [] gQ gQ [] [] ⟨ZH _,Nat.sub_le _ _,ZR _,by decide,P7.symm ▸ rfl,P7.symm ▸ rfl,.inl ⟨rfl,rfl,rfl⟩,.inl ⟨rfl,rfl,rfl⟩⟩ (fun m h=>nomatch h)) fun e rg σ' h=> ?_
   cases e<;>first|exact h|exact JV h
 ·rintro l n _ _ ⟨ba,at_,k,dG,toks,all,lV,dJ,kB,dq,hI,rfl,⟨rfl,rfl,rfl⟩|⟨rfl,fP,rfl,hp,rfl⟩⟩
  ·refine⟨_,rfl,?_⟩
   refine Gx (xg (Gz (zY (Sd hG hA src hl nn bb ba σ F (some _) at_ k dG toks all lV dJ kB dq hI fun m h=>(Y2 h).symm)))) fun e rg σ' h=> ?_
   cases e<;>first|exact h|exact JV h
  ·refine⟨_,rfl,?_⟩
   refine Gx (xg (Gz (zY (af9 src hl nn bb ba σ F (some _) at_ k dG toks all lV dJ kB dq hI fP hp fun m h=>(Y2 h).symm)))) fun e rg σ' h=> ?_
   cases e<;>first|exact h|exact JV h
theorem axf(src:List UInt8)(hl:16384<src.length)(nn:Bool)(σ:Store):
  Sx.Spec Tryz.prog 42 [.sl nn 1 (src.map ck)] σ fun x σ'=>x= .ret (.aT [gQ,gQ,iv 2])∧σ'=σ:=by
 suffices h:Sx.Spec Tryz.prog 42 [.sl nn 1 (src.map ck)] σ (fun x σ'=>x= .ret (.aT [gQ,gQ,iv 2])∧Sub σ σ') by
  refine Spec.weak h fun x σ' ⟨h2,h4⟩=>⟨.ret (.aT [gQ,gQ,iv 2]),σ,⟨rfl,rfl⟩,h4,?_⟩
  subst h2
  exact .refl _
 refine Spec.dF (fun _=>0) Tryz.func42 Oh OW (Z7 rfl) ?_
 first|refine .k1 ?_|fail
 first|refine .k2 ?_|fail
 repeat'((fail_if_success (show WK _ _ _ _ _ _ _ _));(first|exact .nil|refine .k0 ?_|refine .k1 ?_|refine .r1 ?_ ?_|(refine .l1 ?_;intro b)|fail))
 rename Nat=>bb
 refine kH rfl ?_
 refine Gy (fun l n rg σ'=>False) yt ?_ (fun _ _ _ _ h=>h.elim)
 ·repeat'((fail_if_success (show VX _ _ (⟨_,.alloc _ (.agg _),_⟩::_) _ _ _ _));(first|exact .nil|refine .k0 ?_|refine .k1 ?_|refine .k2 ?_|refine .k7 ?_|refine .k9 ?_|(refine .cd ?_ ?_<;>(intro hc;skip))|refine .r1 ?_ ?_|(refine .m2 ?_ ?_;intro hlen)|refine .an rfl (by intro br;exact Oc) ?_ ?_|fail))
  all_goals(try simp only[BL]at *)
  ·refine vG ?_
   repeat'(first|exact .nil|refine .k0 ?_|refine .r1 ?_ ?_|fail)
   exact⟨rfl,Zs⟩
  ·exact absurd hl (by omega)
end Go.Proofs.YtcccbdelfhgmlaaGreatDoor
namespace Go.Proofs.YtcccbdelfhgmlaaGreatDoor
open Go.Sx Go.Proofs
theorem C5{P:Program}[Glob P]{N i:Nat}{v:Value}{Q:Exit→ag→Store→Prop}{rg ao:ag}{σ:Store}{s:SC}{ks:List Nat}(hk:fG ks rg=ao)(h:eO P N i v s Q ao σ):eO P N i v s Q rg σ:=by
 intro c hc hf M w0 a w hI hR hN hD hv
 refine h c hc hf M w0 a w hI ?_ hN hD hv
 rw[← hk]
 exact hR.fG _
theorem WJ{P:Program}[Glob P]{N i:Nat}{v:Value}{Q:Exit→ag→Store→Prop}{rg:ag}{σ σ':Store}{s:SC}(hp:σ.Perm σ')(h:eO P N i v s Q rg σ'):eO P N i v s Q rg σ:=
 fun c hc hf M w0 a w hI hR hN hD hv=>h c hc hf M w0 a w (hI.perm hp) hR hN hD hv
end Go.Proofs.YtcccbdelfhgmlaaGreatDoor
