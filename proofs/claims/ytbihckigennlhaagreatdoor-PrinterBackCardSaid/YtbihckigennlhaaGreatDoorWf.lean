/- v, ok := m[k]. -/
import Derived.Test.YtbihckigennlhaaGreatDoorWe
import Derived.Test.YtbihckigennlhaaGreatDoorVc
import Derived.Test.YtbihckigennlhaaGreatDoorUe
import Derived.Test.YtbihckigennlhaaGreatDoorTj
set_option linter.unusedSimpArgs false
set_option linter.unusedVariables false
set_option linter.unusedSectionVars false
set_option maxRecDepth 100000
namespace Go.Sx
open Go.RowKit Go.Proofs
section
variable {P:Program}[Glob P]{σ:Store}
end
theorem SWp_regk{P:Program}[Glob P]{N i:Nat}{v:Value}{cfg:Nat→Nat}{Q:Exit→Regs→Store→Prop}{rg:Regs}{σ:Store}{l:List CI}(h:WK P N cfg Q (.reg l) [] rg σ):SWp P N i v (.reg l) Q rg σ:=SWp_reg h.h.h
end Go.Sx
namespace Go.Proofs.YtbihckigennlhaaGreatDoor
open Go.Sx Go.Proofs
end Go.Proofs.YtbihckigennlhaaGreatDoor
set_option maxHeartbeats 4000000
namespace Go.Proofs.YtbihckigennlhaaGreatDoor
open Go.Sx Go.Proofs Go.RowKit
def addB(bad:List Prb)(p:Prb):List Prb:=if bad.length<32 then bad++[p]else bad
theorem addB_take(all:List Prb)(p:Prb):addB (all.take 32) p=(all++[p]).take 32:=by
 unfold addB
 rw[List.length_take]
 by_cases h:all.length<32
 ·rw[if_pos (by omega),List.take_of_length_le (by omega),List.take_of_length_le (by simp;omega)]
 ·rw[if_neg (by omega),List.take_append_of_le_length (by omega)]
def ColU(e tg:Nat)(rows:List (List AV))(x:AV)(τ:Store):Prop:=(rows=[]∧x=nilS∧τ=[])∨(rows≠[]∧∃ bb u c,x= .own e tg bb u c rows∧τ=[(tg,bb,.tail u c)]∧u=rows.length * e)
theorem report_ok(cd:Int)(at_:Int)(bad:List Prb)(hb32:bad.length≤32)(bb ba:Nat)(x:AV)(τb τ0:Store)(hS:ColU 2 12 (bad.map Prb.cells) x τb):
  Sx.Spec Tryz.prog 48 [iv cd,.lp 3 bb 0,.lp 6 ba 0] ((6,ba,.cells [iv at_])::(3,bb,.cells [x])::(τb++τ0))
   fun r σ'=>∃ x' τb',ColU 2 12 ((addB bad ⟨at_,cd⟩).map Prb.cells) x' τb'∧r= .ret (.tup [])∧σ'=(6,ba,.cells [iv at_])::(3,bb,.cells [x'])::(τb'++τ0):=by
 suffices h:Sx.Spec Tryz.prog 48 [iv cd,.lp 3 bb 0,.lp 6 ba 0] ((6,ba,.cells [iv at_])::(3,bb,.cells [x])::(τb++τ0))
   fun r σ'=>∃ x' τb' σ2,ColU 2 12 ((addB bad ⟨at_,cd⟩).map Prb.cells) x' τb'∧r= .ret (.tup [])∧σ'.Perm σ2∧σ2=(6,ba,.cells [iv at_])::(3,bb,.cells [x'])::(τb'++τ0) by
  exact Spec.permR h fun r σ' ⟨x',τb',σ2,h1,h2,h3,h4⟩=>⟨σ2,h3,x',τb',h1,h2,h4⟩
 unfold addB
 rcases hS with⟨h0,rfl,rfl⟩|⟨h0,b1,u1,c1,rfl,rfl,hu1⟩
 ·have h0':bad=[]:=List.map_eq_nil_iff.1 h0
  subst h0'
  refine Spec.runk (fun _=>0) Tryz.func48 comp48 era48 (Nat.le_of_ble_eq_true rfl) ?_
  repeat'((fail_if_success (show VX _ _ (⟨_,.append _ _ _ _ _ _,_⟩::_) _ _ _ _));(first|exact .nil|refine .k0 ?_|refine .k1 ?_|refine .k2 ?_|refine .k3 ?_|refine .k9 ?_|(refine .cd ?_ ?_<;>(intro hc;skip))|refine .r1 ?_ ?_|refine .r2 ?_ ?_|refine .r8 ?_ ?_|fail))
  all_goals try refine VX_app0u rfl rfl ?_ ?_ ?_ (fun b u c hu=> ?_)
  repeat'(first|exact .nil|refine .k0 ?_|refine .k1 ?_|refine .k3 ?_|refine .r1 ?_ ?_|refine .r2 ?_ ?_|fail)
  try any_goals(exact Zo)
  all_goals(try simp only[BL]at *)
  ·exact Nat.le_of_ble_eq_true rfl
  ·exact Nat.le_of_ble_eq_true rfl
  ·exact⟨.own 2 12 b u c [[iv at_,iv cd]],[(12,b,.tail u c)],_,.inr ⟨by simp,b,u,c,by simp[Prb.cells],rfl,by rw[hu];rfl⟩,trivial,(List.perm_middle (l₁:=[_,_])).symm,rfl⟩
  ·exact absurd (show((0:Nat):Int)<32 by decide) hc
 ·refine Spec.runk (fun _=>0) Tryz.func48 comp48 era48 (Nat.le_of_ble_eq_true rfl) ?_
  repeat'((fail_if_success (show VX _ _ (⟨_,.append _ _ _ _ _ _,_⟩::_) _ _ _ _));(first|exact .nil|refine .k0 ?_|refine .k1 ?_|refine .k2 ?_|refine .k3 ?_|refine .k9 ?_|(refine .cd ?_ ?_<;>(intro hc;skip))|refine .r1 ?_ ?_|(refine .m2 ?_ ?_;intro hlen)|refine .r2 ?_ ?_|fail))
  all_goals try refine VX_appu rfl rfl rfl ?_ ?_ ?_ (fun b u c hu=> ?_)
  repeat'(first|exact .nil|refine .k0 ?_|refine .k1 ?_|refine .k3 ?_|refine .r1 ?_ ?_|refine .r2 ?_ ?_|(show List.all _ _=true;rfl)|fail)
  all_goals(try simp only[BL]at *)
  ·exact Nat.le_of_ble_eq_true rfl
  ·show(_+1) * 16≤_;rw[List.length_map];omega
  ·rw[if_pos (by omega)]
   exact⟨.own 2 12 b u c (bad.map Prb.cells++[[iv at_,iv cd]]),[(12,b,.tail u c)],_,.inr ⟨by simp,b,u,c,by simp[Prb.cells],rfl,by rw[hu hu1];simp⟩,trivial,.refl _,rfl⟩
  ·rw[if_neg (by omega)]
   exact⟨_,_,_,.inr ⟨h0,b1,u1,c1,rfl,rfl,hu1⟩,trivial,.refl _,rfl⟩
def bodyT:AC:=match a15 with
 | .seq _ (.keep _ (.scope b))=>b
 |a=>a
def restT(l:Nat):AC:=match labA bodyT l with
 |some (.seq _ b)=>b
 |_=> .skip
def ksT(l:Nat):List Nat:=bif Nat.beq l 0 then[0,2,3,5,6,7,8]else[0,2,3,5,6,7,8,11]
def cloT(bb ba:Nat):AV:= .v (.func (.func 48) #[] #[.pointer (some ⟨bb,0,none⟩),.pointer (some ⟨ba,0,none⟩)])
abbrev PF:=List Tok×List Prb
structure LxI(src:List UInt8)(F:PF)(at_ k:Nat)(strange:Int)(toks:List Tok)(all:List Prb)(lV badV:AV)(τl τb:Store):Prop where
 le:at_≤src.length
 fu:src.length-at_≤k
 tl:toks.length≤at_
 st: -1≤strange∧strange≤16384
 f1:F.1=toks++(lexL k at_ strange (src.drop at_)).1
 f2:F.2=all++(lexL k at_ strange (src.drop at_)).2
 cl:ColS 3 58 (toks.map Tok.cells) lV τl
 cb:ColU 2 12 ((all.take 32).map Prb.cells) badV τb
def stT(bb ba:Nat)(σ:Store)(at_:Nat)(badV:AV)(τl τb:Store):Store:=(6,ba,.cells [iv (at_:Nat)])::(3,bb,.cells [badV])::(τl++(τb++σ))
def rgT(src:List UInt8)(nn:Bool)(bb ba:Nat)(lV:AV)(strange:Int)(more:Regs):Regs:=[(0,.sl nn 1 (src.map byteRow)),(2,lV),(3,.lp 3 bb 0),(5,.pc clsV),(6,.lp 6 ba 0),(7,iv strange),(8,cloT bb ba)]++more
def JT(src:List UInt8)(nn:Bool)(bb ba:Nat)(σ:Store)(F:PF)(l n:Nat)(rg:Regs)(σ':Store):Prop:=
 ∃ (at_ k:Nat) (strange:Int) (toks:List Tok) (all:List Prb) (lV badV:AV) (τl τb:Store),LxI src F at_ k strange toks all lV badV τl τb∧σ'=stT bb ba σ at_ badV τl τb∧
  ((l=0∧n=2 * (src.length-at_)+1∧rg=rgT src nn bb ba lV strange [])∨(l=1∧at_<src.length∧n=2 * (src.length-at_)∧(pieceL (src.drop at_)).1= -1∧rg=rgT src nn bb ba lV strange [(11,iv (pieceL (src.drop at_)).2.2)]))
def RT(σ:Store)(F:PF)(x:Res)(σ':Store):Prop:=∃ (lA badV:AV) (τb:Store),ColU 2 12 ((F.2.take 32).map Prb.cells) badV τb∧x= .ret (.tup [lA,badV,iv 0])∧Wk lA (.sl false 3 (F.1.map Tok.cells))∧Sub (τb++σ) σ'
theorem perm_own{α:Type}(e:α)(l1 l2:List α):([e]++(l1++l2)).Perm (l1++([e]++l2)):=by
 rw[List.singleton_append,List.singleton_append];exact List.perm_middle.symm
theorem piece_4:∀ s:List UInt8,(pieceL s).1=4→2≤(pieceL s).2.1
 |[],h=>by cases h
 |c::r,h=>by
  by_cases h1:clsB c=1
  ·rw[p_1 h1]at h;cases h
  by_cases h6:clsB c=6
  ·rw[p_6 h6]at h;cases h
  by_cases h2:clsB c=2
  ·rw[p_2 h2]at h;cases h
  by_cases h3:clsB c=3
  ·rw[p_3 h3]at h;split at h<;>cases h
  by_cases h5:clsB c=5
  ·rw[p_5 h5]at h ⊢;split at h
   ·rename_i h7;rw[if_pos h7];simp
   ·cases h
  by_cases h7:clsB c=7∨clsB c=8
  ·rw[p_7 h7]at h;repeat' split at h
   all_goals cases h
  ·rw[p_0 ⟨h1,h6,h2,h3,h5,fun e=>h7 (.inl e),fun e=>h7 (.inr e)⟩]at h;cases h
theorem lex_main(hG:GreatOk)(hA:AnyOk)(src:List UInt8)(hl:src.length≤16384)(nn:Bool)(bb ba:Nat)(σ:Store)(F:PF)(no:Option Nat)(at_ k:Nat)(strange:Int)(toks:List Tok)(all:List Prb)(lV badV:AV)(τl τb:Store)
  (hI:LxI src F at_ k strange toks all lV badV τl τb) (hno:∀ m,no=some m→m=2 * (src.length-at_)+1):
  WK Tryz.prog c15.N (fun _=>0) (jumpQ (JumpW (JT src nn bb ba σ F) ksT no) (fun e=>FK Tryz.prog c15.N (fun _=>0) (retQ c15.res (RT σ F)) e [])) (restT 0) [] (rgT src nn bb ba lV strange []) (stT bb ba σ at_ badV τl τb):=by
 have hle:=hI.le
 have hfu:=hI.fu
 have htl:=hI.tl
 unfold stT rgT cloT
 simp only[List.append_nil]
 rcases hI.cl with⟨h0,rfl,rfl⟩|⟨h0,b1,u1,c1,rfl,rfl⟩
 ·show WK _ _ _ _ (.keep _ _) _ _ _
  repeat'((fail_if_success (show WK _ _ _ _ (.mreg _ _) _ _ _));(fail_if_success (show WK _ _ _ _ (.seq (.block _ _) _) _ _ _));(first|exact .nil|refine .k0 ?_|refine .k1 ?_|refine .k2 ?_|refine .k9 ?_|(refine .cd ?_ ?_<;>(intro hc;skip))|refine .r1 ?_ ?_|(refine .m2 ?_ ?_;intro hlen)|refine .an rfl (by intro hob;exact piece_ok hG hA src hl nn at_ (by(simp at hc;omega))) ?_ ?_|fail))
  try any_goals(exact List.cons_ne_nil _ _)
  all_goals(try simp only[BL]at *)
  ·have hat:at_=src.length:=by omega
   have hd:src.drop at_=[]:=List.drop_of_length_le (by omega)
   have hF1:F.1=toks++[⟨6,⟨#[]⟩,(at_:Nat)⟩]:=by rw[hI.f1,hd,lex_nil]
   have hF2:F.2=all:=by rw[hI.f2,hd,lex_nil,List.append_nil]
   rcases hI.cb with⟨g0,rfl,rfl⟩|⟨g0,b2,u2,c2,rfl,rfl,hu2⟩
   all_goals
    repeat'(first|exact .nil|refine .k0 ?_|refine .k1 ?_|refine .k3 ?_|refine .k7 ?_|refine .r1 ?_ ?_|refine .u1 ?_ ?_ ?_ (fun b u c=> ?_)|fail)
    try any_goals(exact List.cons_ne_nil _ _)
    ·exact Nat.le_of_ble_eq_true rfl
    ·exact Nat.le_of_ble_eq_true rfl
    refine jumpQ_ret ?_
    repeat'(first|exact .nil|refine .k0 ?_|refine .r1 ?_ ?_|fail)
    refine⟨_,_,_,by rw[hF2];exact hI.cb,rfl,?_,Zs⟩
    exact(by rw[hF1,List.map_eq_nil_iff.1 h0];exact .own false)
  ·have hat:at_<src.length:=by omega
   have hps:src.drop at_≠[]:=fun h=>by have:=congrArg List.length h;rw[List.length_drop]at this;simp at this;omega
   obtain⟨k,rfl⟩:∃ k',k=k'+1:=⟨k-1,by omega⟩
   have hL:=lex_step k at_ strange hps
   have hpl:=piece_len hps
   have hp4:=piece_4 (src.drop at_)
   rw[List.length_drop]at hpl
   have hI2:=hI.f1
   have hI3:=hI.f2
   rw[hL]at hI2 hI3
   have hdd:∀ n:Nat,(src.drop at_).drop n=src.drop (at_+n):=fun n=>List.drop_drop
   simp only[hdd]at hI2 hI3
   have hcast:∀ n:Nat,((at_:Int)+(n:Nat))=((at_+n:Nat):Int):=fun n=>by omega
   simp only[hcast]at hI2 hI3
   obtain⟨p,hp⟩:∃ p,pieceL (src.drop at_)=p:=⟨_,rfl⟩
   simp only[hp]at hpl hI2 hI3 hp4 ⊢
   refine WK_join (fun rg σ'=>∃ (toks':List Tok) (all':List Prb) (lV' badV':AV) (τl' τb':Store),(F.1=toks'++(lexL k (at_+p.2.1:Nat) strange (src.drop (at_+p.2.1))).1∧F.2=all'++(lexL k (at_+p.2.1:Nat) strange (src.drop (at_+p.2.1))).2)∧toks'.length≤at_+1∧
    ColS 3 58 (toks'.map Tok.cells) lV' τl'∧ColU 2 12 ((all'.take 32).map Prb.cells) badV' τb'∧σ'=(6,ba,.cells [iv (at_:Nat)])::(3,bb,.cells [badV'])::(τl'++(τb'++σ))∧
    rg=[(0,.sl nn 1 (src.map byteRow)),(2,lV'),(3,.lp 3 bb 0),(5,.pc clsV),(6,.lp 6 ba 0),(7,iv strange),(8,cloT bb ba),(10,iv (at_+p.2.1:Nat))]) ?_ ?_
   ·have hw1:IntKind.i64.wrap ((at_:Int)+1)=((at_+1:Nat):Int):=by rw[i64w (by omega)];rfl
    have hw2:IntKind.i64.wrap (((at_+p.2.1:Nat):Int)-1)=((at_+p.2.1-1:Nat):Int):=by rw[i64w (by omega)];omega
    repeat'((fail_if_success (show WK _ _ _ _ (.goto _) _ _ _));(first|exact .nil|refine .k0 ?_|refine .k1 ?_|refine .k2 ?_|refine .k4 ?_|refine .k6 ?_|refine .k9 ?_|(refine .cd ?_ ?_<;>(intro hc;skip))|refine .r1 ?_ ?_|refine .r8 ?_ ?_|fail))
    try any_goals(exact List.cons_ne_nil _ _)
    all_goals(try simp only[BL]at *)
    ·refine WK_goto ?_
     exact⟨_,rfl,2 * (src.length-at_),fun m h=>by have:=hno m h;omega,_,_,Zr,Zs,at_,k+1,strange,toks,all,_,_,_,_,hI,rfl,.inr ⟨rfl,hat,rfl,by rw[hp];exact hc,by rw[hp];rfl⟩⟩
    ·rename_i h1
     rw[if_neg h1,if_pos hc]at hI2 hI3
     refine VX_specv rfl rfl (by rfl) (((report_ok p.2.2 (at_:Nat) (all.take 32) (by rw[List.length_take];omega) bb ba badV τb ([]++σ) hI.cb).wk (.cons (.refl _) (.cons .raw (.cons .raw .nil)))).permA ?_) .nil (fun x σ' hR=> ?_) (fun ch σ' hR=> ?_)
     ·exact .refl _
     ·obtain⟨x',τb',g1,e1,rfl⟩:=hR
      cases e1
      rw[addB_take]at g1
      repeat'(first|refine .k1 ?_|refine .k2 ?_|fail)
      exact JoinW.introS rfl ⟨toks,all++[⟨(at_:Nat),p.2.2⟩],nilS,x',[],τb',⟨hI2,by rw[hI3,List.append_assoc];rfl⟩,by omega,.inl ⟨h0,rfl,rfl⟩,g1,rfl,rfl⟩ (.refl _)
     ·obtain⟨_,_,_,e1,_⟩:=hR;cases e1
    ·simp only[hw1,hw2,List.length_map]
     have:=hp4 hc
     exact⟨trivial,by omega,by omega,by omega⟩
    ·rename_i h1 h2
     simp only[hw1,hw2,Int.toNat_natCast]
     rw[if_neg h1,if_neg (fun h=>h h2),if_pos hc]at hI2 hI3
     rw[← List.map_take,← List.map_drop]
     obtain⟨T,hT⟩:∃ T:Tok,T=⟨4,⟨((src.take (at_+p.2.1-1)).drop (at_+1)).toArray⟩,(at_:Nat)⟩:=⟨_,rfl⟩
     have hT2:(⟨4,⟨(((src.drop at_).take (p.2.1-1)).drop 1).toArray⟩,(at_:Nat)⟩:Tok)=T:=by
      rw[hT];congr 3
      have:=hp4 hc
      rw[show p.2.1-1=(at_+p.2.1-1)-at_ by omega,← List.drop_take,List.drop_drop]
     rw[hT2]at hI2
     have hTc:Tok.cells T=[iv p.1,sv ⟨((src.take (at_+p.2.1-1)).drop (at_+1)).toArray⟩,iv (at_:Nat)]:=by rw[hT,hc];rfl
     clear hT hT2
     repeat'(first|exact .nil|refine .k0 ?_|refine .k1 ?_|refine .k2 ?_|refine .r1 ?_ ?_|refine .u1 ?_ ?_ ?_ (fun b u c=> ?_)|refine .r5 ?_ ?_|fail)
     try any_goals(exact List.cons_ne_nil _ _)
     ·exact Nat.le_of_ble_eq_true rfl
     ·exact Nat.le_of_ble_eq_true rfl
     exact JoinW.introS rfl ⟨toks++[T],all,.own 3 58 b u c [[iv p.1,sv ⟨((src.take (at_+p.2.1-1)).drop (at_+1)).toArray⟩,iv (at_:Nat)]],badV,[(58,b,.tail u c)],τb,⟨by rw[hI2,List.append_assoc];rfl,hI3⟩,by rw[List.length_append];simp;omega,.inr ⟨by simp,b,u,c,by rw[List.map_eq_nil_iff.1 h0,List.nil_append,List.map_cons,List.map_nil,hTc],rfl⟩,hI.cb,rfl,rfl⟩ (.perm (List.perm_middle (l₁:=[_,_])).symm (.refl _))
    ·simp only[List.length_map]
     exact⟨trivial,by omega,by omega,by omega⟩
    ·rename_i h1 h2 h3
     rw[if_neg h1,if_neg (fun h=>h h2),if_neg h3,if_pos hc]at hI2 hI3
     rw[← List.map_take,← List.map_drop]
     obtain⟨T,hT⟩:∃ T:Tok,T=⟨p.1,⟨((src.take (at_+p.2.1)).drop at_).toArray⟩,(at_:Nat)⟩:=⟨_,rfl⟩
     have hT2:(⟨p.1,⟨((src.drop at_).take p.2.1).toArray⟩,(at_:Nat)⟩:Tok)=T:=by
      rw[hT];congr 3
      rw[List.drop_take];congr 1;omega
     rw[hT2]at hI2
     have hTc:Tok.cells T=[iv p.1,sv ⟨((src.take (at_+p.2.1)).drop at_).toArray⟩,iv (at_:Nat)]:=by rw[hT];rfl
     clear hT hT2
     repeat'(first|exact .nil|refine .k0 ?_|refine .k1 ?_|refine .k2 ?_|refine .r1 ?_ ?_|refine .u1 ?_ ?_ ?_ (fun b u c=> ?_)|refine .r5 ?_ ?_|fail)
     try any_goals(exact List.cons_ne_nil _ _)
     ·exact Nat.le_of_ble_eq_true rfl
     ·exact Nat.le_of_ble_eq_true rfl
     exact JoinW.introS rfl ⟨toks++[T],all,.own 3 58 b u c [[iv p.1,sv ⟨((src.take (at_+p.2.1)).drop at_).toArray⟩,iv (at_:Nat)]],badV,[(58,b,.tail u c)],τb,⟨by rw[hI2,List.append_assoc];rfl,hI3⟩,by rw[List.length_append];simp;omega,.inr ⟨by simp,b,u,c,by rw[List.map_eq_nil_iff.1 h0,List.nil_append,List.map_cons,List.map_nil,hTc],rfl⟩,hI.cb,rfl,rfl⟩ (.perm (List.perm_middle (l₁:=[_,_])).symm (.refl _))
    ·rename_i h1 h2 h3
     rw[if_neg h1,if_neg (fun h=>h h2),if_neg h3,if_neg (fun h=>h hc)]at hI2 hI3
     exact JoinW.intro rfl ⟨toks,all,nilS,badV,[],τb,⟨hI2,hI3⟩,by omega,.inl ⟨h0,rfl,rfl⟩,hI.cb,rfl,rfl⟩
   ·rintro _ _ ⟨toks',all',lV',badV',τl',τb',⟨hF1,hF2⟩,htl',hcl',hcb',rfl,rfl⟩
    have hlow:at_+p.2.1≤src.length:=by omega
    have hIn:∀ (lV2:AV) (τl2:Store),ColS 3 58 (toks'.map Tok.cells) lV2 τl2→LxI src F (at_+p.2.1) k strange toks' all' lV2 badV' τl2 τb':=fun lV2 τl2 h=>⟨hlow,by omega,by omega,hI.st,hF1,hF2,h,hcb'⟩
    rcases hcl' with⟨g0,rfl,rfl⟩|⟨g0,b3,u3,c3,rfl,rfl⟩
    ·repeat'((fail_if_success (show WK _ _ _ _ (.goto _) _ _ _));(first|exact .nil|refine .k0 ?_|refine .k1 ?_|refine .k2 ?_|refine .r1 ?_ ?_|fail))
     refine WK_goto ?_
     exact⟨_,rfl,2 * (src.length-(at_+p.2.1))+1,fun m h=>by have:=hno m h;omega,_,_,Zr,Zs,at_+p.2.1,k,strange,toks',all',_,_,_,_,hIn _ _ (.inl ⟨g0,rfl,rfl⟩),rfl,.inl ⟨rfl,rfl,rfl⟩⟩
    ·repeat'((fail_if_success (show WK _ _ _ _ (.goto _) _ _ _));(first|exact .nil|refine .k0 ?_|refine .k1 ?_|refine .k2 ?_|refine .r1 ?_ ?_|fail))
     refine WK_goto ?_
     exact⟨_,rfl,2 * (src.length-(at_+p.2.1))+1,fun m h=>by have:=hno m h;omega,_,_,Zr,Zs,at_+p.2.1,k,strange,toks',all',_,_,_,_,hIn _ _ (.inr ⟨g0,b3,u3,c3,rfl,rfl⟩),rfl,.inl ⟨rfl,rfl,rfl⟩⟩
 ·show WK _ _ _ _ (.keep _ _) _ _ _
  repeat'((fail_if_success (show WK _ _ _ _ (.mreg _ _) _ _ _));(fail_if_success (show WK _ _ _ _ (.seq (.block _ _) _) _ _ _));(first|exact .nil|refine .k0 ?_|refine .k1 ?_|refine .k2 ?_|refine .k9 ?_|(refine .cd ?_ ?_<;>(intro hc;skip))|refine .r1 ?_ ?_|(refine .m2 ?_ ?_;intro hlen)|refine .an rfl (by intro hob;exact piece_ok hG hA src hl nn at_ (by(simp at hc;omega))) ?_ ?_|fail))
  try any_goals(exact List.cons_ne_nil _ _)
  all_goals(try simp only[BL]at *)
  ·have hat:at_=src.length:=by omega
   have hd:src.drop at_=[]:=List.drop_of_length_le (by omega)
   have hF1:F.1=toks++[⟨6,⟨#[]⟩,(at_:Nat)⟩]:=by rw[hI.f1,hd,lex_nil]
   have hF2:F.2=all:=by rw[hI.f2,hd,lex_nil,List.append_nil]
   rcases hI.cb with⟨g0,rfl,rfl⟩|⟨g0,b2,u2,c2,rfl,rfl,hu2⟩
   all_goals
    repeat'(first|exact .nil|refine .k0 ?_|refine .k1 ?_|refine .k3 ?_|refine .k7 ?_|refine .r1 ?_ ?_|refine .u2 ?_ ?_ ?_ (fun b u c=> ?_)|(show List.all _ _=true;rfl)|fail)
    try any_goals(exact List.cons_ne_nil _ _)
    ·exact Nat.le_of_ble_eq_true rfl
    ·show(_+1) * 32≤_;rw[List.length_map];omega
    refine jumpQ_ret ?_
    repeat'(first|exact .nil|refine .k0 ?_|refine .r1 ?_ ?_|fail)
    refine⟨_,_,_,by rw[hF2];exact hI.cb,rfl,?_,Zs⟩
    exact(by rw[hF1,List.map_append];exact .own false)
  ·have hat:at_<src.length:=by omega
   have hps:src.drop at_≠[]:=fun h=>by have:=congrArg List.length h;rw[List.length_drop]at this;simp at this;omega
   obtain⟨k,rfl⟩:∃ k',k=k'+1:=⟨k-1,by omega⟩
   have hL:=lex_step k at_ strange hps
   have hpl:=piece_len hps
   have hp4:=piece_4 (src.drop at_)
   rw[List.length_drop]at hpl
   have hI2:=hI.f1
   have hI3:=hI.f2
   rw[hL]at hI2 hI3
   have hdd:∀ n:Nat,(src.drop at_).drop n=src.drop (at_+n):=fun n=>List.drop_drop
   simp only[hdd]at hI2 hI3
   have hcast:∀ n:Nat,((at_:Int)+(n:Nat))=((at_+n:Nat):Int):=fun n=>by omega
   simp only[hcast]at hI2 hI3
   obtain⟨p,hp⟩:∃ p,pieceL (src.drop at_)=p:=⟨_,rfl⟩
   simp only[hp]at hpl hI2 hI3 hp4 ⊢
   refine WK_join (fun rg σ'=>∃ (toks':List Tok) (all':List Prb) (lV' badV':AV) (τl' τb':Store),(F.1=toks'++(lexL k (at_+p.2.1:Nat) strange (src.drop (at_+p.2.1))).1∧F.2=all'++(lexL k (at_+p.2.1:Nat) strange (src.drop (at_+p.2.1))).2)∧toks'.length≤at_+1∧
    ColS 3 58 (toks'.map Tok.cells) lV' τl'∧ColU 2 12 ((all'.take 32).map Prb.cells) badV' τb'∧σ'=(6,ba,.cells [iv (at_:Nat)])::(3,bb,.cells [badV'])::(τl'++(τb'++σ))∧
    rg=[(0,.sl nn 1 (src.map byteRow)),(2,lV'),(3,.lp 3 bb 0),(5,.pc clsV),(6,.lp 6 ba 0),(7,iv strange),(8,cloT bb ba),(10,iv (at_+p.2.1:Nat))]) ?_ ?_
   ·have hw1:IntKind.i64.wrap ((at_:Int)+1)=((at_+1:Nat):Int):=by rw[i64w (by omega)];rfl
    have hw2:IntKind.i64.wrap (((at_+p.2.1:Nat):Int)-1)=((at_+p.2.1-1:Nat):Int):=by rw[i64w (by omega)];omega
    repeat'((fail_if_success (show WK _ _ _ _ (.goto _) _ _ _));(first|exact .nil|refine .k0 ?_|refine .k1 ?_|refine .k2 ?_|refine .k4 ?_|refine .k6 ?_|refine .k9 ?_|(refine .cd ?_ ?_<;>(intro hc;skip))|refine .r1 ?_ ?_|refine .r8 ?_ ?_|fail))
    try any_goals(exact List.cons_ne_nil _ _)
    all_goals(try simp only[BL]at *)
    ·refine WK_goto ?_
     exact⟨_,rfl,2 * (src.length-at_),fun m h=>by have:=hno m h;omega,_,_,Zr,Zs,at_,k+1,strange,toks,all,_,_,_,_,hI,rfl,.inr ⟨rfl,hat,rfl,by rw[hp];exact hc,by rw[hp];rfl⟩⟩
    ·rename_i h1
     rw[if_neg h1,if_pos hc]at hI2 hI3
     refine VX_specv rfl rfl (by rfl) (((report_ok p.2.2 (at_:Nat) (all.take 32) (by rw[List.length_take];omega) bb ba badV τb ([(58,b1,.tail u1 c1)]++σ) hI.cb).wk (.cons (.refl _) (.cons .raw (.cons .raw .nil)))).permA ?_) .nil (fun x σ' hR=> ?_) (fun ch σ' hR=> ?_)
     ·exact .cons _ (.cons _ (perm_own _ _ _))
     ·obtain⟨x',τb',g1,e1,rfl⟩:=hR
      cases e1
      rw[addB_take]at g1
      repeat'(first|refine .k1 ?_|refine .k2 ?_|fail)
      exact JoinW.introS rfl ⟨toks,all++[⟨(at_:Nat),p.2.2⟩],.own 3 58 b1 u1 c1 (toks.map Tok.cells),x',[(58,b1,.tail u1 c1)],τb',⟨hI2,by rw[hI3,List.append_assoc];rfl⟩,by omega,.inr ⟨h0,b1,u1,c1,rfl,rfl⟩,g1,rfl,rfl⟩ (.perm (.cons _ (.cons _ (perm_own _ _ _).symm)) (.refl _))
     ·obtain⟨_,_,_,e1,_⟩:=hR;cases e1
    ·simp only[hw1,hw2,List.length_map]
     have:=hp4 hc
     exact⟨trivial,by omega,by omega,by omega⟩
    ·rename_i h1 h2
     simp only[hw1,hw2,Int.toNat_natCast]
     rw[if_neg h1,if_neg (fun h=>h h2),if_pos hc]at hI2 hI3
     rw[← List.map_take,← List.map_drop]
     obtain⟨T,hT⟩:∃ T:Tok,T=⟨4,⟨((src.take (at_+p.2.1-1)).drop (at_+1)).toArray⟩,(at_:Nat)⟩:=⟨_,rfl⟩
     have hT2:(⟨4,⟨(((src.drop at_).take (p.2.1-1)).drop 1).toArray⟩,(at_:Nat)⟩:Tok)=T:=by
      rw[hT];congr 3
      have:=hp4 hc
      rw[show p.2.1-1=(at_+p.2.1-1)-at_ by omega,← List.drop_take,List.drop_drop]
     rw[hT2]at hI2
     have hTc:Tok.cells T=[iv p.1,sv ⟨((src.take (at_+p.2.1-1)).drop (at_+1)).toArray⟩,iv (at_:Nat)]:=by rw[hT,hc];rfl
     clear hT hT2
     repeat'(first|exact .nil|refine .k0 ?_|refine .k1 ?_|refine .k2 ?_|refine .r1 ?_ ?_|refine .u2 ?_ ?_ ?_ (fun b u c=> ?_)|refine .r5 ?_ ?_|(show List.all _ _=true;rfl)|fail)
     try any_goals(exact List.cons_ne_nil _ _)
     ·exact Nat.le_of_ble_eq_true rfl
     ·show(_+1) * 32≤_;rw[List.length_map];omega
     exact JoinW.intro rfl ⟨toks++[T],all,.own 3 58 b u c (toks.map Tok.cells++[[iv p.1,sv ⟨((src.take (at_+p.2.1-1)).drop (at_+1)).toArray⟩,iv (at_:Nat)]]),badV,[(58,b,.tail u c)],τb,⟨by rw[hI2,List.append_assoc];rfl,hI3⟩,by rw[List.length_append];simp;omega,.inr ⟨by simp,b,u,c,by rw[List.map_append,List.map_cons,List.map_nil,hTc],rfl⟩,hI.cb,rfl,rfl⟩
    ·simp only[List.length_map]
     exact⟨trivial,by omega,by omega,by omega⟩
    ·rename_i h1 h2 h3
     rw[if_neg h1,if_neg (fun h=>h h2),if_neg h3,if_pos hc]at hI2 hI3
     rw[← List.map_take,← List.map_drop]
     obtain⟨T,hT⟩:∃ T:Tok,T=⟨p.1,⟨((src.take (at_+p.2.1)).drop at_).toArray⟩,(at_:Nat)⟩:=⟨_,rfl⟩
     have hT2:(⟨p.1,⟨((src.drop at_).take p.2.1).toArray⟩,(at_:Nat)⟩:Tok)=T:=by
      rw[hT];congr 3
      rw[List.drop_take];congr 1;omega
     rw[hT2]at hI2
     have hTc:Tok.cells T=[iv p.1,sv ⟨((src.take (at_+p.2.1)).drop at_).toArray⟩,iv (at_:Nat)]:=by rw[hT];rfl
     clear hT hT2
     repeat'(first|exact .nil|refine .k0 ?_|refine .k1 ?_|refine .k2 ?_|refine .r1 ?_ ?_|refine .u2 ?_ ?_ ?_ (fun b u c=> ?_)|refine .r5 ?_ ?_|(show List.all _ _=true;rfl)|fail)
     try any_goals(exact List.cons_ne_nil _ _)
     ·exact Nat.le_of_ble_eq_true rfl
     ·show(_+1) * 32≤_;rw[List.length_map];omega
     exact JoinW.intro rfl ⟨toks++[T],all,.own 3 58 b u c (toks.map Tok.cells++[[iv p.1,sv ⟨((src.take (at_+p.2.1)).drop at_).toArray⟩,iv (at_:Nat)]]),badV,[(58,b,.tail u c)],τb,⟨by rw[hI2,List.append_assoc];rfl,hI3⟩,by rw[List.length_append];simp;omega,.inr ⟨by simp,b,u,c,by rw[List.map_append,List.map_cons,List.map_nil,hTc],rfl⟩,hI.cb,rfl,rfl⟩
    ·rename_i h1 h2 h3
     rw[if_neg h1,if_neg (fun h=>h h2),if_neg h3,if_neg (fun h=>h hc)]at hI2 hI3
     exact JoinW.intro rfl ⟨toks,all,.own 3 58 b1 u1 c1 (toks.map Tok.cells),badV,[(58,b1,.tail u1 c1)],τb,⟨hI2,hI3⟩,by omega,.inr ⟨h0,b1,u1,c1,rfl,rfl⟩,hI.cb,rfl,rfl⟩
   ·rintro _ _ ⟨toks',all',lV',badV',τl',τb',⟨hF1,hF2⟩,htl',hcl',hcb',rfl,rfl⟩
    have hlow:at_+p.2.1≤src.length:=by omega
    have hIn:∀ (lV2:AV) (τl2:Store),ColS 3 58 (toks'.map Tok.cells) lV2 τl2→LxI src F (at_+p.2.1) k strange toks' all' lV2 badV' τl2 τb':=fun lV2 τl2 h=>⟨hlow,by omega,by omega,hI.st,hF1,hF2,h,hcb'⟩
    rcases hcl' with⟨g0,rfl,rfl⟩|⟨g0,b3,u3,c3,rfl,rfl⟩
    ·repeat'((fail_if_success (show WK _ _ _ _ (.goto _) _ _ _));(first|exact .nil|refine .k0 ?_|refine .k1 ?_|refine .k2 ?_|refine .r1 ?_ ?_|fail))
     refine WK_goto ?_
     exact⟨_,rfl,2 * (src.length-(at_+p.2.1))+1,fun m h=>by have:=hno m h;omega,_,_,Zr,Zs,at_+p.2.1,k,strange,toks',all',_,_,_,_,hIn _ _ (.inl ⟨g0,rfl,rfl⟩),rfl,.inl ⟨rfl,rfl,rfl⟩⟩
    ·repeat'((fail_if_success (show WK _ _ _ _ (.goto _) _ _ _));(first|exact .nil|refine .k0 ?_|refine .k1 ?_|refine .k2 ?_|refine .r1 ?_ ?_|fail))
     refine WK_goto ?_
     exact⟨_,rfl,2 * (src.length-(at_+p.2.1))+1,fun m h=>by have:=hno m h;omega,_,_,Zr,Zs,at_+p.2.1,k,strange,toks',all',_,_,_,_,hIn _ _ (.inr ⟨g0,b3,u3,c3,rfl,rfl⟩),rfl,.inl ⟨rfl,rfl,rfl⟩⟩
theorem lex_odd(src:List UInt8)(hl:src.length≤16384)(nn:Bool)(bb ba:Nat)(σ:Store)(F:PF)(no:Option Nat)(at_ k:Nat)(strange:Int)(toks:List Tok)(all:List Prb)(lV badV:AV)(τl τb:Store)
  (hI:LxI src F at_ k strange toks all lV badV τl τb) (hat:at_<src.length) (hp:(pieceL (src.drop at_)).1= -1) (hno:∀ m,no=some m→m=2 * (src.length-at_)):
  WK Tryz.prog c15.N (fun _=>0) (jumpQ (JumpW (JT src nn bb ba σ F) ksT no) (fun e=>FK Tryz.prog c15.N (fun _=>0) (retQ c15.res (RT σ F)) e [])) (restT 1) [] (rgT src nn bb ba lV strange [(11,iv (pieceL (src.drop at_)).2.2)]) (stT bb ba σ at_ badV τl τb):=by
 have hle:=hI.le
 have hfu:=hI.fu
 have htl:=hI.tl
 have hst:=hI.st
 have hps:src.drop at_≠[]:=fun h=>by have:=congrArg List.length h;rw[List.length_drop]at this;simp at this;omega
 obtain⟨k,rfl⟩:∃ k',k=k'+1:=⟨k-1,by omega⟩
 have hI2:=hI.f1
 have hI3:=hI.f2
 rw[lex_step k at_ strange hps,if_pos hp]at hI2 hI3
 have hdd:∀ n:Nat,(src.drop at_).drop n=src.drop (at_+n):=fun n=>List.drop_drop
 have hcast:((at_:Int)+1)=((at_+1:Nat):Int):=by omega
 simp only[hdd,hcast]at hI2 hI3
 have hw0:IntKind.i64.wrap ((at_:Int)-1)=(at_:Int)-1:=by rw[i64w (by omega)]
 have hw1:IntKind.i64.wrap ((at_:Int)+1)=((at_+1:Nat):Int):=by rw[i64w (by omega)];rfl
 unfold stT rgT cloT
 simp only[List.cons_append,List.nil_append]
 rcases hI.cl with⟨h0,rfl,rfl⟩|⟨h0,b1,u1,c1,rfl,rfl⟩
 ·show WK _ _ _ _ (.keep _ _) _ _ _
  refine WK_keep rfl ?_
  refine WK_join (fun rg σ'=>∃ (all':List Prb) (badV':AV) (τb':Store),F.2=all'++(lexL k (at_+1:Nat) (at_:Nat) (src.drop (at_+1))).2∧ColU 2 12 ((all'.take 32).map Prb.cells) badV' τb'∧σ'=(6,ba,.cells [iv (at_:Nat)])::(3,bb,.cells [badV'])::([]++(τb'++σ))∧
   rg=[(0,.sl nn 1 (src.map byteRow)),(2,nilS),(3,.lp 3 bb 0),(5,.pc clsV),(6,.lp 6 ba 0),(8,cloT bb ba)]) ?_ ?_
  ·repeat'(first|exact .nil|refine .k0 ?_|refine .k1 ?_|refine .k2 ?_|refine .k4 ?_|refine .k9 ?_|(refine .cd ?_ ?_<;>(intro hc;skip))|refine .r1 ?_ ?_|fail)
   try any_goals(exact Zo)
   all_goals(try simp only[BL]at *)
   ·rw[hw0]at hc
    rw[if_pos (by rcases hc with h|h;exact .inl h;exact .inr h)]at hI3
    refine VX_specv rfl rfl (by rfl) (((report_ok _ (at_:Nat) (all.take 32) (by rw[List.length_take];omega) bb ba badV τb ([]++σ) hI.cb).wk (.cons (.refl _) (.cons .raw (.cons .raw .nil)))).permA ?_) .nil (fun x σ' hR=> ?_) (fun ch σ' hR=> ?_)
    ·exact .refl _
    ·obtain⟨x',τb',g1,e1,rfl⟩:=hR
     cases e1
     rw[addB_take]at g1
     repeat'(first|refine .k1 ?_|refine .k2 ?_|fail)
     exact JoinW.introS rfl ⟨all++[⟨(at_:Nat),(pieceL (src.drop at_)).2.2⟩],x',τb',by rw[hI3,List.append_assoc];rfl,g1,rfl,rfl⟩ (.refl _)
    ·obtain⟨_,_,_,e1,_⟩:=hR;cases e1
   ·rw[hw0]at hc
    rw[if_neg (by rintro(h|h);exact h hc.1;exact hc.2 h)]at hI3
    exact JoinW.intro rfl ⟨all,badV,τb,hI3,hI.cb,rfl,rfl⟩
  ·rintro _ _ ⟨all',badV',τb',hF2,hcb',rfl,rfl⟩
   repeat'((fail_if_success (show WK _ _ _ _ (.goto _) _ _ _));(first|exact .nil|refine .k0 ?_|refine .k1 ?_|refine .k2 ?_|refine .r1 ?_ ?_|fail))
   rw[hw1]
   refine WK_goto ?_
   exact⟨_,rfl,2 * (src.length-(at_+1))+1,fun m h=>by have:=hno m h;omega,_,_,Zr,Zs,at_+1,k,(at_:Nat),toks,all',_,_,_,_,⟨by omega,by omega,by omega,by omega,hI2,hF2,.inl ⟨h0,rfl,rfl⟩,hcb'⟩,rfl,.inl ⟨rfl,rfl,rfl⟩⟩
 ·show WK _ _ _ _ (.keep _ _) _ _ _
  refine WK_keep rfl ?_
  refine WK_join (fun rg σ'=>∃ (all':List Prb) (badV':AV) (τb':Store),F.2=all'++(lexL k (at_+1:Nat) (at_:Nat) (src.drop (at_+1))).2∧ColU 2 12 ((all'.take 32).map Prb.cells) badV' τb'∧σ'=(6,ba,.cells [iv (at_:Nat)])::(3,bb,.cells [badV'])::([(58,b1,.tail u1 c1)]++(τb'++σ))∧
   rg=[(0,.sl nn 1 (src.map byteRow)),(2,.own 3 58 b1 u1 c1 (toks.map Tok.cells)),(3,.lp 3 bb 0),(5,.pc clsV),(6,.lp 6 ba 0),(8,cloT bb ba)]) ?_ ?_
  ·repeat'(first|exact .nil|refine .k0 ?_|refine .k1 ?_|refine .k2 ?_|refine .k4 ?_|refine .k9 ?_|(refine .cd ?_ ?_<;>(intro hc;skip))|refine .r1 ?_ ?_|fail)
   try any_goals(exact Zo)
   all_goals(try simp only[BL]at *)
   ·rw[hw0]at hc
    rw[if_pos (by rcases hc with h|h;exact .inl h;exact .inr h)]at hI3
    refine VX_specv rfl rfl (by rfl) (((report_ok _ (at_:Nat) (all.take 32) (by rw[List.length_take];omega) bb ba badV τb ([(58,b1,.tail u1 c1)]++σ) hI.cb).wk (.cons (.refl _) (.cons .raw (.cons .raw .nil)))).permA ?_) .nil (fun x σ' hR=> ?_) (fun ch σ' hR=> ?_)
    ·exact .cons _ (.cons _ (perm_own _ _ _))
    ·obtain⟨x',τb',g1,e1,rfl⟩:=hR
     cases e1
     rw[addB_take]at g1
     repeat'(first|refine .k1 ?_|refine .k2 ?_|fail)
     exact JoinW.introS rfl ⟨all++[⟨(at_:Nat),(pieceL (src.drop at_)).2.2⟩],x',τb',by rw[hI3,List.append_assoc];rfl,g1,rfl,rfl⟩ (.perm (.cons _ (.cons _ (perm_own _ _ _).symm)) (.refl _))
    ·obtain⟨_,_,_,e1,_⟩:=hR;cases e1
   ·rw[hw0]at hc
    rw[if_neg (by rintro(h|h);exact h hc.1;exact hc.2 h)]at hI3
    exact JoinW.intro rfl ⟨all,badV,τb,hI3,hI.cb,rfl,rfl⟩
  ·rintro _ _ ⟨all',badV',τb',hF2,hcb',rfl,rfl⟩
   repeat'((fail_if_success (show WK _ _ _ _ (.goto _) _ _ _));(first|exact .nil|refine .k0 ?_|refine .k1 ?_|refine .k2 ?_|refine .r1 ?_ ?_|fail))
   rw[hw1]
   refine WK_goto ?_
   exact⟨_,rfl,2 * (src.length-(at_+1))+1,fun m h=>by have:=hno m h;omega,_,_,Zr,Zs,at_+1,k,(at_:Nat),toks,all',_,_,_,_,⟨by omega,by omega,by omega,by omega,hI2,hF2,.inr ⟨h0,b1,u1,c1,rfl,rfl⟩,hcb'⟩,rfl,.inl ⟨rfl,rfl,rfl⟩⟩
theorem WK_mono{P:Program}[Glob P]{N:Nat}{cfg:Nat→Nat}{Q Q':Exit→Regs→Store→Prop}{a:AC}{rg:Regs}{σ:Store}(h:WK P N cfg Q a [] rg σ)(hq:∀ e rg σ,Q e rg σ→Q' e rg σ):WK P N cfg Q' a [] rg σ:=⟨h.h.mono hq⟩
theorem jump_ex{src:List UInt8}{nn:Bool}{bb ba:Nat}{σ:Store}{F:PF}{no:Option Nat}{l:Nat}{rg:Regs}{σ1:Store}(h:JumpW (JT src nn bb ba σ F) ksT no l rg σ1):JumpW (fun l n rg σ'=>∃ ba,JT src nn bb ba σ F l n rg σ') ksT no l rg σ1:=by
 obtain⟨rg1,h1,n',h2,rg',σ',h3,h4,h5⟩:=h
 exact⟨rg1,h1,n',h2,rg',σ',h3,h4,ba,h5⟩
theorem to_cls{P:Program}[Glob P]{N:Nat}{cfg:Nat→Nat}{Q:Exit→Regs→Store→Prop}{a:AC}{k:List Fr}{σ:Store}{xs:List AV}{i0 i1 i2 i3:Nat}{r0 r1 r2:AV}(h:xs=clsV)(hW:WK P N cfg Q a k [(i0,r0),(i1,r1),(i2,r2),(i3,.pc clsV)] σ):WK P N cfg Q a k [(i0,r0),(i1,r1),(i2,r2),(i3,.pc xs)] σ:=by
 subst h;exact hW
theorem tokens_ok(hG:GreatOk)(hA:AnyOk)(src:List UInt8)(hl:src.length≤16384)(nn:Bool)(σ:Store):
  Sx.Spec Tryz.prog 15 [.sl nn 1 (src.map byteRow)] σ fun x σ'=>∃ (badV:AV) (τb:Store),ColU 2 12 ((toksL src).2.map Prb.cells) badV τb∧x= .ret (.tup [.sl false 3 ((toksL src).1.map Tok.cells),badV,iv 0])∧σ'=τb++σ:=by
 have hF:(toksL src).2=(lexL src.length 0 (-1) src).2.take 32:=rfl
 have hF1:(toksL src).1=(lexL src.length 0 (-1) src).1:=rfl
 suffices h:Sx.Spec Tryz.prog 15 [.sl nn 1 (src.map byteRow)] σ (RT σ (lexL src.length 0 (-1) src)) by
  refine Spec.weak h fun x σ' ⟨lA,badV,τb,h1,h2,h3,h4⟩=>⟨.ret (.tup [.sl false 3 ((toksL src).1.map Tok.cells),badV,iv 0]),τb++σ,⟨badV,τb,by rw[hF];exact h1,rfl,rfl⟩,h4,?_⟩
  subst h2
  exact .tup (.cons (by rw[hF1];exact h3) (.cons (.refl _) (.cons (.refl _) .nil)))
 refine Spec.runk (fun _=>0) Tryz.func15 comp15 era15 (Nat.le_of_ble_eq_true rfl) ?_
 first|refine .k1 ?_|fail
 first|refine .k2 ?_|fail
 repeat'((fail_if_success (show WK _ _ _ _ _ _ _ _));(first|exact .nil|refine .k0 ?_|refine .k1 ?_|refine .r1 ?_ ?_|(refine .l1 ?_;intro b)|fail))
 rename Nat=>bb
 refine WK_keep rfl ?_
 generalize hFF:lexL src.length 0 (-1) src=F
 refine WK_scope (fun l n rg σ'=>∃ ba,JT src nn bb ba σ F l n rg σ') ksT ?_ ?_
 ·repeat'((fail_if_success (show VX _ _ (⟨_,.alloc _ (.agg _),_⟩::_) _ _ _ _));(first|exact .nil|refine .k0 ?_|refine .k1 ?_|refine .k2 ?_|refine .k7 ?_|refine .k9 ?_|(refine .cd ?_ ?_<;>(intro hc;skip))|refine .r1 ?_ ?_|(refine .m2 ?_ ?_;intro hlen)|refine .an rfl (by intro hob;exact classes_ok) ?_ ?_|fail))
  all_goals(try simp only[BL]at *)
  ·exact absurd hc (by omega)
  ·refine VX_alloc (cs:=z256) rfl (fun b5=> ?_)
   repeat'((fail_if_success (show WK _ _ _ _ _ _ _ _));(first|exact .nil|refine .k0 ?_|refine .k1 ?_|refine .r1 ?_ ?_|fail))
   repeat'((fail_if_success (show WK _ _ _ _ (.keep _ _) _ _ _));(fail))
   refine WK_keep rfl ?_
   refine WK_frz 5 b5 .here (.same (.same (.same (.p0 .nil)))) ?_
   refine to_cls (by kernel_rfl) ?_
   clear hc
   repeat'((fail_if_success (show WK _ _ _ _ (.seq (.label _) _) _ _ _));(first|exact .nil|refine .k0 ?_|refine .k1 ?_|refine .k2 ?_|refine .r1 ?_ ?_|(refine .l1 ?_;intro b)|fail))
   rename Nat=>ba
   refine WK_seq (WK_label (FK_seq ?_))
   have hle:src.length≤16384:=hl
   refine WK_mono (lex_main hG hA src hl nn bb ba σ F none 0 src.length (-1) [] [] nilS nilS [] [] ⟨Nat.zero_le _,Nat.sub_le _ _,Nat.le_refl _,by decide,hFF.symm ▸ rfl,hFF.symm ▸ rfl,.inl ⟨rfl,rfl,rfl⟩,.inl ⟨rfl,rfl,rfl⟩⟩ (fun m h=>nomatch h)) fun e rg σ' h=> ?_
   cases e<;>first|exact h|exact jump_ex h
 ·rintro l n _ _ ⟨ba,at_,k,strange,toks,all,lV,badV,τl,τb,hI,rfl,⟨rfl,rfl,rfl⟩|⟨rfl,hat,rfl,hp,rfl⟩⟩
  ·refine⟨_,rfl,?_⟩
   refine WK_mono (WK_seq (WK_skip (FK_seq (lex_main hG hA src hl nn bb ba σ F (some _) at_ k strange toks all lV badV τl τb hI fun m h=>(Option.some.inj h).symm)))) fun e rg σ' h=> ?_
   cases e<;>first|exact h|exact jump_ex h
  ·refine⟨_,rfl,?_⟩
   refine WK_mono (WK_seq (WK_skip (FK_seq (lex_odd src hl nn bb ba σ F (some _) at_ k strange toks all lV badV τl τb hI hat hp fun m h=>(Option.some.inj h).symm)))) fun e rg σ' h=> ?_
   cases e<;>first|exact h|exact jump_ex h
theorem tokens_long(src:List UInt8)(hl:16384<src.length)(nn:Bool)(σ:Store):
  Sx.Spec Tryz.prog 15 [.sl nn 1 (src.map byteRow)] σ fun x σ'=>x= .ret (.tup [nilS,nilS,iv 2])∧σ'=σ:=by
 suffices h:Sx.Spec Tryz.prog 15 [.sl nn 1 (src.map byteRow)] σ (fun x σ'=>x= .ret (.tup [nilS,nilS,iv 2])∧Sub σ σ') by
  refine Spec.weak h fun x σ' ⟨h2,h4⟩=>⟨.ret (.tup [nilS,nilS,iv 2]),σ,⟨rfl,rfl⟩,h4,?_⟩
  subst h2
  exact .refl _
 refine Spec.runk (fun _=>0) Tryz.func15 comp15 era15 (Nat.le_of_ble_eq_true rfl) ?_
 first|refine .k1 ?_|fail
 first|refine .k2 ?_|fail
 repeat'((fail_if_success (show WK _ _ _ _ _ _ _ _));(first|exact .nil|refine .k0 ?_|refine .k1 ?_|refine .r1 ?_ ?_|(refine .l1 ?_;intro b)|fail))
 rename Nat=>bb
 refine WK_keep rfl ?_
 refine WK_scope (fun l n rg σ'=>False) ksT ?_ (fun _ _ _ _ h=>h.elim)
 ·repeat'((fail_if_success (show VX _ _ (⟨_,.alloc _ (.agg _),_⟩::_) _ _ _ _));(first|exact .nil|refine .k0 ?_|refine .k1 ?_|refine .k2 ?_|refine .k7 ?_|refine .k9 ?_|(refine .cd ?_ ?_<;>(intro hc;skip))|refine .r1 ?_ ?_|(refine .m2 ?_ ?_;intro hlen)|refine .an rfl (by intro hob;exact classes_ok) ?_ ?_|fail))
  all_goals(try simp only[BL]at *)
  ·refine jumpQ_ret ?_
   repeat'(first|exact .nil|refine .k0 ?_|refine .r1 ?_ ?_|fail)
   exact⟨rfl,Zs⟩
  ·exact absurd hl (by omega)
end Go.Proofs.YtbihckigennlhaaGreatDoor
namespace Go.Proofs.YtbihckigennlhaaGreatDoor
open Go.Sx Go.Proofs
theorem SWp_filt{P:Program}[Glob P]{N i:Nat}{v:Value}{Q:Exit→Regs→Store→Prop}{rg rg':Regs}{σ:Store}{s:SC}{ks:List Nat}(hk:filt ks rg=rg')(h:SWp P N i v s Q rg' σ):SWp P N i v s Q rg σ:=by
 intro c hc hf M w0 a w hI hR hN hD hv
 refine h c hc hf M w0 a w hI ?_ hN hD hv
 rw[← hk]
 exact hR.filt _
theorem SWp_perm{P:Program}[Glob P]{N i:Nat}{v:Value}{Q:Exit→Regs→Store→Prop}{rg:Regs}{σ σ':Store}{s:SC}(hp:σ.Perm σ')(h:SWp P N i v s Q rg σ'):SWp P N i v s Q rg σ:=
 fun c hc hf M w0 a w hI hR hN hD hv=>h c hc hf M w0 a w (hI.perm hp) hR hN hD hv
end Go.Proofs.YtbihckigennlhaaGreatDoor
