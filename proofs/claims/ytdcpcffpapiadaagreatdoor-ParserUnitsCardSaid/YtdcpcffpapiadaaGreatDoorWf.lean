/- v, ok := m[k]. -/
import Derived.Test.YtdcpcffpapiadaaGreatDoorWe
import Derived.Test.YtdcpcffpapiadaaGreatDoorVc
import Derived.Test.YtdcpcffpapiadaaGreatDoorUe
import Derived.Test.YtdcpcffpapiadaaGreatDoorTj
set_option linter.unusedSimpArgs false
set_option linter.unusedVariables false
set_option linter.unusedSectionVars false
set_option maxRecDepth 100000
namespace Go.Sx
open Go.RowKit Go.Proofs
section
variable {P:Program}[Glob P]{σ:Store}
def gotA(o:Option AV)(z:Value):AV:= .tup [o.getD (.v z),.v (.bool o.isSome)]
theorem OpS_lkt{tg b clk:Nat}{es:List (Value×Nat×AV)}{t ty kt vt:TypeId}{q:TI}{kd:TypeDesc}{m k:Operand}{key z:Value}{o:Option AV}(hz:∀ w,(zeroValue vt).run P w= .ok z w)(hp:plainK q=some kd)(hl:lkt σ tg=some (b,.map es clk))(hf:findA kd key es=some o):
  OpS P (.lookup t m k true) ty [.mp kt vt,q] [m,k] [.mpt tg b,.v key] σ fun y σ'=>y=gotA o z∧σ'=σ:=by
 intro hti M w0 w ρ hI hR
 simp only[opInfo,List.cons.injEq,and_true]at hti
 have ht:=tiOf_mp hti.1
 have hk:P.underlying kt=some kd:=by
  have:=hti.2
  unfold keyU at this
  rw[ht]at this
  exact plainK_eq hp this
 obtain⟨v1,vs1,e1,h1,hR1⟩:=hR.uncons
 obtain⟨v2,e2,h2⟩:=hR1.un1
 subst e2
 simp only[List.map_cons,List.map_nil,List.cons.injEq,and_true]at e1
 obtain⟨hM,l,hh,hkeys,hvals⟩:=hI.getMap hl
 have g1:=h1.of_mpt
 have g2:=h2.of_v
 subst g1 g2
 cases o with
 |some v=>
  obtain⟨j,u,hfn,hu⟩:=findA_some (M:=M) 0 hkeys hvals hf
  refine⟨.value (.tuple #[u,.bool true]),w,M,gotA (some v) z,.tuple #[u,.bool true],σ,?_,rfl,Mem.le.refl _,hI,R.mk_tup (cs:=[_,_]) (RL.cons hu (RL.cons (.v _) RL.nil)),rfl,rfl⟩
  simp only[execOp,e1.1,e1.2,Instr.lookup,Sem.run_bind,run_under ht,Result.andThen_ok,getObj,Sem.run,hh,run_checkKey hp hk,Instr.findKey,run_under hk,hfn,Sem.run_pure]
  rfl
 |none=>
  have hfn:=findA_none (M:=M) 0 hkeys hf
  refine⟨.value (.tuple #[z,.bool false]),w,M,gotA none z,.tuple #[z,.bool false],σ,?_,rfl,Mem.le.refl _,hI,R.mk_tup (cs:=[_,_]) (RL.cons (.v _) (RL.cons (.v _) RL.nil)),rfl,rfl⟩
  simp only[execOp,e1.1,e1.2,Instr.lookup,Sem.run_bind,run_under ht,Result.andThen_ok,getObj,Sem.run,hh,run_checkKey hp hk,Instr.findKey,run_under hk,hfn,Sem.run_pure,hz]
  rfl
theorem VX_lkt{cfg:Nat→Nat}{K:Regs→Store→Prop}{E:List PanicEntry→Store→Prop}{l:List CI}{d:Nat}{xr:XR}{ps:List Prop}{og:Option Bool}{t kt vt:TypeId}{q:TI}{ty:TypeId}{m k:Operand}{kd:TypeDesc}{tg b b' clk:Nat}{es:List (Value×Nat×AV)}{key z:Value}{o:Option AV}
  (hz:∀ w,(zeroValue vt).run P w= .ok z w) (hp:plainK q=some kd) (h:argO xr none [m,k]=some (og,[.mpt tg b,.v key],ps)) (hl:lkt σ tg=some (b',.map es clk)) (hb:b=b') (hf:findA kd key es=some o) (hps:OB ps)
  (kk:VX P cfg l K E ((d,.s (gotA o z))::xr) σ):VX P cfg (⟨some d,.extq (.lookup t m k true) ty [.mp kt vt,q] [m,k],none⟩::l) K E xr σ:=by
 obtain⟨hc,he⟩:=argO_eq h
 have hog:=argO_none h
 subst hog
 subst hb
 constructor
 simp only[vcX,vcG,vcO,he hps rfl]
 refine(OpS_lkt hz hp hl hf).mono fun y s ⟨e1,e2⟩=> ?_
 subst e1 e2
 exact kk.h
end
theorem SWp_regk{P:Program}[Glob P]{N i:Nat}{v:Value}{cfg:Nat→Nat}{Q:Exit→Regs→Store→Prop}{rg:Regs}{σ:Store}{l:List CI}(h:WK P N cfg Q (.reg l) [] rg σ):SWp P N i v (.reg l) Q rg σ:=SWp_reg h.h.h
end Go.Sx
namespace Go.Proofs.YtdcpcffpapiadaaGreatDoor
open Go.Sx Go.Proofs
theorem zero_fn(w:World):(zeroValue 1).run Tryz.prog w= .ok .nilFunc w:=by
 have h:(Tryz.prog.info? 1).bind (fun i=>i.zero)=some .nilFunc:=by kernel_rfl
 obtain⟨i,h1,h2⟩:=Option.bind_eq_some_iff.1 h
 simp[zeroValue,typeInfo,h1,h2]
end Go.Proofs.YtdcpcffpapiadaaGreatDoor
set_option maxHeartbeats 4000000
namespace Go.Proofs.YtdcpcffpapiadaaGreatDoor
open Go.Sx Go.Proofs Go.RowKit
def addB(bad:List Prb)(p:Prb):List Prb:=if bad.length<32 then bad++[p]else bad
theorem addB_take(all:List Prb)(p:Prb):addB (all.take 32) p=(all++[p]).take 32:=by
 unfold addB
 rw[List.length_take]
 by_cases h:all.length<32
 ·rw[if_pos (by omega),List.take_of_length_le (by omega),List.take_of_length_le (by simp;omega)]
 ·rw[if_neg (by omega),List.take_append_of_le_length (by omega)]
def ColU(e tg:Nat)(rows:List (List AV))(x:AV)(τ:Store):Prop:=(rows=[]∧x=nilS∧τ=[])∨(rows≠[]∧∃ bb u c,x= .own e tg bb u c rows∧τ=[(tg,bb,.tail u c)]∧u=rows.length * e)
theorem report_ok(cd:Int)(at_:Int)(bad:List Prb)(hb32:bad.length≤32)(bb ba:Nat)(x:AV)(τb τ0:Store)(hS:ColU 2 12 (bad.map Prb.cells) x τb):
  Sx.Spec Tryz.prog 41 [iv cd,.lp 3 bb 0,.lp 6 ba 0] ((6,ba,.cells [iv at_])::(3,bb,.cells [x])::(τb++τ0))
   fun r σ'=>∃ x' τb',ColU 2 12 ((addB bad ⟨at_,cd⟩).map Prb.cells) x' τb'∧r= .ret (.tup [])∧σ'=(6,ba,.cells [iv at_])::(3,bb,.cells [x'])::(τb'++τ0):=by
 suffices h:Sx.Spec Tryz.prog 41 [iv cd,.lp 3 bb 0,.lp 6 ba 0] ((6,ba,.cells [iv at_])::(3,bb,.cells [x])::(τb++τ0))
   fun r σ'=>∃ x' τb' σ2,ColU 2 12 ((addB bad ⟨at_,cd⟩).map Prb.cells) x' τb'∧r= .ret (.tup [])∧σ'.Perm σ2∧σ2=(6,ba,.cells [iv at_])::(3,bb,.cells [x'])::(τb'++τ0) by
  exact Spec.permR h fun r σ' ⟨x',τb',σ2,h1,h2,h3,h4⟩=>⟨σ2,h3,x',τb',h1,h2,h4⟩
 unfold addB
 rcases hS with⟨h0,rfl,rfl⟩|⟨h0,b1,u1,c1,rfl,rfl,hu1⟩
 ·have h0':bad=[]:=List.map_eq_nil_iff.1 h0
  subst h0'
  refine Spec.runk (fun _=>0) Tryz.func41 comp41 era41 (Nat.le_of_ble_eq_true rfl) ?_
  repeat'((fail_if_success (show VX _ _ (⟨_,.append _ _ _ _ _ _,_⟩::_) _ _ _ _));(first|exact .nil|refine .k0 ?_|refine .k1 ?_|refine .k2 ?_|refine .k3 ?_|refine .k9 ?_|(refine .cd ?_ ?_<;>(intro hc;skip))|refine .r1 ?_ ?_|refine .r2 ?_ ?_|refine .r8 ?_ ?_|fail))
  all_goals try refine VX_app0u rfl rfl ?_ ?_ ?_ (fun b u c hu=> ?_)
  repeat'(first|exact .nil|refine .k0 ?_|refine .k1 ?_|refine .k3 ?_|refine .r1 ?_ ?_|refine .r2 ?_ ?_|fail)
  try any_goals(exact Zo)
  all_goals(try simp only[BL]at *)
  ·exact Nat.le_of_ble_eq_true rfl
  ·exact Nat.le_of_ble_eq_true rfl
  ·exact⟨.own 2 12 b u c [[iv at_,iv cd]],[(12,b,.tail u c)],_,.inr ⟨by simp,b,u,c,by simp[Prb.cells],rfl,by rw[hu];rfl⟩,trivial,(List.perm_middle (l₁:=[_,_])).symm,rfl⟩
  ·exact absurd (show((0:Nat):Int)<32 by decide) hc
 ·refine Spec.runk (fun _=>0) Tryz.func41 comp41 era41 (Nat.le_of_ble_eq_true rfl) ?_
  repeat'((fail_if_success (show VX _ _ (⟨_,.append _ _ _ _ _ _,_⟩::_) _ _ _ _));(first|exact .nil|refine .k0 ?_|refine .k1 ?_|refine .k2 ?_|refine .k3 ?_|refine .k9 ?_|(refine .cd ?_ ?_<;>(intro hc;skip))|refine .r1 ?_ ?_|(refine .m2 ?_ ?_;intro hlen)|refine .r2 ?_ ?_|fail))
  all_goals try refine VX_appu rfl rfl rfl ?_ ?_ ?_ (fun b u c hu=> ?_)
  repeat'(first|exact .nil|refine .k0 ?_|refine .k1 ?_|refine .k3 ?_|refine .r1 ?_ ?_|refine .r2 ?_ ?_|(show List.all _ _=true;rfl)|fail)
  all_goals(try simp only[BL]at *)
  ·exact Nat.le_of_ble_eq_true rfl
  ·show(_+1) * 16≤_;rw[List.length_map];omega
  ·rw[if_pos (by omega)]
   exact⟨.own 2 12 b u c (bad.map Prb.cells++[[iv at_,iv cd]]),[(12,b,.tail u c)],_,.inr ⟨by simp,b,u,c,by simp[Prb.cells],rfl,by rw[hu hu1];simp⟩,trivial,.refl _,rfl⟩
  ·rw[if_neg (by omega)]
   exact⟨_,_,_,.inr ⟨h0,b1,u1,c1,rfl,rfl,hu1⟩,trivial,.refl _,rfl⟩
def bodyT:AC:=match a18 with
 | .seq _ (.keep _ (.scope b))=>b
 |a=>a
def restT(l:Nat):AC:=match labA bodyT l with
 |some (.seq _ b)=>b
 |_=> .skip
def ksT(l:Nat):List Nat:=bif Nat.beq l 0 then[0,2,3,5,6,7,8]else[0,2,3,5,6,7,8,11]
def cloT(bb ba:Nat):AV:= .v (.func (.func 41) #[] #[.pointer (some ⟨bb,0,none⟩),.pointer (some ⟨ba,0,none⟩)])
abbrev PF:=List Tok×List Prb
structure LxI(src:List UInt8)(F:PF)(at_ k:Nat)(strange:Int)(toks:List Tok)(all:List Prb)(lV badV:AV)(τl τb:Store):Prop where
 le:at_≤src.length
 fu:src.length-at_≤k
 tl:toks.length≤at_
 st: -1≤strange∧strange≤16384
 f1:F.1=toks++(lexL k at_ strange (src.drop at_)).1
 f2:F.2=all++(lexL k at_ strange (src.drop at_)).2
 cl:ColS 3 58 (toks.map Tok.cells) lV τl
 cb:ColU 2 12 ((all.take 32).map Prb.cells) badV τb
def stT(bb ba:Nat)(σ:Store)(at_:Nat)(badV:AV)(τl τb:Store):Store:=(6,ba,.cells [iv (at_:Nat)])::(3,bb,.cells [badV])::(τl++(τb++σ))
def rgT(src:List UInt8)(nn:Bool)(bb ba:Nat)(lV:AV)(strange:Int)(more:Regs):Regs:=[(0,.sl nn 1 (src.map byteRow)),(2,lV),(3,.lp 3 bb 0),(5,.pc clsV),(6,.lp 6 ba 0),(7,iv strange),(8,cloT bb ba)]++more
def JT(src:List UInt8)(nn:Bool)(bb ba:Nat)(σ:Store)(F:PF)(l n:Nat)(rg:Regs)(σ':Store):Prop:=
 ∃ (at_ k:Nat) (strange:Int) (toks:List Tok) (all:List Prb) (lV badV:AV) (τl τb:Store),LxI src F at_ k strange toks all lV badV τl τb∧σ'=stT bb ba σ at_ badV τl τb∧
  ((l=0∧n=2 * (src.length-at_)+1∧rg=rgT src nn bb ba lV strange [])∨(l=1∧at_<src.length∧n=2 * (src.length-at_)∧(pieceL (src.drop at_)).1= -1∧rg=rgT src nn bb ba lV strange [(11,iv (pieceL (src.drop at_)).2.2)]))
def RT(σ:Store)(F:PF)(x:Res)(σ':Store):Prop:=∃ (lA badV:AV) (τb:Store),ColU 2 12 ((F.2.take 32).map Prb.cells) badV τb∧x= .ret (.tup [lA,badV,iv 0])∧Wk lA (.sl false 3 (F.1.map Tok.cells))∧Sub (τb++σ) σ'
theorem perm_own{α:Type}(e:α)(l1 l2:List α):([e]++(l1++l2)).Perm (l1++([e]++l2)):=by
 rw[List.singleton_append,List.singleton_append];exact List.perm_middle.symm
theorem piece_4:∀ s:List UInt8,(pieceL s).1=4→2≤(pieceL s).2.1
 |[],h=>by cases h
 |c::r,h=>by
  by_cases h1:clsB c=1
  ·rw[p_1 h1]at h;cases h
  by_cases h6:clsB c=6
  ·rw[p_6 h6]at h;cases h
  by_cases h2:clsB c=2
  ·rw[p_2 h2]at h;cases h
  by_cases h3:clsB c=3
  ·rw[p_3 h3]at h;split at h<;>cases h
  by_cases h5:clsB c=5
  ·rw[p_5 h5]at h ⊢;split at h
   ·rename_i h7;rw[if_pos h7];simp
   ·cases h
  by_cases h7:clsB c=7∨clsB c=8
  ·rw[p_7 h7]at h;repeat' split at h
   all_goals cases h
  ·rw[p_0 ⟨h1,h6,h2,h3,h5,fun e=>h7 (.inl e),fun e=>h7 (.inr e)⟩]at h;cases h
theorem lex_main(hG:GreatOk)(hA:AnyOk)(src:List UInt8)(hl:src.length≤16384)(nn:Bool)(bb ba:Nat)(σ:Store)(F:PF)(no:Option Nat)(at_ k:Nat)(strange:Int)(toks:List Tok)(all:List Prb)(lV badV:AV)(τl τb:Store)
  (hI:LxI src F at_ k strange toks all lV badV τl τb) (hno:∀ m,no=some m→m=2 * (src.length-at_)+1):
  WK Tryz.prog c18.N (fun _=>0) (jumpQ (JumpW (JT src nn bb ba σ F) ksT no) (fun e=>FK Tryz.prog c18.N (fun _=>0) (retQ c18.res (RT σ F)) e [])) (restT 0) [] (rgT src nn bb ba lV strange []) (stT bb ba σ at_ badV τl τb):=by
 have hle:=hI.le
 have hfu:=hI.fu
 have htl:=hI.tl
 unfold stT rgT cloT
 simp only[List.append_nil]
 rcases hI.cl with⟨h0,rfl,rfl⟩|⟨h0,b1,u1,c1,rfl,rfl⟩
 ·show WK _ _ _ _ (.keep _ _) _ _ _
  repeat'((fail_if_success (show WK _ _ _ _ (.mreg _ _) _ _ _));(fail_if_success (show WK _ _ _ _ (.seq (.block _ _) _) _ _ _));(first|exact .nil|refine .k0 ?_|refine .k1 ?_|refine .k2 ?_|refine .k9 ?_|(refine .cd ?_ ?_<;>(intro hc;skip))|refine .r1 ?_ ?_|(refine .m2 ?_ ?_;intro hlen)|refine .an rfl (by intro hob;exact piece_ok hG hA src hl nn at_ (by(simp at hc;omega))) ?_ ?_|fail))
  try any_goals(exact List.cons_ne_nil _ _)
  all_goals(try simp only[BL]at *)
  ·have hat:at_=src.length:=by omega
   have hd:src.drop at_=[]:=List.drop_of_length_le (by omega)
   have hF1:F.1=toks++[⟨6,⟨#[]⟩,(at_:Nat)⟩]:=by rw[hI.f1,hd,lex_nil]
   have hF2:F.2=all:=by rw[hI.f2,hd,lex_nil,List.append_nil]
   rcases hI.cb with⟨g0,rfl,rfl⟩|⟨g0,b2,u2,c2,rfl,rfl,hu2⟩
   all_goals
    repeat'(first|exact .nil|refine .k0 ?_|refine .k1 ?_|refine .k3 ?_|refine .k7 ?_|refine .r1 ?_ ?_|refine .u1 ?_ ?_ ?_ (fun b u c=> ?_)|fail)
    try any_goals(exact List.cons_ne_nil _ _)
    ·exact Nat.le_of_ble_eq_true rfl
    ·exact Nat.le_of_ble_eq_true rfl
    refine jumpQ_ret ?_
    repeat'(first|exact .nil|refine .k0 ?_|refine .r1 ?_ ?_|fail)
    refine⟨_,_,_,by rw[hF2];exact hI.cb,rfl,?_,Zs⟩
    exact(by rw[hF1,List.map_eq_nil_iff.1 h0];exact .own false)
  ·have hat:at_<src.length:=by omega
   have hps:src.drop at_≠[]:=fun h=>by have:=congrArg List.length h;rw[List.length_drop]at this;simp at this;omega
   obtain⟨k,rfl⟩:∃ k',k=k'+1:=⟨k-1,by omega⟩
   have hL:=lex_step k at_ strange hps
   have hpl:=piece_len hps
   have hp4:=piece_4 (src.drop at_)
   rw[List.length_drop]at hpl
   have hI2:=hI.f1
   have hI3:=hI.f2
   rw[hL]at hI2 hI3
   have hdd:∀ n:Nat,(src.drop at_).drop n=src.drop (at_+n):=fun n=>List.drop_drop
   simp only[hdd]at hI2 hI3
   have hcast:∀ n:Nat,((at_:Int)+(n:Nat))=((at_+n:Nat):Int):=fun n=>by omega
   simp only[hcast]at hI2 hI3
   obtain⟨p,hp⟩:∃ p,pieceL (src.drop at_)=p:=⟨_,rfl⟩
   simp only[hp]at hpl hI2 hI3 hp4 ⊢
   refine WK_join (fun rg σ'=>∃ (toks':List Tok) (all':List Prb) (lV' badV':AV) (τl' τb':Store),(F.1=toks'++(lexL k (at_+p.2.1:Nat) strange (src.drop (at_+p.2.1))).1∧F.2=all'++(lexL k (at_+p.2.1:Nat) strange (src.drop (at_+p.2.1))).2)∧toks'.length≤at_+1∧
    ColS 3 58 (toks'.map Tok.cells) lV' τl'∧ColU 2 12 ((all'.take 32).map Prb.cells) badV' τb'∧σ'=(6,ba,.cells [iv (at_:Nat)])::(3,bb,.cells [badV'])::(τl'++(τb'++σ))∧
    rg=[(0,.sl nn 1 (src.map byteRow)),(2,lV'),(3,.lp 3 bb 0),(5,.pc clsV),(6,.lp 6 ba 0),(7,iv strange),(8,cloT bb ba),(10,iv (at_+p.2.1:Nat))]) ?_ ?_
   ·have hw1:IntKind.i64.wrap ((at_:Int)+1)=((at_+1:Nat):Int):=by rw[i64w (by omega)];rfl
    have hw2:IntKind.i64.wrap (((at_+p.2.1:Nat):Int)-1)=((at_+p.2.1-1:Nat):Int):=by rw[i64w (by omega)];omega
    repeat'((fail_if_success (show WK _ _ _ _ (.goto _) _ _ _));(first|exact .nil|refine .k0 ?_|refine .k1 ?_|refine .k2 ?_|refine .k4 ?_|refine .k6 ?_|refine .k9 ?_|(refine .cd ?_ ?_<;>(intro hc;skip))|refine .r1 ?_ ?_|refine .r8 ?_ ?_|fail))
    try any_goals(exact List.cons_ne_nil _ _)
    all_goals(try simp only[BL]at *)
    ·refine WK_goto ?_
     exact⟨_,rfl,2 * (src.length-at_),fun m h=>by have:=hno m h;omega,_,_,Zr,Zs,at_,k+1,strange,toks,all,_,_,_,_,hI,rfl,.inr ⟨rfl,hat,rfl,by rw[hp];exact hc,by rw[hp];rfl⟩⟩
    ·rename_i h1
     rw[if_neg h1,if_pos hc]at hI2 hI3
     refine VX_specv rfl rfl (by rfl) (((report_ok p.2.2 (at_:Nat) (all.take 32) (by rw[List.length_take];omega) bb ba badV τb ([]++σ) hI.cb).wk (.cons (.refl _) (.cons .raw (.cons .raw .nil)))).permA ?_) .nil (fun x σ' hR=> ?_) (fun ch σ' hR=> ?_)
     ·exact .refl _
     ·obtain⟨x',τb',g1,e1,rfl⟩:=hR
      cases e1
      rw[addB_take]at g1
      repeat'(first|refine .k1 ?_|refine .k2 ?_|fail)
      exact JoinW.introS rfl ⟨toks,all++[⟨(at_:Nat),p.2.2⟩],nilS,x',[],τb',⟨hI2,by rw[hI3,List.append_assoc];rfl⟩,by omega,.inl ⟨h0,rfl,rfl⟩,g1,rfl,rfl⟩ (.refl _)
     ·obtain⟨_,_,_,e1,_⟩:=hR;cases e1
    ·simp only[hw1,hw2,List.length_map]
     have:=hp4 hc
     exact⟨trivial,by omega,by omega,by omega⟩
    ·rename_i h1 h2
     simp only[hw1,hw2,Int.toNat_natCast]
     rw[if_neg h1,if_neg (fun h=>h h2),if_pos hc]at hI2 hI3
     rw[← List.map_take,← List.map_drop]
     obtain⟨T,hT⟩:∃ T:Tok,T=⟨4,⟨((src.take (at_+p.2.1-1)).drop (at_+1)).toArray⟩,(at_:Nat)⟩:=⟨_,rfl⟩
     have hT2:(⟨4,⟨(((src.drop at_).take (p.2.1-1)).drop 1).toArray⟩,(at_:Nat)⟩:Tok)=T:=by
      rw[hT];congr 3
      have:=hp4 hc
      rw[show p.2.1-1=(at_+p.2.1-1)-at_ by omega,← List.drop_take,List.drop_drop]
     rw[hT2]at hI2
     have hTc:Tok.cells T=[iv p.1,sv ⟨((src.take (at_+p.2.1-1)).drop (at_+1)).toArray⟩,iv (at_:Nat)]:=by rw[hT,hc];rfl
     clear hT hT2
     repeat'(first|exact .nil|refine .k0 ?_|refine .k1 ?_|refine .k2 ?_|refine .r1 ?_ ?_|refine .u1 ?_ ?_ ?_ (fun b u c=> ?_)|refine .r5 ?_ ?_|fail)
     try any_goals(exact List.cons_ne_nil _ _)
     ·exact Nat.le_of_ble_eq_true rfl
     ·exact Nat.le_of_ble_eq_true rfl
     exact JoinW.introS rfl ⟨toks++[T],all,.own 3 58 b u c [[iv p.1,sv ⟨((src.take (at_+p.2.1-1)).drop (at_+1)).toArray⟩,iv (at_:Nat)]],badV,[(58,b,.tail u c)],τb,⟨by rw[hI2,List.append_assoc];rfl,hI3⟩,by rw[List.length_append];simp;omega,.inr ⟨by simp,b,u,c,by rw[List.map_eq_nil_iff.1 h0,List.nil_append,List.map_cons,List.map_nil,hTc],rfl⟩,hI.cb,rfl,rfl⟩ (.perm (List.perm_middle (l₁:=[_,_])).symm (.refl _))
    ·simp only[List.length_map]
     exact⟨trivial,by omega,by omega,by omega⟩
    ·rename_i h1 h2 h3
     rw[if_neg h1,if_neg (fun h=>h h2),if_neg h3,if_pos hc]at hI2 hI3
     rw[← List.map_take,← List.map_drop]
     obtain⟨T,hT⟩:∃ T:Tok,T=⟨p.1,⟨((src.take (at_+p.2.1)).drop at_).toArray⟩,(at_:Nat)⟩:=⟨_,rfl⟩
     have hT2:(⟨p.1,⟨((src.drop at_).take p.2.1).toArray⟩,(at_:Nat)⟩:Tok)=T:=by
      rw[hT];congr 3
      rw[List.drop_take];congr 1;omega
     rw[hT2]at hI2
     have hTc:Tok.cells T=[iv p.1,sv ⟨((src.take (at_+p.2.1)).drop at_).toArray⟩,iv (at_:Nat)]:=by rw[hT];rfl
     clear hT hT2
     repeat'(first|exact .nil|refine .k0 ?_|refine .k1 ?_|refine .k2 ?_|refine .r1 ?_ ?_|refine .u1 ?_ ?_ ?_ (fun b u c=> ?_)|refine .r5 ?_ ?_|fail)
     try any_goals(exact List.cons_ne_nil _ _)
     ·exact Nat.le_of_ble_eq_true rfl
     ·exact Nat.le_of_ble_eq_true rfl
     exact JoinW.introS rfl ⟨toks++[T],all,.own 3 58 b u c [[iv p.1,sv ⟨((src.take (at_+p.2.1)).drop at_).toArray⟩,iv (at_:Nat)]],badV,[(58,b,.tail u c)],τb,⟨by rw[hI2,List.append_assoc];rfl,hI3⟩,by rw[List.length_append];simp;omega,.inr ⟨by simp,b,u,c,by rw[List.map_eq_nil_iff.1 h0,List.nil_append,List.map_cons,List.map_nil,hTc],rfl⟩,hI.cb,rfl,rfl⟩ (.perm (List.perm_middle (l₁:=[_,_])).symm (.refl _))
    ·rename_i h1 h2 h3
     rw[if_neg h1,if_neg (fun h=>h h2),if_neg h3,if_neg (fun h=>h hc)]at hI2 hI3
     exact JoinW.intro rfl ⟨toks,all,nilS,badV,[],τb,⟨hI2,hI3⟩,by omega,.inl ⟨h0,rfl,rfl⟩,hI.cb,rfl,rfl⟩
   ·rintro _ _ ⟨toks',all',lV',badV',τl',τb',⟨hF1,hF2⟩,htl',hcl',hcb',rfl,rfl⟩
    have hlow:at_+p.2.1≤src.length:=by omega
    have hIn:∀ (lV2:AV) (τl2:Store),ColS 3 58 (toks'.map Tok.cells) lV2 τl2→LxI src F (at_+p.2.1) k strange toks' all' lV2 badV' τl2 τb':=fun lV2 τl2 h=>⟨hlow,by omega,by omega,hI.st,hF1,hF2,h,hcb'⟩
    rcases hcl' with⟨g0,rfl,rfl⟩|⟨g0,b3,u3,c3,rfl,rfl⟩
    ·repeat'((fail_if_success (show WK _ _ _ _ (.goto _) _ _ _));(first|exact .nil|refine .k0 ?_|refine .k1 ?_|refine .k2 ?_|refine .r1 ?_ ?_|fail))
     refine WK_goto ?_
     exact⟨_,rfl,2 * (src.length-(at_+p.2.1))+1,fun m h=>by have:=hno m h;omega,_,_,Zr,Zs,at_+p.2.1,k,strange,toks',all',_,_,_,_,hIn _ _ (.inl ⟨g0,rfl,rfl⟩),rfl,.inl ⟨rfl,rfl,rfl⟩⟩
    ·repeat'((fail_if_success (show WK _ _ _ _ (.goto _) _ _ _));(first|exact .nil|refine .k0 ?_|refine .k1 ?_|refine .k2 ?_|refine .r1 ?_ ?_|fail))
     refine WK_goto ?_
     exact⟨_,rfl,2 * (src.length-(at_+p.2.1))+1,fun m h=>by have:=hno m h;omega,_,_,Zr,Zs,at_+p.2.1,k,strange,toks',all',_,_,_,_,hIn _ _ (.inr ⟨g0,b3,u3,c3,rfl,rfl⟩),rfl,.inl ⟨rfl,rfl,rfl⟩⟩
 ·show WK _ _ _ _ (.keep _ _) _ _ _
  repeat'((fail_if_success (show WK _ _ _ _ (.mreg _ _) _ _ _));(fail_if_success (show WK _ _ _ _ (.seq (.block _ _) _) _ _ _));(first|exact .nil|refine .k0 ?_|refine .k1 ?_|refine .k2 ?_|refine .k9 ?_|(refine .cd ?_ ?_<;>(intro hc;skip))|refine .r1 ?_ ?_|(refine .m2 ?_ ?_;intro hlen)|refine .an rfl (by intro hob;exact piece_ok hG hA src hl nn at_ (by(simp at hc;omega))) ?_ ?_|fail))
  try any_goals(exact List.cons_ne_nil _ _)
  all_goals(try simp only[BL]at *)
  ·have hat:at_=src.length:=by omega
   have hd:src.drop at_=[]:=List.drop_of_length_le (by omega)
   have hF1:F.1=toks++[⟨6,⟨#[]⟩,(at_:Nat)⟩]:=by rw[hI.f1,hd,lex_nil]
   have hF2:F.2=all:=by rw[hI.f2,hd,lex_nil,List.append_nil]
   rcases hI.cb with⟨g0,rfl,rfl⟩|⟨g0,b2,u2,c2,rfl,rfl,hu2⟩
   all_goals
    repeat'(first|exact .nil|refine .k0 ?_|refine .k1 ?_|refine .k3 ?_|refine .k7 ?_|refine .r1 ?_ ?_|refine .u2 ?_ ?_ ?_ (fun b u c=> ?_)|(show List.all _ _=true;rfl)|fail)
    try any_goals(exact List.cons_ne_nil _ _)
    ·exact Nat.le_of_ble_eq_true rfl
    ·show(_+1) * 32≤_;rw[List.length_map];omega
    refine jumpQ_ret ?_
    repeat'(first|exact .nil|refine .k0 ?_|refine .r1 ?_ ?_|fail)
    refine⟨_,_,_,by rw[hF2];exact hI.cb,rfl,?_,Zs⟩
    exact(by rw[hF1,List.map_append];exact .own false)
  ·have hat:at_<src.length:=by omega
   have hps:src.drop at_≠[]:=fun h=>by have:=congrArg List.length h;rw[List.length_drop]at this;simp at this;omega
   obtain⟨k,rfl⟩:∃ k',k=k'+1:=⟨k-1,by omega⟩
   have hL:=lex_step k at_ strange hps
   have hpl:=piece_len hps
   have hp4:=piece_4 (src.drop at_)
   rw[List.length_drop]at hpl
   have hI2:=hI.f1
   have hI3:=hI.f2
   rw[hL]at hI2 hI3
   have hdd:∀ n:Nat,(src.drop at_).drop n=src.drop (at_+n):=fun n=>List.drop_drop
   simp only[hdd]at hI2 hI3
   have hcast:∀ n:Nat,((at_:Int)+(n:Nat))=((at_+n:Nat):Int):=fun n=>by omega
   simp only[hcast]at hI2 hI3
   obtain⟨p,hp⟩:∃ p,pieceL (src.drop at_)=p:=⟨_,rfl⟩
   simp only[hp]at hpl hI2 hI3 hp4 ⊢
   refine WK_join (fun rg σ'=>∃ (toks':List Tok) (all':List Prb) (lV' badV':AV) (τl' τb':Store),(F.1=toks'++(lexL k (at_+p.2.1:Nat) strange (src.drop (at_+p.2.1))).1∧F.2=all'++(lexL k (at_+p.2.1:Nat) strange (src.drop (at_+p.2.1))).2)∧toks'.length≤at_+1∧
    ColS 3 58 (toks'.map Tok.cells) lV' τl'∧ColU 2 12 ((all'.take 32).map Prb.cells) badV' τb'∧σ'=(6,ba,.cells [iv (at_:Nat)])::(3,bb,.cells [badV'])::(τl'++(τb'++σ))∧
    rg=[(0,.sl nn 1 (src.map byteRow)),(2,lV'),(3,.lp 3 bb 0),(5,.pc clsV),(6,.lp 6 ba 0),(7,iv strange),(8,cloT bb ba),(10,iv (at_+p.2.1:Nat))]) ?_ ?_
   ·have hw1:IntKind.i64.wrap ((at_:Int)+1)=((at_+1:Nat):Int):=by rw[i64w (by omega)];rfl
    have hw2:IntKind.i64.wrap (((at_+p.2.1:Nat):Int)-1)=((at_+p.2.1-1:Nat):Int):=by rw[i64w (by omega)];omega
    repeat'((fail_if_success (show WK _ _ _ _ (.goto _) _ _ _));(first|exact .nil|refine .k0 ?_|refine .k1 ?_|refine .k2 ?_|refine .k4 ?_|refine .k6 ?_|refine .k9 ?_|(refine .cd ?_ ?_<;>(intro hc;skip))|refine .r1 ?_ ?_|refine .r8 ?_ ?_|fail))
    try any_goals(exact List.cons_ne_nil _ _)
    all_goals(try simp only[BL]at *)
    ·refine WK_goto ?_
     exact⟨_,rfl,2 * (src.length-at_),fun m h=>by have:=hno m h;omega,_,_,Zr,Zs,at_,k+1,strange,toks,all,_,_,_,_,hI,rfl,.inr ⟨rfl,hat,rfl,by rw[hp];exact hc,by rw[hp];rfl⟩⟩
    ·rename_i h1
     rw[if_neg h1,if_pos hc]at hI2 hI3
     refine VX_specv rfl rfl (by rfl) (((report_ok p.2.2 (at_:Nat) (all.take 32) (by rw[List.length_take];omega) bb ba badV τb ([(58,b1,.tail u1 c1)]++σ) hI.cb).wk (.cons (.refl _) (.cons .raw (.cons .raw .nil)))).permA ?_) .nil (fun x σ' hR=> ?_) (fun ch σ' hR=> ?_)
     ·exact .cons _ (.cons _ (perm_own _ _ _))
     ·obtain⟨x',τb',g1,e1,rfl⟩:=hR
      cases e1
      rw[addB_take]at g1
      repeat'(first|refine .k1 ?_|refine .k2 ?_|fail)
      exact JoinW.introS rfl ⟨toks,all++[⟨(at_:Nat),p.2.2⟩],.own 3 58 b1 u1 c1 (toks.map Tok.cells),x',[(58,b1,.tail u1 c1)],τb',⟨hI2,by rw[hI3,List.append_assoc];rfl⟩,by omega,.inr ⟨h0,b1,u1,c1,rfl,rfl⟩,g1,rfl,rfl⟩ (.perm (.cons _ (.cons _ (perm_own _ _ _).symm)) (.refl _))
     ·obtain⟨_,_,_,e1,_⟩:=hR;cases e1
    ·simp only[hw1,hw2,List.length_map]
     have:=hp4 hc
     exact⟨trivial,by omega,by omega,by omega⟩
    ·rename_i h1 h2
     simp only[hw1,hw2,Int.toNat_natCast]
     rw[if_neg h1,if_neg (fun h=>h h2),if_pos hc]at hI2 hI3
     rw[← List.map_take,← List.map_drop]
     obtain⟨T,hT⟩:∃ T:Tok,T=⟨4,⟨((src.take (at_+p.2.1-1)).drop (at_+1)).toArray⟩,(at_:Nat)⟩:=⟨_,rfl⟩
     have hT2:(⟨4,⟨(((src.drop at_).take (p.2.1-1)).drop 1).toArray⟩,(at_:Nat)⟩:Tok)=T:=by
      rw[hT];congr 3
      have:=hp4 hc
      rw[show p.2.1-1=(at_+p.2.1-1)-at_ by omega,← List.drop_take,List.drop_drop]
     rw[hT2]at hI2
     have hTc:Tok.cells T=[iv p.1,sv ⟨((src.take (at_+p.2.1-1)).drop (at_+1)).toArray⟩,iv (at_:Nat)]:=by rw[hT,hc];rfl
     clear hT hT2
     repeat'(first|exact .nil|refine .k0 ?_|refine .k1 ?_|refine .k2 ?_|refine .r1 ?_ ?_|refine .u2 ?_ ?_ ?_ (fun b u c=> ?_)|refine .r5 ?_ ?_|(show List.all _ _=true;rfl)|fail)
     try any_goals(exact List.cons_ne_nil _ _)
     ·exact Nat.le_of_ble_eq_true rfl
     ·show(_+1) * 32≤_;rw[List.length_map];omega
     exact JoinW.intro rfl ⟨toks++[T],all,.own 3 58 b u c (toks.map Tok.cells++[[iv p.1,sv ⟨((src.take (at_+p.2.1-1)).drop (at_+1)).toArray⟩,iv (at_:Nat)]]),badV,[(58,b,.tail u c)],τb,⟨by rw[hI2,List.append_assoc];rfl,hI3⟩,by rw[List.length_append];simp;omega,.inr ⟨by simp,b,u,c,by rw[List.map_append,List.map_cons,List.map_nil,hTc],rfl⟩,hI.cb,rfl,rfl⟩
    ·simp only[List.length_map]
     exact⟨trivial,by omega,by omega,by omega⟩
    ·rename_i h1 h2 h3
     rw[if_neg h1,if_neg (fun h=>h h2),if_neg h3,if_pos hc]at hI2 hI3
     rw[← List.map_take,← List.map_drop]
     obtain⟨T,hT⟩:∃ T:Tok,T=⟨p.1,⟨((src.take (at_+p.2.1)).drop at_).toArray⟩,(at_:Nat)⟩:=⟨_,rfl⟩
     have hT2:(⟨p.1,⟨((src.drop at_).take p.2.1).toArray⟩,(at_:Nat)⟩:Tok)=T:=by
      rw[hT];congr 3
      rw[List.drop_take];congr 1;omega
     rw[hT2]at hI2
     have hTc:Tok.cells T=[iv p.1,sv ⟨((src.take (at_+p.2.1)).drop at_).toArray⟩,iv (at_:Nat)]:=by rw[hT];rfl
     clear hT hT2
     repeat'(first|exact .nil|refine .k0 ?_|refine .k1 ?_|refine .k2 ?_|refine .r1 ?_ ?_|refine .u2 ?_ ?_ ?_ (fun b u c=> ?_)|refine .r5 ?_ ?_|(show List.all _ _=true;rfl)|fail)
     try any_goals(exact List.cons_ne_nil _ _)
     ·exact Nat.le_of_ble_eq_true rfl
     ·show(_+1) * 32≤_;rw[List.length_map];omega
     exact JoinW.intro rfl ⟨toks++[T],all,.own 3 58 b u c (toks.map Tok.cells++[[iv p.1,sv ⟨((src.take (at_+p.2.1)).drop at_).toArray⟩,iv (at_:Nat)]]),badV,[(58,b,.tail u c)],τb,⟨by rw[hI2,List.append_assoc];rfl,hI3⟩,by rw[List.length_append];simp;omega,.inr ⟨by simp,b,u,c,by rw[List.map_append,List.map_cons,List.map_nil,hTc],rfl⟩,hI.cb,rfl,rfl⟩
    ·rename_i h1 h2 h3
     rw[if_neg h1,if_neg (fun h=>h h2),if_neg h3,if_neg (fun h=>h hc)]at hI2 hI3
     exact JoinW.intro rfl ⟨toks,all,.own 3 58 b1 u1 c1 (toks.map Tok.cells),badV,[(58,b1,.tail u1 c1)],τb,⟨hI2,hI3⟩,by omega,.inr ⟨h0,b1,u1,c1,rfl,rfl⟩,hI.cb,rfl,rfl⟩
   ·rintro _ _ ⟨toks',all',lV',badV',τl',τb',⟨hF1,hF2⟩,htl',hcl',hcb',rfl,rfl⟩
    have hlow:at_+p.2.1≤src.length:=by omega
    have hIn:∀ (lV2:AV) (τl2:Store),ColS 3 58 (toks'.map Tok.cells) lV2 τl2→LxI src F (at_+p.2.1) k strange toks' all' lV2 badV' τl2 τb':=fun lV2 τl2 h=>⟨hlow,by omega,by omega,hI.st,hF1,hF2,h,hcb'⟩
    rcases hcl' with⟨g0,rfl,rfl⟩|⟨g0,b3,u3,c3,rfl,rfl⟩
    ·repeat'((fail_if_success (show WK _ _ _ _ (.goto _) _ _ _));(first|exact .nil|refine .k0 ?_|refine .k1 ?_|refine .k2 ?_|refine .r1 ?_ ?_|fail))
     refine WK_goto ?_
     exact⟨_,rfl,2 * (src.length-(at_+p.2.1))+1,fun m h=>by have:=hno m h;omega,_,_,Zr,Zs,at_+p.2.1,k,strange,toks',all',_,_,_,_,hIn _ _ (.inl ⟨g0,rfl,rfl⟩),rfl,.inl ⟨rfl,rfl,rfl⟩⟩
    ·repeat'((fail_if_success (show WK _ _ _ _ (.goto _) _ _ _));(first|exact .nil|refine .k0 ?_|refine .k1 ?_|refine .k2 ?_|refine .r1 ?_ ?_|fail))
     refine WK_goto ?_
     exact⟨_,rfl,2 * (src.length-(at_+p.2.1))+1,fun m h=>by have:=hno m h;omega,_,_,Zr,Zs,at_+p.2.1,k,strange,toks',all',_,_,_,_,hIn _ _ (.inr ⟨g0,b3,u3,c3,rfl,rfl⟩),rfl,.inl ⟨rfl,rfl,rfl⟩⟩
theorem lex_odd(src:List UInt8)(hl:src.length≤16384)(nn:Bool)(bb ba:Nat)(σ:Store)(F:PF)(no:Option Nat)(at_ k:Nat)(strange:Int)(toks:List Tok)(all:List Prb)(lV badV:AV)(τl τb:Store)
  (hI:LxI src F at_ k strange toks all lV badV τl τb) (hat:at_<src.length) (hp:(pieceL (src.drop at_)).1= -1) (hno:∀ m,no=some m→m=2 * (src.length-at_)):
  WK Tryz.prog c18.N (fun _=>0) (jumpQ (JumpW (JT src nn bb ba σ F) ksT no) (fun e=>FK Tryz.prog c18.N (fun _=>0) (retQ c18.res (RT σ F)) e [])) (restT 1) [] (rgT src nn bb ba lV strange [(11,iv (pieceL (src.drop at_)).2.2)]) (stT bb ba σ at_ badV τl τb):=by
 have hle:=hI.le
 have hfu:=hI.fu
 have htl:=hI.tl
 have hst:=hI.st
 have hps:src.drop at_≠[]:=fun h=>by have:=congrArg List.length h;rw[List.length_drop]at this;simp at this;omega
 obtain⟨k,rfl⟩:∃ k',k=k'+1:=⟨k-1,by omega⟩
 have hI2:=hI.f1
 have hI3:=hI.f2
 rw[lex_step k at_ strange hps,if_pos hp]at hI2 hI3
 have hdd:∀ n:Nat,(src.drop at_).drop n=src.drop (at_+n):=fun n=>List.drop_drop
 have hcast:((at_:Int)+1)=((at_+1:Nat):Int):=by omega
 simp only[hdd,hcast]at hI2 hI3
 have hw0:IntKind.i64.wrap ((at_:Int)-1)=(at_:Int)-1:=by rw[i64w (by omega)]
 have hw1:IntKind.i64.wrap ((at_:Int)+1)=((at_+1:Nat):Int):=by rw[i64w (by omega)];rfl
 unfold stT rgT cloT
 simp only[List.cons_append,List.nil_append]
 rcases hI.cl with⟨h0,rfl,rfl⟩|⟨h0,b1,u1,c1,rfl,rfl⟩
 ·show WK _ _ _ _ (.keep _ _) _ _ _
  refine WK_keep rfl ?_
  refine WK_join (fun rg σ'=>∃ (all':List Prb) (badV':AV) (τb':Store),F.2=all'++(lexL k (at_+1:Nat) (at_:Nat) (src.drop (at_+1))).2∧ColU 2 12 ((all'.take 32).map Prb.cells) badV' τb'∧σ'=(6,ba,.cells [iv (at_:Nat)])::(3,bb,.cells [badV'])::([]++(τb'++σ))∧
   rg=[(0,.sl nn 1 (src.map byteRow)),(2,nilS),(3,.lp 3 bb 0),(5,.pc clsV),(6,.lp 6 ba 0),(8,cloT bb ba)]) ?_ ?_
  ·repeat'(first|exact .nil|refine .k0 ?_|refine .k1 ?_|refine .k2 ?_|refine .k4 ?_|refine .k9 ?_|(refine .cd ?_ ?_<;>(intro hc;skip))|refine .r1 ?_ ?_|fail)
   try any_goals(exact Zo)
   all_goals(try simp only[BL]at *)
   ·rw[hw0]at hc
    rw[if_pos (by rcases hc with h|h;exact .inl h;exact .inr h)]at hI3
    refine VX_specv rfl rfl (by rfl) (((report_ok _ (at_:Nat) (all.take 32) (by rw[List.length_take];omega) bb ba badV τb ([]++σ) hI.cb).wk (.cons (.refl _) (.cons .raw (.cons .raw .nil)))).permA ?_) .nil (fun x σ' hR=> ?_) (fun ch σ' hR=> ?_)
    ·exact .refl _
    ·obtain⟨x',τb',g1,e1,rfl⟩:=hR
     cases e1
     rw[addB_take]at g1
     repeat'(first|refine .k1 ?_|refine .k2 ?_|fail)
     exact JoinW.introS rfl ⟨all++[⟨(at_:Nat),(pieceL (src.drop at_)).2.2⟩],x',τb',by rw[hI3,List.append_assoc];rfl,g1,rfl,rfl⟩ (.refl _)
    ·obtain⟨_,_,_,e1,_⟩:=hR;cases e1
   ·rw[hw0]at hc
    rw[if_neg (by rintro(h|h);exact h hc.1;exact hc.2 h)]at hI3
    exact JoinW.intro rfl ⟨all,badV,τb,hI3,hI.cb,rfl,rfl⟩
  ·rintro _ _ ⟨all',badV',τb',hF2,hcb',rfl,rfl⟩
   repeat'((fail_if_success (show WK _ _ _ _ (.goto _) _ _ _));(first|exact .nil|refine .k0 ?_|refine .k1 ?_|refine .k2 ?_|refine .r1 ?_ ?_|fail))
   rw[hw1]
   refine WK_goto ?_
   exact⟨_,rfl,2 * (src.length-(at_+1))+1,fun m h=>by have:=hno m h;omega,_,_,Zr,Zs,at_+1,k,(at_:Nat),toks,all',_,_,_,_,⟨by omega,by omega,by omega,by omega,hI2,hF2,.inl ⟨h0,rfl,rfl⟩,hcb'⟩,rfl,.inl ⟨rfl,rfl,rfl⟩⟩
 ·show WK _ _ _ _ (.keep _ _) _ _ _
  refine WK_keep rfl ?_
  refine WK_join (fun rg σ'=>∃ (all':List Prb) (badV':AV) (τb':Store),F.2=all'++(lexL k (at_+1:Nat) (at_:Nat) (src.drop (at_+1))).2∧ColU 2 12 ((all'.take 32).map Prb.cells) badV' τb'∧σ'=(6,ba,.cells [iv (at_:Nat)])::(3,bb,.cells [badV'])::([(58,b1,.tail u1 c1)]++(τb'++σ))∧
   rg=[(0,.sl nn 1 (src.map byteRow)),(2,.own 3 58 b1 u1 c1 (toks.map Tok.cells)),(3,.lp 3 bb 0),(5,.pc clsV),(6,.lp 6 ba 0),(8,cloT bb ba)]) ?_ ?_
  ·repeat'(first|exact .nil|refine .k0 ?_|refine .k1 ?_|refine .k2 ?_|refine .k4 ?_|refine .k9 ?_|(refine .cd ?_ ?_<;>(intro hc;skip))|refine .r1 ?_ ?_|fail)
   try any_goals(exact Zo)
   all_goals(try simp only[BL]at *)
   ·rw[hw0]at hc
    rw[if_pos (by rcases hc with h|h;exact .inl h;exact .inr h)]at hI3
    refine VX_specv rfl rfl (by rfl) (((report_ok _ (at_:Nat) (all.take 32) (by rw[List.length_take];omega) bb ba badV τb ([(58,b1,.tail u1 c1)]++σ) hI.cb).wk (.cons (.refl _) (.cons .raw (.cons .raw .nil)))).permA ?_) .nil (fun x σ' hR=> ?_) (fun ch σ' hR=> ?_)
    ·exact .cons _ (.cons _ (perm_own _ _ _))
    ·obtain⟨x',τb',g1,e1,rfl⟩:=hR
     cases e1
     rw[addB_take]at g1
     repeat'(first|refine .k1 ?_|refine .k2 ?_|fail)
     exact JoinW.introS rfl ⟨all++[⟨(at_:Nat),(pieceL (src.drop at_)).2.2⟩],x',τb',by rw[hI3,List.append_assoc];rfl,g1,rfl,rfl⟩ (.perm (.cons _ (.cons _ (perm_own _ _ _).symm)) (.refl _))
    ·obtain⟨_,_,_,e1,_⟩:=hR;cases e1
   ·rw[hw0]at hc
    rw[if_neg (by rintro(h|h);exact h hc.1;exact hc.2 h)]at hI3
    exact JoinW.intro rfl ⟨all,badV,τb,hI3,hI.cb,rfl,rfl⟩
  ·rintro _ _ ⟨all',badV',τb',hF2,hcb',rfl,rfl⟩
   repeat'((fail_if_success (show WK _ _ _ _ (.goto _) _ _ _));(first|exact .nil|refine .k0 ?_|refine .k1 ?_|refine .k2 ?_|refine .r1 ?_ ?_|fail))
   rw[hw1]
   refine WK_goto ?_
   exact⟨_,rfl,2 * (src.length-(at_+1))+1,fun m h=>by have:=hno m h;omega,_,_,Zr,Zs,at_+1,k,(at_:Nat),toks,all',_,_,_,_,⟨by omega,by omega,by omega,by omega,hI2,hF2,.inr ⟨h0,b1,u1,c1,rfl,rfl⟩,hcb'⟩,rfl,.inl ⟨rfl,rfl,rfl⟩⟩
theorem WK_mono{P:Program}[Glob P]{N:Nat}{cfg:Nat→Nat}{Q Q':Exit→Regs→Store→Prop}{a:AC}{rg:Regs}{σ:Store}(h:WK P N cfg Q a [] rg σ)(hq:∀ e rg σ,Q e rg σ→Q' e rg σ):WK P N cfg Q' a [] rg σ:=⟨h.h.mono hq⟩
theorem jump_ex{src:List UInt8}{nn:Bool}{bb ba:Nat}{σ:Store}{F:PF}{no:Option Nat}{l:Nat}{rg:Regs}{σ1:Store}(h:JumpW (JT src nn bb ba σ F) ksT no l rg σ1):JumpW (fun l n rg σ'=>∃ ba,JT src nn bb ba σ F l n rg σ') ksT no l rg σ1:=by
 obtain⟨rg1,h1,n',h2,rg',σ',h3,h4,h5⟩:=h
 exact⟨rg1,h1,n',h2,rg',σ',h3,h4,ba,h5⟩
theorem to_cls{P:Program}[Glob P]{N:Nat}{cfg:Nat→Nat}{Q:Exit→Regs→Store→Prop}{a:AC}{k:List Fr}{σ:Store}{xs:List AV}{i0 i1 i2 i3:Nat}{r0 r1 r2:AV}(h:xs=clsV)(hW:WK P N cfg Q a k [(i0,r0),(i1,r1),(i2,r2),(i3,.pc clsV)] σ):WK P N cfg Q a k [(i0,r0),(i1,r1),(i2,r2),(i3,.pc xs)] σ:=by
 subst h;exact hW
theorem tokens_ok(hG:GreatOk)(hA:AnyOk)(src:List UInt8)(hl:src.length≤16384)(nn:Bool)(σ:Store):
  Sx.Spec Tryz.prog 18 [.sl nn 1 (src.map byteRow)] σ fun x σ'=>∃ (badV:AV) (τb:Store),ColU 2 12 ((toksL src).2.map Prb.cells) badV τb∧x= .ret (.tup [.sl false 3 ((toksL src).1.map Tok.cells),badV,iv 0])∧σ'=τb++σ:=by
 have hF:(toksL src).2=(lexL src.length 0 (-1) src).2.take 32:=rfl
 have hF1:(toksL src).1=(lexL src.length 0 (-1) src).1:=rfl
 suffices h:Sx.Spec Tryz.prog 18 [.sl nn 1 (src.map byteRow)] σ (RT σ (lexL src.length 0 (-1) src)) by
  refine Spec.weak h fun x σ' ⟨lA,badV,τb,h1,h2,h3,h4⟩=>⟨.ret (.tup [.sl false 3 ((toksL src).1.map Tok.cells),badV,iv 0]),τb++σ,⟨badV,τb,by rw[hF];exact h1,rfl,rfl⟩,h4,?_⟩
  subst h2
  exact .tup (.cons (by rw[hF1];exact h3) (.cons (.refl _) (.cons (.refl _) .nil)))
 refine Spec.runk (fun _=>0) Tryz.func18 comp18 era18 (Nat.le_of_ble_eq_true rfl) ?_
 first|refine .k1 ?_|fail
 first|refine .k2 ?_|fail
 repeat'((fail_if_success (show WK _ _ _ _ _ _ _ _));(first|exact .nil|refine .k0 ?_|refine .k1 ?_|refine .r1 ?_ ?_|(refine .l1 ?_;intro b)|fail))
 rename Nat=>bb
 refine WK_keep rfl ?_
 generalize hFF:lexL src.length 0 (-1) src=F
 refine WK_scope (fun l n rg σ'=>∃ ba,JT src nn bb ba σ F l n rg σ') ksT ?_ ?_
 ·repeat'((fail_if_success (show VX _ _ (⟨_,.alloc _ (.agg _),_⟩::_) _ _ _ _));(first|exact .nil|refine .k0 ?_|refine .k1 ?_|refine .k2 ?_|refine .k7 ?_|refine .k9 ?_|(refine .cd ?_ ?_<;>(intro hc;skip))|refine .r1 ?_ ?_|(refine .m2 ?_ ?_;intro hlen)|refine .an rfl (by intro hob;exact classes_ok) ?_ ?_|fail))
  all_goals(try simp only[BL]at *)
  ·exact absurd hc (by omega)
  ·refine VX_alloc (cs:=z256) rfl (fun b5=> ?_)
   repeat'((fail_if_success (show WK _ _ _ _ _ _ _ _));(first|exact .nil|refine .k0 ?_|refine .k1 ?_|refine .r1 ?_ ?_|fail))
   repeat'((fail_if_success (show WK _ _ _ _ (.keep _ _) _ _ _));(fail))
   refine WK_keep rfl ?_
   refine WK_frz 5 b5 .here (.same (.same (.same (.p0 .nil)))) ?_
   refine to_cls (by kernel_rfl) ?_
   clear hc
   repeat'((fail_if_success (show WK _ _ _ _ (.seq (.label _) _) _ _ _));(first|exact .nil|refine .k0 ?_|refine .k1 ?_|refine .k2 ?_|refine .r1 ?_ ?_|(refine .l1 ?_;intro b)|fail))
   rename Nat=>ba
   refine WK_seq (WK_label (FK_seq ?_))
   have hle:src.length≤16384:=hl
   refine WK_mono (lex_main hG hA src hl nn bb ba σ F none 0 src.length (-1) [] [] nilS nilS [] [] ⟨Nat.zero_le _,Nat.sub_le _ _,Nat.le_refl _,by decide,hFF.symm ▸ rfl,hFF.symm ▸ rfl,.inl ⟨rfl,rfl,rfl⟩,.inl ⟨rfl,rfl,rfl⟩⟩ (fun m h=>nomatch h)) fun e rg σ' h=> ?_
   cases e<;>first|exact h|exact jump_ex h
 ·rintro l n _ _ ⟨ba,at_,k,strange,toks,all,lV,badV,τl,τb,hI,rfl,⟨rfl,rfl,rfl⟩|⟨rfl,hat,rfl,hp,rfl⟩⟩
  ·refine⟨_,rfl,?_⟩
   refine WK_mono (WK_seq (WK_skip (FK_seq (lex_main hG hA src hl nn bb ba σ F (some _) at_ k strange toks all lV badV τl τb hI fun m h=>(Option.some.inj h).symm)))) fun e rg σ' h=> ?_
   cases e<;>first|exact h|exact jump_ex h
  ·refine⟨_,rfl,?_⟩
   refine WK_mono (WK_seq (WK_skip (FK_seq (lex_odd src hl nn bb ba σ F (some _) at_ k strange toks all lV badV τl τb hI hat hp fun m h=>(Option.some.inj h).symm)))) fun e rg σ' h=> ?_
   cases e<;>first|exact h|exact jump_ex h
theorem tokens_long(src:List UInt8)(hl:16384<src.length)(nn:Bool)(σ:Store):
  Sx.Spec Tryz.prog 18 [.sl nn 1 (src.map byteRow)] σ fun x σ'=>x= .ret (.tup [nilS,nilS,iv 2])∧σ'=σ:=by
 suffices h:Sx.Spec Tryz.prog 18 [.sl nn 1 (src.map byteRow)] σ (fun x σ'=>x= .ret (.tup [nilS,nilS,iv 2])∧Sub σ σ') by
  refine Spec.weak h fun x σ' ⟨h2,h4⟩=>⟨.ret (.tup [nilS,nilS,iv 2]),σ,⟨rfl,rfl⟩,h4,?_⟩
  subst h2
  exact .refl _
 refine Spec.runk (fun _=>0) Tryz.func18 comp18 era18 (Nat.le_of_ble_eq_true rfl) ?_
 first|refine .k1 ?_|fail
 first|refine .k2 ?_|fail
 repeat'((fail_if_success (show WK _ _ _ _ _ _ _ _));(first|exact .nil|refine .k0 ?_|refine .k1 ?_|refine .r1 ?_ ?_|(refine .l1 ?_;intro b)|fail))
 rename Nat=>bb
 refine WK_keep rfl ?_
 refine WK_scope (fun l n rg σ'=>False) ksT ?_ (fun _ _ _ _ h=>h.elim)
 ·repeat'((fail_if_success (show VX _ _ (⟨_,.alloc _ (.agg _),_⟩::_) _ _ _ _));(first|exact .nil|refine .k0 ?_|refine .k1 ?_|refine .k2 ?_|refine .k7 ?_|refine .k9 ?_|(refine .cd ?_ ?_<;>(intro hc;skip))|refine .r1 ?_ ?_|(refine .m2 ?_ ?_;intro hlen)|refine .an rfl (by intro hob;exact classes_ok) ?_ ?_|fail))
  all_goals(try simp only[BL]at *)
  ·refine jumpQ_ret ?_
   repeat'(first|exact .nil|refine .k0 ?_|refine .r1 ?_ ?_|fail)
   exact⟨rfl,Zs⟩
  ·exact absurd hl (by omega)
end Go.Proofs.YtdcpcffpapiadaaGreatDoor
namespace Go.Proofs.YtdcpcffpapiadaaGreatDoor
open Go.Sx Go.Proofs
def ItemR(b:Nat)(τ0:Store)(m:Mdl)(x1 x2:AV)(τ1 τ2:Store)(r:PR Itm)(x:Res)(σ':Store):Prop:=match r with
 | .ok a L'=>∃ y1 y2 υ1 υ2,ModS (addI m a) y1 y2 υ1 υ2∧Gd L'∧x= .ret (.agg [iv 0,iv 0])∧σ'=(1000,b,.cells (rdC L' false++[y1,y2]))::(υ1++υ2++τ0)
 | .err p c=>x= .ret (.agg [iv p,iv c])∧∃ L' i',σ'=(1000,b,.cells (rdC L' i'++[x1,x2]))::(τ1++τ2++τ0)
theorem SWp_filt{P:Program}[Glob P]{N i:Nat}{v:Value}{Q:Exit→Regs→Store→Prop}{rg rg':Regs}{σ:Store}{s:SC}{ks:List Nat}(hk:filt ks rg=rg')(h:SWp P N i v s Q rg' σ):SWp P N i v s Q rg σ:=by
 intro c hc hf M w0 a w hI hR hN hD hv
 refine h c hc hf M w0 a w hI ?_ hN hD hv
 rw[← hk]
 exact hR.filt _
theorem SWp_perm{P:Program}[Glob P]{N i:Nat}{v:Value}{Q:Exit→Regs→Store→Prop}{rg:Regs}{σ σ':Store}{s:SC}(hp:σ.Perm σ')(h:SWp P N i v s Q rg σ'):SWp P N i v s Q rg σ:=
 fun c hc hf M w0 a w hI hR hN hD hv=>h c hc hf M w0 a w (hI.perm hp) hR hN hD hv
theorem perm_call{α:Type}(a c d:α)(s t:List α):(a::c::d::(s++t)).Perm (d::(s++a::c::t)):=
 ((List.Perm.cons _ (List.Perm.swap _ _ _)).trans (List.Perm.swap _ _ _)).trans (List.Perm.cons _ (List.perm_append_comm_assoc [a,c] s t))
def fnP(f b:Nat):Value:= .func (.func f) #[.pointer (some ⟨b,0,none⟩)] #[]
theorem strG_beq(a b:ByteArray):(a == b)=decide (a=b):=by
 obtain⟨a⟩:=a
 obtain⟨b⟩:=b
 rw[Bool.eq_iff_iff]
 show(a == b)=true↔_
 simp
theorem find_2(s a b:Str)(i j:Nat)(x y:AV):findA .string (.string s) [(.string a,i,x),(.string b,j,y)]=some (if s=a then some x else if s=b then some y else none):=by
 have h:∀ a:Str,Instr.sameNow .string (.string s) (.string a)=some (decide (s=a)):=fun a=>by
  show some (s == a)=_
  rw[strG_beq]
 simp only[findA,h]
 by_cases h1:s=a
 ·simp[h1]
 ·by_cases h2:s=b
  ·subst h2;simp[h1]
  ·simp[h1,h2]
theorem item_r2[g2:Glob Tryz.prog](b0 bb:Nat)(L:List Tok)(hL:Gd L)(x1 x2:AV)(u:Value)(σ:Store)(ok:Bool)(bm:Nat)(B:Blk)(τ:Store)(Q:Exit→Regs→Store→Prop)
  (hσ:σ=(7,bm,B)::(2,bb,.cells [iv 0,iv 0])::(1000,b0,.cells (rdC L false++[x1,x2]))::τ)
  (h:∀ rg,filt [0,2,4,38] rg=[(0,.lp 1000 b0 0),(2,.lp 2 bb 0),(4,.v u),(38,.v (.bool (!ok || !decide ((hd L).kind=1))))]→Q .normal rg σ):
  WK Tryz.prog 56 (fun _=>0) Q (.reg s2500_2) [] [(0,.lp 1000 b0 0),(2,.lp 2 bb 0),(4,.v u),(5,.v (.bool ok))] σ:=by
 have hp:=hL.pos
 subst hσ
 rw[← hd_getD]at h
 unfold rdC at h ⊢
 cases ok
 ·repeat'(first|exact .nil|refine .k1 ?_|refine .k2 ?_|refine .k3 ?_|refine .k4 ?_|refine .r1 ?_ ?_|refine .t1 ?_ ?_ ?_|fail)
  any_goals(first|exact fun _=>⟨Int.le_refl _,hp⟩|skip)
  exact h _ rfl
 ·repeat'(first|exact .nil|refine .k1 ?_|refine .k2 ?_|refine .k3 ?_|refine .r1 ?_ ?_|refine .t1 ?_ ?_ ?_|fail)
  any_goals(first|exact fun _=>⟨Int.le_refl _,hp⟩|skip)
  exact h _ rfl
theorem item_t2[g2:Glob Tryz.prog](b0 bb bm:Nat)(B:Blk)(L:List Tok)(hL:Gd L)(m:Mdl)(x1 x2:AV)(u:Value)(τ0 τ1 τ2:Store)(f:Nat)(ok:Bool)(r:PR Itm)
  (hW:∀ τ,Sx.Spec Tryz.prog 61 [.lp 1000 b0 0] ((1000,b0,.cells (rdC L false++[x1,x2]))::τ) fun x σ'=>∃ cs',RdR false [x1,x2] (wrongP L:PR Unit) (fun _=> .any) x cs'∧σ'=(1000,b0,.cells cs')::τ)
  (h0:ok=true→(hd L).kind=1→u=fnP f b0∧itemP L=r∧callable Tryz.prog f=true∧∀ τ,Sx.Spec Tryz.prog f [.v (.pointer (some ⟨b0,0,none⟩))] ((1000,b0,.cells (rdC L.tail false++[x1,x2]))::(τ1++τ2++τ)) (ModR b0 τ m x1 x2 τ1 τ2 r))
  (h1:¬(ok=true∧(hd L).kind=1)→itemP L=wrongP L):
  SWp Tryz.prog 56 2 (.pointer (some ⟨bb,0,none⟩)) (.seq (.seq (.reg s2500_2) (.cond (.tmp 38) (.reg s2500_3) .skip)) (.seq (.reg s2500_4) (.seq (.reg s2500_5) (.seq (.reg s2500_6) .ret)))) (doorQ bb (ItemR b0 τ0 m x1 x2 τ1 τ2 (itemP L))) [(0,.lp 1000 b0 0),(2,.lp 2 bb 0),(4,.v u),(5,.v (.bool ok))]
   ((7,bm,B)::(2,bb,.cells [iv 0,iv 0])::(1000,b0,.cells (rdC L false++[x1,x2]))::(τ1++τ2++τ0)):=by
 have hp:=hL.pos
 refine SWp_seq (SWp_seq (SWp_regk (item_r2 b0 bb L hL x1 x2 u _ ok _ _ _ _ rfl fun rg hrg=>SWp_filt hrg ?_)))
 refine SWp_cond rfl (fun hc=> ?_) (fun hc=> ?_)
 ·have hw:itemP L=wrongP L:=h1 (fun h=>by rw[h.1,decide_eq_true h.2]at hc;cases hc)
  rw[hw]
  refine SWp_regk (cfg:=fun _=>0) ?_
  repeat'(first|exact .nil|refine .k2 ?_|refine .r1 ?_ ?_|fail)
  refine VX_spec rfl ((hW ((7,bm,B)::(2,bb,.cells [iv 0,iv 0])::(τ1++τ2++τ0))).permA ?_) .nil (fun x σ' hR=> ?_) (fun ch σ' hR=> ?_)
  ·exact(List.Perm.cons _ (List.Perm.swap _ _ _)).trans (List.Perm.swap _ _ _)
  ·obtain⟨_,⟨e,_⟩,_⟩:=hR;cases e
  ·obtain⟨cs',⟨e,L',i',rfl⟩,rfl⟩:=hR
   cases e
   refine FK_pan ?_
   show doorQ _ _ (.panic _) [] _
   refine⟨(hd L).at_,90,2,0,0,(1000,b0,.cells (rdC L' i'++[x1,x2]))::(τ1++τ2++τ0),(7,bm,B)::(2,bb,.cells [iv 0,iv 0])::(1000,b0,.cells (rdC L' i'++[x1,x2]))::(τ1++τ2++τ0),rfl,(List.Perm.swap _ _ _).trans (List.Perm.cons _ (List.Perm.swap _ _ _)),Sub.cons (.refl _),?_⟩
   exact⟨rfl,L',i',rfl⟩
 ·have hk:ok=true∧(hd L).kind=1:=by
   cases ok
   ·cases hc
   ·exact⟨rfl,by simpa using hc⟩
  obtain⟨rfl,hi,hcl,hC⟩:=h0 hk.1 hk.2
  rw[hi]
  refine SWp_skip ?_
  show SWp _ _ _ _ _ _ _ _
  refine SWp_keep (ks:=[0,2,4]) (rg':=[(0,.lp 1000 b0 0),(2,.lp 2 bb 0),(4,.v (fnP f b0))]) rfl ?_
  refine SWp_seq (SWp_regk (cfg:=fun _=>0) ?_)
  repeat'(first|exact .nil|refine .k0 ?_|refine .k2 ?_|refine .r1 ?_ ?_|refine .t3 ?_ ?_ ?_|refine .r8 ?_ ?_|fail)
  any_goals(first|exact fun _=>⟨by decide,by omega⟩|skip)
  refine VX_st (cs':=[.sl false 3 ((L.drop 1).map Tok.cells),.v (.bool false)]++[x1,x2]) rfl rfl rfl rfl rfl ⟨rfl,by simp⟩ .nil ?_
  repeat'(first|refine .k1 ?_|refine .k3 ?_|fail)
  rw[List.drop_one]
  show SWp _ _ _ _ _ _ _ _
  refine SWp_filt (ks:=[2,4]) (rg':=[(2,.lp 2 bb 0),(4,.v (fnP f b0))]) rfl ?_
  refine SWp_seq (SWp_regk (cfg:=fun _=>0) ?_)
  repeat'(first|exact .nil|refine .k2 ?_|refine .r1 ?_ ?_|fail)
  refine VX_specv rfl rfl hcl ((hC ((7,bm,B)::(2,bb,.cells [iv 0,iv 0])::τ0)).permA (perm_call _ _ _ _ _)) .nil (fun x σ' hR=> ?_) (fun ch σ' hR=> ?_)
  ·cases r with
   |err p c=>obtain⟨e,_⟩:=hR;cases e
   |ok a L'=>
    obtain⟨y1,y2,υ1,υ2,g1,g2,e,rfl⟩:=hR
    cases e
    repeat'(first|refine .k1 ?_|refine .k3 ?_|fail)
    show SWp _ _ _ _ _ _ _ _
    refine SWp_filt (ks:=[2]) (rg':=[(2,.lp 2 bb 0)]) rfl ?_
    refine SWp_perm (perm_call _ _ _ _ _).symm ?_
    refine SWp_seq (SWp_regk (cfg:=fun _=>0) ?_)
    repeat'(first|exact .nil|refine .k0 ?_|refine .k1 ?_|refine .k2 ?_|refine .k3 ?_|refine .r1 ?_ ?_|fail)
    show SWp _ _ _ _ _ _ _ _
    refine SWp_ret ?_
    exact⟨2,0,0,(1000,b0,.cells (rdC L' false++[y1,y2]))::(υ1++υ2++τ0),_,.refl _,Sub.cons (.refl _),y1,y2,υ1,υ2,g1,g2,rfl,rfl⟩
  ·cases r with
   |ok a L'=>obtain⟨_,_,_,_,_,_,e,_⟩:=hR;cases e
   |err p c=>
    obtain⟨e,L',i',rfl⟩:=hR
    cases e
    refine FK_pan ?_
    show doorQ _ _ (.panic _) [] _
    refine⟨p,c,2,0,0,(1000,b0,.cells (rdC L' i'++[x1,x2]))::(τ1++τ2++τ0),_,rfl,(perm_call _ _ _ _ _).symm,Sub.cons (.refl _),?_⟩
    exact⟨rfl,L',i',rfl⟩
theorem item_rest[g2:Glob Tryz.prog](b0 bb:Nat)(L:List Tok)(hL:Gd L)(m:Mdl)(x1 x2:AV)(τ0 τ1 τ2:Store)
  (hW:∀ τ,Sx.Spec Tryz.prog 61 [.lp 1000 b0 0] ((1000,b0,.cells (rdC L false++[x1,x2]))::τ) fun x σ'=>∃ cs',RdR false [x1,x2] (wrongP L:PR Unit) (fun _=> .any) x cs'∧σ'=(1000,b0,.cells cs')::τ)
  (hT:Gd L.tail→∀ τ,Sx.Spec Tryz.prog 59 [.lp 1000 b0 0] ((1000,b0,.cells (rdC L.tail false++[x1,x2]))::(τ1++τ2++τ)) (ModR b0 τ m x1 x2 τ1 τ2 ((tableP L.tail).map .tab)))
  (hF:Gd L.tail→∀ τ,Sx.Spec Tryz.prog 60 [.lp 1000 b0 0] ((1000,b0,.cells (rdC L.tail false++[x1,x2]))::(τ1++τ2++τ)) (ModR b0 τ m x1 x2 τ1 τ2 ((featureP L.tail).map .fea))):
  SWp Tryz.prog 56 2 (.pointer (some ⟨bb,0,none⟩)) c2500.code (doorQ bb (ItemR b0 τ0 m x1 x2 τ1 τ2 (itemP L))) [(0,.lp 1000 b0 0),(2,.lp 2 bb 0)] ((2,bb,.cells [iv 0,iv 0])::(1000,b0,.cells (rdC L false++[x1,x2]))::(τ1++τ2++τ0)):=by
 have hp:=hL.pos
 show SWp _ _ _ _ (.seq (.reg s2500_0) _) _ _ _
 refine SWp_seq (SWp_regk (cfg:=fun _=>0) ?_)
 first|refine .k2 ?_|fail
 refine VX_mkmap fun bm=> ?_
 repeat'(first|exact .nil|refine .k1 ?_|refine .k3 ?_|refine .r1 ?_ ?_|refine .r6 ?_ ?_|fail)
 refine SWp_keep (ks:=[0,2,3]) (rg':=[(0,.lp 1000 b0 0),(2,.lp 2 bb 0),(3,.mpt 7 bm)]) rfl ?_
 show SWp _ _ _ _ (.seq (.reg s2500_1) _) _ _ _
 refine SWp_seq (SWp_regk (cfg:=fun _=>0) ?_)
 unfold rdC
 repeat'(first|exact .nil|refine .k0 ?_|refine .k1 ?_|refine .k2 ?_|refine .r1 ?_ ?_|refine .t1 ?_ ?_ ?_|fail)
 any_goals(first|exact fun _=>⟨Int.le_refl _,hp⟩|skip)
 by_cases h1:(hd L).text=wTable
 ·refine VX_lkt zero_fn rfl rfl rfl rfl (o:=some (.v (fnP 59 b0))) ((find_2 (L.getD 0 default).text wTable wFea 0 1 (.v (fnP 59 b0)) (.v (fnP 60 b0))).trans (by rw[hd_getD,if_pos h1])) .nil ?_
  repeat'(first|exact .nil|refine .k1 ?_|refine .k3 ?_|refine .r1 ?_ ?_|fail)
  show SWp _ _ _ _ _ _ _ _
  refine SWp_filt (ks:=[0,2,4,5]) (rg':=[(0,.lp 1000 b0 0),(2,.lp 2 bb 0),(4,.v (fnP 59 b0)),(5,.v (.bool true))]) rfl ?_
  exact item_t2 b0 bb bm _ L hL m x1 x2 _ τ0 τ1 τ2 59 true ((tableP L.tail).map .tab) hW
   (fun _ hk=>⟨rfl,by simp[itemP,see,hk,h1],rfl,fun τ=>(hT (hL.tail (by rw[hk];decide)).1 τ).wk (.cons .raw .nil)⟩)
   (fun hn=>by simp[itemP,see,show(hd L).kind≠1 from fun e=>hn ⟨rfl,e⟩])
 ·by_cases h2:(hd L).text=wFea
  ·refine VX_lkt zero_fn rfl rfl rfl rfl (o:=some (.v (fnP 60 b0))) ((find_2 (L.getD 0 default).text wTable wFea 0 1 (.v (fnP 59 b0)) (.v (fnP 60 b0))).trans (by rw[hd_getD,if_neg h1,if_pos h2])) .nil ?_
   repeat'(first|exact .nil|refine .k1 ?_|refine .k3 ?_|refine .r1 ?_ ?_|fail)
   show SWp _ _ _ _ _ _ _ _
   refine SWp_filt (ks:=[0,2,4,5]) (rg':=[(0,.lp 1000 b0 0),(2,.lp 2 bb 0),(4,.v (fnP 60 b0)),(5,.v (.bool true))]) rfl ?_
   exact item_t2 b0 bb bm _ L hL m x1 x2 _ τ0 τ1 τ2 60 true ((featureP L.tail).map .fea) hW
    (fun _ hk=>⟨rfl,by simp[itemP,see,hk,h1,h2],rfl,fun τ=>(hF (hL.tail (by rw[hk];decide)).1 τ).wk (.cons .raw .nil)⟩)
    (fun hn=>by simp[itemP,see,show(hd L).kind≠1 from fun e=>hn ⟨rfl,e⟩])
  ·refine VX_lkt zero_fn rfl rfl rfl rfl (o:=none) ((find_2 (L.getD 0 default).text wTable wFea 0 1 (.v (fnP 59 b0)) (.v (fnP 60 b0))).trans (by rw[hd_getD,if_neg h1,if_neg h2])) .nil ?_
   repeat'(first|exact .nil|refine .k1 ?_|refine .k3 ?_|refine .r1 ?_ ?_|fail)
   show SWp _ _ _ _ _ _ _ _
   refine SWp_filt (ks:=[0,2,4,5]) (rg':=[(0,.lp 1000 b0 0),(2,.lp 2 bb 0),(4,.v .nilFunc),(5,.v (.bool false))]) rfl ?_
   exact item_t2 b0 bb bm _ L hL m x1 x2 _ τ0 τ1 τ2 0 false (wrongP L) hW (fun h=>nomatch h) (fun hn=>by simp[itemP,see,h1,h2])
theorem item_ok(hN:NormOk)(hD:DecOk)(b0:Nat)(m:Mdl)(hm:m.tables.length≤100000∧m.features.length≤100000)(x1 x2:AV)(τ0 τ1 τ2:Store)(hS:ModS m x1 x2 τ1 τ2)(L:List Tok)(hL:Gd L):
  Sx.Spec Tryz.prog 25 [.lp 1000 b0 0] ((1000,b0,.cells (rdC L false++[x1,x2]))::(τ1++τ2++τ0)) (ItemR b0 τ0 m x1 x2 τ1 τ2 (itemP L)):=
 item_door b0 _ _ fun bb=> @item_rest (globD Tryz.prog [dfr 58 bb]) b0 bb L hL m x1 x2 τ0 τ1 τ2 (fun τ=>Spec.toD (wrong_ok L hL false b0 [x1,x2] τ))
  (fun hL' τ=>Spec.toD (table_ok wrong_ok hN b0 m hm.1 x1 x2 τ τ1 τ2 hS L.tail hL')) (fun hL' τ=>Spec.toD (feature_ok wrong_ok hN hD b0 m hm.2 x1 x2 τ τ1 τ2 hS L.tail hL'))
end Go.Proofs.YtdcpcffpapiadaaGreatDoor
