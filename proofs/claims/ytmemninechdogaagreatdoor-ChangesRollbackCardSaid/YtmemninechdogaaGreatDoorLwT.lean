import Derived.Test.YtmemninechdogaaGreatDoorRd
import Derived.Test.YtmemninechdogaaGreatDoorAx
import Derived.Test.YtmemninechdogaaGreatDoorTie
import Derived.Test.YtmemninechdogaaGreatDoorCards
import Derived.Lay
set_option linter.all false
set_option maxHeartbeats 4000000
namespace Go.Proofs.YtmemninechdogaaGreatDoor.changesRollback
open _root_.Go.Proofs.Tryz
open Go.ChangeShapes Go.WideShapes Go.ChangeAt Go.RowKit Go.Sx Go.Proofs
theorem wrap{H:Type}{enc:TypeId×Value->H}{a:Assume}{C:Checked}{os:Os}{f:FuncId}{fn:Func}{s:ChangeSpec}{conds:List PathCond}{apart fresh handsOn again:Bool}{X:World->Array Value->Prop}
  (hX:∀(w w':World) (args:Array Value),w.heap=w'.heap->X w args->X w' args)
  (own:ownKnob C.prog.godebug=none) (started:os.Started) (aib:C.prog.inits.idxOf? f=none) (jC:C.prog.funcs[f]? =some fn)
  (witness:∃(w:World) (tape:Tape) (i:Input),w.os=os/\(w.forCall tape i).Shaped C.prog/\i.vars=[]/\Input.okWide C.prog (w.forCall tape i) .any w.heap.size f i/\
   ((s.pre enc C.prog fn conds apart (w.forCall tape i).memory i.args/\X (w.forCall tape i).memory i.args)/\sizedMet enc C.prog fn (OpenSpec.ofChange s) apart (w.forCall tape i).memory i.args)/\a.holds C.prog (lone (Frame.enter C.prog f i.args .normal) [] (w.forCall tape i)))
  (contract:∀(W:World) (base:Nat) (args:Array Value) (ds gs:List (DataW H)) (before:List MemPlace),
   (∀(j:Nat) t v,fn.params[j]? =some t->args[j]? =some v->Value.okWide C.prog W .any base t v)->
   DataW.Whole enc C.prog fn.params.toList s.vars apart W args.toList ds gs before->
   (DataW.weightsEach C.prog (fn.params.toList++s.plain.varTypes C.prog) (ds++gs)).all (·<=reachBytes)=true->X W args->W.ShapedOpen C.prog->
   Calls C.prog f args W fun e W'=>∃v,e= .returned v/\s.post enc C.prog fn apart fresh handsOn again W args v W'):
  ReturnsInHanded a C os f .any (fun w args=>(s.pre enc C.prog fn conds apart w args/\X w args)/\sizedMet enc C.prog fn (OpenSpec.ofChange s) apart w args) (s.post enc C.prog fn apart fresh handsOn again):=by
 refine returnsInHanded_of_calls own started aib witness ?_;intro w tape i _ tM _ cr mR amP;obtain⟨_,_,_,Oi,adS,_,_,_,_,anp⟩:=cr;have e:Oi=fn:=YC (adS.symm.trans jC);subst e;obtain⟨⟨⟨ds,gs,before,hw,hc⟩,hx⟩,hz⟩:=mR;have qj:=DataW.Whole.of_heap (w':=w.forCall tape i) (by rfl) hw;refine(contract (w.forCall tape i) w.heap.size i.args ds gs before anp qj (hz.weights hw) (hX _ _ _ (by rfl) hx) tM).mono fun e W' ⟨v,he,hp⟩=>?_;subst he;exact ChangeSpec.post_blind hp
set_option maxRecDepth 100000 in
theorem lifted(os:Os)(started:os.Started)(H:Type)(enc:TypeId×Value->H):
  ReturnsInHanded {} checked os 4 .any (fun w args=>(Rows.changesRollbackSpec.pre enc prog f4 [] false w args/\laidMetH prog Rows.changesRollbackRow.laid w)/\sizedMet enc prog f4 (OpenSpec.ofChange Rows.changesRollbackSpec) false w args)
   (Rows.changesRollbackSpec.post enc prog f4 false true false false):=by
 refine wrap (C:=checked) (X:=fun w _=>laidMetH prog Rows.changesRollbackRow.laid w) (fun _ _ _ hh h=>h.of_heap hh) own started (by kernel_rfl) func4
  (ChangeSpec.witness_shaped (enc:=enc) (C:=checked) (os:=os) (X:=fun w _=>laidMetH prog Rows.changesRollbackRow.laid w) false (World.laidAll prog os Rows.changesRollbackRow.laid) #[.agg #[.slice none 0 0,.slice none 0 0,.slice none 0 0,.slice none 0 0],.string ⟨#[]⟩] 8 (World.laidAll_os _ _ _)
   (World.shaped_of_ZipB (by kernel_rfl) (by kernel_rfl)) (by kernel_rfl) (by kernel_rfl) (by kernel_rfl)
   (by rw[MakeChecks.laidMetH_plain _ _ _ (by kernel_rfl)];exact laidMet_laidAll _ (by kernel_rfl) (by kernel_rfl))) ?_
 intro W base args ds gs before ap0 hW bl hL tM;rw[MakeChecks.laidMetH_plain _ _ _ (by kernel_rfl)]at hL;have anp:∀(j:Nat) t v,f4.params[j]? =some t->args[j]? =some v->Value.okWide prog W .any base t v:=ap0;have hW':=hW;obtain⟨p,q,hA0,hV,rfl,_,_⟩:=hW;have hA:DataW.TrodAll enc prog W 0 (fun _=>true) true f4.params.toList args.toList ds p:=hA0;have ew:∀(j:Nat) t d,f4.params.toList[j]? =some t->ds[j]? =some d->zm prog t d:=fun j t d ht hd n hn=>by have oQ:j<f4.params.toList.length:=(ZG.1 ht).1;have qa:j<ds.length:=(ZG.1 hd).1;have:=ZA.1 bl n (DataW.weights_mem_each (j:=j) (by rw[YR oQ];exact ht) (by rw[YR qa];exact hd) n hn);simpa using this
 rw[params4]at hA anp ew;obtain⟨v0,Uy,d0,ds0,p0,q0,O5,rfl,rfl,h0,r0⟩:=trodAll_cons hA;obtain⟨v1,cB,d1,ds1,p1,q1,rfl,rfl,rfl,h1,r1⟩:=trodAll_cons r0;obtain⟨rfl,rfl,rfl⟩:=trodAll_nil r1;obtain rfl:args= #[v0,v1]:=by cases args;simp_all
 obtain⟨rfl,rfl⟩:=trodVars_none hV;obtain⟨_,g0,c,rfl,hc⟩:=MA underlying25 (anp 0 _ v0 rfl rfl) h0 (ew 0 _ d0 rfl rfl) ai6;obtain⟨_,g1,n,e1,hn⟩:=apq (by kernel_rfl) (anp 1 _ v1 rfl rfl) h1 (ew 1 _ d1 rfl rfl) pj;cases e1;refine(Pure.calls (aqQ c n hc acf) (adg hL tM) (RL.cons g0 (RL.cons g1 RL.nil))).mono fun e W' ⟨he,hb⟩=>?_;subst he;exact⟨_,rfl,aiH laidOut (by kernel_rfl) rfl ⟨rfl,rfl,rfl⟩ rfl underlying4 hW' hb⟩
theorem facts:joinedFacts Tryz.pinned.checked.prog 4 f4 Rows.changesRollbackSpec Rows.changesRollbackRow=true:=by
 unfold joinedFacts;simp only[Z6];repeat' apply And.intro
 all_goals as_aux_lemma=>kernel_rfl
theorem over:Rows.changesRollbackRow.holds Tryz.pinned (OpenSpec.ofChange Rows.changesRollbackSpec):=
 OpenClaim.holds_of_wide 4 f4 rfl rfl rfl rfl rfl rfl rfl ⟨rfl,rfl,rfl,rfl,rfl⟩ rfl rfl rfl rfl rfl (by as_aux_lemma=>kernel_rfl) func4 facts
  (Yl (by as_aux_lemma=>kernel_rfl)) (by unfold Func.isWrapper;(rw[Z9 (by decide+kernel)];exact⟨rfl,rfl⟩))
  (fun os started H enc _=>lifted os started H enc)
end Go.Proofs.YtmemninechdogaaGreatDoor.changesRollback
namespace Go.Proofs.YtmemninechdogaaGreatDoor
open Go.ChangeShapes Go.WideShapes Go.ChangeAt Go.RowKit Go.Proofs
theorem adj{P:Program}(h:P.funcs.any Func.goes=false)(c:OpenClaim)(hs:c.start= .entering):false=c.goesBy P:=by
 have h1:∀f,P.goes f=false:=fun f=>by
  unfold Program.goes;rw[h,Bool.and_false,Xm,List.any_eq_false];intro g _;cases hg:P.funcs[g]? with
  |none=>simp|some fn=>have:=Array.any_eq_false.1 h g (ZW.1 hg).1;rw[(ZW.1 hg).2]at this;simpa using this
 unfold OpenClaim.goesBy Program.goesAt Program.goesFrom;rw[hs];cases P.funcNamed c.func with
 |none=>rfl|some f=>simp[h1 f]
theorem adf:Tryz.prog.funcs.any Func.goes=false:=by kernel_rfl
theorem apT:false=Rows.changesRollbackRow.goesBy Tryz.pinned.checked.prog:=adj adf _ rfl
