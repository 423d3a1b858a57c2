/-
  The statement PrinterModules: modules are printed line by line and parsed back. No condition: for every input.
-/
import Derived.Test.YtbihckigennlhaaGreatDoorRd
import Derived.Test.YtbihckigennlhaaGreatDoorTie
import Derived.Test.YtbihckigennlhaaGreatDoorCards
import Derived.WalkKit
import Derived.ProofKit
import Derived.Lay
import Derived.LaidOnce
import Derived.SevenTiedAt
set_option linter.unusedVariables false
namespace Go.Proofs.YtbihckigennlhaaGreatDoor.printerModules
open Go.ChangeShapes Go.WideShapes Go.ChangeAt Go.RowKit Go.Sx Go.Proofs
theorem wrap{H:Type}{enc:TypeId×Value→H}{a:Assume}{C:Checked}{os:Os}{f:FuncId}{fn:Func}{s:ChangeSpec}{conds:List PathCond}{apart fresh handsOn again:Bool}{X:World→Array Value→Prop}
  (hX:∀ (w w':World) (args:Array Value),w.heap=w'.heap→X w args→X w' args)
  (own:ownKnob C.prog.godebug=none) (started:os.Started) (aJP:C.prog.inits.idxOf? f=none) (hfn:C.prog.funcs[f]? =some fn)
  (witness:∃ (w:World) (tape:Tape) (i:Input),w.os=os∧(w.forCall tape i).Shaped C.prog∧i.vars=[]∧Input.okWide C.prog (w.forCall tape i) .any w.heap.size f i∧
   ((s.pre enc C.prog fn conds apart (w.forCall tape i).memory i.args∧X (w.forCall tape i).memory i.args)∧sizedMet enc C.prog fn (OpenSpec.ofChange s) apart (w.forCall tape i).memory i.args)∧a.holds C.prog (lone (Frame.enter C.prog f i.args .normal) [] (w.forCall tape i)))
  (contract:∀ (W:World) (base:Nat) (args:Array Value) (ds gs:List (DataW H)) (before:List MemPlace),
   (∀ (j:Nat) t v,fn.params[j]? =some t→args[j]? =some v→Value.okWide C.prog W .any base t v)→
   DataW.Whole enc C.prog fn.params.toList s.vars apart W args.toList ds gs before→
   (DataW.weightsEach C.prog (fn.params.toList++s.plain.varTypes C.prog) (ds++gs)).all (·≤reachBytes)=true→X W args→W.ShapedOpen C.prog→
   Calls C.prog f args W fun e W'=>∃ v,e= .returned v∧s.post enc C.prog fn apart fresh handsOn again W args v W'):
  ReturnsInHanded a C os f .any (fun w args=>(s.pre enc C.prog fn conds apart w args∧X w args)∧sizedMet enc C.prog fn (OpenSpec.ofChange s) apart w args) (s.post enc C.prog fn apart fresh handsOn again):=by
 refine returnsInHanded_of_calls own started aJP witness ?_
 intro w tape i _ hsh _ hok aJO aJR
 obtain⟨_,_,_,fn',aJN,_,_,_,_,hval⟩:=hok
 have e:fn'=fn:=Zf (aJN.symm.trans hfn)
 subst e
 obtain⟨⟨⟨ds,gs,before,hw,hc⟩,hx⟩,hz⟩:=aJO
 have hw':=DataW.Whole.of_heap (w':=w.forCall tape i) (by rfl) hw
 refine(contract (w.forCall tape i) w.heap.size i.args ds gs before hval hw' (hz.weights hw) (hX _ _ _ (by rfl) hx) hsh).mono fun e W' ⟨v,he,hp⟩=> ?_
 subst he
 exact ChangeSpec.post_blind hp
set_option maxRecDepth 100000 in
theorem lifted(os:Os)(started:os.Started)(H:Type)(enc:TypeId×Value→H):
  ReturnsInHanded {} Tryz.checked os 7 .any (fun w args=>(Rows.printerModulesSpec.pre enc Tryz.prog Tryz.f7 [] false w args∧laidMetH Tryz.prog Rows.printerModulesRow.laid w)∧sizedMet enc Tryz.prog Tryz.f7 (OpenSpec.ofChange Rows.printerModulesSpec) false w args)
   (Rows.printerModulesSpec.post enc Tryz.prog Tryz.f7 false true false false):=by
 refine wrap (C:=Tryz.checked) (X:=fun w _=>laidMetH Tryz.prog Rows.printerModulesRow.laid w) (fun _ _ _ hh h=>h.of_heap hh) own started (by kernel_rfl) Tryz.func7
  (ChangeSpec.witness_shaped (enc:=enc) (C:=Tryz.checked) (os:=os) (X:=fun w _=>laidMetH Tryz.prog Rows.printerModulesRow.laid w) false (World.laidAll Tryz.prog os Rows.printerModulesRow.laid) #[.agg #[.slice none 0 0,.slice none 0 0]] 8 (World.laidAll_os _ _ _)
   (World.shaped_of_ZipB (by kernel_rfl) (by kernel_rfl)) (by kernel_rfl) (by kernel_rfl) (by kernel_rfl)
   (by rw[MakeChecks.laidMetH_plain _ _ _ (by kernel_rfl)];exact laidMet_laidAll _ (by kernel_rfl) (by kernel_rfl))) ?_
 intro W base args ds gs before hval0 hW hsz hL hsh
 rw[MakeChecks.laidMetH_plain _ _ _ (by kernel_rfl)]at hL
 have hval:∀ (j:Nat) t v,Tryz.f7.params[j]? =some t→args[j]? =some v→Value.okWide Tryz.prog W .any base t v:=hval0
 have hW':=hW
 obtain⟨p,q,hA0,hV,rfl,_,_⟩:=hW
 have hA:DataW.TrodAll enc Tryz.prog W 0 (fun _=>true) true Tryz.f7.params.toList args.toList ds p:=hA0
 have hz0:∀ (j:Nat) t d,Tryz.f7.params.toList[j]? =some t→ds[j]? =some d→Wok Tryz.prog t d:=fun j t d ht hd n hn=>by
  have hl1:j<Tryz.f7.params.toList.length:=(ZN.1 ht).1
  have hl2:j<ds.length:=(ZN.1 hd).1
  have:=ZF.1 hsz n (DataW.weights_mem_each (j:=j) (by rw[Zk hl1];exact ht) (by rw[Zk hl2];exact hd) n hn)
  simpa using this
 rw[Tryz.params7]at hA hval hz0
 obtain⟨v0,vs0,d0,ds0,p0,q0,aJJ,rfl,rfl,h0,r0⟩:=trodAll_cons hA
 obtain⟨rfl,rfl,rfl⟩:=trodAll_nil r0
 obtain rfl:args= #[v0]:=by cases args;simp_all
 obtain⟨rfl,rfl⟩:=trodVars_none hV
 obtain⟨_,g0,x,rfl,hx⟩:=aJL Tryz.underlying62 (hval 0 _ v0 rfl rfl) h0 (hz0 0 _ d0 rfl rfl) aFI
 refine(Pure.calls (aFD x hx) (aJM hL hsh) (RL.cons g0 RL.nil)).mono fun e W' ⟨he,hb⟩=> ?_
 subst he
 exact⟨_,rfl,aJQ laidOut (by kernel_rfl) rfl ⟨rfl,rfl,rfl⟩ rfl Tryz.underlying4 hW' hb⟩
theorem over:Rows.printerModulesRow.holds Tryz.pinned (OpenSpec.ofChange Rows.printerModulesSpec):=
 OpenClaim.holds_of_wide 7 Tryz.f7 rfl rfl rfl rfl rfl rfl rfl ⟨rfl,rfl,rfl,rfl,rfl⟩ rfl rfl rfl rfl rfl (by kernel_rfl) Tryz.func7 (by kernel_rfl)
  (of_decide_eq_true (by kernel_rfl)) (by unfold Func.isWrapper;(rw[if_neg (by decide+kernel)];exact⟨rfl,rfl⟩))
  (fun os started H enc _=>lifted os started H enc)
theorem proved:Rows.PrinterModulesCardSaid:=
 Claim7.holds_tied_plain_at .later [] [.data,.data,.data,.data,.sentinel,.sentinel,.data,.widerDeep,.widerDeep,.widerDeep,.pinned] true (true, "9bbb2b265c9095fb024a6f7af3f615d2b77b12f92beeb079863c98bda919d8a4") true over (fun _ h=>by cases h) (by kernel_rfl) (fun _ h=>by cases h) printerModules_row_tie rfl ⟨rfl,rfl⟩ (by kernel_rfl) rfl
  (fun f fn hf hfn=>by
   obtain rfl:f=7:=Zf ((show Tryz.prog.funcNamed "asof/asoflaw11.PrinterModules" =some 7 by kernel_rfl).symm.trans hf) |>.symm
   obtain rfl:fn=Tryz.f7:=(Zf (Tryz.func7.symm.trans hfn)).symm
   exact⟨by kernel_rfl,fun j t ht=>by
    rw[Tryz.params7]at ht
    have hm:t∈[62]:=by simpa using XM ht
    have aJb:([62].all fun u=> !Tryz.prog.wantsStandIn u)=true:=by kernel_rfl
    exact(show Tryz.prog.wantsStandIn t=false by simpa using ZF.1 aJb t hm)⟩)
  (by kernel_rfl)
end Go.Proofs.YtbihckigennlhaaGreatDoor.printerModules
