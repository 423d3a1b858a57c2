/-
  The statement PrinterTokens: the tokens of a text, joined by blanks, are the same expression. No condition: for every input.
-/
import Derived.Test.YtbihckigennlhaaGreatDoorPl
import Derived.Test.YtbihckigennlhaaGreatDoorTie
import Derived.Test.YtbihckigennlhaaGreatDoorCards
import Derived.WalkKit
import Derived.ProofKit
import Derived.Lay
import Derived.LaidOnce
import Derived.SevenTiedAt
set_option linter.unusedVariables false
namespace Go.Proofs.YtbihckigennlhaaGreatDoor.printerTokens
open Go.ChangeShapes Go.WideShapes Go.ChangeAt Go.RowKit Go.Sx Go.Proofs
theorem wrap{H:Type}{enc:TypeId×Value→H}{a:Assume}{C:Checked}{os:Os}{f:FuncId}{fn:Func}{s:ChangeSpec}{conds:List PathCond}{apart fresh handsOn again:Bool}{X:World→Array Value→Prop}
  (hX:∀ (w w':World) (args:Array Value),w.heap=w'.heap→X w args→X w' args)
  (own:ownKnob C.prog.godebug=none) (started:os.Started) (acX:C.prog.inits.idxOf? f=none) (lG:C.prog.funcs[f]? =some fn)
  (witness:∃ (w:World) (tape:Tape) (i:Input),w.os=os∧(w.forCall tape i).Shaped C.prog∧i.vars=[]∧Input.okWide C.prog (w.forCall tape i) .any w.heap.size f i∧
   ((s.pre enc C.prog fn conds apart (w.forCall tape i).memory i.args∧X (w.forCall tape i).memory i.args)∧sizedMet enc C.prog fn (OpenSpec.ofChange s) apart (w.forCall tape i).memory i.args)∧a.holds C.prog (lone (Frame.enter C.prog f i.args .normal) [] (w.forCall tape i)))
  (contract:∀ (W:World) (base:Nat) (args:Array Value) (ds gs:List (DataW H)) (before:List MemPlace),
   (∀ (j:Nat) t v,fn.params[j]? =some t→args[j]? =some v→Value.okWide C.prog W .any base t v)→
   DataW.Whole enc C.prog fn.params.toList s.vars apart W args.toList ds gs before→
   (DataW.weightsEach C.prog (fn.params.toList++s.plain.varTypes C.prog) (ds++gs)).all (·≤reachBytes)=true→X W args→W.ShapedOpen C.prog→
   Calls C.prog f args W fun e W'=>∃ v,e= .returned v∧s.post enc C.prog fn apart fresh handsOn again W args v W'):
  ReturnsInHanded a C os f .any (fun w args=>(s.pre enc C.prog fn conds apart w args∧X w args)∧sizedMet enc C.prog fn (OpenSpec.ofChange s) apart w args) (s.post enc C.prog fn apart fresh handsOn again):=by
 refine returnsInHanded_of_calls own started acX witness ?_
 intro w tape i _ qN _ bA EX azM
 obtain⟨_,_,_,WE,aah,_,_,_,_,hval⟩:=bA
 have e:WE=fn:=Zf (aah.symm.trans lG)
 subst e
 obtain⟨⟨⟨ds,gs,before,hw,hc⟩,hx⟩,hz⟩:=EX
 have nZ:=DataW.Whole.of_heap (w':=w.forCall tape i) (by rfl) hw
 refine(contract (w.forCall tape i) w.heap.size i.args ds gs before hval nZ (hz.weights hw) (hX _ _ _ (by rfl) hx) qN).mono fun e W' ⟨v,he,hp⟩=> ?_
 subst he
 exact ChangeSpec.post_blind hp
set_option maxRecDepth 100000 in
theorem lifted(os:Os)(started:os.Started)(H:Type)(enc:TypeId×Value→H):
  ReturnsInHanded {} Tryz.checked os 4 .any (fun w args=>(Rows.printerTokensSpec.pre enc Tryz.prog Tryz.f4 [] false w args∧laidMetH Tryz.prog Rows.printerTokensRow.laid w)∧sizedMet enc Tryz.prog Tryz.f4 (OpenSpec.ofChange Rows.printerTokensSpec) false w args)
   (Rows.printerTokensSpec.post enc Tryz.prog Tryz.f4 false true false false):=by
 refine wrap (C:=Tryz.checked) (X:=fun w _=>laidMetH Tryz.prog Rows.printerTokensRow.laid w) (fun _ _ _ hh h=>h.of_heap hh) own started (by kernel_rfl) Tryz.func4
  (ChangeSpec.witness_shaped (enc:=enc) (C:=Tryz.checked) (os:=os) (X:=fun w _=>laidMetH Tryz.prog Rows.printerTokensRow.laid w) false (World.laidAll Tryz.prog os Rows.printerTokensRow.laid) #[.agg #[.int .i64 0,.string ⟨#[]⟩,.string ⟨#[]⟩,.string ⟨#[]⟩,.int .i64 0,.int .i64 0,.string ⟨#[]⟩,.slice none 0 0,.int .i64 0,.int .i64 0,.int .i64 0,.slice none 0 0]] 8 (World.laidAll_os _ _ _)
   (World.shaped_of_ZipB (by kernel_rfl) (by kernel_rfl)) (by kernel_rfl) (by kernel_rfl) (by kernel_rfl)
   (by rw[MakeChecks.laidMetH_plain _ _ _ (by kernel_rfl)];exact laidMet_laidAll _ (by kernel_rfl) (by kernel_rfl))) ?_
 intro W base args ds gs before hval0 hW aV hL qN
 rw[MakeChecks.laidMetH_plain _ _ _ (by kernel_rfl)]at hL
 have hval:∀ (j:Nat) t v,Tryz.f4.params[j]? =some t→args[j]? =some v→Value.okWide Tryz.prog W .any base t v:=hval0
 have hW':=hW
 obtain⟨p,q,hA0,hV,rfl,_,_⟩:=hW
 have hA:DataW.TrodAll enc Tryz.prog W 0 (fun _=>true) true Tryz.f4.params.toList args.toList ds p:=hA0
 have oc:∀ (j:Nat) t d,Tryz.f4.params.toList[j]? =some t→ds[j]? =some d→xl Tryz.prog t d:=fun j t d ht hd n hn=>by
  have o8:j<Tryz.f4.params.toList.length:=(ZN.1 ht).1
  have mD:j<ds.length:=(ZN.1 hd).1
  have:=ZF.1 aV n (DataW.weights_mem_each (j:=j) (by rw[Zk o8];exact ht) (by rw[Zk mD];exact hd) n hn)
  simpa using this
 rw[Tryz.params4]at hA hval oc
 obtain⟨v0,vs0,d0,ds0,p0,q0,Ej,rfl,rfl,h0,r0⟩:=trodAll_cons hA
 obtain⟨rfl,rfl,rfl⟩:=trodAll_nil r0
 obtain rfl:args= #[v0]:=by cases args;simp_all
 obtain⟨rfl,rfl⟩:=trodVars_none hV
 obtain⟨_,g0,x,rfl,hx⟩:=TB Tryz.underlying31 (hval 0 _ v0 rfl rfl) h0 (oc 0 _ d0 rfl rfl) Oa
 refine(Pure.calls (adH x hx) (WM hL qN) (RL.cons g0 RL.nil)).mono fun e W' ⟨he,hb⟩=> ?_
 subst he
 exact⟨_,rfl,ady laidOut (by kernel_rfl) rfl ⟨rfl,rfl,rfl⟩ rfl Tryz.underlying4 hW' hb⟩
theorem over:Rows.printerTokensRow.holds Tryz.pinned (OpenSpec.ofChange Rows.printerTokensSpec):=
 OpenClaim.holds_of_wide 4 Tryz.f4 rfl rfl rfl rfl rfl rfl rfl ⟨rfl,rfl,rfl,rfl,rfl⟩ rfl rfl rfl rfl rfl (by kernel_rfl) Tryz.func4 (by kernel_rfl)
  (of_decide_eq_true (by kernel_rfl)) (by unfold Func.isWrapper;(rw[if_neg (by decide+kernel)];exact⟨rfl,rfl⟩))
  (fun os started H enc _=>lifted os started H enc)
theorem proved:Rows.PrinterTokensCardSaid:=
 Claim7.holds_tied_plain_at .later [] [.data,.data,.data,.data,.sentinel,.sentinel,.data,.widerDeep,.widerDeep,.widerDeep,.pinned] true (true, "9bbb2b265c9095fb024a6f7af3f615d2b77b12f92beeb079863c98bda919d8a4") true over (fun _ h=>by cases h) (by kernel_rfl) (fun _ h=>by cases h) printerTokens_row_tie rfl ⟨rfl,rfl⟩ (by kernel_rfl) rfl
  (fun f fn hf lG=>by
   obtain rfl:f=4:=Zf ((show Tryz.prog.funcNamed "asof/asoflaw11.PrinterTokens" =some 4 by kernel_rfl).symm.trans hf) |>.symm
   obtain rfl:fn=Tryz.f4:=(Zf (Tryz.func4.symm.trans lG)).symm
   exact⟨by kernel_rfl,fun j t ht=>by
    rw[Tryz.params4]at ht
    have hm:t∈[31]:=by simpa using XM ht
    have bR:([31].all fun u=> !Tryz.prog.wantsStandIn u)=true:=by kernel_rfl
    exact(show Tryz.prog.wantsStandIn t=false by simpa using ZF.1 bR t hm)⟩)
  (by kernel_rfl)
end Go.Proofs.YtbihckigennlhaaGreatDoor.printerTokens
