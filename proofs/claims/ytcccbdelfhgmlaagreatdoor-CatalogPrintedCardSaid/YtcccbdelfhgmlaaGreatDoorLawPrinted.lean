/-
  The statement CatalogPrinted: printing and parsing changes nothing that is used. No condition: for every input.
-/
import Derived.Test.YtcccbdelfhgmlaaGreatDoorEa
import Derived.Test.YtcccbdelfhgmlaaGreatDoorTie
import Derived.Test.YtcccbdelfhgmlaaGreatDoorCards
import Derived.WalkKit
import Derived.ProofKit
import Derived.Lay
import Derived.LaidOnce
import Derived.SevenTiedAt
set_option linter.unusedVariables false
namespace Go.Proofs.YtcccbdelfhgmlaaGreatDoor.catalogPrinted
open Go.ChangeShapes Go.WideShapes Go.ChangeAt Go.RowKit Go.Sx Go.Proofs
theorem wrap{H:Type}{enc:TypeId×Value→H}{a:Assume}{C:Checked}{os:Os}{f:FuncId}{fn:Func}{s:ChangeSpec}{conds:List PathCond}{apart fresh handsOn again:Bool}{X:World→Array Value→Prop}
  (hX:∀ (w w':World) (args:Array Value),w.heap=w'.heap→X w args→X w' args)
  (own:ownKnob C.prog.godebug=none) (started:os.Started) (agK:C.prog.inits.idxOf? f=none) (mX:C.prog.funcs[f]? =some fn)
  (witness:∃ (w:World) (tape:Tape) (i:Input),w.os=os∧(w.forCall tape i).Shaped C.prog∧i.vars=[]∧Input.okWide C.prog (w.forCall tape i) .any w.heap.size f i∧
   ((s.pre enc C.prog fn conds apart (w.forCall tape i).memory i.args∧X (w.forCall tape i).memory i.args)∧sizedMet enc C.prog fn (OpenSpec.ofChange s) apart (w.forCall tape i).memory i.args)∧a.holds C.prog (lone (Frame.enter C.prog f i.args .normal) [] (w.forCall tape i)))
  (contract:∀ (W:World) (base:Nat) (args:Array Value) (ds gs:List (DataW H)) (before:List MemPlace),
   (∀ (j:Nat) t v,fn.params[j]? =some t→args[j]? =some v→Value.okWide C.prog W .any base t v)→
   DataW.Whole enc C.prog fn.params.toList s.vars apart W args.toList ds gs before→
   (DataW.weightsEach C.prog (fn.params.toList++s.plain.varTypes C.prog) (ds++gs)).all (·≤reachBytes)=true→X W args→W.ShapedOpen C.prog→
   Calls C.prog f args W fun e W'=>∃ v,e= .returned v∧s.post enc C.prog fn apart fresh handsOn again W args v W'):
  ReturnsInHanded a C os f .any (fun w args=>(s.pre enc C.prog fn conds apart w args∧X w args)∧sizedMet enc C.prog fn (OpenSpec.ofChange s) apart w args) (s.post enc C.prog fn apart fresh handsOn again):=by
 refine returnsInHanded_of_calls own started agK witness ?_
 intro w tape i _ tv _ bK ae8 ayq
 obtain⟨_,_,_,fn',aeN,_,_,_,_,hval⟩:=bK
 have e:fn'=fn:=Y2 (aeN.symm.trans mX)
 subst e
 obtain⟨⟨⟨ds,gs,before,hw,hc⟩,hx⟩,hz⟩:=ae8
 have ru:=DataW.Whole.of_heap (w':=w.forCall tape i) (by rfl) hw
 refine(contract (w.forCall tape i) w.heap.size i.args ds gs before hval ru (hz.weights hw) (hX _ _ _ (by rfl) hx) tv).mono fun e W' ⟨v,he,hp⟩=> ?_
 subst he
 exact ChangeSpec.post_blind hp
set_option maxRecDepth 100000 in
theorem lifted(os:Os)(started:os.Started)(H:Type)(enc:TypeId×Value→H):
  ReturnsInHanded {} Tryz.checked os 3 .any (fun w args=>(Rows.catalogPrintedSpec.pre enc Tryz.prog Tryz.f3 [] false w args∧laidMetH Tryz.prog Rows.catalogPrintedRow.laid w)∧sizedMet enc Tryz.prog Tryz.f3 (OpenSpec.ofChange Rows.catalogPrintedSpec) false w args)
   (Rows.catalogPrintedSpec.post enc Tryz.prog Tryz.f3 false true false false):=by
 refine wrap (C:=Tryz.checked) (X:=fun w _=>laidMetH Tryz.prog Rows.catalogPrintedRow.laid w) (fun _ _ _ hh h=>h.of_heap hh) own started (by kernel_rfl) Tryz.func3
  (ChangeSpec.witness_shaped (enc:=enc) (C:=Tryz.checked) (os:=os) (X:=fun w _=>laidMetH Tryz.prog Rows.catalogPrintedRow.laid w) false (World.laidAll Tryz.prog os Rows.catalogPrintedRow.laid) #[.agg #[.slice none 0 0,.slice none 0 0,.slice none 0 0,.slice none 0 0],.agg #[.int .i64 0,.string ⟨#[]⟩,.string ⟨#[]⟩,.string ⟨#[]⟩,.int .i64 0,.int .i64 0,.string ⟨#[]⟩,.slice none 0 0,.int .i64 0,.int .i64 0,.int .i64 0,.slice none 0 0]] 8 (World.laidAll_os _ _ _)
   (World.shaped_of_ZipB (by kernel_rfl) (by kernel_rfl)) (by kernel_rfl) (by kernel_rfl) (by kernel_rfl)
   (by rw[MakeChecks.laidMetH_plain _ _ _ (by kernel_rfl)];exact laidMet_laidAll _ (by kernel_rfl) (by kernel_rfl))) ?_
 intro W base args ds gs before hval0 hW aQ hL tv
 rw[MakeChecks.laidMetH_plain _ _ _ (by kernel_rfl)]at hL
 have hval:∀ (j:Nat) t v,Tryz.f3.params[j]? =some t→args[j]? =some v→Value.okWide Tryz.prog W .any base t v:=hval0
 have hW':=hW
 obtain⟨p,q,hA0,hV,rfl,_,_⟩:=hW
 have hA:DataW.TrodAll enc Tryz.prog W 0 (fun _=>true) true Tryz.f3.params.toList args.toList ds p:=hA0
 have ka:∀ (j:Nat) t d,Tryz.f3.params.toList[j]? =some t→ds[j]? =some d→Ao Tryz.prog t d:=fun j t d ht hd n hn=>by
  have nc:j<Tryz.f3.params.toList.length:=(ZP.1 ht).1
  have oi:j<ds.length:=(ZP.1 hd).1
  have:=ZA.1 aQ n (DataW.weights_mem_each (j:=j) (by rw[Y9 nc];exact ht) (by rw[Y9 oi];exact hd) n hn)
  simpa using this
 rw[Tryz.params3]at hA hval ka
 obtain⟨v0,vs0,d0,ds0,p0,q0,Ix,rfl,rfl,h0,r0⟩:=trodAll_cons hA
 obtain⟨v1,wC,d1,ds1,p1,q1,rfl,rfl,rfl,h1,r1⟩:=trodAll_cons r0
 obtain⟨rfl,rfl,rfl⟩:=trodAll_nil r1
 obtain rfl:args= #[v0,v1]:=by cases args;simp_all
 obtain⟨rfl,rfl⟩:=trodVars_none hV
 obtain⟨_,g0,c,rfl,hc⟩:=Np Tryz.underlying25 (hval 0 _ v0 rfl rfl) h0 (ka 0 _ d0 rfl rfl) ahD
 obtain⟨_,g1,x,rfl,hx⟩:=Np Tryz.underlying33 (hval 1 _ v1 rfl rfl) h1 (ka 1 _ d1 rfl rfl) TM
 refine(Pure.calls (abF c x hc hx) (aek hL tv) (RL.cons g0 (RL.cons g1 RL.nil))).mono fun e W' ⟨he,hb⟩=> ?_
 subst he
 exact⟨_,rfl,ahq laidOut (by kernel_rfl) rfl ⟨rfl,rfl,rfl⟩ rfl Tryz.underlying4 hW' hb⟩
theorem over:Rows.catalogPrintedRow.holds Tryz.pinned (OpenSpec.ofChange Rows.catalogPrintedSpec):=
 OpenClaim.holds_of_wide 3 Tryz.f3 rfl rfl rfl rfl rfl rfl rfl ⟨rfl,rfl,rfl,rfl,rfl⟩ rfl rfl rfl rfl rfl (by kernel_rfl) Tryz.func3 (by kernel_rfl)
  (Yv (by kernel_rfl)) (by unfold Func.isWrapper;(rw[Z9 (by decide+kernel)];exact⟨rfl,rfl⟩))
  (fun os started H enc _=>lifted os started H enc)
theorem proved:Rows.CatalogPrintedCardSaid:=
 Claim7.holds_tied_plain_at .later [] [.data,.data,.data,.data,.sentinel,.sentinel,.data,.widerDeep,.widerDeep,.widerDeep,.pinned] true (true, "44609502ce8d2f39b8e63220b6e47ade8acc29cf7c765697ecba463c9bbc7d0b") true over (fun _ h=>by cases h) (by kernel_rfl) (fun _ h=>by cases h) catalogPrinted_row_tie rfl ⟨rfl,rfl⟩ (by kernel_rfl) rfl
  (fun f fn hf mX=>by
   obtain rfl:f=3:=Y2 ((show Tryz.prog.funcNamed "asof/asoflaw12.CatalogPrinted" =some 3 by kernel_rfl).symm.trans hf) |>.symm
   obtain rfl:fn=Tryz.f3:=(Y2 (Tryz.func3.symm.trans mX)).symm
   exact⟨by kernel_rfl,fun j t ht=>by
    rw[Tryz.params3]at ht
    have hm:t∈[25,33]:=by simpa using XD ht
    have cV:([25,33].all fun u=> !Tryz.prog.wantsStandIn u)=true:=by kernel_rfl
    exact(show Tryz.prog.wantsStandIn t=false by simpa using ZA.1 cV t hm)⟩)
  (by kernel_rfl)
end Go.Proofs.YtcccbdelfhgmlaaGreatDoor.catalogPrinted
