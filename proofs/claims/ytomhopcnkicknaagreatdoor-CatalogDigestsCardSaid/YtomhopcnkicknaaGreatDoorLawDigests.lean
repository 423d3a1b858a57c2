/-
  The statement CatalogDigests: Digest returns the hash, or the error, that the chapter defines. No condition: for every input.
-/
import Derived.Test.YtomhopcnkicknaaGreatDoorXf
import Derived.Test.YtomhopcnkicknaaGreatDoorTie
import Derived.Test.YtomhopcnkicknaaGreatDoorCards
import Derived.WalkKit
import Derived.ProofKit
import Derived.Lay
import Derived.LaidOnce
import Derived.SevenTiedAt
set_option linter.unusedVariables false
namespace Go.Proofs.YtomhopcnkicknaaGreatDoor.catalogDigests
open _root_.Go.Proofs.Tryz
open Go.ChangeShapes Go.WideShapes Go.ChangeAt Go.RowKit Go.Sx Go.Proofs
theorem wrap{H:Type}{enc:TypeId×Value→H}{a:Assume}{C:Checked}{os:Os}{f:FuncId}{fn:Func}{s:ChangeSpec}{conds:List PathCond}{apart fresh handsOn again:Bool}{X:World→Array Value→Prop}
  (hX:∀ (w w':World) (args:Array Value),w.heap=w'.heap→X w args→X w' args)
  (own:ownKnob C.prog.godebug=none) (started:os.Started) (agO:C.prog.inits.idxOf? f=none) (ng:C.prog.funcs[f]? =some fn)
  (witness:∃ (w:World) (tape:Tape) (i:Input),w.os=os∧(w.forCall tape i).Shaped C.prog∧i.vars=[]∧Input.okWide C.prog (w.forCall tape i) .any w.heap.size f i∧
   ((s.pre enc C.prog fn conds apart (w.forCall tape i).memory i.args∧X (w.forCall tape i).memory i.args)∧sizedMet enc C.prog fn (OpenSpec.ofChange s) apart (w.forCall tape i).memory i.args)∧a.holds C.prog (lone (Frame.enter C.prog f i.args .normal) [] (w.forCall tape i)))
  (contract:∀ (W:World) (base:Nat) (args:Array Value) (ds gs:List (DataW H)) (before:List MemPlace),
   (∀ (j:Nat) t v,fn.params[j]? =some t→args[j]? =some v→Value.okWide C.prog W .any base t v)→
   DataW.Whole enc C.prog fn.params.toList s.vars apart W args.toList ds gs before→
   (DataW.weightsEach C.prog (fn.params.toList++s.plain.varTypes C.prog) (ds++gs)).all (·≤reachBytes)=true→X W args→W.ShapedOpen C.prog→
   Calls C.prog f args W fun e W'=>∃ v,e= .returned v∧s.post enc C.prog fn apart fresh handsOn again W args v W'):
  ReturnsInHanded a C os f .any (fun w args=>(s.pre enc C.prog fn conds apart w args∧X w args)∧sizedMet enc C.prog fn (OpenSpec.ofChange s) apart w args) (s.post enc C.prog fn apart fresh handsOn again):=by
 refine returnsInHanded_of_calls own started agO witness ?_
 intro w tape i _ oM _ cy Gy aNk
 obtain⟨_,_,_,fn',acR,_,_,_,_,hval⟩:=cy
 have e:fn'=fn:=Yn (acR.symm.trans ng)
 subst e
 obtain⟨⟨⟨ds,gs,before,hw,hc⟩,hx⟩,hz⟩:=Gy
 have pW:=DataW.Whole.of_heap (w':=w.forCall tape i) (by rfl) hw
 refine(contract (w.forCall tape i) w.heap.size i.args ds gs before hval pW (hz.weights hw) (hX _ _ _ (by rfl) hx) oM).mono fun e W' ⟨v,he,hp⟩=> ?_
 subst he
 exact ChangeSpec.post_blind hp
set_option maxRecDepth 100000 in
theorem lifted(os:Os)(started:os.Started)(H:Type)(enc:TypeId×Value→H):
  ReturnsInHanded {} checked os 3 .any (fun w args=>(Rows.catalogDigestsSpec.pre enc prog f3 [] false w args∧laidMetH prog Rows.catalogDigestsRow.laid w)∧sizedMet enc prog f3 (OpenSpec.ofChange Rows.catalogDigestsSpec) false w args)
   (Rows.catalogDigestsSpec.post enc prog f3 false true false false):=by
 refine wrap (C:=checked) (X:=fun w _=>laidMetH prog Rows.catalogDigestsRow.laid w) (fun _ _ _ hh h=>h.of_heap hh) own started (by kernel_rfl) func3
  (ChangeSpec.witness_shaped (enc:=enc) (C:=checked) (os:=os) (X:=fun w _=>laidMetH prog Rows.catalogDigestsRow.laid w) false (World.laidAll prog os Rows.catalogDigestsRow.laid) #[.agg #[.slice none 0 0,.slice none 0 0,.slice none 0 0,.slice none 0 0]] 8 (World.laidAll_os _ _ _)
   (World.shaped_of_ZipB (by kernel_rfl) (by kernel_rfl)) (by kernel_rfl) (by kernel_rfl) (by kernel_rfl)
   (by rw[MakeChecks.laidMetH_plain _ _ _ (by kernel_rfl)];exact laidMet_laidAll _ (by kernel_rfl) (by kernel_rfl))) ?_
 intro W base args ds gs before hval0 hW bC hL oM
 rw[MakeChecks.laidMetH_plain _ _ _ (by kernel_rfl)]at hL
 have hval:∀ (j:Nat) t v,f3.params[j]? =some t→args[j]? =some v→Value.okWide prog W .any base t v:=hval0
 have hW':=hW
 obtain⟨p,q,hA0,hV,rfl,_,_⟩:=hW
 have hA:DataW.TrodAll enc prog W 0 (fun _=>true) true f3.params.toList args.toList ds p:=hA0
 have fX:∀ (j:Nat) t d,f3.params.toList[j]? =some t→ds[j]? =some d→xL prog t d:=fun j t d ht hd n hn=>by
  have oF:j<f3.params.toList.length:=(ZE.1 ht).1
  have oG:j<ds.length:=(ZE.1 hd).1
  have:=Zx.1 bC n (DataW.weights_mem_each (j:=j) (by rw[Y7 oF];exact ht) (by rw[Y7 oG];exact hd) n hn)
  simpa using this
 rw[params3]at hA hval fX
 obtain⟨v0,vs0,d0,ds0,p0,q0,MJ,rfl,rfl,h0,r0⟩:=trodAll_cons hA
 obtain⟨rfl,rfl,rfl⟩:=trodAll_nil r0
 obtain rfl:args= #[v0]:=by cases args;simp_all
 obtain⟨rfl,rfl⟩:=trodVars_none hV
 obtain⟨_,g0,c,rfl,hc⟩:=Wu underlying25 (hval 0 _ v0 rfl rfl) h0 (fX 0 _ d0 rfl rfl) ahA
 refine(Pure.calls (WX c hc) (acp hL oM) (RL.cons g0 RL.nil)).mono fun e W' ⟨he,hb⟩=> ?_
 subst he
 exact⟨_,rfl,ahq laidOut (by kernel_rfl) rfl ⟨rfl,rfl,rfl⟩ rfl underlying4 hW' hb⟩
theorem over:Rows.catalogDigestsRow.holds Tryz.pinned (OpenSpec.ofChange Rows.catalogDigestsSpec):=
 OpenClaim.holds_of_wide 3 f3 rfl rfl rfl rfl rfl rfl rfl ⟨rfl,rfl,rfl,rfl,rfl⟩ rfl rfl rfl rfl rfl (by kernel_rfl) func3 (by kernel_rfl)
  (Yq (by kernel_rfl)) (by unfold Func.isWrapper;first|(rw[Z3 (by decide+kernel)];kernel_rfl)|(rw[Z6 (by decide+kernel)];exact⟨rfl,rfl⟩))
  (fun os started H enc _=>lifted os started H enc)
theorem proved:Rows.CatalogDigestsCardSaid:=
 Claim7.holds_tied_plain_at .later [] [.data,.data,.data,.widerDeep,.widerDeep,.widerDeep] true (true, "504de60d779c155e5326b46a42f508a2f2f631d69df9dd71226de33e132491fe") false over (fun _ h=>by cases h) (by kernel_rfl) (fun _ h=>by cases h) catalogDigests_row_tie rfl ⟨rfl,rfl⟩ (by kernel_rfl) rfl
  (fun f fn hf ng=>by
   obtain rfl:f=3:=Yn ((show prog.funcNamed "asof/asoflaw12.CatalogDigests" =some 3 by kernel_rfl).symm.trans hf) |>.symm
   obtain rfl:fn=f3:=(Yn (func3.symm.trans ng)).symm
   exact⟨by kernel_rfl,fun j t ht=>by
    rw[params3]at ht
    have hm:t∈[25]:=by simpa using Array.mem_of_getElem? ht
    have cH:([25].all fun u=> !prog.wantsStandIn u)=true:=by kernel_rfl
    exact(show prog.wantsStandIn t=false by simpa using Zx.1 cH t hm)⟩)
  (by kernel_rfl)
end Go.Proofs.YtomhopcnkicknaaGreatDoor.catalogDigests
