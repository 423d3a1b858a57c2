/-
  The statement ChangesValid: changed catalogs are valid and typed, other definitions stay. No condition: for every input.
-/
import Derived.Test.YtajimcniogfpcaaGreatDoorIa
import Derived.Test.YtajimcniogfpcaaGreatDoorAx
import Derived.Test.YtajimcniogfpcaaGreatDoorRd
import Derived.Test.YtajimcniogfpcaaGreatDoorTie
import Derived.Test.YtajimcniogfpcaaGreatDoorCards
import Derived.WalkKit
import Derived.ProofKit
import Derived.Lay
import Derived.LaidOnce
import Derived.SevenTiedAt
set_option linter.unusedVariables false
set_option maxHeartbeats 4000000
namespace Go.Proofs.YtajimcniogfpcaaGreatDoor.changesValid
open _root_.Go.Proofs.Tryz
open Go.ChangeShapes Go.WideShapes Go.ChangeAt Go.RowKit Go.Sx Go.Proofs
theorem wrap{H:Type}{enc:TypeId×Value→H}{a:Assume}{C:Checked}{os:Os}{f:FuncId}{fn:Func}{s:ChangeSpec}{conds:List PathCond}{apart fresh handsOn again:Bool}{X:World→Array Value→Prop}
  (hX:∀ (w w':World) (args:Array Value),w.heap=w'.heap→X w args→X w' args)
  (own:ownKnob C.prog.godebug=none) (started:os.Started) (ahZ:C.prog.inits.idxOf? f=none) (jB:C.prog.funcs[f]? =some fn)
  (witness:∃ (w:World) (tape:Tape) (i:Input),w.os=os∧(w.forCall tape i).Shaped C.prog∧i.vars=[]∧Input.okWide C.prog (w.forCall tape i) .any w.heap.size f i∧
   ((s.pre enc C.prog fn conds apart (w.forCall tape i).memory i.args∧X (w.forCall tape i).memory i.args)∧sizedMet enc C.prog fn (OpenSpec.ofChange s) apart (w.forCall tape i).memory i.args)∧a.holds C.prog (lone (Frame.enter C.prog f i.args .normal) [] (w.forCall tape i)))
  (contract:∀ (W:World) (base:Nat) (args:Array Value) (ds gs:List (DataW H)) (before:List MemPlace),
   (∀ (j:Nat) t v,fn.params[j]? =some t→args[j]? =some v→Value.okWide C.prog W .any base t v)→
   DataW.Whole enc C.prog fn.params.toList s.vars apart W args.toList ds gs before→
   (DataW.weightsEach C.prog (fn.params.toList++s.plain.varTypes C.prog) (ds++gs)).all (·≤reachBytes)=true→X W args→W.ShapedOpen C.prog→
   Calls C.prog f args W fun e W'=>∃ v,e= .returned v∧s.post enc C.prog fn apart fresh handsOn again W args v W'):
  ReturnsInHanded a C os f .any (fun w args=>(s.pre enc C.prog fn conds apart w args∧X w args)∧sizedMet enc C.prog fn (OpenSpec.ofChange s) apart w args) (s.post enc C.prog fn apart fresh handsOn again):=by
 refine returnsInHanded_of_calls own started ahZ witness ?_
 intro w tape i _ uQ _ bM mU anX
 obtain⟨_,_,_,PR,aeK,_,_,_,_,hval⟩:=bM
 have e:PR=fn:=YA (aeK.symm.trans jB)
 subst e
 obtain⟨⟨⟨ds,gs,before,hw,hc⟩,hx⟩,hz⟩:=mU
 have qw:=DataW.Whole.of_heap (w':=w.forCall tape i) (by rfl) hw
 refine(contract (w.forCall tape i) w.heap.size i.args ds gs before hval qw (hz.weights hw) (hX _ _ _ (by rfl) hx) uQ).mono fun e W' ⟨v,he,hp⟩=> ?_
 subst he
 exact ChangeSpec.post_blind hp
set_option maxRecDepth 100000 in
theorem lifted(os:Os)(started:os.Started)(H:Type)(enc:TypeId×Value→H):
  ReturnsInHanded {} checked os 3 .any (fun w args=>(Rows.changesValidSpec.pre enc prog f3 [] false w args∧laidMetH prog Rows.changesValidRow.laid w)∧sizedMet enc prog f3 (OpenSpec.ofChange Rows.changesValidSpec) false w args)
   (Rows.changesValidSpec.post enc prog f3 false true false false):=by
 refine wrap (C:=checked) (X:=fun w _=>laidMetH prog Rows.changesValidRow.laid w) (fun _ _ _ hh h=>h.of_heap hh) own started (by kernel_rfl) func3
  (ChangeSpec.witness_shaped (enc:=enc) (C:=checked) (os:=os) (X:=fun w _=>laidMetH prog Rows.changesValidRow.laid w) false (World.laidAll prog os Rows.changesValidRow.laid) #[.agg #[.slice none 0 0,.slice none 0 0,.slice none 0 0,.slice none 0 0],.agg #[.int .i64 0,.string ⟨#[]⟩,.string ⟨#[]⟩,.slice none 0 0,.int .i64 0,.string ⟨#[]⟩,.string ⟨#[]⟩,.int .i64 0,.slice none 0 0,.string ⟨#[]⟩,.int .i64 0,.string ⟨#[]⟩,.string ⟨#[]⟩,.string ⟨#[]⟩,.int .i64 0,.int .i64 0,.string ⟨#[]⟩,.slice none 0 0,.int .i64 0,.int .i64 0,.int .i64 0,.slice none 0 0,.int .i64 0,.string ⟨#[]⟩]] 8 (World.laidAll_os _ _ _)
   (World.shaped_of_ZipB (by kernel_rfl) (by kernel_rfl)) (by kernel_rfl) (by kernel_rfl) (by kernel_rfl)
   (by rw[MakeChecks.laidMetH_plain _ _ _ (by kernel_rfl)];exact laidMet_laidAll _ (by kernel_rfl) (by kernel_rfl))) ?_
 intro W base args ds gs before hval0 hW aY hL uQ
 rw[MakeChecks.laidMetH_plain _ _ _ (by kernel_rfl)]at hL
 have hval:∀ (j:Nat) t v,f3.params[j]? =some t→args[j]? =some v→Value.okWide prog W .any base t v:=hval0
 have hW':=hW
 obtain⟨p,q,hA0,hV,rfl,_,_⟩:=hW
 have hA:DataW.TrodAll enc prog W 0 (fun _=>true) true f3.params.toList args.toList ds p:=hA0
 have ep:∀ (j:Nat) t d,f3.params.toList[j]? =some t→ds[j]? =some d→yN prog t d:=fun j t d ht hd n hn=>by
  have qn:j<f3.params.toList.length:=(ZK.1 ht).1
  have Co:j<ds.length:=(ZK.1 hd).1
  have:=ZB.1 aY n (DataW.weights_mem_each (j:=j) (by rw[YH qn];exact ht) (by rw[YH Co];exact hd) n hn)
  simpa using this
 rw[params3]at hA hval ep
 obtain⟨v0,V1,d0,ds0,p0,q0,JR,rfl,rfl,h0,r0⟩:=trodAll_cons hA
 obtain⟨v1,cP,d1,ds1,p1,q1,rfl,rfl,rfl,h1,r1⟩:=trodAll_cons r0
 obtain⟨rfl,rfl,rfl⟩:=trodAll_nil r1
 obtain rfl:args= #[v0,v1]:=by cases args;simp_all
 obtain⟨rfl,rfl⟩:=trodVars_none hV
 obtain⟨_,g0,c,rfl,hc⟩:=N4 underlying25 (hval 0 _ v0 rfl rfl) h0 (ep 0 _ d0 rfl rfl) aiV
 obtain⟨_,g1,x,rfl,hx⟩:=N4 underlying42 (hval 1 _ v1 rfl rfl) h1 (ep 1 _ d1 rfl rfl) aiW
 refine(Pure.calls (alz c x hc hx.1 hx.2.1 adp) (aee hL uQ) (RL.cons g0 (RL.cons g1 RL.nil))).mono fun e W' ⟨he,hb⟩=> ?_
 subst he
 exact⟨_,rfl,aiy laidOut (by kernel_rfl) rfl ⟨rfl,rfl,rfl⟩ rfl underlying4 hW' hb⟩
theorem facts:joinedFacts Tryz.pinned.checked.prog 3 f3 Rows.changesValidSpec Rows.changesValidRow=true:=by
 unfold joinedFacts
 simp only[Z6]
 repeat' apply And.intro
 all_goals as_aux_lemma=>kernel_rfl
theorem over:Rows.changesValidRow.holds Tryz.pinned (OpenSpec.ofChange Rows.changesValidSpec):=
 OpenClaim.holds_of_wide 3 f3 rfl rfl rfl rfl rfl rfl rfl ⟨rfl,rfl,rfl,rfl,rfl⟩ rfl rfl rfl rfl rfl (by as_aux_lemma=>kernel_rfl) func3 facts
  (Ye (by as_aux_lemma=>kernel_rfl)) (by unfold Func.isWrapper;first|(rw[ZW (by decide+kernel)];kernel_rfl)|(rw[Z5 (by decide+kernel)];exact⟨rfl,rfl⟩))
  (fun os started H enc _=>lifted os started H enc)
theorem proved:Rows.ChangesValidCardSaid:=
 Claim7.holds_tied_plain_at .later [] [.data,.data,.data,.data,.sentinel,.sentinel,.data,.widerDeep,.widerDeep,.widerDeep,.pinned] true (true, "09f1c34fb7d191561ce779eafa7db8bffd7a52e02f4205c110b96d0168be978d") true over (fun _ h=>by cases h) (by as_aux_lemma=>kernel_rfl) (fun _ h=>by cases h) changesValid_row_tie rfl ⟨rfl,rfl⟩ (by as_aux_lemma=>kernel_rfl) rfl
  (fun f fn hf jB=>by
   obtain rfl:f=3:=YA ((show prog.funcNamed "asof/asoflaw14.ChangesValid" =some 3 by as_aux_lemma=>kernel_rfl).symm.trans hf) |>.symm
   obtain rfl:fn=f3:=(YA (func3.symm.trans jB)).symm
   exact⟨by kernel_rfl,fun j t ht=>by
    rw[params3]at ht
    have hm:t∈[25,42]:=by simpa using Array.mem_of_getElem? ht
    have cO:([25,42].all fun u=> !prog.wantsStandIn u)=true:=by kernel_rfl
    exact(show prog.wantsStandIn t=false by simpa using ZB.1 cO t hm)⟩)
  (by as_aux_lemma=>kernel_rfl)
end Go.Proofs.YtajimcniogfpcaaGreatDoor.changesValid
