/-
  What the statement ChangesPrefix rests on: catalogs follow from those of beginnings; later ticks do not matter; the versions of a name are among Versions. No condition: for every input.. No condition: for every input.
-/
import Derived.Test.YthdeaajdmdmfnaaGreatDoorMa
import Derived.Test.YthdeaajdmdmfnaaGreatDoorAx
import Derived.Test.YthdeaajdmdmfnaaGreatDoorRd
import Derived.Test.YthdeaajdmdmfnaaGreatDoorTie
import Derived.Test.YthdeaajdmdmfnaaGreatDoorCards
import Derived.WalkKit
import Derived.ProofKit
import Derived.Lay
import Derived.LaidOnce
import Derived.SevenTiedAt
set_option linter.unusedVariables false
set_option maxHeartbeats 4000000
namespace Go.Proofs.YthdeaajdmdmfnaaGreatDoor.changesPrefix
open _root_.Go.Proofs.Tryz
open Go.ChangeShapes Go.WideShapes Go.ChangeAt Go.RowKit Go.Sx Go.Proofs
theorem wrap{H:Type}{enc:TypeId×Value→H}{a:Assume}{C:Checked}{os:Os}{f:FuncId}{fn:Func}{s:ChangeSpec}{conds:List PathCond}{apart fresh handsOn again:Bool}{X:World→Array Value→Prop}
  (hX:∀ (w w':World) (args:Array Value),w.heap=w'.heap→X w args→X w' args)
  (own:ownKnob C.prog.godebug=none) (started:os.Started) (afh:C.prog.inits.idxOf? f=none) (ig:C.prog.funcs[f]? =some fn)
  (witness:∃ (w:World) (tape:Tape) (i:Input),w.os=os∧(w.forCall tape i).Shaped C.prog∧i.vars=[]∧Input.okWide C.prog (w.forCall tape i) .any w.heap.size f i∧
   ((s.pre enc C.prog fn conds apart (w.forCall tape i).memory i.args∧X (w.forCall tape i).memory i.args)∧sizedMet enc C.prog fn (OpenSpec.ofChange s) apart (w.forCall tape i).memory i.args)∧a.holds C.prog (lone (Frame.enter C.prog f i.args .normal) [] (w.forCall tape i)))
  (contract:∀ (W:World) (base:Nat) (args:Array Value) (ds gs:List (DataW H)) (before:List MemPlace),
   (∀ (j:Nat) t v,fn.params[j]? =some t→args[j]? =some v→Value.okWide C.prog W .any base t v)→
   DataW.Whole enc C.prog fn.params.toList s.vars apart W args.toList ds gs before→
   (DataW.weightsEach C.prog (fn.params.toList++s.plain.varTypes C.prog) (ds++gs)).all (·≤reachBytes)=true→X W args→W.ShapedOpen C.prog→
   Calls C.prog f args W fun e W'=>∃ v,e= .returned v∧s.post enc C.prog fn apart fresh handsOn again W args v W'):
  ReturnsInHanded a C os f .any (fun w args=>(s.pre enc C.prog fn conds apart w args∧X w args)∧sizedMet enc C.prog fn (OpenSpec.ofChange s) apart w args) (s.post enc C.prog fn apart fresh handsOn again):=by
 refine returnsInHanded_of_calls own started afh witness ?_
 intro w tape i _ sL _ cw od aj2
 obtain⟨_,_,_,Ny,ab8,_,_,_,_,hval⟩:=cw
 have e:Ny=fn:=YK (ab8.symm.trans ig)
 subst e
 obtain⟨⟨⟨ds,gs,before,hw,hc⟩,hx⟩,hz⟩:=od
 have pH:=DataW.Whole.of_heap (w':=w.forCall tape i) (by rfl) hw
 refine(contract (w.forCall tape i) w.heap.size i.args ds gs before hval pH (hz.weights hw) (hX _ _ _ (by rfl) hx) sL).mono fun e W' ⟨v,he,hp⟩=> ?_
 subst he
 exact ChangeSpec.post_blind hp
set_option maxRecDepth 100000 in
theorem lifted(os:Os)(started:os.Started)(H:Type)(enc:TypeId×Value→H):
  ReturnsInHanded {} checked os 4 .any (fun w args=>(Rows.changesPrefixSpec.pre enc prog f4 [] false w args∧laidMetH prog Rows.changesPrefixRow.laid w)∧sizedMet enc prog f4 (OpenSpec.ofChange Rows.changesPrefixSpec) false w args)
   (Rows.changesPrefixSpec.post enc prog f4 false true false false):=by
 refine wrap (C:=checked) (X:=fun w _=>laidMetH prog Rows.changesPrefixRow.laid w) (fun _ _ _ hh h=>h.of_heap hh) own started (by kernel_rfl) func4
  (ChangeSpec.witness_shaped (enc:=enc) (C:=checked) (os:=os) (X:=fun w _=>laidMetH prog Rows.changesPrefixRow.laid w) false (World.laidAll prog os Rows.changesPrefixRow.laid) #[.slice none 0 0,.int .i64 0,.int .i64 0,.string ⟨#[]⟩] 8 (World.laidAll_os _ _ _)
   (World.shaped_of_ZipB (by kernel_rfl) (by kernel_rfl)) (by kernel_rfl) (by kernel_rfl) (by kernel_rfl)
   (by rw[MakeChecks.laidMetH_plain _ _ _ (by kernel_rfl)];exact laidMet_laidAll _ (by kernel_rfl) (by kernel_rfl))) ?_
 intro W base args ds gs before hval0 hW bg hL sL
 rw[MakeChecks.laidMetH_plain _ _ _ (by kernel_rfl)]at hL
 have hval:∀ (j:Nat) t v,f4.params[j]? =some t→args[j]? =some v→Value.okWide prog W .any base t v:=hval0
 have hW':=hW
 obtain⟨p,q,hA0,hV,rfl,_,_⟩:=hW
 have hA:DataW.TrodAll enc prog W 0 (fun _=>true) true f4.params.toList args.toList ds p:=hA0
 have dR:∀ (j:Nat) t d,f4.params.toList[j]? =some t→ds[j]? =some d→yY prog t d:=fun j t d ht hd n hn=>by
  have sG:j<f4.params.toList.length:=(ZE.1 ht).1
  have sH:j<ds.length:=(ZE.1 hd).1
  have:=Zz.1 bg n (DataW.weights_mem_each (j:=j) (by rw[YL sG];exact ht) (by rw[YL sH];exact hd) n hn)
  simpa using this
 rw[params4]at hA hval dR
 obtain⟨v0,Ta,d0,ds0,p0,q0,Oc,rfl,rfl,h0,r0⟩:=trodAll_cons hA
 obtain⟨v1,cq,d1,ds1,p1,q1,rfl,rfl,rfl,h1,r1⟩:=trodAll_cons r0
 obtain⟨v2,oP,d2,ds2,p2,q2,rfl,rfl,rfl,h2,r2⟩:=trodAll_cons r1
 obtain⟨v3,vs3,d3,ds3,p3,q3,rfl,rfl,rfl,h3,r3⟩:=trodAll_cons r2
 obtain⟨rfl,rfl,rfl⟩:=trodAll_nil r3
 obtain rfl:args= #[v0,v1,v2,v3]:=by cases args;simp_all
 obtain⟨rfl,rfl⟩:=trodVars_none hV
 obtain⟨_,g0,l,e0,hl⟩:=B0 (by kernel_rfl) (hval 0 _ v0 rfl rfl) h0 (dR 0 _ d0 rfl rfl) af3
 cases e0
 obtain⟨_,g1,t,e1⟩:=B0 (by kernel_rfl) (hval 1 _ v1 rfl rfl) h1 (dR 1 _ d1 rfl rfl) gV
 cases e1
 obtain⟨_,g2,k,e2⟩:=B0 (by kernel_rfl) (hval 2 _ v2 rfl rfl) h2 (dR 2 _ d2 rfl rfl) gV
 cases e2
 obtain⟨_,g3,n,e3,hn⟩:=B0 (by kernel_rfl) (hval 3 _ v3 rfl rfl) h3 (dR 3 _ d3 rfl rfl) iX
 cases e3
 refine(Pure.calls (afE l t k n hl (ZI hn (by decide)) aaU) (abA hL sL) (RL.cons g0 (RL.cons g1 (RL.cons g2 (RL.cons g3 RL.nil))))).mono fun e W' ⟨he,hb⟩=> ?_
 subst he
 exact⟨_,rfl,afC laidOut (by kernel_rfl) rfl ⟨rfl,rfl,rfl⟩ rfl underlying4 hW' hb⟩
theorem facts:joinedFacts Tryz.pinned.checked.prog 4 f4 Rows.changesPrefixSpec Rows.changesPrefixRow=true:=by
 unfold joinedFacts
 simp only[Z8]
 repeat' apply And.intro
 all_goals as_aux_lemma=>kernel_rfl
theorem over:Rows.changesPrefixRow.holds Tryz.pinned (OpenSpec.ofChange Rows.changesPrefixSpec):=
 OpenClaim.holds_of_wide 4 f4 rfl rfl rfl rfl rfl rfl rfl ⟨rfl,rfl,rfl,rfl,rfl⟩ rfl rfl rfl rfl rfl (by as_aux_lemma=>kernel_rfl) func4 facts
  (XK (by as_aux_lemma=>kernel_rfl)) (by unfold Func.isWrapper;first|(rw[ZV (by decide+kernel)];kernel_rfl)|(rw[Z7 (by decide+kernel)];exact⟨rfl,rfl⟩))
  (fun os started H enc _=>lifted os started H enc)
end Go.Proofs.YthdeaajdmdmfnaaGreatDoor.changesPrefix
