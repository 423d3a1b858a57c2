/-
  The statement ParserRecovers: an item that is cut off before its semicolon does not affect the items before and after it. No condition: for every input.
-/
import Derived.Test.YtdcpcffpapiadaaGreatDoorYm
import Derived.Test.YtdcpcffpapiadaaGreatDoorTie
import Derived.Test.YtdcpcffpapiadaaGreatDoorCards
import Derived.WalkKit
import Derived.ProofKit
import Derived.Lay
import Derived.LaidOnce
import Derived.SevenTiedAt
set_option linter.unusedVariables false
namespace Go.Proofs.YtdcpcffpapiadaaGreatDoor.parserRecovers
open Go.ChangeShapes Go.WideShapes Go.ChangeAt Go.RowKit Go.Sx Go.Proofs
theorem wrap{H:Type}{enc:TypeId×Value→H}{a:Assume}{C:Checked}{os:Os}{f:FuncId}{fn:Func}{s:ChangeSpec}{conds:List PathCond}{apart fresh handsOn again:Bool}{X:World→Array Value→Prop}
  (hX:∀ (w w':World) (args:Array Value),w.heap=w'.heap→X w args→X w' args)
  (own:ownKnob C.prog.godebug=none) (started:os.Started) (noInit:C.prog.inits.idxOf? f=none) (hfn:C.prog.funcs[f]? =some fn)
  (witness:∃ (w:World) (tape:Tape) (i:Input),w.os=os∧(w.forCall tape i).Shaped C.prog∧i.vars=[]∧Input.okWide C.prog (w.forCall tape i) .any w.heap.size f i∧
   ((s.pre enc C.prog fn conds apart (w.forCall tape i).memory i.args∧X (w.forCall tape i).memory i.args)∧sizedMet enc C.prog fn (OpenSpec.ofChange s) apart (w.forCall tape i).memory i.args)∧a.holds C.prog (lone (Frame.enter C.prog f i.args .normal) [] (w.forCall tape i)))
  (contract:∀ (W:World) (base:Nat) (args:Array Value) (ds gs:List (DataW H)) (before:List MemPlace),
   (∀ (j:Nat) t v,fn.params[j]? =some t→args[j]? =some v→Value.okWide C.prog W .any base t v)→
   DataW.Whole enc C.prog fn.params.toList s.vars apart W args.toList ds gs before→
   (DataW.weightsEach C.prog (fn.params.toList++s.plain.varTypes C.prog) (ds++gs)).all (·≤reachBytes)=true→X W args→W.ShapedOpen C.prog→
   Calls C.prog f args W fun e W'=>∃ v,e= .returned v∧s.post enc C.prog fn apart fresh handsOn again W args v W'):
  ReturnsInHanded a C os f .any (fun w args=>(s.pre enc C.prog fn conds apart w args∧X w args)∧sizedMet enc C.prog fn (OpenSpec.ofChange s) apart w args) (s.post enc C.prog fn apart fresh handsOn again):=by
 refine returnsInHanded_of_calls own started noInit witness ?_
 intro w tape i _ hsh _ hok hpre hholds
 obtain⟨_,_,_,fn',hfn',_,_,_,_,hval⟩:=hok
 have e:fn'=fn:=Option.some.inj (hfn'.symm.trans hfn)
 subst e
 obtain⟨⟨⟨ds,gs,before,hw,hc⟩,hx⟩,hz⟩:=hpre
 have hw':=DataW.Whole.of_heap (w':=w.forCall tape i) (by rfl) hw
 refine(contract (w.forCall tape i) w.heap.size i.args ds gs before hval hw' (hz.weights hw) (hX _ _ _ (by rfl) hx) hsh).mono fun e W' ⟨v,he,hp⟩=> ?_
 subst he
 exact ChangeSpec.post_blind hp
set_option maxRecDepth 100000 in
theorem lifted(os:Os)(started:os.Started)(H:Type)(enc:TypeId×Value→H):
  ReturnsInHanded {} Tryz.checked os 5 .any (fun w args=>(Rows.parserRecoversSpec.pre enc Tryz.prog Tryz.f5 [] false w args∧laidMetH Tryz.prog Rows.parserRecoversRow.laid w)∧sizedMet enc Tryz.prog Tryz.f5 (OpenSpec.ofChange Rows.parserRecoversSpec) false w args)
   (Rows.parserRecoversSpec.post enc Tryz.prog Tryz.f5 false true false false):=by
 refine wrap (C:=Tryz.checked) (X:=fun w _=>laidMetH Tryz.prog Rows.parserRecoversRow.laid w) (fun _ _ _ hh h=>h.of_heap hh) own started (by kernel_rfl) Tryz.func5
  (ChangeSpec.witness_shaped (enc:=enc) (C:=Tryz.checked) (os:=os) (X:=fun w _=>laidMetH Tryz.prog Rows.parserRecoversRow.laid w) false (World.laidAll Tryz.prog os Rows.parserRecoversRow.laid) #[.slice none 0 0,.slice none 0 0,.int .i64 0] 8 (World.laidAll_os _ _ _)
   (World.shaped_of_ZipB (by kernel_rfl) (by kernel_rfl)) (by kernel_rfl) (by kernel_rfl) (by kernel_rfl)
   (by rw[MakeChecks.laidMetH_plain _ _ _ (by kernel_rfl)];exact laidMet_laidAll _ (by kernel_rfl) (by kernel_rfl))) ?_
 intro W base args ds gs before hval0 hW hsz hL hsh
 rw[MakeChecks.laidMetH_plain _ _ _ (by kernel_rfl)]at hL
 have hval:∀ (j:Nat) t v,Tryz.f5.params[j]? =some t→args[j]? =some v→Value.okWide Tryz.prog W .any base t v:=hval0
 have hW':=hW
 obtain⟨p,q,hA0,hV,rfl,_,_⟩:=hW
 have hA:DataW.TrodAll enc Tryz.prog W 0 (fun _=>true) true Tryz.f5.params.toList args.toList ds p:=hA0
 have hz0:∀ (j:Nat) t d,Tryz.f5.params.toList[j]? =some t→ds[j]? =some d→Wok Tryz.prog t d:=fun j t d ht hd n hn=>by
  have hl1:j<Tryz.f5.params.toList.length:=(List.getElem?_eq_some_iff.1 ht).1
  have hl2:j<ds.length:=(List.getElem?_eq_some_iff.1 hd).1
  have:=List.all_eq_true.1 hsz n (DataW.weights_mem_each (j:=j) (by rw[List.getElem?_append_left hl1];exact ht) (by rw[List.getElem?_append_left hl2];exact hd) n hn)
  simpa using this
 rw[Tryz.params5]at hA hval hz0
 obtain⟨v0,vs0,d0,ds0,p0,q0,hargs,rfl,rfl,h0,r0⟩:=trodAll_cons hA
 obtain⟨v1,vs1,d1,ds1,p1,q1,rfl,rfl,rfl,h1,r1⟩:=trodAll_cons r0
 obtain⟨v2,vs2,d2,ds2,p2,q2,rfl,rfl,rfl,h2,r2⟩:=trodAll_cons r1
 obtain⟨rfl,rfl,rfl⟩:=trodAll_nil r2
 obtain rfl:args= #[v0,v1,v2]:=by cases args;simp_all
 obtain⟨rfl,rfl⟩:=trodVars_none hV
 obtain⟨_,g0,a,e0,ha⟩:=arg_one (by kernel_rfl) (hval 0 _ v0 rfl rfl) h0 (hz0 0 _ d0 rfl rfl) rd_bytes
 cases e0
 obtain⟨_,g1,b,e1,hb⟩:=arg_one (by kernel_rfl) (hval 1 _ v1 rfl rfl) h1 (hz0 1 _ d1 rfl rfl) rd_bytes
 cases e1
 obtain⟨_,g2,n,e2⟩:=arg_one (by kernel_rfl) (hval 2 _ v2 rfl rfl) h2 (hz0 2 _ d2 rfl rfl) rd_int
 cases e2
 refine(Pure.calls (recovers_ok a b n ha hb) (globOK hL hsh) (RL.cons g0 (RL.cons g1 (RL.cons g2 RL.nil)))).mono fun e W' ⟨he,hb⟩=> ?_
 subst he
 exact⟨_,rfl,post_true laidOut (by kernel_rfl) rfl ⟨rfl,rfl,rfl⟩ rfl Tryz.underlying4 hW' hb⟩
theorem over:Rows.parserRecoversRow.holds Tryz.pinned (OpenSpec.ofChange Rows.parserRecoversSpec):=
 OpenClaim.holds_of_wide 5 Tryz.f5 rfl rfl rfl rfl rfl rfl rfl ⟨rfl,rfl,rfl,rfl,rfl⟩ rfl rfl rfl rfl rfl (by kernel_rfl) Tryz.func5 (by kernel_rfl)
  (of_decide_eq_true (by kernel_rfl)) (by unfold Func.isWrapper;first|(rw[if_pos (by decide+kernel)];kernel_rfl)|(rw[if_neg (by decide+kernel)];exact⟨rfl,rfl⟩))
  (fun os started H enc _=>lifted os started H enc)
theorem proved:Rows.ParserRecoversCardSaid:=
 Claim7.holds_tied_plain_at .later [] [.data,.data,.data,.data,.sentinel,.sentinel,.data,.pinned] true (true, "76423096e73d39dfa473cfe6342f6749cbc65ada8e362117fc4b3dcaca5d36b5") true over (fun _ h=>by cases h) (by kernel_rfl) (fun _ h=>by cases h) parserRecovers_row_tie rfl ⟨rfl,rfl⟩ (by kernel_rfl) rfl
  (fun f fn hf hfn=>by
   obtain rfl:f=5:=Option.some.inj ((show Tryz.prog.funcNamed "asof/asoflaw09.ParserRecovers" =some 5 by kernel_rfl).symm.trans hf) |>.symm
   obtain rfl:fn=Tryz.f5:=(Option.some.inj (Tryz.func5.symm.trans hfn)).symm
   exact⟨by kernel_rfl,fun j t ht=>by
    rw[Tryz.params5]at ht
    have hm:t∈[22,22,3]:=by simpa using Array.mem_of_getElem? ht
    have hall:([22,22,3].all fun u=> !Tryz.prog.wantsStandIn u)=true:=by kernel_rfl
    exact(show Tryz.prog.wantsStandIn t=false by simpa using List.all_eq_true.1 hall t hm)⟩)
  (by kernel_rfl)
end Go.Proofs.YtdcpcffpapiadaaGreatDoor.parserRecovers
