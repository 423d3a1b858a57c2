/-
  The statement ChangesRollback: rolling back undoes a switch, with the same digest. No condition: for every input.
-/
import Derived.Test.YtmemninechdogaaGreatDoorLwT
set_option linter.all false
set_option maxHeartbeats 4000000
namespace Go.Proofs.YtmemninechdogaaGreatDoor.changesRollback
open _root_.Go.Proofs.Tryz
open Go.ChangeShapes Go.WideShapes Go.ChangeAt Go.RowKit Go.Sx Go.Proofs
theorem proved:Rows.ChangesRollbackCardSaid:=
 Claim7.holds_tied_plain_at .later [] [.data,.data,.data,.data,.sentinel,.sentinel,.data,.widerDeep,.widerDeep,.widerDeep,.pinned] true (true, "975332afdfa964b6d363ecfb09c835b67c91d5452ebe5531a4cda29b5d805356") true over (fun _ h=>by cases h) (by as_aux_lemma=>kernel_rfl) (fun _ h=>by cases h) changesRollback_row_tie rfl ⟨rfl,rfl⟩ (by as_aux_lemma=>kernel_rfl) rfl
  (fun f fn hf jC=>by
   obtain rfl:f=4:=YC ((show prog.funcNamed "asof/asoflaw14.ChangesRollback" =some 4 by as_aux_lemma=>kernel_rfl).symm.trans hf) |>.symm;obtain rfl:fn=f4:=(YC (func4.symm.trans jC)).symm;exact⟨by kernel_rfl,fun j t ht=>by
    rw[params4]at ht;have hm:t∈[25,9]:=by simpa using Array.mem_of_getElem? ht
    have bW:([25,9].all fun u=>!prog.wantsStandIn u)=true:=by kernel_rfl
    exact(show prog.wantsStandIn t=false by simpa using ZA.1 bW t hm)⟩)
  apT
