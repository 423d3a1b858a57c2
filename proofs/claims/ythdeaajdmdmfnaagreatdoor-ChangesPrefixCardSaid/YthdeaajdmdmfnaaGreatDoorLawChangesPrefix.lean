/-
  The statement ChangesPrefix: catalogs follow from those of beginnings; later ticks do not matter; the versions of a name are among Versions. No condition: for every input.. No condition: for every input.
-/
import Derived.Test.YthdeaajdmdmfnaaGreatDoorLwQ
import Derived.Test.YthdeaajdmdmfnaaGreatDoorTie
import Derived.Test.YthdeaajdmdmfnaaGreatDoorCards
import Derived.WalkKit
import Derived.ProofKit
import Derived.Lay
import Derived.LaidOnce
import Derived.SevenTiedAt
set_option linter.unusedVariables false
set_option maxHeartbeats 4000000
namespace Go.Proofs.YthdeaajdmdmfnaaGreatDoor.changesPrefix
open _root_.Go.Proofs.Tryz
open Go.ChangeShapes Go.WideShapes Go.ChangeAt Go.RowKit Go.Sx Go.Proofs
theorem proved:Rows.ChangesPrefixCardSaid:=
 Claim7.holds_tied_plain_at .later [] [.data,.data,.data,.data,.sentinel,.sentinel,.data,.widerDeep,.widerDeep,.widerDeep,.pinned] true (true, "603ccfc04066c15691ec17b7b7139a974c46c7e9c781e7db32df80177a62bb64") true over (fun _ h=>by cases h) (by as_aux_lemma=>kernel_rfl) (fun _ h=>by cases h) changesPrefix_row_tie rfl ⟨rfl,rfl⟩ (by as_aux_lemma=>kernel_rfl) rfl
  (fun f fn hf ig=>by
   obtain rfl:f=4:=YK ((show prog.funcNamed "asof/asoflaw14.ChangesPrefix" =some 4 by as_aux_lemma=>kernel_rfl).symm.trans hf) |>.symm
   obtain rfl:fn=f4:=(YK (func4.symm.trans ig)).symm
   exact⟨by kernel_rfl,fun j t ht=>by
    rw[params4]at ht
    have hm:t∈[56,3,3,9]:=by simpa using Array.mem_of_getElem? ht
    have cV:([56,3,3,9].all fun u=> !prog.wantsStandIn u)=true:=by kernel_rfl
    exact(show prog.wantsStandIn t=false by simpa using Zz.1 cV t hm)⟩)
  (by as_aux_lemma=>kernel_rfl)
end Go.Proofs.YthdeaajdmdmfnaaGreatDoor.changesPrefix
