import Derived.Test.YtmemninechdogaaGreatDoorCodeA
import Derived.Test.YtmemninechdogaaGreatDoorCodeD
set_option linter.all false
set_option maxRecDepth 100000
set_option maxHeartbeats 4000000
namespace Go.Proofs.YtmemninechdogaaGreatDoor
noncomputable section
open Go.Sx
def ag8:=km Tryz.func408
def ag7:=km Tryz.func404
