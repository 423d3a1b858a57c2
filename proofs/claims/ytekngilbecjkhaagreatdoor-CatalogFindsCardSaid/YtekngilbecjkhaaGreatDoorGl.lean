
/- Package variables; contracts of the library, as contracts of the layer. -/
import Derived.Test.YtekngilbecjkhaaGreatDoorPt
import Derived.Shelf.Strings.Search1
import Derived.Shelf.Strings.Search2
import Derived.Shelf.Strings.Search3
import Derived.Shelf.LaysM
import Derived.Shelf.Strings.Shaped
import Derived.Shelf.Slices.Turned
import Derived.Shelf.Slices.Clone
import Derived.Shelf.SortM.Plain
import Derived.Shelf.SortM.SortNone
import Derived.Test.YtekngilbecjkhaaGreatDoorChecked
import Derived.Test.YtekngilbecjkhaaGreatDoorSxL
import Derived.Lib.Join
import Derived.Lib.Small
import Derived.Lib.IndexMore
set_option linter.unusedVariables false
namespace Go.Proofs.YtekngilbecjkhaaGreatDoor
open Go.Sx Go.Proofs Go.RowKit
def itoaS (n : Int) : Str := ⟨(Lib.itoa n).toArray⟩
def joinS (ws : List Str) (sep : Str) : Str := ⟨(Lib.join (ws.map (·.data.toList)) sep.data.toList).toArray⟩
end Go.Proofs.YtekngilbecjkhaaGreatDoor
