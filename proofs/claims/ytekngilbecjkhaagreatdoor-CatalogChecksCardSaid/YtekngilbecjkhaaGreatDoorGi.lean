/- What is known of the package variables. -/
import Derived.Test.YtekngilbecjkhaaGreatDoorSxE
import Derived.Test.YtekngilbecjkhaaGreatDoorChecked
import Derived.Lib.LaidTab
import Derived.Lib.ItoaNum
set_option linter.unusedVariables false
namespace Go.Proofs.YtekngilbecjkhaaGreatDoor
open Go.Sx Go.Proofs Go.RowKit
abbrev Str:=ByteArray
abbrev sv(s:Str):AV:= .v (.string s)
abbrev iv(n:Int):AV:= .v (.int .i64 n)
def strRow(s:Str):List AV:=[sv s]
def aggL:List Str:=[⟨#[99,111,117,110,116]⟩,⟨#[115,117,109]⟩,⟨#[109,101,97,110]⟩,⟨#[109,105,110]⟩,⟨#[109,97,120]⟩,⟨#[102,105,114,115,116]⟩,⟨#[108,97,115,116]⟩,⟨#[100,105,115,116,105,110,99,116]⟩,⟨#[113,117,97,110,116,105,108,101]⟩,⟨#[100,101,99,97,121]⟩]
def unL:List Str:=[⟨#[45]⟩,⟨#[110,111,116]⟩,⟨#[110,117,108,108]⟩]
def binL:List Str:=[⟨#[43]⟩,⟨#[45]⟩,⟨#[42]⟩,⟨#[47]⟩,⟨#[61,61]⟩,⟨#[33,61]⟩,⟨#[60]⟩,⟨#[60,61]⟩,⟨#[97,110,100]⟩,⟨#[111,114]⟩]
def GW(W:World):Prop:=
 W=W
instance:Glob Tryz.prog where
 av g:=match g with
  |0=>some [.sl false 1 (aggL.map strRow)]
  |1=>some [.sl false 1 (unL.map strRow)]
  |2=>some [.sl false 1 (binL.map strRow)]
  |3=>some [.ai .i64]
  |_=>none
 gw:=GW
theorem GW.keep{w w':World}(h:GW w)(hs:w.heap.size≤w'.heap.size)(hk:∀ (k:Nat) (cs:Array Value) (t:TypeId) (f:Nat×Nat),w.heap[k]? =some (.cells cs t f)→w'.heap[k]? =w.heap[k]?):GW w':=by
 rfl
end Go.Proofs.YtekngilbecjkhaaGreatDoor
