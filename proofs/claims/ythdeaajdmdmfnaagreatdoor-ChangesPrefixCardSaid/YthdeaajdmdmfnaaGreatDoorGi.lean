/- What is known of the package variables. -/
import Derived.Test.YthdeaajdmdmfnaaGreatDoorSxZ
import Derived.Test.YthdeaajdmdmfnaaGreatDoorChecked
import Derived.Lib.LaidTab
import Derived.Lib.ItoaNum
import Derived.Shelf.Unicode.DecodeSlow
set_option linter.unusedVariables false
namespace Go.Proofs.YthdeaajdmdmfnaaGreatDoor
open _root_.Go.Proofs.Tryz
open Go.Sx Go.Proofs Go.RowKit
abbrev af:=ByteArray
abbrev sv(s:af):AV:= .v (.string s)
abbrev iv(n:Int):AV:= .v (.int .i64 n)
def iZ(s:af):List AV:=[sv s]
def FL:List af:=[⟨#[99,111,117,110,116]⟩,⟨#[115,117,109]⟩,⟨#[109,101,97,110]⟩,⟨#[109,105,110]⟩,⟨#[109,97,120]⟩,⟨#[102,105,114,115,116]⟩,⟨#[108,97,115,116]⟩,⟨#[100,105,115,116,105,110,99,116]⟩,⟨#[113,117,97,110,116,105,108,101]⟩,⟨#[100,101,99,97,121]⟩]
def EO:List af:=[⟨#[45]⟩,⟨#[110,111,116]⟩,⟨#[110,117,108,108]⟩]
def B9:List af:=[⟨#[43]⟩,⟨#[45]⟩,⟨#[42]⟩,⟨#[47]⟩,⟨#[61,61]⟩,⟨#[33,61]⟩,⟨#[60]⟩,⟨#[60,61]⟩,⟨#[97,110,100]⟩,⟨#[111,114]⟩]
def GW(W:World):Prop:=
 Lib.TabIs prog W "internal/strconv.uint64pow10" .u64 Lib.pow10Tab∧5<W.heap.size
instance:Glob prog where
 av g:=match g with
  |0=>some [.sl false 1 (FL.map iZ)]
  |1=>some [.sl false 1 (EO.map iZ)]
  |2=>some [.sl false 1 (B9.map iZ)]
  |3=>some [.ai .i64]
  |4=>some [iv 1,iv 10,iv 100,iv 1000,iv 10000,iv 100000,iv 1000000]
  |9=>some [.dz 426 .any]
  |6=>some ((List.range 256).map fun c=> .v (.int .u8 (Lib.firstT c:Nat)))
  |7=>some ((List.range 16).flatMap fun i=>[.v (.int .u8 (Lib.accLo i:Nat)),.v (.int .u8 (Lib.accHi i:Nat))])
  |_=>none
 gw:=GW
instance:gO prog:=⟨rfl⟩
theorem GW.az{w w':World}(h:GW w)(hs:w.heap.size≤w'.heap.size)(hk:∀ (k:Nat) (cs:Array Value) (t:TypeId) (f:Nat×Nat),w.heap[k]? =some (.cells cs t f)→w'.heap[k]? =w.heap[k]?):GW w':=by
 obtain⟨h1,h2⟩:=h
 refine⟨?_,Y8 h2 hs⟩
 have hG:prog.globalNamed "internal/strconv.uint64pow10" =some 5:=by kernel_rfl
 unfold Lib.TabIs World.var? at *
 rw[hG]at h1 ⊢
 simp only[Option.bind_some]at h1 ⊢
 cases hh:w.heap[5]? with
 |none=>rw[hh]at h1;cases h1
 |some o=>
  cases o with
  |cells cs t f=>rw[hk _ cs t f hh];exact h1
  |_=>rw[hh]at h1;cases h1
end Go.Proofs.YthdeaajdmdmfnaaGreatDoor
