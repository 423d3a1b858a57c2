import Derived.Test.YtmemninechdogaaGreatDoorSxZ
import Derived.Test.YtmemninechdogaaGreatDoorChecked
import Derived.Lib.LaidTab
import Derived.Lib.ItoaNum
import Derived.Shelf.Unicode.DecodeSlow
set_option linter.all false
namespace Go.Proofs.YtmemninechdogaaGreatDoor
open _root_.Go.Proofs.Tryz
open Go.Sx Go.Proofs Go.RowKit
abbrev ae:=ByteArray
abbrev sv(s:ae):AV:=.v (.string s)
abbrev iv(n:Int):AV:=.v (.int .i64 n)
def dq(s:ae):List AV:=[sv s]
def qQ:List ae:=[⟨#[99,111,117,110,116]⟩,⟨#[115,117,109]⟩,⟨#[109,101,97,110]⟩,⟨#[109,105,110]⟩,⟨#[109,97,120]⟩,⟨#[102,105,114,115,116]⟩,⟨#[108,97,115,116]⟩,⟨#[100,105,115,116,105,110,99,116]⟩,⟨#[113,117,97,110,116,105,108,101]⟩,⟨#[100,101,99,97,121]⟩]
def uC:List ae:=[⟨#[45]⟩,⟨#[110,111,116]⟩,⟨#[110,117,108,108]⟩]
def pL:List ae:=[⟨#[43]⟩,⟨#[45]⟩,⟨#[42]⟩,⟨#[47]⟩,⟨#[61,61]⟩,⟨#[33,61]⟩,⟨#[60]⟩,⟨#[60,61]⟩,⟨#[97,110,100]⟩,⟨#[111,114]⟩]
def GW(W:World):Prop:=
 Lib.TabIs prog W "internal/strconv.uint64pow10" .u64 Lib.pow10Tab∧3<W.heap.size
instance:Glob prog where
 av g:=match g with
  |0=>some [.sl false 1 (qQ.map dq)]|1=>some [.sl false 1 (uC.map dq)]|2=>some [.sl false 1 (pL.map dq)]|4=>some [.ai .i64]|7=>some [iv 1,iv 10,iv 100,iv 1000,iv 10000,iv 100000,iv 1000000]|11=>some [.dD 422 .any]|8=>some ((List.range 256).map fun c=>.v (.int .u8 (Lib.firstT c:Nat)))|9=>some ((List.range 16).flatMap fun i=>[.v (.int .u8 (Lib.accLo i:Nat)),.v (.int .u8 (Lib.accHi i:Nat))])|_=>none
 gw:=GW
instance:ij prog:=⟨rfl⟩
theorem GW.aH{w w':World}(h:GW w)(hs:w.heap.size<=w'.heap.size)(hk:∀(k:Nat) (cs:Array Value) (t:TypeId) (f:Nat×Nat),w.heap[k]? =some (.cells cs t f)->w'.heap[k]? =w.heap[k]?):GW w':=by
 obtain⟨h1,h2⟩:=h;refine⟨?_,Yz h2 hs⟩;have hG:prog.globalNamed "internal/strconv.uint64pow10" =some 3:=by kernel_rfl
 unfold Lib.TabIs World.var? at*;rw[hG]at h1|-;simp only[Option.bind_some]at h1|-;cases hh:w.heap[3]? with
 |none=>rw[hh]at h1;cases h1|some o=>
  cases o with
  |cells cs t f=>rw[hk _ cs t f hh];exact h1|_=>rw[hh]at h1;cases h1
