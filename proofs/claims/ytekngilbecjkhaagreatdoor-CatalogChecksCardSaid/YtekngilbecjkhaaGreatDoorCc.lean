/- What a call of the catalog's functions leaves as it was; slices of names in the walk's words. -/
import Derived.Test.YtekngilbecjkhaaGreatDoorCa
import Derived.Test.YtekngilbecjkhaaGreatDoorSet
import Derived.Test.YtekngilbecjkhaaGreatDoorSxB
import Derived.Test.YtekngilbecjkhaaGreatDoorGl
import Derived.BigCall
set_option linter.unusedSimpArgs false
set_option linter.unusedVariables false
set_option linter.unusedSectionVars false
namespace Go.Proofs.YtekngilbecjkhaaGreatDoor
open Go.RowKit Go.Proofs Go.Tb
open Go.Sx (AV Inv Mem RL R M0 Glob)
structure Keep(w w':World)(l:List Nat):Prop where
 os:w'.os=w.os
 tape:w'.tape=w.tape
 output:w'.output=w.output
 size:w.heap.size≤w'.heap.size
 block:∀ k,k<w.heap.size→k∉l→w'.heap[k]? =w.heap[k]?
theorem Keep.refl(w:World)(l:List Nat):Keep w w l:=⟨rfl,rfl,rfl,Nat.le_refl _,fun _ _ _=>rfl⟩
theorem Keep.trans{a b c:World}{l l':List Nat}(h:Keep a b l)(k:Keep b c l')(hl:∀ x∈l',x<a.heap.size→x∈l):Keep a c l:=
 ⟨k.os.trans h.os,k.tape.trans h.tape,k.output.trans h.output,Nat.le_trans h.size k.size,fun i hi hn=>(k.block i (Nat.lt_of_lt_of_le hi h.size) (fun hx=>hn (hl i hx hi))).trans (h.block i hi hn)⟩
theorem Keep.of_below{w w':World}(h:Below w.heap.size w w')(l:List Nat):Keep w w' l:=⟨h.os,h.tape,h.output,h.size,fun k hk _=>h.block k hk⟩
theorem Keep.of_grown{w w':World}{b:Nat}(h:w.grownBy w' (some b)):Keep w w' [b]:=⟨h.os,h.tape,h.output,h.size,fun k hk hn=>h.block k hk (fun e=>hn (by cases e;simp))⟩
theorem Keep.of_none{w w':World}(h:w.grownBy w' none)(l:List Nat):Keep w w' l:=⟨h.os,h.tape,h.output,h.size,fun k hk hn=>h.block k hk (by simp)⟩
theorem Keep.alloc{w w':World}{l:List Nat}(h:Keep w w' l)(o:Obj):Keep w (w'.alloc o) l:=
 ⟨h.os,h.tape,h.output,by have:=h.size;simp;omega,fun k hk hn=>(heap_alloc_old w' o (Nat.lt_of_lt_of_le hk h.size)).trans (h.block k hk hn)⟩
theorem Keep.mono{w w':World}{l l':List Nat}(h:Keep w w' l)(hl:∀ x∈l,x∈l'):Keep w w' l':=⟨h.os,h.tape,h.output,h.size,fun k hk hn=>h.block k hk (fun hx=>hn (hl k hx))⟩
theorem Keep.below{w w':World}{l:List Nat}{B:Nat}(h:Keep w w' l)(hB:B≤w.heap.size)(hl:∀ x∈l,B≤x):Below B w w':=⟨h.os,h.tape,h.output,h.size,fun k hk=>h.block k (Nat.lt_of_lt_of_le hk hB) (fun hx=>Nat.not_lt.2 (hl k hx) hk)⟩
theorem Keep.grown{w w':World}{l:List Nat}{b:Nat}(h:Keep w w' l)(hb:b<w.heap.size)(hn:b∉l):w'.heap[b]? =w.heap[b]? :=h.block b hb hn
theorem tbl_keep{w w':World}{l:List Nat}{P:Program}{k:TypeId}{R:Value→Option (DataW Unit×List MemPlace)}{b:Nat}{L:List Str}{f:Str→DataW Unit}(h:tbl w P k R b L f)(hk:Keep w w' l)(hn:b∉l):tbl w' P k R b L f:=h.block (hk.block b h.lt hn)
theorem set_keep{w w':World}{l:List Nat}{P:Program}{k e:TypeId}{b:Nat}{L:List Str}(h:set w P k e b L)(hk:Keep w w' l)(hn:b∉l):set w' P k e b L:=tbl_keep h hk hn
theorem maps_keep{w w':World}{l:List Nat}{P:Program}{k:TypeId}{b:Nat}{L:List Str}{f:Str→Nat}(h:maps w P k b L f)(hk:Keep w w' l)(hn:b∉l):maps w' P k b L f:=tbl_keep h hk hn
def NoCells(w:World)(l:List Nat):Prop:=∀ b∈l,∀ cs t f,w.heap[b]?≠some (.cells cs t f)
theorem noCells_nil(w:World):NoCells w []:=fun b h=>by cases h
theorem noCells_cons{w:World}{b:Nat}{l:List Nat}(h:∃ es c,w.heap[b]? =some (.map es c))(hl:NoCells w l):NoCells w (b::l):=fun x hx cs t f e=>by
 rcases List.mem_cons.1 hx with rfl|hx
 ·obtain⟨es,c,h⟩:=h;rw[h]at e;cases e
 ·exact hl x hx cs t f e
theorem inv_keep{M:Mem}{w w':World}{l:List Nat}(hI:Inv Tryz.prog M w [] w)(hk:Keep w w' l)(hn:NoCells w l):Inv Tryz.prog M w' [] w':=by
 have imm:∀ b o v,M b o=some v→w'.cell? ⟨b,o,none⟩=some v:=fun b o v h=>by
  have h1:=hI.imm b o v h
  have hlt:=World.block_lt_of_cell? _ _ h1
  have hb:b∉l:=fun hb=>by
   unfold World.cell? at h1
   have:=hn b hb
   cases hh:w.heap[b]? with
   |none=>rw[hh]at h1;simp at h1
   |some o'=>
    cases o' with
    |cells cs t f=>exact this cs t f hh
    |_=>rw[hh]at h1;simp at h1
  exact(World.cell?_of_block (a:=⟨b,o,none⟩) (hk.block b hlt hb)).trans h1
 refine⟨rfl,rfl,rfl,Nat.le_refl _,fun _ _=>rfl,imm,(fun e he=>(by cases he)),List.nodup_nil,hI.gl,?_⟩
 refine GW.keep hI.gw hk.size fun k cs t f h=>hk.block k (Array.getElem?_eq_some_iff.1 h).1 fun hb=>hn k hb cs t f h
end Go.Proofs.YtekngilbecjkhaaGreatDoor
