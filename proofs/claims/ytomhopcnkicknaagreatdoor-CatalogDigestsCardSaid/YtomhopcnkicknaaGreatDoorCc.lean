/- What a call of the catalog's functions leaves as it was; slices of names in the walk's words. -/
import Derived.Test.YtomhopcnkicknaaGreatDoorSet
import Derived.Test.YtomhopcnkicknaaGreatDoorSxB
import Derived.Test.YtomhopcnkicknaaGreatDoorPt
import Derived.BigCall
set_option linter.unusedSimpArgs false
set_option linter.unusedVariables false
set_option linter.unusedSectionVars false
namespace Go.Proofs.YtomhopcnkicknaaGreatDoor
open Go.RowKit Go.Proofs Go.Tb
open Go.Sx (AV Mem RL R M0 Glob)
structure aZ(w w':World)(l:List Nat):Prop where
 os:w'.os=w.os
 tape:w'.tape=w.tape
 output:w'.output=w.output
 size:w.heap.size≤w'.heap.size
 block:∀ k,k<w.heap.size→k∉l→w'.heap[k]? =w.heap[k]?
theorem aZ.refl(w:World)(l:List Nat):aZ w w l:=⟨rfl,rfl,rfl,ZR _,fun _ _ _=>rfl⟩
theorem aZ.trans{a b c:World}{l l':List Nat}(h:aZ a b l)(k:aZ b c l')(hl:∀ x∈l',x<a.heap.size→x∈l):aZ a c l:=
 ⟨k.os.trans h.os,k.tape.trans h.tape,k.output.trans h.output,ZJ h.size k.size,fun i hi hn=>(k.block i (YE hi h.size) (fun hx=>hn (hl i hx hi))).trans (h.block i hi hn)⟩
theorem aZ.wz{w w':World}(h:Below w.heap.size w w')(l:List Nat):aZ w w' l:=⟨h.os,h.tape,h.output,h.size,fun k hk _=>h.block k hk⟩
theorem aZ.j7{w w':World}{b:Nat}(h:w.grownBy w' (some b)):aZ w w' [b]:=⟨h.os,h.tape,h.output,h.size,fun k hk hn=>h.block k hk (fun e=>hn (by cases e;simp))⟩
theorem aZ.C4{w w':World}(h:w.grownBy w' none)(l:List Nat):aZ w w' l:=⟨h.os,h.tape,h.output,h.size,fun k hk hn=>h.block k hk (by simp)⟩
theorem aZ.alloc{w w':World}{l:List Nat}(h:aZ w w' l)(o:Obj):aZ w (w'.alloc o) l:=
 ⟨h.os,h.tape,h.output,by have:=h.size;simp;omega,fun k hk hn=>(heap_alloc_old w' o (YE hk h.size)).trans (h.block k hk hn)⟩
theorem aZ.mono{w w':World}{l l':List Nat}(h:aZ w w' l)(hl:∀ x∈l,x∈l'):aZ w w' l':=⟨h.os,h.tape,h.output,h.size,fun k hk hn=>h.block k hk (fun hx=>hn (hl k hx))⟩
theorem aZ.below{w w':World}{l:List Nat}{B:Nat}(h:aZ w w' l)(hB:B≤w.heap.size)(hl:∀ x∈l,B≤x):Below B w w':=⟨h.os,h.tape,h.output,h.size,fun k hk=>h.block k (YE hk hB) (fun hx=>Nat.not_lt.2 (hl k hx) hk)⟩
theorem aZ.grown{w w':World}{l:List Nat}{b:Nat}(h:aZ w w' l)(hb:b<w.heap.size)(hn:b∉l):w'.heap[b]? =w.heap[b]? :=h.block b hb hn
theorem Q1{w w':World}{l:List Nat}{P:Program}{k:TypeId}{R:Value→Option (DataW Unit×List MemPlace)}{b:Nat}{L:List ae}{f:ae→DataW Unit}(h:dh w P k R b L f)(hk:aZ w w' l)(hn:b∉l):dh w' P k R b L f:=h.block (hk.block b h.lt hn)
theorem fE{w w':World}{l:List Nat}{P:Program}{k e:TypeId}{b:Nat}{L:List ae}(h:set w P k e b L)(hk:aZ w w' l)(hn:b∉l):set w' P k e b L:=Q1 h hk hn
theorem OR{w w':World}{l:List Nat}{P:Program}{k:TypeId}{b:Nat}{L:List ae}{f:ae→Nat}(h:maps w P k b L f)(hk:aZ w w' l)(hn:b∉l):maps w' P k b L f:=Q1 h hk hn
def xG(w:World)(l:List Nat):Prop:=∀ b∈l,∀ cs t f,w.heap[b]?≠some (.cells cs t f)
theorem O6(w:World):xG w []:=fun b h=>by cases h
theorem O5{w:World}{b:Nat}{l:List Nat}(h:∃ es c,w.heap[b]? =some (.map es c))(hl:xG w l):xG w (b::l):=fun x hx cs t f e=>by
 rcases ZQ.1 hx with rfl|hx
 ·obtain⟨es,c,h⟩:=h;rw[h]at e;cases e
 ·exact hl x hx cs t f e
theorem Hb{M:Mem}{w w':World}{l:List Nat}(hI:Sx.Inv Tryz.prog M ⟨w,M⟩ [] w)(hk:aZ w w' l)(hn:xG w l):Sx.Inv Tryz.prog M ⟨w',M⟩ [] w':=by
 have cQ:∀ b o v,M b o=some v→w'.cell? ⟨b,o,none⟩=some v:=fun b o v h=>by
  have h1:=hI.cQ b o v h
  have ax:=World.block_lt_of_cell? _ _ h1
  have hb:b∉l:=fun hb=>by
   unfold World.cell? at h1
   have:=hn b hb
   cases hh:w.heap[b]? with
   |none=>rw[hh]at h1;simp at h1
   |some o'=>
    cases o' with
    |cells cs t f=>exact this cs t f hh
    |_=>rw[hh]at h1;simp at h1
  exact(World.cell?_of_block (a:=⟨b,o,none⟩) (hk.block b ax hb)).trans h1
 refine⟨rfl,rfl,rfl,ZR _,fun _ _=>rfl,cQ,(fun e he=>(by cases he)),XB,hI.gl,?_,fun _ _ _ h _=>h⟩
 refine GW.bY hI.gw hk.size fun k cs t f h=>hk.block k (Z0.1 h).1 fun hb=>hn k hb cs t f h
end Go.Proofs.YtomhopcnkicknaaGreatDoor
