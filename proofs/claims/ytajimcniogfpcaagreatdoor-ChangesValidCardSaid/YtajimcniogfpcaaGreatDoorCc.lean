/- What a call of the catalog's functions leaves as it was; slices of names in the walk's words. -/
import Derived.Test.YtajimcniogfpcaaGreatDoorSet
import Derived.Test.YtajimcniogfpcaaGreatDoorSxB
import Derived.Test.YtajimcniogfpcaaGreatDoorPt
import Derived.BigCall
set_option linter.unusedSimpArgs false
set_option linter.unusedVariables false
set_option linter.unusedSectionVars false
namespace Go.Proofs.YtajimcniogfpcaaGreatDoor
open Go.RowKit Go.Proofs Go.Tb
open Go.Sx (AV Mem RL R M0 Glob)
structure bB(w w':World)(l:List Nat):Prop where
 os:w'.os=w.os
 tape:w'.tape=w.tape
 output:w'.output=w.output
 size:w.heap.size≤w'.heap.size
 block:∀ k,k<w.heap.size→k∉l→w'.heap[k]? =w.heap[k]?
theorem bB.refl(w:World)(l:List Nat):bB w w l:=⟨rfl,rfl,rfl,ZM _,fun _ _ _=>rfl⟩
theorem bB.trans{a b c:World}{l l':List Nat}(h:bB a b l)(k:bB b c l')(hl:∀ x∈l',x<a.heap.size→x∈l):bB a c l:=
 ⟨k.os.trans h.os,k.tape.trans h.tape,k.output.trans h.output,ZG h.size k.size,fun i hi hn=>(k.block i (Yu hi h.size) (fun hx=>hn (hl i hx hi))).trans (h.block i hi hn)⟩
theorem bB.FI{w w':World}(h:Below w.heap.size w w')(l:List Nat):bB w w' l:=⟨h.os,h.tape,h.output,h.size,fun k hk _=>h.block k hk⟩
theorem bB.lq{w w':World}{b:Nat}(h:w.grownBy w' (some b)):bB w w' [b]:=⟨h.os,h.tape,h.output,h.size,fun k hk hn=>h.block k hk (fun e=>hn (by cases e;simp))⟩
theorem bB.FJ{w w':World}(h:w.grownBy w' none)(l:List Nat):bB w w' l:=⟨h.os,h.tape,h.output,h.size,fun k hk hn=>h.block k hk (by simp)⟩
theorem bB.alloc{w w':World}{l:List Nat}(h:bB w w' l)(o:Obj):bB w (w'.alloc o) l:=
 ⟨h.os,h.tape,h.output,by have:=h.size;simp;omega,fun k hk hn=>(heap_alloc_old w' o (Yu hk h.size)).trans (h.block k hk hn)⟩
theorem bB.mono{w w':World}{l l':List Nat}(h:bB w w' l)(hl:∀ x∈l,x∈l'):bB w w' l':=⟨h.os,h.tape,h.output,h.size,fun k hk hn=>h.block k hk (fun hx=>hn (hl k hx))⟩
theorem bB.below{w w':World}{l:List Nat}{B:Nat}(h:bB w w' l)(hB:B≤w.heap.size)(hl:∀ x∈l,B≤x):Below B w w':=⟨h.os,h.tape,h.output,h.size,fun k hk=>h.block k (Yu hk hB) (fun hx=>Nat.not_lt.2 (hl k hx) hk)⟩
theorem bB.grown{w w':World}{l:List Nat}{b:Nat}(h:bB w w' l)(hb:b<w.heap.size)(hn:b∉l):w'.heap[b]? =w.heap[b]? :=h.block b hb hn
theorem Vj{w w':World}{l:List Nat}{P:Program}{k:TypeId}{R:Value→Option (DataW Unit×List MemPlace)}{b:Nat}{L:List ae}{f:ae→DataW Unit}(h:dC w P k R b L f)(hk:bB w w' l)(hn:b∉l):dC w' P k R b L f:=h.block (hk.block b h.lt hn)
theorem iM{w w':World}{l:List Nat}{P:Program}{k e:TypeId}{b:Nat}{L:List ae}(h:set w P k e b L)(hk:bB w w' l)(hn:b∉l):set w' P k e b L:=Vj h hk hn
theorem S3{w w':World}{l:List Nat}{P:Program}{k:TypeId}{b:Nat}{L:List ae}{f:ae→Nat}(h:maps w P k b L f)(hk:bB w w' l)(hn:b∉l):maps w' P k b L f:=Vj h hk hn
def A1(w:World)(l:List Nat):Prop:=∀ b∈l,∀ cs t f,w.heap[b]?≠some (.cells cs t f)
theorem Th(w:World):A1 w []:=fun b h=>by cases h
theorem Tg{w:World}{b:Nat}{l:List Nat}(h:∃ es c,w.heap[b]? =some (.map es c))(hl:A1 w l):A1 w (b::l):=fun x hx cs t f e=>by
 rcases ZT.1 hx with rfl|hx
 ·obtain⟨es,c,h⟩:=h;rw[h]at e;cases e
 ·exact hl x hx cs t f e
theorem K9{M:Mem}{w w':World}{l:List Nat}(hI:Sx.Inv Tryz.prog M ⟨w,M⟩ [] w)(hk:bB w w' l)(hn:A1 w l):Sx.Inv Tryz.prog M ⟨w',M⟩ [] w':=by
 have cH:∀ b o v,M b o=some v→w'.cell? ⟨b,o,none⟩=some v:=fun b o v h=>by
  have h1:=hI.cH b o v h
  have ar:=World.block_lt_of_cell? _ _ h1
  have hb:b∉l:=fun hb=>by
   unfold World.cell? at h1
   have:=hn b hb
   cases hh:w.heap[b]? with
   |none=>rw[hh]at h1;simp at h1
   |some o'=>
    cases o' with
    |cells cs t f=>exact this cs t f hh
    |_=>rw[hh]at h1;simp at h1
  exact(World.cell?_of_block (a:=⟨b,o,none⟩) (hk.block b ar hb)).trans h1
 refine⟨rfl,rfl,rfl,ZM _,fun _ _=>rfl,cH,(fun e he=>(by cases he)),Xn,hI.gl,?_,fun _ _ _ h _=>h⟩
 refine GW.aQ hI.gw hk.size fun k cs t f h=>hk.block k (ZX.1 h).1 fun hb=>hn k hb cs t f h
end Go.Proofs.YtajimcniogfpcaaGreatDoor
