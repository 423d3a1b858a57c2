/- What a call of the catalog's functions leaves as it was; slices of names in the walk's words. -/
import Derived.Test.YthdeaajdmdmfnaaGreatDoorSet
import Derived.Test.YthdeaajdmdmfnaaGreatDoorSxB
import Derived.Test.YthdeaajdmdmfnaaGreatDoorPt
import Derived.BigCall
set_option linter.unusedSimpArgs false
set_option linter.unusedVariables false
set_option linter.unusedSectionVars false
namespace Go.Proofs.YthdeaajdmdmfnaaGreatDoor
open Go.RowKit Go.Proofs Go.Tb
open Go.Sx (AV Mem RL R M0 Glob)
structure bw(w w':World)(l:List Nat):Prop where
 os:w'.os=w.os
 tape:w'.tape=w.tape
 output:w'.output=w.output
 size:w.heap.size≤w'.heap.size
 block:∀ k,k<w.heap.size→k∉l→w'.heap[k]? =w.heap[k]?
theorem bw.refl(w:World)(l:List Nat):bw w w l:=⟨rfl,rfl,rfl,ZX _,fun _ _ _=>rfl⟩
theorem bw.trans{a b c:World}{l l':List Nat}(h:bw a b l)(k:bw b c l')(hl:∀ x∈l',x<a.heap.size→x∈l):bw a c l:=
 ⟨k.os.trans h.os,k.tape.trans h.tape,k.output.trans h.output,ZI h.size k.size,fun i hi hn=>(k.block i (Y8 hi h.size) (fun hx=>hn (hl i hx hi))).trans (h.block i hi hn)⟩
theorem bw.D2{w w':World}(h:Below w.heap.size w w')(l:List Nat):bw w w' l:=⟨h.os,h.tape,h.output,h.size,fun k hk _=>h.block k hk⟩
theorem bw.kY{w w':World}{b:Nat}(h:w.grownBy w' (some b)):bw w w' [b]:=⟨h.os,h.tape,h.output,h.size,fun k hk hn=>h.block k hk (fun e=>hn (by cases e;simp))⟩
theorem bw.D3{w w':World}(h:w.grownBy w' none)(l:List Nat):bw w w' l:=⟨h.os,h.tape,h.output,h.size,fun k hk hn=>h.block k hk (by simp)⟩
theorem bw.alloc{w w':World}{l:List Nat}(h:bw w w' l)(o:Obj):bw w (w'.alloc o) l:=
 ⟨h.os,h.tape,h.output,by have:=h.size;simp;omega,fun k hk hn=>(heap_alloc_old w' o (Y8 hk h.size)).trans (h.block k hk hn)⟩
theorem bw.mono{w w':World}{l l':List Nat}(h:bw w w' l)(hl:∀ x∈l,x∈l'):bw w w' l':=⟨h.os,h.tape,h.output,h.size,fun k hk hn=>h.block k hk (fun hx=>hn (hl k hx))⟩
theorem bw.below{w w':World}{l:List Nat}{B:Nat}(h:bw w w' l)(hB:B≤w.heap.size)(hl:∀ x∈l,B≤x):Below B w w':=⟨h.os,h.tape,h.output,h.size,fun k hk=>h.block k (Y8 hk hB) (fun hx=>Nat.not_lt.2 (hl k hx) hk)⟩
theorem bw.grown{w w':World}{l:List Nat}{b:Nat}(h:bw w w' l)(hb:b<w.heap.size)(hn:b∉l):w'.heap[b]? =w.heap[b]? :=h.block b hb hn
theorem Sz{w w':World}{l:List Nat}{P:Program}{k:TypeId}{R:Value→Option (DataW Unit×List MemPlace)}{b:Nat}{L:List af}{f:af→DataW Unit}(h:dj w P k R b L f)(hk:bw w w' l)(hn:b∉l):dj w' P k R b L f:=h.block (hk.block b h.lt hn)
theorem iF{w w':World}{l:List Nat}{P:Program}{k e:TypeId}{b:Nat}{L:List af}(h:set w P k e b L)(hk:bw w w' l)(hn:b∉l):set w' P k e b L:=Sz h hk hn
theorem Qy{w w':World}{l:List Nat}{P:Program}{k:TypeId}{b:Nat}{L:List af}{f:af→Nat}(h:maps w P k b L f)(hk:bw w w' l)(hn:b∉l):maps w' P k b L f:=Sz h hk hn
def yN(w:World)(l:List Nat):Prop:=∀ b∈l,∀ cs t f,w.heap[b]?≠some (.cells cs t f)
theorem QL(w:World):yN w []:=fun b h=>by cases h
theorem QK{w:World}{b:Nat}{l:List Nat}(h:∃ es c,w.heap[b]? =some (.map es c))(hl:yN w l):yN w (b::l):=fun x hx cs t f e=>by
 rcases ZK.1 hx with rfl|hx
 ·obtain⟨es,c,h⟩:=h;rw[h]at e;cases e
 ·exact hl x hx cs t f e
theorem Jk{M:Mem}{w w':World}{l:List Nat}(hI:Sx.Inv Tryz.prog M ⟨w,M⟩ [] w)(hk:bw w w' l)(hn:yN w l):Sx.Inv Tryz.prog M ⟨w',M⟩ [] w':=by
 have bL:∀ b o v,M b o=some v→w'.cell? ⟨b,o,none⟩=some v:=fun b o v h=>by
  have h1:=hI.bL b o v h
  have aw:=World.block_lt_of_cell? _ _ h1
  have hb:b∉l:=fun hb=>by
   unfold World.cell? at h1
   have:=hn b hb
   cases hh:w.heap[b]? with
   |none=>rw[hh]at h1;simp at h1
   |some o'=>
    cases o' with
    |cells cs t f=>exact this cs t f hh
    |_=>rw[hh]at h1;simp at h1
  exact(World.cell?_of_block (a:=⟨b,o,none⟩) (hk.block b aw hb)).trans h1
 refine⟨rfl,rfl,rfl,ZX _,fun _ _=>rfl,bL,(fun e he=>(by cases he)),List.nodup_nil,hI.gl,?_,fun _ _ _ h _=>h⟩
 refine GW.az hI.gw hk.size fun k cs t f h=>hk.block k (Z6.1 h).1 fun hb=>hn k hb cs t f h
end Go.Proofs.YthdeaajdmdmfnaaGreatDoor
