import Derived.Test.YtmemninechdogaaGreatDoorSet
import Derived.Test.YtmemninechdogaaGreatDoorSxB
set_option linter.all false
namespace Go.Proofs.YtmemninechdogaaGreatDoor
open Go.RowKit Go.Proofs Go.Tb
open Go.Sx (AV Mem RL R M0 Glob)
structure bz(w w':World)(l:List Nat):Prop where
 os:w'.os=w.os
 tape:w'.tape=w.tape
 output:w'.output=w.output
 size:w.heap.size<=w'.heap.size
 block:∀k,k<w.heap.size->k∉l->w'.heap[k]? =w.heap[k]?
theorem bz.refl(w:World)(l:List Nat):bz w w l:=⟨rfl,rfl,rfl,ZO _,fun _ _ _=>rfl⟩
theorem bz.trans{a b c:World}{l l':List Nat}(h:bz a b l)(k:bz b c l')(hl:∀x∈l',x<a.heap.size->x∈l):bz a c l:=
 ⟨k.os.trans h.os,k.tape.trans h.tape,k.output.trans h.output,ZD h.size k.size,fun i hi hn=>(k.block i (Yz hi h.size) (fun hx=>hn (hl i hx hi))).trans (h.block i hi hn)⟩
theorem bz.EA{w w':World}(h:Below w.heap.size w w')(l:List Nat):bz w w' l:=⟨h.os,h.tape,h.output,h.size,fun k hk _=>h.block k hk⟩
theorem bz.lu{w w':World}{b:Nat}(h:w.grownBy w' (some b)):bz w w' [b]:=⟨h.os,h.tape,h.output,h.size,fun k hk hn=>h.block k hk (fun e=>hn (by cases e;simp))⟩
theorem bz.EB{w w':World}(h:w.grownBy w' none)(l:List Nat):bz w w' l:=⟨h.os,h.tape,h.output,h.size,fun k hk hn=>h.block k hk (by simp)⟩
theorem bz.alloc{w w':World}{l:List Nat}(h:bz w w' l)(o:Obj):bz w (w'.alloc o) l:=
 ⟨h.os,h.tape,h.output,by have:=h.size;simp;omega,fun k hk hn=>(heap_alloc_old w' o (Yz hk h.size)).trans (h.block k hk hn)⟩
theorem bz.mono{w w':World}{l l':List Nat}(h:bz w w' l)(hl:∀x∈l,x∈l'):bz w w' l':=⟨h.os,h.tape,h.output,h.size,fun k hk hn=>h.block k hk (fun hx=>hn (hl k hx))⟩
theorem bz.below{w w':World}{l:List Nat}{B:Nat}(h:bz w w' l)(hB:B<=w.heap.size)(hl:∀x∈l,B<=x):Below B w w':=⟨h.os,h.tape,h.output,h.size,fun k hk=>h.block k (Yz hk hB) (fun hx=>Nat.not_lt.2 (hl k hx) hk)⟩
theorem bz.grown{w w':World}{l:List Nat}{b:Nat}(h:bz w w' l)(hb:b<w.heap.size)(hn:b∉l):w'.heap[b]? =w.heap[b]? :=h.block b hb hn
theorem TV{w w':World}{l:List Nat}{P:Program}{k:TypeId}{R:Value->Option (DataW Unit×List MemPlace)}{b:Nat}{L:List ae}{f:ae->DataW Unit}(h:dt w P k R b L f)(hk:bz w w' l)(hn:b∉l):dt w' P k R b L f:=h.block (hk.block b h.lt hn)
theorem iC{w w':World}{l:List Nat}{P:Program}{k e:TypeId}{b:Nat}{L:List ae}(h:set w P k e b L)(hk:bz w w' l)(hn:b∉l):set w' P k e b L:=TV h hk hn
theorem Rq{w w':World}{l:List Nat}{P:Program}{k:TypeId}{b:Nat}{L:List ae}{f:ae->Nat}(h:maps w P k b L f)(hk:bz w w' l)(hn:b∉l):maps w' P k b L f:=TV h hk hn
def zf(w:World)(l:List Nat):Prop:=∀b∈l,∀cs t f,w.heap[b]?≠some (.cells cs t f)
theorem RO(w:World):zf w []:=fun b h=>by cases h
theorem RN{w:World}{b:Nat}{l:List Nat}(h:∃es c,w.heap[b]? =some (.map es c))(hl:zf w l):zf w (b::l):=fun x hx cs t f e=>by
 rcases ZR.1 hx with rfl|hx
 .obtain⟨es,c,h⟩:=h;rw[h]at e;cases e
 .exact hl x hx cs t f e
theorem JO{M:Mem}{w w':World}{l:List Nat}(hI:Sx.Inv Tryz.prog M ⟨w,M⟩ [] w)(hk:bz w w' l)(hn:zf w l):Sx.Inv Tryz.prog M ⟨w',M⟩ [] w':=by
 have bZ:∀b o v,M b o=some v->w'.cell? ⟨b,o,none⟩=some v:=fun b o v h=>by
  have h1:=hI.bZ b o v h;have az:=World.block_lt_of_cell? _ _ h1;have hb:b∉l:=fun hb=>by
   unfold World.cell? at h1;have:=hn b hb;cases hh:w.heap[b]? with
   |none=>rw[hh]at h1;simp at h1|some o'=>
    cases o' with
    |cells cs t f=>exact this cs t f hh|_=>rw[hh]at h1;simp at h1
  exact(World.cell?_of_block (a:=⟨b,o,none⟩) (hk.block b az hb)).trans h1
 refine⟨rfl,rfl,rfl,ZO _,fun _ _=>rfl,bZ,(fun e he=>(by cases he)),List.nodup_nil,hI.gl,?_,fun _ _ _ h _=>h⟩;refine GW.aH hI.gw hk.size fun k cs t f h=>hk.block k (ZW.1 h).1 fun hb=>hn k hb cs t f h
