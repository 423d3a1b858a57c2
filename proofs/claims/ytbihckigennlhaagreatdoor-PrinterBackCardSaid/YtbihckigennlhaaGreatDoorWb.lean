/- Behind the door: the recovering closure, in the layer's words. -/
import Derived.Test.YtbihckigennlhaaGreatDoorWa
set_option linter.unusedSimpArgs false
set_option linter.unusedVariables false
set_option linter.unusedSectionVars false
set_option maxRecDepth 100000
set_option maxHeartbeats 4000000
namespace Go.Proofs.YtbihckigennlhaaGreatDoor
open Go.Sx Go.Proofs
section
variable [Glob Tryz.prog]{M:Mem}{w0:Base}{w:World}{σ:Store}{t bb:Nat}{x y:Int}
theorem box_heap(hI:Inv Tryz.prog M w0 ((t,bb,.cells [iv x,iv y])::σ) w):∃ T,w.heap[bb]? =some (.cells #[.int .i64 x,.int .i64 y] T (0,0)):=by
 obtain⟨_,hM,cs,T,hh,hl⟩:=hI.st _ List.mem_cons_self
 obtain⟨v1,l1,e,h1,hl1⟩:=hl.uncons
 obtain⟨v2,rfl,h2⟩:=hl1.un1
 obtain rfl:=h1.of_v
 obtain rfl:=h2.of_v
 exact⟨T,by rw[hh,show cs= #[.int .i64 x,.int .i64 y]from Array.toList_inj.1 e]⟩
theorem box_put(hI:Inv Tryz.prog M w0 ((t,bb,.cells [iv x,iv y])::σ) w)(p c:Int)(o:Obj):Inv Tryz.prog M w0 ((t,bb,.cells [iv p,iv c])::σ) (((w.alloc o).setCell ⟨bb,0,none⟩ (.int .i64 p)).setCell ⟨bb,1,none⟩ (.int .i64 c)):=by
 have hI':=hI.alloc o
 obtain⟨T,hh⟩:=box_heap hI'
 have hM:=(hI'.st _ List.mem_cons_self).2.1
 have:=hI'.upd (tg:=t) (b:=bb) (x:= .cells [iv x,iv y]) (y:= .cells [iv p,iv c]) (w':=(((w.alloc o).setCell ⟨bb,0,none⟩ (.int .i64 p)).setCell ⟨bb,1,none⟩ (.int .i64 c))) (by simp[lkt]) (fun k hk=>by simp only[World.setCell,Array.getElem?_modify];rw[if_neg (fun e=>hk e.symm),if_neg (fun e=>hk e.symm)]) rfl rfl rfl (by simp[World.setCell]) hM
  ⟨hM,#[.int .i64 p,.int .i64 c],T,by simp only[World.setCell,Array.getElem?_modify,if_true,hh];rfl,RL.cons (.v _) (RL.cons (.v _) RL.nil)⟩
 simpa[upt]using this
theorem whole_res(hI:Inv Tryz.prog M w0 ((t,bb,.cells [iv x,iv y])::σ) w){tmps:Array Value}(ht:tmps.getD 4 undef= .pointer (some ⟨bb,0,none⟩)):(results Tryz.f36 tmps).run Tryz.prog w= .ok (.agg #[.int .i64 x,.int .i64 y]) w:=by
 obtain⟨T,hh⟩:=box_heap hI
 have h0:w.cell? ⟨bb,0,none⟩=some (.int .i64 x):=by simp[World.cell?,hh]
 have h1:w.cell? ⟨bb,1,none⟩=some (.int .i64 y):=by simp[World.cell?,hh]
 simp only[Array.getD_eq_getD_getElem?]at ht
 simp[results,Tryz.results36,go_sem,ht,h0,h1]
def dfr(f bb:Nat):Deferred:={target:= .fn (.func f) #[.pointer (some ⟨bb,0,none⟩)],args:= #[]}
theorem whole_pan(hI:Inv Tryz.prog M w0 ((t,bb,.cells [iv x,iv y])::σ) w){tmps:Array Value}(ht:tmps.getD 4 undef= .pointer (some ⟨bb,0,none⟩))(p c:Int){R:Ending→World→Prop}
  (h:∀ w',Inv Tryz.prog M w0 ((t,bb,.cells [iv p,iv c])::σ) w'→R (.returned (.agg #[.int .i64 p,.int .i64 c])) w'):
  Leaves Tryz.prog Tryz.f36 tmps R [dfr 75 bb] (.panicking [entry p c false]) w:=by
 obtain⟨T,hh⟩:=box_heap hI
 refine leaves_cons (f:=75) (args:= #[.pointer (some ⟨bb,0,none⟩)]) (by simp) (by simp[go_sem]) ?_
 refine(catch_panW bb x y p c w (by simp[World.cell?,hh]) (by simp[World.cell?,hh]) (by simp[World.frozen?,hh]) (by simp[World.frozen?,hh])).mono ?_
 rintro e u' w'' ⟨rfl,rfl,rfl⟩
 have hI2:=box_put hI p c (.cells #[.int .i64 p,.int .i64 c] 135)
 simp only[entry,settle,Leaves,List.dropWhile_nil]
 exact⟨_,whole_res hI2 ht,h _ hI2⟩
theorem whole_idle(hI:Inv Tryz.prog M w0 ((t,bb,.cells [iv x,iv y])::σ) w){tmps:Array Value}(ht:tmps.getD 4 undef= .pointer (some ⟨bb,0,none⟩)){R:Ending→World→Prop}
  (h:∀ w',Inv Tryz.prog M w0 ((t,bb,.cells [iv x,iv y])::σ) w'→R (.returned (.agg #[.int .i64 x,.int .i64 y])) w'):
  Leaves Tryz.prog Tryz.f36 tmps R [dfr 75 bb] .returning w:=by
 refine leaves_cons (f:=75) (args:= #[.pointer (some ⟨bb,0,none⟩)]) (by simp) (by simp[go_sem]) ?_
 refine(catch_idleW bb w).mono ?_
 rintro e u' w'' ⟨rfl,rfl,rfl⟩
 have hI2:=hI.alloc (.cells #[.int .i64 0,.int .i64 0] 135)
 simp only[settle,Leaves]
 exact⟨_,whole_res hI2 ht,h _ hI2⟩
end
end Go.Proofs.YtbihckigennlhaaGreatDoor
