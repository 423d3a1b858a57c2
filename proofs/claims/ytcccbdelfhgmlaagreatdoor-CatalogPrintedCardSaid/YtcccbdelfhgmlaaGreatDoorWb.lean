/- Behind the door: the recovering closure, in the layer's words. -/
import Derived.Test.YtcccbdelfhgmlaaGreatDoorWa
set_option linter.unusedSimpArgs false
set_option linter.unusedVariables false
set_option linter.unusedSectionVars false
set_option maxRecDepth 100000
set_option maxHeartbeats 4000000
namespace Go.Proofs.YtcccbdelfhgmlaaGreatDoor
open Go.Sx Go.Proofs
section
variable [Glob Tryz.prog]{M:Mem}{w0:Base}{w:World}{σ:Store}{t bb:Nat}{x y:Int}
theorem GU(hI:Inv Tryz.prog M w0 ((t,bb,.cells [iv x,iv y])::σ) w):∃ T,w.heap[bb]? =some (.cells #[.int .i64 x,.int .i64 y] T (0,0)):=by
 obtain⟨_,hM,cs,T,hh,hl⟩:=hI.st _ ZJ
 obtain⟨v1,l1,e,h1,nc⟩:=hl.bS
 obtain⟨v2,rfl,h2⟩:=nc.eg
 obtain rfl:=h1.ay
 obtain rfl:=h2.ay
 exact⟨T,by rw[hh,show cs= #[.int .i64 x,.int .i64 y]from Array.toList_inj.1 e]⟩
theorem aby(hI:Inv Tryz.prog M w0 ((t,bb,.cells [iv x,iv y])::σ) w)(p c:Int)(o:Obj):Inv Tryz.prog M w0 ((t,bb,.cells [iv p,iv c])::σ) (((w.alloc o).setCell ⟨bb,0,none⟩ (.int .i64 p)).setCell ⟨bb,1,none⟩ (.int .i64 c)):=by
 have aP:=hI.alloc o
 obtain⟨T,hh⟩:=GU aP
 have hM:=(aP.st _ ZJ).2.1
 have:=aP.CJ (tg:=t) (b:=bb) (x:= .cells [iv x,iv y]) (y:= .cells [iv p,iv c]) (w':=(((w.alloc o).setCell ⟨bb,0,none⟩ (.int .i64 p)).setCell ⟨bb,1,none⟩ (.int .i64 c))) (by simp[aR]) (fun k hk=>by simp only[World.setCell,Yk];rw[Z9 (fun e=>hk e.symm),Z9 (fun e=>hk e.symm)]) rfl rfl rfl (by simp[World.setCell]) hM
  ⟨hM,#[.int .i64 p,.int .i64 c],T,by simp only[World.setCell,Yk,Y4,hh];rfl,RL.cons (.v _) (RL.cons (.v _) RL.nil)⟩
 simpa[cM]using this
theorem Lz(hI:Inv Tryz.prog M w0 ((t,bb,.cells [iv x,iv y])::σ) w){tmps:Array Value}(ht:tmps.getD 4 undef= .pointer (some ⟨bb,0,none⟩)):(results Tryz.f18 tmps).run Tryz.prog w= .ok (.agg #[.int .i64 x,.int .i64 y]) w:=by
 obtain⟨T,hh⟩:=GU hI
 have h0:w.cell? ⟨bb,0,none⟩=some (.int .i64 x):=by simp[World.cell?,hh]
 have h1:w.cell? ⟨bb,1,none⟩=some (.int .i64 y):=by simp[World.cell?,hh]
 simp only[Z2]at ht
 simp[results,Tryz.results18,go_sem,ht,h0,h1]
def uT(f bb:Nat):Deferred:={target:= .fn (.func f) #[.pointer (some ⟨bb,0,none⟩)],args:= #[]}
theorem ax3(hI:Inv Tryz.prog M w0 ((t,bb,.cells [iv x,iv y])::σ) w){tmps:Array Value}(ht:tmps.getD 4 undef= .pointer (some ⟨bb,0,none⟩))(p c:Int){R:Ending→World→Prop}
  (h:∀ w',Inv Tryz.prog M w0 ((t,bb,.cells [iv p,iv c])::σ) w'→R (.returned (.agg #[.int .i64 p,.int .i64 c])) w'):
  Leaves Tryz.prog Tryz.f18 tmps R [uT 43 bb] (.panicking [entry p c false]) w:=by
 obtain⟨T,hh⟩:=GU hI
 refine leaves_cons (f:=43) (args:= #[.pointer (some ⟨bb,0,none⟩)]) (by simp) (by simp[go_sem]) ?_
 refine(abH bb x y p c w (by simp[World.cell?,hh]) (by simp[World.cell?,hh]) (by simp[World.frozen?,hh]) (by simp[World.frozen?,hh])).mono ?_
 rintro e u' FV ⟨rfl,rfl,rfl⟩
 have cr:=aby hI p c (.cells #[.int .i64 p,.int .i64 c] 92)
 simp only[entry,settle,Leaves,List.dropWhile_nil]
 exact⟨_,Lz cr ht,h _ cr⟩
theorem ax1(hI:Inv Tryz.prog M w0 ((t,bb,.cells [iv x,iv y])::σ) w){tmps:Array Value}(ht:tmps.getD 4 undef= .pointer (some ⟨bb,0,none⟩)){R:Ending→World→Prop}
  (h:∀ w',Inv Tryz.prog M w0 ((t,bb,.cells [iv x,iv y])::σ) w'→R (.returned (.agg #[.int .i64 x,.int .i64 y])) w'):
  Leaves Tryz.prog Tryz.f18 tmps R [uT 43 bb] .returning w:=by
 refine leaves_cons (f:=43) (args:= #[.pointer (some ⟨bb,0,none⟩)]) (by simp) (by simp[go_sem]) ?_
 refine(abG bb w).mono ?_
 rintro e u' FV ⟨rfl,rfl,rfl⟩
 have cr:=hI.alloc (.cells #[.int .i64 0,.int .i64 0] 92)
 simp only[settle,Leaves]
 exact⟨_,Lz cr ht,h _ cr⟩
end
end Go.Proofs.YtcccbdelfhgmlaaGreatDoor
