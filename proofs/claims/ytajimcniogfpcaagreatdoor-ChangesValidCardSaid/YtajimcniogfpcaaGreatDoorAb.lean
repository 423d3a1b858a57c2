/- Changes: cells of a block set one by one, copied, in the layer's words. -/
import Derived.Test.YtajimcniogfpcaaGreatDoorSxZ
import Derived.Laws.IdiomCopy
set_option linter.unusedSimpArgs false
set_option linter.unusedVariables false
namespace Go.Sx
open Go.RowKit
theorem UP{b:Nat}{t:TypeId}:∀ (vs:List Value) (o:Nat) (w:World) (cs:Array Value),w.heap[b]? =some (.cells cs t (0,0))→o+vs.length≤cs.size→
  (∃ bP,(w.setCells b o vs).heap[b]? =some (.cells bP t (0,0))∧bP.toList=over cs.toList o vs)∧(∀ k,k≠b→(w.setCells b o vs).heap[k]? =w.heap[k]?)∧(w.setCells b o vs).os=w.os∧(w.setCells b o vs).tape=w.tape∧(w.setCells b o vs).output=w.output∧(w.setCells b o vs).heap.size=w.heap.size
 |[],o,w,cs,h,_=>⟨⟨cs,h,by simp[over]⟩,fun _ _=>rfl,rfl,rfl,rfl,rfl⟩
 |v::r,o,w,cs,h,hl=>by
  simp only[Z8]at hl
  have hb:(w.setCell ⟨b,o,none⟩ v).heap[b]? =some (.cells (cs.setIfInBounds o v) t (0,0)):=by
   simp only[World.setCell,XL,Y2,h];rfl
  obtain⟨⟨bP,h1,h2⟩,h3,h4,h5,h6,h7⟩:=UP r (o+1) (w.setCell ⟨b,o,none⟩ v) _ hb (by simp;omega)
  simp only[World.setCells]
  refine⟨⟨bP,h1,?_⟩,fun k hk=> ?_,h4,h5,h6,by rw[h7];simp[World.setCell]⟩
  ·rw[h2]
   have ho:o<cs.toList.length:=by simp;omega
   refine List.ext_getElem? fun i=> ?_
   simp only[over,Array.toList_setIfInBounds,Z8,List.getElem?_append,Z9,ZQ,Xe,YU,List.getElem?_set,YF,List.getElem?_cons]
   simp only[Zv]at ho ⊢
   grind
  ·rw[h3 k hk]
   simp only[World.setCell,XL]
   rw[Z5 (fun e=>hk e.symm)]
section
variable {P:Program}[Glob P]{M:Mem}{w0:Base}{w:World}{σ:Store}
theorem Inv.setCells{t b o:Nat}{l l':List AV}{vs:List Value}(hI:Inv P M w0 ((t,b,.cells l)::σ) w)(hl:RL M l' vs)(ho:o+vs.length≤l.length):Inv P M w0 ((t,b,.cells (over l o l'))::σ) (w.setCells b o vs):=by
 obtain⟨hM,cs,ty,hh,hR⟩:=(hI.st _ ZC).2
 have hlen:l.length=cs.size:=by simpa using hR.1
 obtain⟨⟨bP,h1,h2⟩,h3,h4,h5,h6,h7⟩:=UP vs o w cs hh (by omega)
 have:=hI.AH (tg:=t) (b:=b) (x:= .cells l) (y:= .cells (over l o l')) (w':=w.setCells b o vs) (by simp[aM]) h3 h4 h5 h6 h7 hM ⟨hM,bP,ty,h1,by rw[h2];exact RL.over hR hl o⟩
 simpa[dx]using this
end
end Go.Sx
namespace Go
variable {P:Program}
theorem vD(w:World)(dT sT ty elem:TypeId)(b o IP acQ:Nat)(a:Addr)(pI C6 k:Nat)(cs:List Value)
  (hu:P.underlying dT=some (.slice elem)) (hs:(P.info? elem).map (·.size)=some k) (hn:cs.length=Nat.min pI IP * k)
  (rX:∀ j v,cs[j]? =some v→w.cell? (a.add j)=some v) (hc:∀ j,j<cs.length→(w.cell? ⟨b,o+j,none⟩).isSome=true) (hf:∀ j,j<cs.length→w.frozen? ⟨b,o+j,none⟩=false) (h1:∀ v∈cs,v.oneCell'=true):
  (Builtin.copy_ #[dT,sT] ty #[.slice (some ⟨b,o,none⟩) IP acQ,.slice (some a) pI C6]).run P w= .ok (goInt (Nat.min pI IP)) (w.setCells b o cs):=by
 have hl:=run_loadCells_list (P:=P) w a cs rX
 have eU:=run_storeCells_cells (P:=P) b o cs 0 w (by simpa using hc) (by simpa using hf) h1
 cases hq:P.info? elem with
 |none=>simp[hq]at hs
 |some i=>
  have hi:i.size=k:=by simpa[hq]using hs
  simp[Builtin.copy_,run_underlying hu,Builtin.lenOf,Builtin.firstCells,sizeOf,typeInfo,hq,hi,← hn,hl,eU]
end Go
