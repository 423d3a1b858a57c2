/- Changes: cells of a block set one by one, copied, in the layer's words. -/
import Derived.Test.YthdeaajdmdmfnaaGreatDoorSxZ
import Derived.Laws.IdiomCopy
set_option linter.unusedSimpArgs false
set_option linter.unusedVariables false
namespace Go.Sx
open Go.RowKit
theorem Sb{b:Nat}{t:TypeId}:∀ (vs:List Value) (o:Nat) (w:World) (cs:Array Value),w.heap[b]? =some (.cells cs t (0,0))→o+vs.length≤cs.size→
  (∃ bO,(w.setCells b o vs).heap[b]? =some (.cells bO t (0,0))∧bO.toList=over cs.toList o vs)∧(∀ k,k≠b→(w.setCells b o vs).heap[k]? =w.heap[k]?)∧(w.setCells b o vs).os=w.os∧(w.setCells b o vs).tape=w.tape∧(w.setCells b o vs).output=w.output∧(w.setCells b o vs).heap.size=w.heap.size
 |[],o,w,cs,h,_=>⟨⟨cs,h,by simp[over]⟩,fun _ _=>rfl,rfl,rfl,rfl,rfl⟩
 |v::r,o,w,cs,h,hl=>by
  simp only[ZS]at hl
  have hb:(w.setCell ⟨b,o,none⟩ v).heap[b]? =some (.cells (cs.setIfInBounds o v) t (0,0)):=by
   simp only[World.setCell,X6,YX,h];rfl
  obtain⟨⟨bO,h1,h2⟩,h3,h4,h5,h6,h7⟩:=Sb r (o+1) (w.setCell ⟨b,o,none⟩ v) _ hb (by simp;omega)
  simp only[World.setCells]
  refine⟨⟨bO,h1,?_⟩,fun k hk=> ?_,h4,h5,h6,by rw[h7];simp[World.setCell]⟩
  ·rw[h2]
   have ho:o<cs.toList.length:=by simp;omega
   refine List.ext_getElem? fun i=> ?_
   simp only[over,Array.toList_setIfInBounds,ZS,List.getElem?_append,Z4,Zx,Xv,Y4,List.getElem?_set,Yz,List.getElem?_cons]
   simp only[ZQ]at ho ⊢
   grind
  ·rw[h3 k hk]
   simp only[World.setCell,X6]
   rw[Z7 (fun e=>hk e.symm)]
section
variable {P:Program}[Glob P]{M:Mem}{w0:Base}{w:World}{σ:Store}
theorem Inv.setCells{t b o:Nat}{l l':List AV}{vs:List Value}(hI:Inv P M w0 ((t,b,.cells l)::σ) w)(hl:RL M l' vs)(ho:o+vs.length≤l.length):Inv P M w0 ((t,b,.cells (over l o l'))::σ) (w.setCells b o vs):=by
 obtain⟨hM,cs,ty,hh,hR⟩:=(hI.st _ ZD).2
 have hlen:l.length=cs.size:=by simpa using hR.1
 obtain⟨⟨bO,h1,h2⟩,h3,h4,h5,h6,h7⟩:=Sb vs o w cs hh (by omega)
 have:=hI.yA (tg:=t) (b:=b) (x:= .cells l) (y:= .cells (over l o l')) (w':=w.setCells b o vs) (by simp[aV]) h3 h4 h5 h6 h7 hM ⟨hM,bO,ty,h1,by rw[h2];exact RL.over hR hl o⟩
 simpa[du]using this
end
end Go.Sx
namespace Go
variable {P:Program}
theorem tC(w:World)(dT sT ty elem:TypeId)(b o Ga aai:Nat)(a:Addr)(Kf ahM k:Nat)(cs:List Value)
  (hu:P.underlying dT=some (.slice elem)) (hs:(P.info? elem).map (·.size)=some k) (hn:cs.length=Nat.min Kf Ga * k)
  (qF:∀ j v,cs[j]? =some v→w.cell? (a.add j)=some v) (hc:∀ j,j<cs.length→(w.cell? ⟨b,o+j,none⟩).isSome=true) (hf:∀ j,j<cs.length→w.frozen? ⟨b,o+j,none⟩=false) (h1:∀ v∈cs,v.oneCell'=true):
  (Builtin.copy_ #[dT,sT] ty #[.slice (some ⟨b,o,none⟩) Ga aai,.slice (some a) Kf ahM]).run P w= .ok (goInt (Nat.min Kf Ga)) (w.setCells b o cs):=by
 have hl:=run_loadCells_list (P:=P) w a cs qF
 have fb:=run_storeCells_cells (P:=P) b o cs 0 w (by simpa using hc) (by simpa using hf) h1
 cases hq:P.info? elem with
 |none=>simp[hq]at hs
 |some i=>
  have hi:i.size=k:=by simpa[hq]using hs
  simp[Builtin.copy_,run_underlying hu,Builtin.lenOf,Builtin.firstCells,sizeOf,typeInfo,hq,hi,← hn,hl,fb]
end Go
