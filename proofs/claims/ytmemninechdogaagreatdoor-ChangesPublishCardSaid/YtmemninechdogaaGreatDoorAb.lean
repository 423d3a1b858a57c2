import Derived.Test.YtmemninechdogaaGreatDoorSxZ
set_option linter.all false
namespace Go.Sx
open Go.RowKit
theorem Tk{b:Nat}{t:TypeId}:∀(vs:List Value) (o:Nat) (w:World) (cs:Array Value),w.heap[b]? =some (.cells cs t (0,0))->o+vs.length<=cs.size->
  (∃cs',(w.setCells b o vs).heap[b]? =some (.cells cs' t (0,0))/\cs'.toList=over cs.toList o vs)/\(∀k,k≠b->(w.setCells b o vs).heap[k]? =w.heap[k]?)/\(w.setCells b o vs).os=w.os/\(w.setCells b o vs).tape=w.tape/\(w.setCells b o vs).output=w.output/\(w.setCells b o vs).heap.size=w.heap.size
 |[],o,w,cs,h,_=>⟨⟨cs,h,by simp[over]⟩,fun _ _=>rfl,rfl,rfl,rfl,rfl⟩
 |v::r,o,w,cs,h,hl=>by
  simp only[ZY]at hl;have hb:(w.setCell ⟨b,o,none⟩ v).heap[b]? =some (.cells (cs.setIfInBounds o v) t (0,0)):=by simp only[World.setCell,XW,YK,h];rfl
  obtain⟨⟨cs',h1,h2⟩,h3,h4,h5,h6,h7⟩:=Tk r (o+1) (w.setCell ⟨b,o,none⟩ v) _ hb (by simp;omega);simp only[World.setCells];refine⟨⟨cs',h1,?_⟩,fun k hk=>?_,h4,h5,h6,by rw[h7];simp[World.setCell]⟩
  .rw[h2];have ho:o<cs.toList.length:=by simp;omega
   refine List.ext_getElem? fun i=>?_;simp only[over,Array.toList_setIfInBounds,ZY,List.getElem?_append,Z7,ZL,XB,YV,List.getElem?_set,YE,List.getElem?_cons];simp only[Zu]at ho|-;grind
  .rw[h3 k hk];simp only[World.setCell,XW];rw[Z9 (fun e=>hk e.symm)]
section
variable {P:Program}[Glob P]{M:Mem}{w0:Base}{w:World}{q:Store}
theorem Inv.setCells{t b o:Nat}{l l':List AV}{vs:List Value}(hI:Inv P M w0 ((t,b,.cells l)::q) w)(hl:RL M l' vs)(ho:o+vs.length<=l.length):Inv P M w0 ((t,b,.cells (over l o l'))::q) (w.setCells b o vs):=by
 obtain⟨hM,cs,ty,hh,hR⟩:=(hI.st _ ZK).2;have hlen:l.length=cs.size:=by simpa using hR.1
 obtain⟨⟨cs',h1,h2⟩,h3,h4,h5,h6,h7⟩:=Tk vs o w cs hh (by omega);have:=hI.yV (tg:=t) (b:=b) (x:=.cells l) (y:=.cells (over l o l')) (w':=w.setCells b o vs) (by simp[aV]) h3 h4 h5 h6 h7 hM ⟨hM,cs',ty,h1,by rw[h2];exact RL.over hR hl o⟩;simpa[du]using this
end
end Go.Sx
namespace Go
variable {P:Program}
theorem uw(w:World)(dT sT ty elem:TypeId)(b o G5 abu:Nat)(a:Addr)(KQ akq k:Nat)(cs:List Value)
  (hu:P.underlying dT=some (.slice elem)) (hs:(P.info? elem).map (·.size)=some k) (hn:cs.length=Nat.min KQ G5*k)
  (rC:∀j v,cs[j]? =some v->w.cell? (a.add j)=some v) (hc:∀j,j<cs.length->(w.cell? ⟨b,o+j,none⟩).isSome=true) (hf:∀j,j<cs.length->w.frozen? ⟨b,o+j,none⟩=false) (h1:∀v∈cs,v.oneCell'=true):
  (Builtin.copy_ #[dT,sT] ty #[.slice (some ⟨b,o,none⟩) G5 abu,.slice (some a) KQ akq]).run P w= .ok (goInt (Nat.min KQ G5)) (w.setCells b o cs):=by
 have hl:=run_loadCells_list (P:=P) w a cs rC;have fD:=run_storeCells_cells (P:=P) b o cs 0 w (by simpa using hc) (by simpa using hf) h1;cases hq:P.info? elem with
 |none=>simp[hq]at hs|some i=>
  have hi:i.size=k:=by simpa[hq]using hs
  simp[Builtin.copy_,run_underlying hu,Builtin.lenOf,Builtin.firstCells,sizeOf,typeInfo,hq,hi,<-hn,hl,fD]
