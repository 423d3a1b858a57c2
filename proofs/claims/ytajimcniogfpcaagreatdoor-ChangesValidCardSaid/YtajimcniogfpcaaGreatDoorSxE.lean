/-
  The layer Sx: strings, conversions, maps, functions with what they hold: the rules.
-/
import Derived.Test.YtajimcniogfpcaaGreatDoorSxSt
import Derived.Laws.BytesString
set_option linter.unusedVariables false
set_option linter.unusedSimpArgs false
set_option linter.unusedSectionVars false
namespace Go.Sx
open Go.RowKit
theorem RL.cT{M:Mem}{x:AV}{vs:List Value}(h:RL M [x] vs):∃ v,vs=[v]∧R M x v:=by
 obtain⟨v,vs',rfl,h1,h2⟩:=h.bg
 exact⟨v,by rw[h2.qU],h1⟩
def yh(lo hi:Option Operand)(as:List AV):Option (ByteArray×Int×Int):=
 match lo,hi,as with
 |none,none,[.v (.string s)]=>some (s,0,s.size)
 |some _,none,[.v (.string s),.v (.int _ a)]=>some (s,a,s.size)
 |none,some _,[.v (.string s),.v (.int _ b)]=>some (s,0,b)
 |some _,some _,[.v (.string s),.v (.int _ a),.v (.int _ b)]=>some (s,a,b)
 |_,_,_=>none
def lB:List (List AV)→Option (List Int)
 |[]=>some []
 |[.v (.int .u8 n)]::l=>(lB l).map (n::·)
 |_=>none
def kX(ns:List Int):ByteArray:=⟨(ns.map fun n=>UInt8.ofNat n.toNat).toArray⟩
section
variable {P:Program}[Glob P]{M:Mem}{w0:Base}{w:World}{σ:Store}
theorem Hw{t ty:TypeId}{x:Operand}{lo hi:Option Operand}{as:List AV}{s:ByteArray}{a b:Int}(h:yh lo hi as=some (s,a,b))(hb:0≤a∧a≤b∧b≤s.size):
  ko P (.slice t x lo hi none) ty [.str] (x::(lo.toList++hi.toList)) as (.v (.string (s.extract a.toNat b.toNat))):=⟨fun σ bx M w0 w ρ hI hR=>by
 have ht:P.underlying t=some .string:=by
  simp only[eK,Z3,Zn]at bx;exact Gx bx
 refine⟨.value (.string (s.extract a.toNat b.toNat)),w,M,.v (.string (s.extract a.toNat b.toNat)),.string (s.extract a.toNat b.toNat),σ,?_,rfl,Mem.le.refl _,hI,.v _,rfl,rfl⟩
 unfold yh at h
 split at h<;>cases h
 ·obtain⟨v,hv,hx⟩:=hR.cT
  simp at hv
  simp[execOp,Instr.sliceAt,aZ ht,Instr.slice,Instr.sliceBounds,hv,hx.ay]
 ·obtain⟨v,vs,hv,hx,eA⟩:=hR.bg
  obtain⟨v2,iW,eV⟩:=eA.cT
  subst iW
  simp only[Option.toList_none,Option.toList_some,YX,ZE,Y4,Z3,Zn]at hv
  have e1:=hx.ay
  have e2:=eV.ay
  have h1:(0:Int)≤a∧a≤(s.size:Int):=⟨hb.1,hb.2.1⟩
  simp[execOp,Instr.sliceAt,aZ ht,Instr.slice,Instr.sliceBounds,Instr.sliceBound,asIntOf,hv.1,hv.2,e1,e2,h1]
 ·obtain⟨v,vs,hv,hx,eA⟩:=hR.bg
  obtain⟨v2,iW,eV⟩:=eA.cT
  subst iW
  simp only[Option.toList_none,Option.toList_some,Zl,ZE,Y4,Z3,Zn]at hv
  have e1:=hx.ay
  have e2:=eV.ay
  have h1:(0:Int)≤b∧b≤(s.size:Int):=⟨hb.2.1,hb.2.2⟩
  simp[execOp,Instr.sliceAt,aZ ht,Instr.slice,Instr.sliceBounds,Instr.sliceBound,asIntOf,hv.1,hv.2,e1,e2,h1]
 ·obtain⟨v,vs,hv,hx,eA⟩:=hR.bg
  obtain⟨v2,qX,iW,eV,hR3⟩:=eA.bg
  obtain⟨v3,lZ,gG⟩:=hR3.cT
  subst lZ
  subst iW
  simp only[Option.toList_some,ZH,Zl,ZE,Y4,Z3,Zn]at hv
  have e1:=hx.ay
  have e2:=eV.ay
  have e3:=gG.ay
  have h1:(0:Int)≤b∧b≤(s.size:Int):=⟨by omega,hb.2.2⟩
  have h2:(0:Int)≤a∧a≤(b.toNat:Int):=⟨hb.1,by omega⟩
  simp[execOp,Instr.sliceAt,aZ ht,Instr.slice,Instr.sliceBounds,Instr.sliceBound,asIntOf,hv.1,hv.2.1,hv.2.2,e1,e2,e3,h1,h2]
  grind⟩
theorem Vt{M:Mem}:∀ {rows:List (List AV)} {ns:List Int} {L:List Value},lB rows=some ns→RL M rows.flatten L→L=ns.map (.int .u8)
 |[],ns,L,h,hR=>by cases h;exact hR.qU
 |r::rows,ns,L,h,hR=>by
  unfold lB at h
  split at h
  ·grind
  ·rename_i n l he
   cases he
   obtain⟨ns',h1,rfl⟩:=Z7.1 h
   obtain⟨v,vs,rfl,hx,eA⟩:=RL.bg (x:= .v (.int .u8 n)) (xs:=rows.flatten) hR
   rw[hx.ay,Vt h1 eA];rfl
  grind
theorem ab9(ns:List Int):ns.foldl (fun r n=>r.push (UInt8.ofNat n.toNat)) ByteArray.empty=kX ns:=by
 have:∀ (ns:List Int) (s:ByteArray),ns.foldl (fun r n=>r.push (UInt8.ofNat n.toNat)) s=⟨s.data++(ns.map fun n=>UInt8.ofNat n.toNat).toArray⟩:=by
  intro ns
  induction ns with
  |nil=>simp_all
  |cons n ns ih=>
   simp_all
 simp only[kX]
 simp_all
theorem A2{src dst e ty:TypeId}{x:Operand}{v:AV}{rows:List (List AV)}{ns:List Int}{q:TI}(hv:dR 1 v=some rows)(qq:¬∃ s,v= .v (.string s))(hn:lB rows=some ns):
  ko P (.convert src dst x) ty [.sl e,.int .u8,.str,q] [x] [v] (.v (.string (kX ns))):=⟨fun σ bx M w0 w ρ hI hR=>by
 simp only[eK,Z3,Zn]at bx
 have hs:=yn bx.1
 have he:P.underlying e=some (.int .u8):=by
  have:=bx.2.1
  unfold BA at this
  rw[hs]at this
  exact ML this
 have hd:=Gx bx.2.2.1
 obtain⟨u,hu,hx⟩:=hR.cT
 simp at hu
 obtain⟨base,cap,L,rfl,hL,_,cY⟩:=F9 (P:=P) hI hx hv qq
 have gR:=Vt hn hL
 subst gR
 refine⟨.value (.string (kX ns)),w,M,.v (.string (kX ns)),.string (kX ns),σ,?_,rfl,Mem.le.refl _,hI,.v _,rfl,rfl⟩
 have hc:=run_convert_bytes_string (P:=P) w src dst e base rows.length cap hs he hd
 simp only[execOp,hu,Sem.run_bind,hc]
 cases base with
 |none=>
  simp only[Builtin.firstCells,Sem.run_pure,Result.ok.injEq,Zn]at cY
  have:ns=[]:=by
   simp_all
  subst this
  rfl
 |some a=>
  simp only[Builtin.firstCells,XY]at cY
  rw[run_bytesToString w a rows.length cap ns cY,ab9]
  simp_all⟩
theorem MS:∀ (ls:List UInt8),lB (ls.map du)=some (ls.map fun b=>(b.toNat:Int))
 |[]=>rfl
 |b::ls=>by
  show(lB (ls.map du)).map ((b.toNat:Int)::·)=_
  rw[MS ls];rfl
theorem Od(ls:List UInt8):kX (ls.map fun b=>(b.toNat:Int))=⟨ls.toArray⟩:=by
 simp only[kX,Yi]
 congr 2
 conv=>rhs;rw[← List.map_id ls]
 apply List.map_congr_left
 simp_all
theorem Inv.ahW(hI:Inv P M w0 σ w){w':World}(e1:w'.os=w.os)(e2:w'.tape=w.tape)(e3:w'.output=w.output)(hs:w.heap.size≤w'.heap.size)(hold:∀ k,k<w.heap.size→w'.heap[k]? =w.heap[k]?)(cs:List Value)
  (hc:∀ o v,cs[o]? =some v→w'.cell? ⟨w.heap.size,o,none⟩=some v):Inv P (M.add w.heap.size cs.length cs) w0 σ w':=by
 have hle:=hI.nZ cs.length cs
 refine⟨e1.trans hI.os,e2.trans hI.tape,e3.trans hI.output,ZG hI.size hs,fun k hk=>(hold k (Yu hk hI.size)).trans (hI.old k hk),fun b o v hv=> ?_,fun e he=>⟨(hI.st e he).1,?_⟩,hI.nd,fun g l e=>(hI.gl g l e).mono hle,hI.gw,fun b o v hv ar=>hI.bm b o v (by simp only[Mem.add]at hv;rwa [Z5 (by have:=hI.size;omega)]at hv) ar⟩
 ·simp only[Mem.add]at hv
  split at hv
  ·grind
  ·have h1:=hI.cH b o v hv
   have hb:b<w.heap.size:=by simpa using World.block_lt_of_cell? _ _ h1
   rw[← h1]
   simp only[World.cell?,hold b hb]
 ·obtain⟨tg,b,x⟩:=e
  have hk:=(hI.st _ he).2
  have ar:b<w.heap.size:=hI.sq he
  have aH:b≠w.heap.size:=by omega
  have fW:=hk.heap (hold b ar)
  cases x with
  |cells l=>obtain⟨h1,bP,t',h2,h3⟩:=fW;exact⟨fun o=>by simp[Mem.add,aH,h1 o],bP,t',h2,h3.mono hle⟩
  |tail u' c=>obtain⟨h1,bP,t',h2,h3⟩:=fW;exact⟨fun o ho=>by simp[Mem.add,aH,h1 o ho],bP,t',h2,h3⟩
  |map es k=>obtain⟨h1,l,h2,h3,h4⟩:=fW;exact⟨fun o=>by simp[Mem.add,aH,h1 o],l,h2,h3,h4.mono hle⟩
theorem WE{t e ty:TypeId}{x h0 m0:Operand}{nn:Bool}{ag:Nat}{rows:List (List AV)}{h:Nat}{k k':IntKind}(h1:0<h)(h2:h≤rows.length):
  ko P (.slice t x none (some h0) (some m0)) ty [.sl e,.sz ag] [x,h0,m0] [.sl nn ag rows,.v (.int k (h:Int)),.v (.int k' (h:Int))] (.fl ag (rows.take h)):=⟨fun σ bx M w0 w ρ hI hR=>by
 simp only[eK,Z3,Zn]at bx
 have ht:=yn bx.1
 have hz:∀ w,(sizeOf e).run P w= .ok ag w:=fun w=>by
  have:=bx.2
  unfold Di at this
  rw[ht]at this
  simp only at this
  split at this
  ·rename_i i hi;cases this;simp[sizeOf,typeInfo,hi]
  ·cases this
 obtain⟨v1,cP,e1,me,cJ⟩:=hR.bg
 obtain⟨v2,qX,e2,eV,eA⟩:=cJ.bg
 obtain⟨v3,e3,gG⟩:=eA.cT
 subst e3 e2
 simp only[ZE,Y4,Z3,Zn]at e1
 have g2:=eV.ay
 have g3:=gG.ay
 subst g2 g3
 generalize hX:AV.sl nn ag rows=X at me
 cases me<;>(try cases hX)
 ·simp at h2;omega
 ·rename_i b off cap cs hc hm aY hM EF
  refine⟨.value (.slice (some ⟨b,off,none⟩) h h),w,M,.fl ag (rows.take h),.slice (some ⟨b,off,none⟩) h h,σ,?_,rfl,Mem.le.refl _,hI,?_,rfl,rfl⟩
  ·have c1:h≤cap:=by omega
   have c2:¬h=0:=by omega
   simp[execOp,Instr.sliceAt,aZ ht,Instr.slice,Instr.sliceBounds,Instr.sliceBound,asIntOf,e1,hz,c1,c2,Addr.add]
  ·have hl:(rows.take h).length=h:=by rw[ZQ];omega
   have:=R.fl (M:=M) ag (rows.take h) b off cs (fun i hi=>by rw[Yk];exact aY i (by omega)) (fun k hk=>hM k (by rw[hl]at hk;exact Yu hk (Y0 _ h2))) (fun i hi j hj=>by
    have cK:i<rows.length:=by omega
    have:=EF i cK j (by simpa[Yk]using hj)
    simpa[Yk]using this) (by omega)
   rw[hl]at this
   exact this⟩
theorem WI{t e ty:TypeId}{x h0 m0:Operand}{ag:Nat}{k k':IntKind}:
  ko P (.slice t x none (some h0) (some m0)) ty [.sl e,.sz ag] [x,h0,m0] [.v (.slice none 0 0),.v (.int k 0),.v (.int k' 0)] (.v (.slice none 0 0)):=⟨fun σ bx M w0 w ρ hI hR=>by
 simp only[eK,Z3,Zn]at bx
 have ht:=yn bx.1
 have hz:∀ w,(sizeOf e).run P w= .ok ag w:=fun w=>by
  have:=bx.2
  unfold Di at this
  rw[ht]at this
  simp only at this
  split at this
  ·rename_i i hi;cases this;simp[sizeOf,typeInfo,hi]
  ·cases this
 obtain⟨v1,cP,e1,me,cJ⟩:=hR.bg
 obtain⟨v2,qX,e2,eV,eA⟩:=cJ.bg
 obtain⟨v3,e3,gG⟩:=eA.cT
 subst e3 e2
 simp only[ZE,Y4,Z3,Zn]at e1
 have g1:=me.ay
 have g2:=eV.ay
 have g3:=gG.ay
 subst g1 g2 g3
 refine⟨.value (.slice none 0 0),w,M,.v (.slice none 0 0),.slice none 0 0,σ,?_,rfl,Mem.le.refl _,hI,.v _,rfl,rfl⟩
 simp[execOp,Instr.sliceAt,aZ ht,Instr.slice,Instr.sliceBounds,Instr.sliceBound,asIntOf,e1,hz]⟩
theorem WH{t e ty:TypeId}{x l0 h0 m0:Operand}{nn:Bool}{ag:Nat}{rows:List (List AV)}{l h:Nat}{k k' Fh:IntKind}(h1:l<h)(h2:h≤rows.length):
  ko P (.slice t x (some l0) (some h0) (some m0)) ty [.sl e,.sz ag] [x,l0,h0,m0] [.sl nn ag rows,.v (.int Fh (l:Int)),.v (.int k (h:Int)),.v (.int k' (h:Int))] (.sl true ag ((rows.take h).drop l)):=⟨fun σ bx M w0 w ρ hI hR=>by
 simp only[eK,Z3,Zn]at bx
 have ht:=yn bx.1
 have hz:∀ w,(sizeOf e).run P w= .ok ag w:=fun w=>by
  have:=bx.2
  unfold Di at this
  rw[ht]at this
  simp only at this
  split at this
  ·rename_i i hi;cases this;simp[sizeOf,typeInfo,hi]
  ·cases this
 obtain⟨v1,cP,e1,me,cJ⟩:=hR.bg
 obtain⟨v0,V1,e0,sd,nL⟩:=cJ.bg
 obtain⟨v2,qX,e2,eV,eA⟩:=nL.bg
 obtain⟨v3,e3,gG⟩:=eA.cT
 subst e3 e2 e0
 simp only[ZE,Y4,Z3,Zn]at e1
 have g0:=sd.ay
 have g2:=eV.ay
 have g3:=gG.ay
 subst g0 g2 g3
 generalize hX:AV.sl nn ag rows=X at me
 cases me<;>(try cases hX)
 ·simp at h2;omega
 ·rename_i b off cap cs hc hm aY hM EF
  refine⟨.value (.slice (some ⟨b,off+l * ag,none⟩) (h-l) (h-l)),w,M,.sl true ag ((rows.take h).drop l),.slice (some ⟨b,off+l * ag,none⟩) (h-l) (h-l),σ,?_,rfl,Mem.le.refl _,hI,?_,rfl,rfl⟩
  ·have c1:h≤cap:=by omega
   have c2:¬h=l:=by omega
   have c3:l≤h:=by omega
   simp[execOp,Instr.sliceAt,aZ ht,Instr.slice,Instr.sliceBounds,Instr.sliceBound,asIntOf,e1,hz,c1,c2,c3,Addr.add]
  ·have hl:((rows.take h).drop l).length=h-l:=by rw[YN,ZQ];omega
   have hg:∀ i (hi:i<((rows.take h).drop l).length),((rows.take h).drop l)[i]=rows[l+i]'(by omega):=fun i hi=>by rw[X2,Yk]
   have:=R.sl (M:=M) true ag ((rows.take h).drop l) b (off+l * ag) (h-l) (fun k=>cs (l * ag+k)) (fun i hi=>by rw[hg i hi];exact aY _ _) (fun k hk=>by
     rw[XW]
     refine hM _ ?_
     rw[hl]at hk
     have:l * ag+(h-l) * ag≤rows.length * ag:=by rw[← YI];exact Y0 _ (by omega)
     omega) (fun i hi j hj=>by
    have dW:j<(rows[l+i]'(by omega)).length:=by rw[hg i hi]at hj;exact hj
    have:=EF (l+i) (by omega) j dW
    rw[YI,XW]at this
    simpa[hg i hi]using this) (by omega) (by omega)
   rw[hl]at this
   exact this⟩
theorem WG{t e ty:TypeId}{x l0 h0 m0:Operand}{nn:Bool}{ag:Nat}{rows:List (List AV)}{h:Nat}{k k' Fh:IntKind}(h1:0<rows.length)(h2:h≤rows.length):
  ko P (.slice t x (some l0) (some h0) (some m0)) ty [.sl e,.sz ag] [x,l0,h0,m0] [.sl nn ag rows,.v (.int Fh (h:Int)),.v (.int k (h:Int)),.v (.int k' (h:Int))] (.sl true ag []):=⟨fun σ bx M w0 w ρ hI hR=>by
 simp only[eK,Z3,Zn]at bx
 have ht:=yn bx.1
 have hz:∀ w,(sizeOf e).run P w= .ok ag w:=fun w=>by
  have:=bx.2
  unfold Di at this
  rw[ht]at this
  simp only at this
  split at this
  ·rename_i i hi;cases this;simp[sizeOf,typeInfo,hi]
  ·cases this
 obtain⟨v1,cP,e1,me,cJ⟩:=hR.bg
 obtain⟨v0,V1,e0,sd,nL⟩:=cJ.bg
 obtain⟨v2,qX,e2,eV,eA⟩:=nL.bg
 obtain⟨v3,e3,gG⟩:=eA.cT
 subst e3 e2 e0
 simp only[ZE,Y4,Z3,Zn]at e1
 have g0:=sd.ay
 have g2:=eV.ay
 have g3:=gG.ay
 subst g0 g2 g3
 generalize hX:AV.sl nn ag rows=X at me
 cases me<;>(try cases hX)
 ·simp at h1
 ·rename_i b off cap cs hc hm aY hM EF
  refine⟨.value (.slice (some ⟨b,off,none⟩) 0 0),w,M,.sl true ag [],.slice (some ⟨b,off,none⟩) 0 0,σ,?_,rfl,Mem.le.refl _,hI,.nil true ag _ (fun _=>rfl),rfl,rfl⟩
  have c1:h≤cap:=by omega
  simp[execOp,Instr.sliceAt,aZ ht,Instr.slice,Instr.sliceBounds,Instr.sliceBound,asIntOf,e1,hz,c1,Addr.add]⟩
theorem Hv{src dst e ty:TypeId}{x:Operand}{s:ByteArray}{q:TI}(qu:s.size≤9223372036854775806):ko P (.convert src dst x) ty [.str,q,.sl e,.int .u8] [x] [.v (.string s)] (.sl true 1 (s.data.toList.map du)):=⟨fun σ bx M w0 w ρ hI hR=>by
 simp only[eK,Z3,Zn]at bx
 have hs:=Gx bx.1
 have hd:=yn bx.2.2.1
 have he:P.underlying e=some (.int .u8):=by
  have:=bx.2.2.2
  unfold BA at this
  rw[hd]at this
  exact ML this
 obtain⟨u,hu,hx⟩:=hR.cT
 simp only[ZE,Y4,Z3,Zn]at hu
 have hxv:=hx.ay
 subst hxv
 let q0:=Question.appendCap s.size 0 e
 let cap:=q0.cut (w.tape w.drawn q0)
 have rL:cap=s.size+w.tape w.drawn q0 % (2 ^ 63-s.size):=rfl
 have aeV:w.tape w.drawn q0 % (2 ^ 63-s.size)<2 ^ 63-s.size:=Nat.mod_lt _ (by omega)
 let arr:Array Value:=s.data.map (fun b=>Value.int .u8 b.toNat)++Array.replicate (cap-s.size) (.int .u8 0)
 let w1:World:=w.drew.alloc (.cells arr e)
 let w2:World:=w1.freeze ⟨w.heap.size,arr.size,none⟩ 1
 let cs:List Value:=s.data.toList.map (fun b=>Value.int .u8 b.toNat)
 have hlen:cs.length=s.size:=by simp[cs]
 have hfz:∀ k,k≠w.heap.size→w2.heap[k]? =w1.heap[k]? :=fun k hk=>by
  have cj:¬w.heap.size=k:=fun e=>hk e.symm
  simp only[w2,World.freeze,Nat.one_ne_zero,Y8,XL,Z5 cj]
 have h1:w1.heap[w.heap.size]? =some (.cells arr e):=heap_alloc_new w.drew _
 have h2:∃ f,w2.heap[w.heap.size]? =some (.cells arr e f):=by
  simp only[w2,World.freeze,Nat.one_ne_zero,Y8,XL,Y2,h1,ZD]
  grind
 have hold:∀ k,k<w.heap.size→w2.heap[k]? =w.heap[k]? :=fun k hk=>(hfz k (by omega)).trans (J7 w.drew _ k hk)
 have hcell:∀ o v,cs[o]? =some v→w2.cell? ⟨w.heap.size,o,none⟩=some v:=fun o v hv=>by
  obtain⟨f,h2⟩:=h2
  simp only[World.cell?,h2,Option.isSome_none,ZV,Y8,arr]
  grind
 have ji:Inv P (M.add w.heap.size cs.length cs) w0 σ w2:=Inv.ahW (w':=w2) hI rfl rfl rfl (by grind) hold cs hcell
 refine⟨.value (.slice (some ⟨w.heap.size,0,none⟩) s.size cap),w2,_,.sl true 1 (s.data.toList.map du),_,σ,?_,rfl,hI.nZ _ _,ji,?_,rfl,rfl⟩
 ·have hf:q0.forced=false:=rfl
  have uQ:w1.shape? w.heap.size=some (e,arr.size):=by simp only[World.shape?,h1]
  simp only[execOp,hu,convert,Sem.run_bind,aZ hs,aZ hd,aZ he,Result.andThen_ok,Conv.stringToBytes,newRow,markStringish]
  simp[choose,Sem.run,Sem.bind,Bind.bind,Pure.pure,Question.forced,newObj,shape,freeze]
  erw [uQ]
  rfl
 ·have hr:Rows (M.add w.heap.size cs.length cs) w.heap.size 0 1 (s.data.toList.map du) (fun k=>cs.getD k undef):=by
   refine Rows.of_flat (fun i hi=>by simp[du]) ?_ (fun k v hv=> ?_)
   ·have:∀ l:List UInt8,RL (M.add w.heap.size cs.length cs) (l.map du).flatten (l.map fun b=>Value.int .u8 b.toNat):=by
     intro l
     induction l with
     |nil=>exact RL.nil
     |cons b l ih=>exact RL.cons (.v _) ih
    grind
   ·have hk:k<cs.length:=(ZK.1 hv).1
    simp only[Mem.add,Y2,ZA]
    rw[ZW hk];exact hv
  have:=R.oc (cap:=cap) hr (by simp;omega) (by unfold maxLen;omega) true
  grind⟩
end
def mh:TI→Option TypeDesc
 | .int k=>some (.int k)
 | .str=>some .string
 |_=>none
theorem FU{q:TI}{kd:TypeDesc}{d:Option TypeDesc}(h:mh q=some kd)(ht:kj d=q):d=some kd:=by
 unfold mh at h
 split at h
 ·cases h;exact ML ht
 ·cases h;exact Gx ht
 grind
def fH(kd:TypeDesc)(k:Value):List (Value×Nat×AV)→Option (Option AV)
 |[]=>some none
 |e::es=>match Instr.sameNow kd k e.1 with
  |some true=>some (some e.2.2)
  |some false=>fH kd k es
  |none=>none
theorem Je{M:Mem}{kd:TypeDesc}{k:Value}:∀ {es:List (Value×Nat×AV)} {l:List MapEntry} (i:Nat),l.map (fun e=>(e.key,e.born))=es.map (fun e=>(e.1,e.2.1))→fH kd k es=some none→Instr.findNow kd k l i=some none
 |[],l,i,hk,_=>by
  have:l=[]:=by simp_all
  subst this;rfl
 |e::es,l,i,hk,h=>by
  cases l with
  |nil=>grind
  |cons m l=>
   simp at hk
   simp only[fH]at h
   simp only[Instr.findNow,hk.1.1]
   split at h
   ·cases h
   ·rename_i e1;rw[e1];exact Je (M:=M) (i+1) hk.2 h
   grind
theorem El{M:Mem}{kd:TypeDesc}{k:Value}{x:AV}:∀ {es:List (Value×Nat×AV)} {l:List MapEntry} (i:Nat),l.map (fun e=>(e.key,e.born))=es.map (fun e=>(e.1,e.2.1))→RL M (es.map (·.2.2)) (l.map (·.val))→fH kd k es=some (some x)→
  ∃ j v,Instr.findNow kd k l i=some (some (j,v))∧R M x v
 |[],l,i,_,_,h=>by cases h
 |e::es,l,i,hk,hR,h=>by
  cases l with
  |nil=>grind
  |cons m l=>
   simp at hk
   obtain⟨v,vs,hv,hx,eA⟩:=RL.bg (x:=e.2.2) (xs:=es.map (·.2.2)) hR
   obtain⟨j1,rfl⟩:=hv
   simp only[fH]at h
   simp only[Instr.findNow,hk.1.1]
   split at h
   ·rename_i e1
    rw[e1]
    grind
   ·rename_i e1;rw[e1];exact El (i+1) hk.2 eA h
   grind
section
variable {P:Program}[Glob P]{M:Mem}{w0:Base}{w:World}{σ:Store}
theorem run_checkKey{b:Bool}{n:Nat}{q:TI}{kd:TypeDesc}{kt:TypeId}{v:Value}(hp:mh q=some kd)(hk:P.underlying kt=some kd):(Instr.checkKey b (n+1) kt v).run P w= .ok () w:=by
 unfold mh at hp
 split at hp
 ·cases hp;cases v<;>simp[Instr.checkKey,aZ hk]
 ·cases hp;cases v<;>simp[Instr.checkKey,aZ hk]
 grind
theorem Inv.rH{tg b k:Nat}{es:List (Value×Nat×AV)}(hI:Inv P M w0 σ w)(hb:aM σ tg=some (b,.map es k)):
  (∀ o,M b o=none)∧∃ l:List MapEntry,w.heap[b]? =some (.map l.toArray k)∧l.map (fun e=>(e.key,e.born))=es.map (fun e=>(e.1,e.2.1))∧RL M (es.map (·.2.2)) (l.map (·.val)):=(hI.st _ (vd hb)).2
theorem NC(tag:Nat){t ty:TypeId}{ti:List TI}:gb P (.makeMap t none) ty ti [] [] σ fun x σ'=>∃ b,x= .bH tag b∧σ'=(tag,b,.map [] 0)::σ:=by
 intro _ M w0 w ρ hI _
 refine⟨.value (.map (some w.heap.size)),w.alloc (.map #[] 0),M,.bH tag w.heap.size,_,_,?_,rfl,Mem.le.refl _,?_,.bH _ _,_,rfl,rfl⟩
 ·rfl
 ·have h':=hI.alloc (.map #[] 0)
  refine⟨h'.os,h'.tape,h'.output,h'.size,h'.old,h'.cH,fun e he=> ?_,?_,h'.gl,h'.gw,h'.bm⟩
  ·rcases ZT.1 he with rfl|he
   ·exact⟨hI.size,hI.Et,[],heap_alloc_new _ _,rfl,RL.nil⟩
   ·exact h'.st e he
  ·simp only[ZE,YV]
   exact⟨hI.fresh,hI.nd⟩
theorem Nz{tg b cG:Nat}{es:List (Value×Nat×AV)}{t ty kt vt:TypeId}{q:TI}{kd:TypeDesc}{m k x:Operand}{key:Value}{v:AV}(hp:mh q=some kd)(hl:aM σ tg=some (b,.map es cG))(hf:fH kd key es=some none):
  gb P (.insert t m k x) ty [.mp kt vt,q] [m,k,x] [.bH tg b,.v key,v] σ fun y σ'=>y= .v undef∧σ'=dx σ tg b (.map (es++[(key,cG,v)]) (cG+1)):=by
 intro bx M w0 w ρ hI hR
 simp only[eK,Z3,Zn]at bx
 have ht:=vJ bx.1
 have hk:P.underlying kt=some kd:=by
  have:=bx.2
  unfold CN at this
  rw[ht]at this
  exact FU hp this
 obtain⟨v1,cP,e1,h1,cJ⟩:=hR.bg
 obtain⟨v2,qX,e2,h2,eA⟩:=cJ.bg
 obtain⟨v3,e3,h3⟩:=eA.cT
 subst e3 e2
 simp at e1
 obtain⟨hM,l,hh,gq,iy⟩:=hI.rH hl
 have g1:=h1.qF
 have g2:=h2.ay
 subst g1 g2
 have jB:=Je (M:=M) 0 gq hf
 let w':World:={w with heap:=w.heap.setIfInBounds b (.map (l++[(⟨v2,v3,cG⟩:MapEntry)]).toArray (cG+1))}
 refine⟨.skip,w',M,.v undef,undef,_,?_,rfl,Mem.le.refl _,?_,.v _,rfl,rfl⟩
 ·have hu:l.toArray.push (⟨v2,v3,cG⟩:MapEntry)=(l++[(⟨v2,v3,cG⟩:MapEntry)]).toArray:=by grind
  simp only[execOp,e1.1,e1.2.1,e1.2.2,Instr.mapUpdate,Sem.run_bind,aZ ht,Result.andThen_ok,getObj,Sem.run,hh,run_checkKey hp hk,Instr.findKey,aZ hk,jB,Sem.run_pure,setObj,hu]
  rfl
 ·refine hI.AH (y:= .map (es++[(v2,cG,v)]) (cG+1)) hl (fun k hk=> ?_) rfl rfl rfl (by simp[w']) hM ⟨hM,l++[⟨v2,v3,cG⟩],?_,?_,?_⟩
  ·grind
  ·grind
  ·grind
  ·simp
   exact RL.append iy (RL.cons h3 RL.nil)
theorem NA{tg b cG:Nat}{es:List (Value×Nat×AV)}{t ty kt vt:TypeId}{q:TI}{kd:TypeDesc}{m k:Operand}{key:Value}{v:AV}(hp:mh q=some kd)(hl:aM σ tg=some (b,.map es cG))(hf:fH kd key es=some (some v)):
  gb P (.lookup t m k false) ty [.mp kt vt,q] [m,k] [.bH tg b,.v key] σ fun y σ'=>y=v∧σ'=σ:=by
 intro bx M w0 w ρ hI hR
 simp only[eK,Z3,Zn]at bx
 have ht:=vJ bx.1
 have hk:P.underlying kt=some kd:=by
  have:=bx.2
  unfold CN at this
  rw[ht]at this
  exact FU hp this
 obtain⟨v1,cP,e1,h1,cJ⟩:=hR.bg
 obtain⟨v2,e2,h2⟩:=cJ.cT
 subst e2
 simp at e1
 obtain⟨hM,l,hh,gq,iy⟩:=hI.rH hl
 have g1:=h1.qF
 have g2:=h2.ay
 subst g1 g2
 obtain⟨j,u,jB,hu⟩:=El (M:=M) 0 gq iy hf
 refine⟨.value u,w,M,v,u,σ,?_,rfl,Mem.le.refl _,hI,hu,rfl,rfl⟩
 simp only[execOp,e1.1,e1.2,Instr.lookup,Sem.run_bind,aZ ht,Result.andThen_ok,getObj,Sem.run,hh,run_checkKey hp hk,Instr.findKey,aZ hk,jB,Sem.run_pure]
 rfl
end
section
variable {P:Program}[Glob P]{N:Nat}{cfg:Nat→Nat}{Q:Exit→af→Store→Prop}{K:af→Store→Prop}{E:List PanicEntry→Store→Prop}{rg:af}{σ σ':Store}{l:List CI}{d:Nat}{v:AV}{xr cZ:XR}{ps:List Prop}
 {ah cf:List Nat} {ix:Nat} {ld:List CD} {g:Option (Nat×Bool)} {og:Option Bool} {as:List AV} {args:List Operand} {op:Op} {ty:TypeId} {ti:List TI}
theorem ry(h:aD xr none args=some (og,as,ps)):og=none:=by
 unfold aD gX at h
 obtain⟨bz,h',_,_⟩:=fY h
 split at h'<;>cases h';rfl
theorem A7{r:AV}(h:aD xr g args=some (og,as,ps))(hp:og.getD true=true→ko P op ty ti args as r)(aq:OB ps)(k:VX P cfg l K E (bI og d r xr) σ):VX P cfg (⟨some d,.cQ op ty ti args,g⟩::l) K E xr σ:=by
 obtain⟨hc,he⟩:=bZ h
 refine jt hc (fun hg=> ?_) (fun hg=> ?_)
 ·simp only[al,he aq hg]
  refine((hp hg).sp σ).mono fun x σ' ⟨e1,e2⟩=> ?_
  subst e1 e2;rw[← fq hg];exact k.h
 ·rw[← fm hg (v:=r)];exact k.h
theorem DP{r:AV}(h:aD xr g args=some (og,as,ps))(hp:og.getD true=true→ko P op ty ti args as r)(aq:OB ps)(k:VY P cfg ah ld K (bI og d r xr) σ):VY P cfg ah (⟨ix,⟨some d,.cQ op ty ti args,g⟩,cf⟩::ld) K xr σ:=by
 obtain⟨hc,he⟩:=bZ h
 refine nC hc (fun hg=> ?_) (fun hg=> ?_)
 ·simp only[bQ,aw.cls,aJ,he aq hg]
  have:=k.h;rw[fq hg]at this;grind
 ·rw[← fm hg (v:=r)];exact k.h
theorem aaD{t:TypeId}{x:Operand}{lo hi:Option Operand}{s:ByteArray}{a b:Int}(h:aD xr g args=some (og,as,ps))(he:args=x::(lo.toList++hi.toList))(hs:yh lo hi as=some (s,a,b))(aq:OB ps)
  (hb:og.getD true=true→0≤a∧a≤b∧b≤s.size) (k:VX P cfg l K E (bI og d (.v (.string (s.extract a.toNat b.toNat))) xr) σ):VX P cfg (⟨some d,.cQ (.slice t x lo hi none) ty [.str] args,g⟩::l) K E xr σ:=
 A7 h (fun hg=>by subst he;exact Hw hs (hb hg)) aq k
theorem aaZ{t:TypeId}{x:Operand}{lo hi:Option Operand}{s:ByteArray}{a b:Int}(h:aD xr g args=some (og,as,ps))(he:args=x::(lo.toList++hi.toList))(hs:yh lo hi as=some (s,a,b))(aq:OB ps)
  (hb:og.getD true=true→0≤a∧a≤b∧b≤s.size) (k:VY P cfg ah ld K (bI og d (.v (.string (s.extract a.toNat b.toNat))) xr) σ):VY P cfg ah (⟨ix,⟨some d,.cQ (.slice t x lo hi none) ty [.str] args,g⟩,cf⟩::ld) K xr σ:=
 DP h (fun hg=>by subst he;exact Hw hs (hb hg)) aq k
def sH:AV→Bool
 | .v (.string _)=>false
 |_=>true
theorem FH(h:sH v=true):¬∃ s,v= .v (.string s):=fun⟨s,e⟩=>by subst e;cases h
theorem aah{src dst e:TypeId}{x:Operand}{q:TI}{rows:List (List AV)}{ns:List Int}(h:aD xr g [x]=some (og,[v],ps))(hv:dR 1 v=some rows)(hn:sH v=true)(hu:lB rows=some ns)(aq:OB ps)
  (k:VX P cfg l K E (bI og d (.v (.string (kX ns))) xr) σ):VX P cfg (⟨some d,.cQ (.convert src dst x) ty [.sl e,.int .u8,.str,q] [x],g⟩::l) K E xr σ:=
 A7 h (fun _=>A2 hv (FH hn) hu) aq k
theorem aaM{src dst e:TypeId}{x:Operand}{q:TI}{rows:List (List AV)}{ns:List Int}(h:aD xr g [x]=some (og,[v],ps))(hv:dR 1 v=some rows)(hn:sH v=true)(hu:lB rows=some ns)(aq:OB ps)
  (k:VY P cfg ah ld K (bI og d (.v (.string (kX ns))) xr) σ):VY P cfg ah (⟨ix,⟨some d,.cQ (.convert src dst x) ty [.sl e,.int .u8,.str,q] [x],g⟩,cf⟩::ld) K xr σ:=
 DP h (fun _=>A2 hv (FH hn) hu) aq k
theorem aag{src dst e:TypeId}{x:Operand}{q:TI}{ls:List UInt8}(h:aD xr g [x]=some (og,[v],ps))(hv:dR 1 v=some (ls.map du))(hn:sH v=true)(aq:OB ps)
  (k:VX P cfg l K E (bI og d (.v (.string ⟨ls.toArray⟩)) xr) σ):VX P cfg (⟨some d,.cQ (.convert src dst x) ty [.sl e,.int .u8,.str,q] [x],g⟩::l) K E xr σ:=
 A7 h (fun _=>by have:=A2 (P:=P) (src:=src) (dst:=dst) (e:=e) (ty:=ty) (x:=x) (q:=q) hv (FH hn) (MS ls);rwa [Od]at this) aq k
theorem aaL{src dst e:TypeId}{x:Operand}{q:TI}{ls:List UInt8}(h:aD xr g [x]=some (og,[v],ps))(hv:dR 1 v=some (ls.map du))(hn:sH v=true)(aq:OB ps)
  (k:VY P cfg ah ld K (bI og d (.v (.string ⟨ls.toArray⟩)) xr) σ):VY P cfg ah (⟨ix,⟨some d,.cQ (.convert src dst x) ty [.sl e,.int .u8,.str,q] [x],g⟩,cf⟩::ld) K xr σ:=
 DP h (fun _=>by have:=A2 (P:=P) (src:=src) (dst:=dst) (e:=e) (ty:=ty) (x:=x) (q:=q) hv (FH hn) (MS ls);rwa [Od]at this) aq k
theorem aai{src dst e:TypeId}{x:Operand}{q:TI}{s:ByteArray}(h:aD xr g [x]=some (og,[.v (.string s)],ps))(aq:OB ps)(hb:og.getD true=true→s.size≤9223372036854775806)
  (k:VX P cfg l K E (bI og d (.sl true 1 (s.data.toList.map du)) xr) σ):VX P cfg (⟨some d,.cQ (.convert src dst x) ty [.str,q,.sl e,.int .u8] [x],g⟩::l) K E xr σ:=
 A7 h (fun hg=>Hv (hb hg)) aq k
theorem aaN{src dst e:TypeId}{x:Operand}{q:TI}{s:ByteArray}(h:aD xr g [x]=some (og,[.v (.string s)],ps))(aq:OB ps)(hb:og.getD true=true→s.size≤9223372036854775806)
  (k:VY P cfg ah ld K (bI og d (.sl true 1 (s.data.toList.map du)) xr) σ):VY P cfg ah (⟨ix,⟨some d,.cQ (.convert src dst x) ty [.str,q,.sl e,.int .u8] [x],g⟩,cf⟩::ld) K xr σ:=
 DP h (fun hg=>Hv (hb hg)) aq k
def fO(s:ByteArray)(i:Nat):UInt8:=s.data.toList.getD i 0
theorem aan{x i:Operand}{s:ByteArray}{iv:AV}{n:Int}(h:aD xr g [x,i]=some (og,[.v (.string s),iv],ps))(hi:iJ iv=some n)(aq:OB ps)(hb:og.getD true=true→0≤n∧n<s.size)
  (k:VX P cfg l K E (bI og d (.v (.int .u8 (fO s n.toNat).toNat)) xr) σ):VX P cfg (⟨some d,.idxs x i,g⟩::l) K E xr σ:=by
 obtain⟨hc,he⟩:=bZ h
 refine jt hc (fun hg=> ?_) (fun hg=> ?_)
 ·have:=he aq hg
  simp only[aE,Z3,Zn]at this
  obtain⟨q,hq⟩:=pq hi
  simp only[al,this.1,this.2,hq]
  have ar:=hb hg
  have hk:=k.h
  rw[fq hg]at hk
  have e:fO s n.toNat=s[n.toNat]'(by omega):=by
   have h2:n.toNat<s.data.toList.length:=by simp_all
   simp only[fO,ZU,ZY h2,Zk]
   rfl
  grind
 ·rw[← fm hg (v:= .v (.int .u8 (fO s n.toNat).toNat))];exact k.h
theorem aaS{x i:Operand}{s:ByteArray}{iv:AV}{n:Int}(h:aD xr g [x,i]=some (og,[.v (.string s),iv],ps))(hi:iJ iv=some n)(aq:OB ps)(hb:og.getD true=true→0≤n∧n<s.size)
  (k:VY P cfg ah ld K (bI og d (.v (.int .u8 (fO s n.toNat).toNat)) xr) σ):VY P cfg ah (⟨ix,⟨some d,.idxs x i,g⟩,cf⟩::ld) K xr σ:=by
 obtain⟨hc,he⟩:=bZ h
 refine nC hc (fun hg=> ?_) (fun hg=> ?_)
 ·have:=he aq hg
  simp only[aE,Z3,Zn]at this
  obtain⟨q,hq⟩:=pq hi
  simp only[bQ,aw.cls,aJ,al,this.1,this.2,hq]
  have ar:=hb hg
  have hk:=k.h
  rw[fq hg]at hk
  have e:fO s n.toNat=s[n.toNat]'(by omega):=by
   have h2:n.toNat<s.data.toList.length:=by simp_all
   simp only[fO,ZU,ZY h2,Zk]
   rfl
  grind
 ·rw[← fm hg (v:= .v (.int .u8 (fO s n.toNat).toNat))];exact k.h
theorem aau{t:TypeId}(k:∀ b,VX P cfg l K E ((d,.s (.bH d b))::xr) ((d,b,.map [] 0)::σ)):VX P cfg (⟨some d,.exts (.makeMap t none) ty ti [],none⟩::l) K E xr σ:=by
 constructor
 refine(NC d).mono fun x σ' ⟨b,e1,e2⟩=> ?_
 subst e1 e2
 exact(k b).h
theorem aao{t kt vt:TypeId}{q:TI}{kd:TypeDesc}{m k x:Operand}{tg b b' cG:Nat}{es:List (Value×Nat×AV)}{key:Value}(h:aD xr none [m,k,x]=some (og,[.bH tg b,.v key,v],ps))(hp:mh q=some kd)(hl:aM σ tg=some (b',.map es cG))(hb:b=b')
  (hf:fH kd key es=some none) (hu:vO σ tg b (.map (es++[(key,cG,v)]) (cG+1))=some σ') (aq:OB ps) (kk:VX P cfg l K E xr σ'):VX P cfg (⟨none,.exts (.insert t m k x) ty [.mp kt vt,q] [m,k,x],none⟩::l) K E xr σ:=by
 obtain⟨hc,he⟩:=bZ h
 have cE:=ry h
 subst cE
 subst hb
 constructor
 simp only[dD,bY,al,he aq rfl]
 refine(Nz hp hl hf).mono fun y s ⟨e1,e2⟩=> ?_
 rw[Dq hu]at e2
 subst e1 e2
 exact kk.h
theorem aar{t kt vt:TypeId}{q:TI}{kd:TypeDesc}{m k:Operand}{tg b b' cG:Nat}{es:List (Value×Nat×AV)}{key:Value}(h:aD xr none [m,k]=some (og,[.bH tg b,.v key],ps))(hp:mh q=some kd)(hl:aM σ tg=some (b',.map es cG))(hb:b=b')
  (hf:fH kd key es=some (some v)) (aq:OB ps) (kk:VX P cfg l K E ((d,.s v)::xr) σ):VX P cfg (⟨some d,.cQ (.lookup t m k false) ty [.mp kt vt,q] [m,k],none⟩::l) K E xr σ:=by
 obtain⟨hc,he⟩:=bZ h
 have cE:=ry h
 subst cE
 subst hb
 constructor
 simp only[dD,bY,al,he aq rfl]
 refine(NA hp hl hf).mono fun y s ⟨e1,e2⟩=> ?_
 subst e1 e2
 exact kk.h
theorem NP{f:FuncId}{r:AV}{fo:Operand}{a c:List AV}(h:aD xr g (fo::args)=some (og,.cl f a c::as,ps))(bE:ij P f=true)(hp:og.getD true=true→Pure P f (a++as++c) r)(aq:OB ps)(k:VX P cfg l K E (bI og d r xr) σ):
  VX P cfg (⟨some d,.fR fo args,g⟩::l) K E xr σ:=by
 obtain⟨hc,he⟩:=bZ h
 refine jt hc (fun hg=> ?_) (fun hg=> ?_)
 ·have:=he aq hg
  simp only[aE,Z3]at this
  simp only[al,this.1,this.2]
  refine⟨bE,rA (hp hg) ?_⟩
  rw[← fq hg];exact k.h
 ·rw[← fm hg (v:=r)];exact k.h
theorem DN{f:FuncId}{r:AV}{fo:Operand}{a c:List AV}(h:aD xr g (fo::args)=some (og,.cl f a c::as,ps))(bE:ij P f=true)(hp:og.getD true=true→Pure P f (a++as++c) r)(aq:OB ps)(k:VY P cfg ah ld K (bI og d r xr) σ):
  VY P cfg ah (⟨ix,⟨some d,.fR fo args,g⟩,cf⟩::ld) K xr σ:=by
 obtain⟨hc,he⟩:=bZ h
 refine nC hc (fun hg=> ?_) (fun hg=> ?_)
 ·have:=he aq hg
  simp only[aE,Z3]at this
  simp only[bQ,aw.cls,aJ,this.1,this.2]
  refine⟨bE,r,hp hg,?_⟩
  have:=k.h;rw[fq hg]at this;grind
 ·rw[← fm hg (v:=r)];exact k.h
end
end Go.Sx
