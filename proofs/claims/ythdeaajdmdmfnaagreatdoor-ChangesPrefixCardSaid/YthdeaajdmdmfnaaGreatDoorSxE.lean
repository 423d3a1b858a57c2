/-
  The layer Sx: strings, conversions, maps, functions with what they hold: the rules.
-/
import Derived.Test.YthdeaajdmdmfnaaGreatDoorSxSt
import Derived.Laws.BytesString
set_option linter.unusedVariables false
set_option linter.unusedSimpArgs false
set_option linter.unusedSectionVars false
namespace Go.Sx
open Go.RowKit
theorem RL.cJ{M:Mem}{x:AV}{vs:List Value}(h:RL M [x] vs):∃ v,vs=[v]∧R M x v:=by
 obtain⟨v,vs',rfl,h1,h2⟩:=h.aX
 exact⟨v,by rw[h2.pX],h1⟩
def vW(lo hi:Option Operand)(as:List AV):Option (ByteArray×Int×Int):=
 match lo,hi,as with
 |none,none,[.v (.string s)]=>some (s,0,s.size)
 |some _,none,[.v (.string s),.v (.int _ a)]=>some (s,a,s.size)
 |none,some _,[.v (.string s),.v (.int _ b)]=>some (s,0,b)
 |some _,some _,[.v (.string s),.v (.int _ a),.v (.int _ b)]=>some (s,a,b)
 |_,_,_=>none
def kJ:List (List AV)→Option (List Int)
 |[]=>some []
 |[.v (.int .u8 n)]::l=>(kJ l).map (n::·)
 |_=>none
def lL(ns:List Int):ByteArray:=⟨(ns.map fun n=>UInt8.ofNat n.toNat).toArray⟩
section
variable {P:Program}[Glob P]{M:Mem}{w0:Base}{w:World}{σ:Store}
theorem Fp{t ty:TypeId}{x:Operand}{lo hi:Option Operand}{as:List AV}{s:ByteArray}{a b:Int}(h:vW lo hi as=some (s,a,b))(hb:0≤a∧a≤b∧b≤s.size):
  jC P (.slice t x lo hi none) ty [.str] (x::(lo.toList++hi.toList)) as (.v (.string (s.extract a.toNat b.toNat))):=⟨fun σ bx M w0 w ρ hI hR=>by
 have ht:P.underlying t=some .string:=by
  simp only[ei,Z2,Zn]at bx;exact EL bx
 refine⟨.value (.string (s.extract a.toNat b.toNat)),w,M,.v (.string (s.extract a.toNat b.toNat)),.string (s.extract a.toNat b.toNat),σ,?_,rfl,Mem.le.refl _,hI,.v _,rfl,rfl⟩
 unfold vW at h
 split at h<;>cases h
 ·obtain⟨v,hv,hx⟩:=hR.cJ
  simp at hv
  simp[execOp,Instr.sliceAt,aW ht,Instr.slice,Instr.sliceBounds,hv,hx.ay]
 ·obtain⟨v,vs,hv,hx,dM⟩:=hR.aX
  obtain⟨v2,gU,ef⟩:=dM.cJ
  subst gU
  simp only[Option.toList_none,Option.toList_some,YP,Zv,YT,Z2,Zn]at hv
  have e1:=hx.ay
  have e2:=ef.ay
  have h1:(0:Int)≤a∧a≤(s.size:Int):=⟨hb.1,hb.2.1⟩
  simp[execOp,Instr.sliceAt,aW ht,Instr.slice,Instr.sliceBounds,Instr.sliceBound,asIntOf,hv.1,hv.2,e1,e2,h1]
 ·obtain⟨v,vs,hv,hx,dM⟩:=hR.aX
  obtain⟨v2,gU,ef⟩:=dM.cJ
  subst gU
  simp only[Option.toList_none,Option.toList_some,Zl,Zv,YT,Z2,Zn]at hv
  have e1:=hx.ay
  have e2:=ef.ay
  have h1:(0:Int)≤b∧b≤(s.size:Int):=⟨hb.2.1,hb.2.2⟩
  simp[execOp,Instr.sliceAt,aW ht,Instr.slice,Instr.sliceBounds,Instr.sliceBound,asIntOf,hv.1,hv.2,e1,e2,h1]
 ·obtain⟨v,vs,hv,hx,dM⟩:=hR.aX
  obtain⟨v2,oP,gU,ef,hR3⟩:=dM.aX
  obtain⟨v3,kX,fM⟩:=hR3.cJ
  subst kX
  subst gU
  simp only[Option.toList_some,ZG,Zl,Zv,YT,Z2,Zn]at hv
  have e1:=hx.ay
  have e2:=ef.ay
  have e3:=fM.ay
  have h1:(0:Int)≤b∧b≤(s.size:Int):=⟨by omega,hb.2.2⟩
  have h2:(0:Int)≤a∧a≤(b.toNat:Int):=⟨hb.1,by omega⟩
  simp[execOp,Instr.sliceAt,aW ht,Instr.slice,Instr.sliceBounds,Instr.sliceBound,asIntOf,hv.1,hv.2.1,hv.2.2,e1,e2,e3,h1,h2]
  grind⟩
theorem SI{M:Mem}:∀ {rows:List (List AV)} {ns:List Int} {L:List Value},kJ rows=some ns→RL M rows.flatten L→L=ns.map (.int .u8)
 |[],ns,L,h,hR=>by cases h;exact hR.pX
 |r::rows,ns,L,h,hR=>by
  unfold kJ at h
  split at h
  ·grind
  ·rename_i n l he
   cases he
   obtain⟨ns',h1,rfl⟩:=Z9.1 h
   obtain⟨v,vs,rfl,hx,dM⟩:=RL.aX (x:= .v (.int .u8 n)) (xs:=rows.flatten) hR
   rw[hx.ay,SI h1 dM];rfl
  grind
theorem Wy(ns:List Int):ns.foldl (fun r n=>r.push (UInt8.ofNat n.toNat)) ByteArray.empty=lL ns:=by
 have:∀ (ns:List Int) (s:ByteArray),ns.foldl (fun r n=>r.push (UInt8.ofNat n.toNat)) s=⟨s.data++(ns.map fun n=>UInt8.ofNat n.toNat).toArray⟩:=by
  intro ns
  induction ns with
  |nil=>simp_all
  |cons n ns ih=>
   simp_all
 simp only[lL]
 simp_all
theorem yP{src dst e ty:TypeId}{x:Operand}{v:AV}{rows:List (List AV)}{ns:List Int}{q:TI}(hv:dG 1 v=some rows)(qC:¬∃ s,v= .v (.string s))(hn:kJ rows=some ns):
  jC P (.convert src dst x) ty [.sl e,.int .u8,.str,q] [x] [v] (.v (.string (lL ns))):=⟨fun σ bx M w0 w ρ hI hR=>by
 simp only[ei,Z2,Zn]at bx
 have hs:=yu bx.1
 have he:P.underlying e=some (.int .u8):=by
  have:=bx.2.1
  unfold zr at this
  rw[hs]at this
  exact KI this
 have hd:=EL bx.2.2.1
 obtain⟨u,hu,hx⟩:=hR.cJ
 simp at hu
 obtain⟨base,cap,L,rfl,hL,_,cP⟩:=En (P:=P) hI hx hv qC
 have fZ:=SI hn hL
 subst fZ
 refine⟨.value (.string (lL ns)),w,M,.v (.string (lL ns)),.string (lL ns),σ,?_,rfl,Mem.le.refl _,hI,.v _,rfl,rfl⟩
 have hc:=run_convert_bytes_string (P:=P) w src dst e base rows.length cap hs he hd
 simp only[execOp,hu,Sem.run_bind,hc]
 cases base with
 |none=>
  simp only[Builtin.firstCells,Sem.run_pure,Result.ok.injEq,Zn]at cP
  have:ns=[]:=by
   simp_all
  subst this
  rfl
 |some a=>
  simp only[Builtin.firstCells,Yb]at cP
  rw[run_bytesToString w a rows.length cap ns cP,Wy]
  simp_all⟩
theorem KO:∀ (ls:List UInt8),kJ (ls.map dD)=some (ls.map fun b=>(b.toNat:Int))
 |[]=>rfl
 |b::ls=>by
  show(kJ (ls.map dD)).map ((b.toNat:Int)::·)=_
  rw[KO ls];rfl
theorem Mf(ls:List UInt8):lL (ls.map fun b=>(b.toNat:Int))=⟨ls.toArray⟩:=by
 simp only[lL,Yg]
 congr 2
 conv=>rhs;rw[← List.map_id ls]
 apply List.map_congr_left
 simp_all
theorem Inv.afd(hI:Inv P M w0 σ w){w':World}(e1:w'.os=w.os)(e2:w'.tape=w.tape)(e3:w'.output=w.output)(hs:w.heap.size≤w'.heap.size)(hold:∀ k,k<w.heap.size→w'.heap[k]? =w.heap[k]?)(cs:List Value)
  (hc:∀ o v,cs[o]? =some v→w'.cell? ⟨w.heap.size,o,none⟩=some v):Inv P (M.add w.heap.size cs.length cs) w0 σ w':=by
 have hle:=hI.mZ cs.length cs
 refine⟨e1.trans hI.os,e2.trans hI.tape,e3.trans hI.output,ZI hI.size hs,fun k hk=>(hold k (Y8 hk hI.size)).trans (hI.old k hk),fun b o v hv=> ?_,fun e he=>⟨(hI.st e he).1,?_⟩,hI.nd,fun g l e=>(hI.gl g l e).mono hle,hI.gw,fun b o v hv aw=>hI.bm b o v (by simp only[Mem.add]at hv;rwa [Z7 (by have:=hI.size;omega)]at hv) aw⟩
 ·simp only[Mem.add]at hv
  split at hv
  ·grind
  ·have h1:=hI.bL b o v hv
   have hb:b<w.heap.size:=by simpa using World.block_lt_of_cell? _ _ h1
   rw[← h1]
   simp only[World.cell?,hold b hb]
 ·obtain⟨tg,b,x⟩:=e
  have hk:=(hI.st _ he).2
  have aw:b<w.heap.size:=hI.pM he
  have aE:b≠w.heap.size:=by omega
  have eZ:=hk.heap (hold b aw)
  cases x with
  |cells l=>obtain⟨h1,bO,t',h2,h3⟩:=eZ;exact⟨fun o=>by simp[Mem.add,aE,h1 o],bO,t',h2,h3.mono hle⟩
  |tail u' c=>obtain⟨h1,bO,t',h2,h3⟩:=eZ;exact⟨fun o ho=>by simp[Mem.add,aE,h1 o ho],bO,t',h2,h3⟩
  |map es k=>obtain⟨h1,l,h2,h3,h4⟩:=eZ;exact⟨fun o=>by simp[Mem.add,aE,h1 o],l,h2,h3,h4.mono hle⟩
theorem TM{t e ty:TypeId}{x h0 m0:Operand}{nn:Bool}{ah:Nat}{rows:List (List AV)}{h:Nat}{k k':IntKind}(h1:0<h)(h2:h≤rows.length):
  jC P (.slice t x none (some h0) (some m0)) ty [.sl e,.sz ah] [x,h0,m0] [.sl nn ah rows,.v (.int k (h:Int)),.v (.int k' (h:Int))] (.fl ah (rows.take h)):=⟨fun σ bx M w0 w ρ hI hR=>by
 simp only[ei,Z2,Zn]at bx
 have ht:=yu bx.1
 have hz:∀ w,(sizeOf e).run P w= .ok ah w:=fun w=>by
  have:=bx.2
  unfold Bo at this
  rw[ht]at this
  simp only at this
  split at this
  ·rename_i i hi;cases this;simp[sizeOf,typeInfo,hi]
  ·cases this
 obtain⟨v1,cq,e1,ju,bY⟩:=hR.aX
 obtain⟨v2,oP,e2,ef,dM⟩:=bY.aX
 obtain⟨v3,e3,fM⟩:=dM.cJ
 subst e3 e2
 simp only[Zv,YT,Z2,Zn]at e1
 have g2:=ef.ay
 have g3:=fM.ay
 subst g2 g3
 generalize hX:AV.sl nn ah rows=X at ju
 cases ju<;>(try cases hX)
 ·simp at h2;omega
 ·rename_i b off cap cs hc hm bg hM CX
  refine⟨.value (.slice (some ⟨b,off,none⟩) h h),w,M,.fl ah (rows.take h),.slice (some ⟨b,off,none⟩) h h,σ,?_,rfl,Mem.le.refl _,hI,?_,rfl,rfl⟩
  ·have c1:h≤cap:=by omega
   have c2:¬h=0:=by omega
   simp[execOp,Instr.sliceAt,aW ht,Instr.slice,Instr.sliceBounds,Instr.sliceBound,asIntOf,e1,hz,c1,c2,Addr.add]
  ·have hl:(rows.take h).length=h:=by rw[Zx];omega
   have:=R.fl (M:=M) ah (rows.take h) b off cs (fun i hi=>by rw[Xo];exact bg i (by omega)) (fun k hk=>hM k (by rw[hl]at hk;exact Y8 hk (Y9 _ h2))) (fun i hi j hj=>by
    have cD:i<rows.length:=by omega
    have:=CX i cD j (by simpa[Xo]using hj)
    simpa[Xo]using this) (by omega)
   rw[hl]at this
   exact this⟩
theorem TQ{t e ty:TypeId}{x h0 m0:Operand}{ah:Nat}{k k':IntKind}:
  jC P (.slice t x none (some h0) (some m0)) ty [.sl e,.sz ah] [x,h0,m0] [.v (.slice none 0 0),.v (.int k 0),.v (.int k' 0)] (.v (.slice none 0 0)):=⟨fun σ bx M w0 w ρ hI hR=>by
 simp only[ei,Z2,Zn]at bx
 have ht:=yu bx.1
 have hz:∀ w,(sizeOf e).run P w= .ok ah w:=fun w=>by
  have:=bx.2
  unfold Bo at this
  rw[ht]at this
  simp only at this
  split at this
  ·rename_i i hi;cases this;simp[sizeOf,typeInfo,hi]
  ·cases this
 obtain⟨v1,cq,e1,ju,bY⟩:=hR.aX
 obtain⟨v2,oP,e2,ef,dM⟩:=bY.aX
 obtain⟨v3,e3,fM⟩:=dM.cJ
 subst e3 e2
 simp only[Zv,YT,Z2,Zn]at e1
 have g1:=ju.ay
 have g2:=ef.ay
 have g3:=fM.ay
 subst g1 g2 g3
 refine⟨.value (.slice none 0 0),w,M,.v (.slice none 0 0),.slice none 0 0,σ,?_,rfl,Mem.le.refl _,hI,.v _,rfl,rfl⟩
 simp[execOp,Instr.sliceAt,aW ht,Instr.slice,Instr.sliceBounds,Instr.sliceBound,asIntOf,e1,hz]⟩
theorem TP{t e ty:TypeId}{x l0 h0 m0:Operand}{nn:Bool}{ah:Nat}{rows:List (List AV)}{l h:Nat}{k k' DG:IntKind}(h1:l<h)(h2:h≤rows.length):
  jC P (.slice t x (some l0) (some h0) (some m0)) ty [.sl e,.sz ah] [x,l0,h0,m0] [.sl nn ah rows,.v (.int DG (l:Int)),.v (.int k (h:Int)),.v (.int k' (h:Int))] (.sl true ah ((rows.take h).drop l)):=⟨fun σ bx M w0 w ρ hI hR=>by
 simp only[ei,Z2,Zn]at bx
 have ht:=yu bx.1
 have hz:∀ w,(sizeOf e).run P w= .ok ah w:=fun w=>by
  have:=bx.2
  unfold Bo at this
  rw[ht]at this
  simp only at this
  split at this
  ·rename_i i hi;cases this;simp[sizeOf,typeInfo,hi]
  ·cases this
 obtain⟨v1,cq,e1,ju,bY⟩:=hR.aX
 obtain⟨v0,Ta,e0,sV,mN⟩:=bY.aX
 obtain⟨v2,oP,e2,ef,dM⟩:=mN.aX
 obtain⟨v3,e3,fM⟩:=dM.cJ
 subst e3 e2 e0
 simp only[Zv,YT,Z2,Zn]at e1
 have g0:=sV.ay
 have g2:=ef.ay
 have g3:=fM.ay
 subst g0 g2 g3
 generalize hX:AV.sl nn ah rows=X at ju
 cases ju<;>(try cases hX)
 ·simp at h2;omega
 ·rename_i b off cap cs hc hm bg hM CX
  refine⟨.value (.slice (some ⟨b,off+l * ah,none⟩) (h-l) (h-l)),w,M,.sl true ah ((rows.take h).drop l),.slice (some ⟨b,off+l * ah,none⟩) (h-l) (h-l),σ,?_,rfl,Mem.le.refl _,hI,?_,rfl,rfl⟩
  ·have c1:h≤cap:=by omega
   have c2:¬h=l:=by omega
   have c3:l≤h:=by omega
   simp[execOp,Instr.sliceAt,aW ht,Instr.slice,Instr.sliceBounds,Instr.sliceBound,asIntOf,e1,hz,c1,c2,c3,Addr.add]
  ·have hl:((rows.take h).drop l).length=h-l:=by rw[YQ,Zx];omega
   have hg:∀ i (hi:i<((rows.take h).drop l).length),((rows.take h).drop l)[i]=rows[l+i]'(by omega):=fun i hi=>by rw[List.getElem_drop,Xo]
   have:=R.sl (M:=M) true ah ((rows.take h).drop l) b (off+l * ah) (h-l) (fun k=>cs (l * ah+k)) (fun i hi=>by rw[hg i hi];exact bg _ _) (fun k hk=>by
     rw[Nat.add_assoc]
     refine hM _ ?_
     rw[hl]at hk
     have:l * ah+(h-l) * ah≤rows.length * ah:=by rw[← YI];exact Y9 _ (by omega)
     omega) (fun i hi j hj=>by
    have dK:j<(rows[l+i]'(by omega)).length:=by rw[hg i hi]at hj;exact hj
    have:=CX (l+i) (by omega) j dK
    rw[YI,Nat.add_assoc]at this
    simpa[hg i hi]using this) (by omega) (by omega)
   rw[hl]at this
   exact this⟩
theorem TN{t e ty:TypeId}{x l0 h0 m0:Operand}{nn:Bool}{ah:Nat}{rows:List (List AV)}{h:Nat}{k k' DG:IntKind}(h1:0<rows.length)(h2:h≤rows.length):
  jC P (.slice t x (some l0) (some h0) (some m0)) ty [.sl e,.sz ah] [x,l0,h0,m0] [.sl nn ah rows,.v (.int DG (h:Int)),.v (.int k (h:Int)),.v (.int k' (h:Int))] (.sl true ah []):=⟨fun σ bx M w0 w ρ hI hR=>by
 simp only[ei,Z2,Zn]at bx
 have ht:=yu bx.1
 have hz:∀ w,(sizeOf e).run P w= .ok ah w:=fun w=>by
  have:=bx.2
  unfold Bo at this
  rw[ht]at this
  simp only at this
  split at this
  ·rename_i i hi;cases this;simp[sizeOf,typeInfo,hi]
  ·cases this
 obtain⟨v1,cq,e1,ju,bY⟩:=hR.aX
 obtain⟨v0,Ta,e0,sV,mN⟩:=bY.aX
 obtain⟨v2,oP,e2,ef,dM⟩:=mN.aX
 obtain⟨v3,e3,fM⟩:=dM.cJ
 subst e3 e2 e0
 simp only[Zv,YT,Z2,Zn]at e1
 have g0:=sV.ay
 have g2:=ef.ay
 have g3:=fM.ay
 subst g0 g2 g3
 generalize hX:AV.sl nn ah rows=X at ju
 cases ju<;>(try cases hX)
 ·simp at h1
 ·rename_i b off cap cs hc hm bg hM CX
  refine⟨.value (.slice (some ⟨b,off,none⟩) 0 0),w,M,.sl true ah [],.slice (some ⟨b,off,none⟩) 0 0,σ,?_,rfl,Mem.le.refl _,hI,.nil true ah _ (fun _=>rfl),rfl,rfl⟩
  have c1:h≤cap:=by omega
  simp[execOp,Instr.sliceAt,aW ht,Instr.slice,Instr.sliceBounds,Instr.sliceBound,asIntOf,e1,hz,c1,Addr.add]⟩
theorem Fo{src dst e ty:TypeId}{x:Operand}{s:ByteArray}{q:TI}(js:s.size≤9223372036854775806):jC P (.convert src dst x) ty [.str,q,.sl e,.int .u8] [x] [.v (.string s)] (.sl true 1 (s.data.toList.map dD)):=⟨fun σ bx M w0 w ρ hI hR=>by
 simp only[ei,Z2,Zn]at bx
 have hs:=EL bx.1
 have hd:=yu bx.2.2.1
 have he:P.underlying e=some (.int .u8):=by
  have:=bx.2.2.2
  unfold zr at this
  rw[hd]at this
  exact KI this
 obtain⟨u,hu,hx⟩:=hR.cJ
 simp only[Zv,YT,Z2,Zn]at hu
 have hxv:=hx.ay
 subst hxv
 let q0:=Question.appendCap s.size 0 e
 let cap:=q0.cut (w.tape w.drawn q0)
 have sB:cap=s.size+w.tape w.drawn q0 % (2 ^ 63-s.size):=rfl
 have acn:w.tape w.drawn q0 % (2 ^ 63-s.size)<2 ^ 63-s.size:=Nat.mod_lt _ (by omega)
 let arr:Array Value:=s.data.map (fun b=>Value.int .u8 b.toNat)++Array.replicate (cap-s.size) (.int .u8 0)
 let w1:World:=w.drew.alloc (.cells arr e)
 let w2:World:=w1.freeze ⟨w.heap.size,arr.size,none⟩ 1
 let cs:List Value:=s.data.toList.map (fun b=>Value.int .u8 b.toNat)
 have hlen:cs.length=s.size:=by simp[cs]
 have hfz:∀ k,k≠w.heap.size→w2.heap[k]? =w1.heap[k]? :=fun k hk=>by
  have di:¬w.heap.size=k:=fun e=>hk e.symm
  simp only[w2,World.freeze,Nat.one_ne_zero,YV,X6,Z7 di]
 have h1:w1.heap[w.heap.size]? =some (.cells arr e):=heap_alloc_new w.drew _
 have h2:∃ f,w2.heap[w.heap.size]? =some (.cells arr e f):=by
  simp only[w2,World.freeze,Nat.one_ne_zero,YV,X6,YX,h1,ZJ]
  grind
 have hold:∀ k,k<w.heap.size→w2.heap[k]? =w.heap[k]? :=fun k hk=>(hfz k (by omega)).trans (Ie w.drew _ k hk)
 have hcell:∀ o v,cs[o]? =some v→w2.cell? ⟨w.heap.size,o,none⟩=some v:=fun o v hv=>by
  obtain⟨f,h2⟩:=h2
  simp only[World.cell?,h2,Option.isSome_none,ZU,YV,arr]
  grind
 have fY:Inv P (M.add w.heap.size cs.length cs) w0 σ w2:=Inv.afd (w':=w2) hI rfl rfl rfl (by grind) hold cs hcell
 refine⟨.value (.slice (some ⟨w.heap.size,0,none⟩) s.size cap),w2,_,.sl true 1 (s.data.toList.map dD),_,σ,?_,rfl,hI.mZ _ _,fY,?_,rfl,rfl⟩
 ·have hf:q0.forced=false:=rfl
  have sL:w1.shape? w.heap.size=some (e,arr.size):=by simp only[World.shape?,h1]
  simp only[execOp,hu,convert,Sem.run_bind,aW hs,aW hd,aW he,Result.andThen_ok,Conv.stringToBytes,newRow,markStringish]
  simp[choose,Sem.run,Sem.bind,Bind.bind,Pure.pure,Question.forced,newObj,shape,freeze]
  erw [sL]
  rfl
 ·have hr:Rows (M.add w.heap.size cs.length cs) w.heap.size 0 1 (s.data.toList.map dD) (fun k=>cs.getD k undef):=by
   refine Rows.of_flat (fun i hi=>by simp[dD]) ?_ (fun k v hv=> ?_)
   ·have:∀ l:List UInt8,RL (M.add w.heap.size cs.length cs) (l.map dD).flatten (l.map fun b=>Value.int .u8 b.toNat):=by
     intro l
     induction l with
     |nil=>exact RL.nil
     |cons b l ih=>exact RL.cons (.v _) ih
    grind
   ·have hk:k<cs.length:=(ZE.1 hv).1
    simp only[Mem.add,YX,ZH]
    rw[ZV hk];exact hv
  have:=R.nc (cap:=cap) hr (by simp;omega) (by unfold maxLen;omega) true
  grind⟩
end
def kZ:TI→Option TypeDesc
 | .int k=>some (.int k)
 | .str=>some .string
 |_=>none
theorem Ec{q:TI}{kd:TypeDesc}{d:Option TypeDesc}(h:kZ q=some kd)(ht:jA d=q):d=some kd:=by
 unfold kZ at h
 split at h
 ·cases h;exact KI ht
 ·cases h;exact EL ht
 grind
def eR(kd:TypeDesc)(k:Value):List (Value×Nat×AV)→Option (Option AV)
 |[]=>some none
 |e::es=>match Instr.sameNow kd k e.1 with
  |some true=>some (some e.2.2)
  |some false=>eR kd k es
  |none=>none
theorem Gv{M:Mem}{kd:TypeDesc}{k:Value}:∀ {es:List (Value×Nat×AV)} {l:List MapEntry} (i:Nat),l.map (fun e=>(e.key,e.born))=es.map (fun e=>(e.1,e.2.1))→eR kd k es=some none→Instr.findNow kd k l i=some none
 |[],l,i,hk,_=>by
  have:l=[]:=by simp_all
  subst this;rfl
 |e::es,l,i,hk,h=>by
  cases l with
  |nil=>grind
  |cons m l=>
   simp at hk
   simp only[eR]at h
   simp only[Instr.findNow,hk.1.1]
   split at h
   ·cases h
   ·rename_i e1;rw[e1];exact Gv (M:=M) (i+1) hk.2 h
   grind
theorem Cz{M:Mem}{kd:TypeDesc}{k:Value}{x:AV}:∀ {es:List (Value×Nat×AV)} {l:List MapEntry} (i:Nat),l.map (fun e=>(e.key,e.born))=es.map (fun e=>(e.1,e.2.1))→RL M (es.map (·.2.2)) (l.map (·.val))→eR kd k es=some (some x)→
  ∃ j v,Instr.findNow kd k l i=some (some (j,v))∧R M x v
 |[],l,i,_,_,h=>by cases h
 |e::es,l,i,hk,hR,h=>by
  cases l with
  |nil=>grind
  |cons m l=>
   simp at hk
   obtain⟨v,vs,hv,hx,dM⟩:=RL.aX (x:=e.2.2) (xs:=es.map (·.2.2)) hR
   obtain⟨jS,rfl⟩:=hv
   simp only[eR]at h
   simp only[Instr.findNow,hk.1.1]
   split at h
   ·rename_i e1
    rw[e1]
    grind
   ·rename_i e1;rw[e1];exact Cz (i+1) hk.2 dM h
   grind
section
variable {P:Program}[Glob P]{M:Mem}{w0:Base}{w:World}{σ:Store}
theorem run_checkKey{b:Bool}{n:Nat}{q:TI}{kd:TypeDesc}{kt:TypeId}{v:Value}(hp:kZ q=some kd)(hk:P.underlying kt=some kd):(Instr.checkKey b (n+1) kt v).run P w= .ok () w:=by
 unfold kZ at hp
 split at hp
 ·cases hp;cases v<;>simp[Instr.checkKey,aW hk]
 ·cases hp;cases v<;>simp[Instr.checkKey,aW hk]
 grind
theorem Inv.qp{tg b k:Nat}{es:List (Value×Nat×AV)}(hI:Inv P M w0 σ w)(hb:aV σ tg=some (b,.map es k)):
  (∀ o,M b o=none)∧∃ l:List MapEntry,w.heap[b]? =some (.map l.toArray k)∧l.map (fun e=>(e.key,e.born))=es.map (fun e=>(e.1,e.2.1))∧RL M (es.map (·.2.2)) (l.map (·.val)):=(hI.st _ (s8 hb)).2
theorem Lw(tag:Nat){t ty:TypeId}{ti:List TI}:fC P (.makeMap t none) ty ti [] [] σ fun x σ'=>∃ b,x= .bD tag b∧σ'=(tag,b,.map [] 0)::σ:=by
 intro _ M w0 w ρ hI _
 refine⟨.value (.map (some w.heap.size)),w.alloc (.map #[] 0),M,.bD tag w.heap.size,_,_,?_,rfl,Mem.le.refl _,?_,.bD _ _,_,rfl,rfl⟩
 ·rfl
 ·have h':=hI.alloc (.map #[] 0)
  refine⟨h'.os,h'.tape,h'.output,h'.size,h'.old,h'.bL,fun e he=> ?_,?_,h'.gl,h'.gw,h'.bm⟩
  ·rcases ZK.1 he with rfl|he
   ·exact⟨hI.size,hI.GL,[],heap_alloc_new _ _,rfl,RL.nil⟩
   ·exact h'.st e he
  ·simp only[Zv,Yy]
   exact⟨hI.fresh,hI.nd⟩
theorem Lt{tg b bX:Nat}{es:List (Value×Nat×AV)}{t ty kt vt:TypeId}{q:TI}{kd:TypeDesc}{m k x:Operand}{key:Value}{v:AV}(hp:kZ q=some kd)(hl:aV σ tg=some (b,.map es bX))(hf:eR kd key es=some none):
  fC P (.insert t m k x) ty [.mp kt vt,q] [m,k,x] [.bD tg b,.v key,v] σ fun y σ'=>y= .v undef∧σ'=du σ tg b (.map (es++[(key,bX,v)]) (bX+1)):=by
 intro bx M w0 w ρ hI hR
 simp only[ei,Z2,Zn]at bx
 have ht:=tL bx.1
 have hk:P.underlying kt=some kd:=by
  have:=bx.2
  unfold AO at this
  rw[ht]at this
  exact Ec hp this
 obtain⟨v1,cq,e1,h1,bY⟩:=hR.aX
 obtain⟨v2,oP,e2,h2,dM⟩:=bY.aX
 obtain⟨v3,e3,h3⟩:=dM.cJ
 subst e3 e2
 simp at e1
 obtain⟨hM,l,hh,fJ,gu⟩:=hI.qp hl
 have g1:=h1.pN
 have g2:=h2.ay
 subst g1 g2
 have ig:=Gv (M:=M) 0 fJ hf
 let w':World:={w with heap:=w.heap.setIfInBounds b (.map (l++[(⟨v2,v3,bX⟩:MapEntry)]).toArray (bX+1))}
 refine⟨.skip,w',M,.v undef,undef,_,?_,rfl,Mem.le.refl _,?_,.v _,rfl,rfl⟩
 ·have hu:l.toArray.push (⟨v2,v3,bX⟩:MapEntry)=(l++[(⟨v2,v3,bX⟩:MapEntry)]).toArray:=by grind
  simp only[execOp,e1.1,e1.2.1,e1.2.2,Instr.mapUpdate,Sem.run_bind,aW ht,Result.andThen_ok,getObj,Sem.run,hh,run_checkKey hp hk,Instr.findKey,aW hk,ig,Sem.run_pure,setObj,hu]
  rfl
 ·refine hI.yA (y:= .map (es++[(v2,bX,v)]) (bX+1)) hl (fun k hk=> ?_) rfl rfl rfl (by simp[w']) hM ⟨hM,l++[⟨v2,v3,bX⟩],?_,?_,?_⟩
  ·grind
  ·grind
  ·grind
  ·simp
   exact RL.append gu (RL.cons h3 RL.nil)
theorem Lu{tg b bX:Nat}{es:List (Value×Nat×AV)}{t ty kt vt:TypeId}{q:TI}{kd:TypeDesc}{m k:Operand}{key:Value}{v:AV}(hp:kZ q=some kd)(hl:aV σ tg=some (b,.map es bX))(hf:eR kd key es=some (some v)):
  fC P (.lookup t m k false) ty [.mp kt vt,q] [m,k] [.bD tg b,.v key] σ fun y σ'=>y=v∧σ'=σ:=by
 intro bx M w0 w ρ hI hR
 simp only[ei,Z2,Zn]at bx
 have ht:=tL bx.1
 have hk:P.underlying kt=some kd:=by
  have:=bx.2
  unfold AO at this
  rw[ht]at this
  exact Ec hp this
 obtain⟨v1,cq,e1,h1,bY⟩:=hR.aX
 obtain⟨v2,e2,h2⟩:=bY.cJ
 subst e2
 simp at e1
 obtain⟨hM,l,hh,fJ,gu⟩:=hI.qp hl
 have g1:=h1.pN
 have g2:=h2.ay
 subst g1 g2
 obtain⟨j,u,ig,hu⟩:=Cz (M:=M) 0 fJ gu hf
 refine⟨.value u,w,M,v,u,σ,?_,rfl,Mem.le.refl _,hI,hu,rfl,rfl⟩
 simp only[execOp,e1.1,e1.2,Instr.lookup,Sem.run_bind,aW ht,Result.andThen_ok,getObj,Sem.run,hh,run_checkKey hp hk,Instr.findKey,aW hk,ig,Sem.run_pure]
 rfl
end
section
variable {P:Program}[Glob P]{N:Nat}{cfg:Nat→Nat}{Q:Exit→ag→Store→Prop}{K:ag→Store→Prop}{E:List PanicEntry→Store→Prop}{rg:ag}{σ σ':Store}{l:List CI}{d:Nat}{v:AV}{xr cL:XR}{ps:List Prop}
 {al cf:List Nat} {ix:Nat} {ld:List CD} {g:Option (Nat×Bool)} {og:Option Bool} {as:List AV} {args:List Operand} {op:Op} {ty:TypeId} {ti:List TI}
theorem rN(h:aS xr none args=some (og,as,ps)):og=none:=by
 unfold aS gX at h
 obtain⟨bE,h',_,_⟩:=iT h
 split at h'<;>cases h';rfl
theorem yV{r:AV}(h:aS xr g args=some (og,as,ps))(hp:og.getD true=true→jC P op ty ti args as r)(hps:OB ps)(k:VX P cfg l K E (bH og d r xr) σ):VX P cfg (⟨some d,.cu op ty ti args,g⟩::l) K E xr σ:=by
 obtain⟨hc,he⟩:=cM h
 refine jD hc (fun hg=> ?_) (fun hg=> ?_)
 ·simp only[aj,he hps hg]
  refine((hp hg).sp σ).mono fun x σ' ⟨e1,e2⟩=> ?_
  subst e1 e2;rw[← fx hg];exact k.h
 ·rw[← fw hg (v:=r)];exact k.h
theorem BU{r:AV}(h:aS xr g args=some (og,as,ps))(hp:og.getD true=true→jC P op ty ti args as r)(hps:OB ps)(k:VY P cfg al ld K (bH og d r xr) σ):VY P cfg al (⟨ix,⟨some d,.cu op ty ti args,g⟩,cf⟩::ld) K xr σ:=by
 obtain⟨hc,he⟩:=cM h
 refine oV hc (fun hg=> ?_) (fun hg=> ?_)
 ·simp only[cy,ax.cls,aK,he hps hg]
  have:=k.h;rw[fx hg]at this;grind
 ·rw[← fw hg (v:=r)];exact k.h
theorem UA{t:TypeId}{x:Operand}{lo hi:Option Operand}{s:ByteArray}{a b:Int}(h:aS xr g args=some (og,as,ps))(he:args=x::(lo.toList++hi.toList))(hs:vW lo hi as=some (s,a,b))(hps:OB ps)
  (hb:og.getD true=true→0≤a∧a≤b∧b≤s.size) (k:VX P cfg l K E (bH og d (.v (.string (s.extract a.toNat b.toNat))) xr) σ):VX P cfg (⟨some d,.cu (.slice t x lo hi none) ty [.str] args,g⟩::l) K E xr σ:=
 yV h (fun hg=>by subst he;exact Fp hs (hb hg)) hps k
theorem U2{t:TypeId}{x:Operand}{lo hi:Option Operand}{s:ByteArray}{a b:Int}(h:aS xr g args=some (og,as,ps))(he:args=x::(lo.toList++hi.toList))(hs:vW lo hi as=some (s,a,b))(hps:OB ps)
  (hb:og.getD true=true→0≤a∧a≤b∧b≤s.size) (k:VY P cfg al ld K (bH og d (.v (.string (s.extract a.toNat b.toNat))) xr) σ):VY P cfg al (⟨ix,⟨some d,.cu (.slice t x lo hi none) ty [.str] args,g⟩,cf⟩::ld) K xr σ:=
 BU h (fun hg=>by subst he;exact Fp hs (hb hg)) hps k
def qP:AV→Bool
 | .v (.string _)=>false
 |_=>true
theorem D1(h:qP v=true):¬∃ s,v= .v (.string s):=fun⟨s,e⟩=>by subst e;cases h
theorem Ue{src dst e:TypeId}{x:Operand}{q:TI}{rows:List (List AV)}{ns:List Int}(h:aS xr g [x]=some (og,[v],ps))(hv:dG 1 v=some rows)(hn:qP v=true)(hu:kJ rows=some ns)(hps:OB ps)
  (k:VX P cfg l K E (bH og d (.v (.string (lL ns))) xr) σ):VX P cfg (⟨some d,.cu (.convert src dst x) ty [.sl e,.int .u8,.str,q] [x],g⟩::l) K E xr σ:=
 yV h (fun _=>yP hv (D1 hn) hu) hps k
theorem UM{src dst e:TypeId}{x:Operand}{q:TI}{rows:List (List AV)}{ns:List Int}(h:aS xr g [x]=some (og,[v],ps))(hv:dG 1 v=some rows)(hn:qP v=true)(hu:kJ rows=some ns)(hps:OB ps)
  (k:VY P cfg al ld K (bH og d (.v (.string (lL ns))) xr) σ):VY P cfg al (⟨ix,⟨some d,.cu (.convert src dst x) ty [.sl e,.int .u8,.str,q] [x],g⟩,cf⟩::ld) K xr σ:=
 BU h (fun _=>yP hv (D1 hn) hu) hps k
theorem Ud{src dst e:TypeId}{x:Operand}{q:TI}{ls:List UInt8}(h:aS xr g [x]=some (og,[v],ps))(hv:dG 1 v=some (ls.map dD))(hn:qP v=true)(hps:OB ps)
  (k:VX P cfg l K E (bH og d (.v (.string ⟨ls.toArray⟩)) xr) σ):VX P cfg (⟨some d,.cu (.convert src dst x) ty [.sl e,.int .u8,.str,q] [x],g⟩::l) K E xr σ:=
 yV h (fun _=>by have:=yP (P:=P) (src:=src) (dst:=dst) (e:=e) (ty:=ty) (x:=x) (q:=q) hv (D1 hn) (KO ls);rwa [Mf]at this) hps k
theorem UL{src dst e:TypeId}{x:Operand}{q:TI}{ls:List UInt8}(h:aS xr g [x]=some (og,[v],ps))(hv:dG 1 v=some (ls.map dD))(hn:qP v=true)(hps:OB ps)
  (k:VY P cfg al ld K (bH og d (.v (.string ⟨ls.toArray⟩)) xr) σ):VY P cfg al (⟨ix,⟨some d,.cu (.convert src dst x) ty [.sl e,.int .u8,.str,q] [x],g⟩,cf⟩::ld) K xr σ:=
 BU h (fun _=>by have:=yP (P:=P) (src:=src) (dst:=dst) (e:=e) (ty:=ty) (x:=x) (q:=q) hv (D1 hn) (KO ls);rwa [Mf]at this) hps k
theorem Uf{src dst e:TypeId}{x:Operand}{q:TI}{s:ByteArray}(h:aS xr g [x]=some (og,[.v (.string s)],ps))(hps:OB ps)(hb:og.getD true=true→s.size≤9223372036854775806)
  (k:VX P cfg l K E (bH og d (.sl true 1 (s.data.toList.map dD)) xr) σ):VX P cfg (⟨some d,.cu (.convert src dst x) ty [.str,q,.sl e,.int .u8] [x],g⟩::l) K E xr σ:=
 yV h (fun hg=>Fo (hb hg)) hps k
theorem UN{src dst e:TypeId}{x:Operand}{q:TI}{s:ByteArray}(h:aS xr g [x]=some (og,[.v (.string s)],ps))(hps:OB ps)(hb:og.getD true=true→s.size≤9223372036854775806)
  (k:VY P cfg al ld K (bH og d (.sl true 1 (s.data.toList.map dD)) xr) σ):VY P cfg al (⟨ix,⟨some d,.cu (.convert src dst x) ty [.str,q,.sl e,.int .u8] [x],g⟩,cf⟩::ld) K xr σ:=
 BU h (fun hg=>Fo (hb hg)) hps k
def iL(s:ByteArray)(i:Nat):UInt8:=s.data.toList.getD i 0
theorem Uk{x i:Operand}{s:ByteArray}{iv:AV}{n:Int}(h:aS xr g [x,i]=some (og,[.v (.string s),iv],ps))(hi:iz iv=some n)(hps:OB ps)(hb:og.getD true=true→0≤n∧n<s.size)
  (k:VX P cfg l K E (bH og d (.v (.int .u8 (iL s n.toNat).toNat)) xr) σ):VX P cfg (⟨some d,.idxs x i,g⟩::l) K E xr σ:=by
 obtain⟨hc,he⟩:=cM h
 refine jD hc (fun hg=> ?_) (fun hg=> ?_)
 ·have:=he hps hg
  simp only[aL,Z2,Zn]at this
  obtain⟨q,hq⟩:=qI hi
  simp only[aj,this.1,this.2,hq]
  have aw:=hb hg
  have hk:=k.h
  rw[fx hg]at hk
  have e:iL s n.toNat=s[n.toNat]'(by omega):=by
   have h2:n.toNat<s.data.toList.length:=by simp_all
   simp only[iL,Z3,Z1 h2,Zp]
   rfl
  grind
 ·rw[← fw hg (v:= .v (.int .u8 (iL s n.toNat).toNat))];exact k.h
theorem UU{x i:Operand}{s:ByteArray}{iv:AV}{n:Int}(h:aS xr g [x,i]=some (og,[.v (.string s),iv],ps))(hi:iz iv=some n)(hps:OB ps)(hb:og.getD true=true→0≤n∧n<s.size)
  (k:VY P cfg al ld K (bH og d (.v (.int .u8 (iL s n.toNat).toNat)) xr) σ):VY P cfg al (⟨ix,⟨some d,.idxs x i,g⟩,cf⟩::ld) K xr σ:=by
 obtain⟨hc,he⟩:=cM h
 refine oV hc (fun hg=> ?_) (fun hg=> ?_)
 ·have:=he hps hg
  simp only[aL,Z2,Zn]at this
  obtain⟨q,hq⟩:=qI hi
  simp only[cy,ax.cls,aK,aj,this.1,this.2,hq]
  have aw:=hb hg
  have hk:=k.h
  rw[fx hg]at hk
  have e:iL s n.toNat=s[n.toNat]'(by omega):=by
   have h2:n.toNat<s.data.toList.length:=by simp_all
   simp only[iL,Z3,Z1 h2,Zp]
   rfl
  grind
 ·rw[← fw hg (v:= .v (.int .u8 (iL s n.toNat).toNat))];exact k.h
theorem Ur{t:TypeId}(k:∀ b,VX P cfg l K E ((d,.s (.bD d b))::xr) ((d,b,.map [] 0)::σ)):VX P cfg (⟨some d,.exts (.makeMap t none) ty ti [],none⟩::l) K E xr σ:=by
 constructor
 refine(Lw d).mono fun x σ' ⟨b,e1,e2⟩=> ?_
 subst e1 e2
 exact(k b).h
theorem Ul{t kt vt:TypeId}{q:TI}{kd:TypeDesc}{m k x:Operand}{tg b b' bX:Nat}{es:List (Value×Nat×AV)}{key:Value}(h:aS xr none [m,k,x]=some (og,[.bD tg b,.v key,v],ps))(hp:kZ q=some kd)(hl:aV σ tg=some (b',.map es bX))(hb:b=b')
  (hf:eR kd key es=some none) (hu:tP σ tg b (.map (es++[(key,bX,v)]) (bX+1))=some σ') (hps:OB ps) (kk:VX P cfg l K E xr σ'):VX P cfg (⟨none,.exts (.insert t m k x) ty [.mp kt vt,q] [m,k,x],none⟩::l) K E xr σ:=by
 obtain⟨hc,he⟩:=cM h
 have dy:=rN h
 subst dy
 subst hb
 constructor
 simp only[fh,cK,aj,he hps rfl]
 refine(Lt hp hl hf).mono fun y s ⟨e1,e2⟩=> ?_
 rw[Bt hu]at e2
 subst e1 e2
 exact kk.h
theorem Uo{t kt vt:TypeId}{q:TI}{kd:TypeDesc}{m k:Operand}{tg b b' bX:Nat}{es:List (Value×Nat×AV)}{key:Value}(h:aS xr none [m,k]=some (og,[.bD tg b,.v key],ps))(hp:kZ q=some kd)(hl:aV σ tg=some (b',.map es bX))(hb:b=b')
  (hf:eR kd key es=some (some v)) (hps:OB ps) (kk:VX P cfg l K E ((d,.s v)::xr) σ):VX P cfg (⟨some d,.cu (.lookup t m k false) ty [.mp kt vt,q] [m,k],none⟩::l) K E xr σ:=by
 obtain⟨hc,he⟩:=cM h
 have dy:=rN h
 subst dy
 subst hb
 constructor
 simp only[fh,cK,aj,he hps rfl]
 refine(Lu hp hl hf).mono fun y s ⟨e1,e2⟩=> ?_
 subst e1 e2
 exact kk.h
theorem LP{f:FuncId}{r:AV}{fo:Operand}{a c:List AV}(h:aS xr g (fo::args)=some (og,.cl f a c::as,ps))(bC:gR P f=true)(hp:og.getD true=true→Pure P f (a++as++c) r)(hps:OB ps)(k:VX P cfg l K E (bH og d r xr) σ):
  VX P cfg (⟨some d,.fD fo args,g⟩::l) K E xr σ:=by
 obtain⟨hc,he⟩:=cM h
 refine jD hc (fun hg=> ?_) (fun hg=> ?_)
 ·have:=he hps hg
  simp only[aL,Z2]at this
  simp only[aj,this.1,this.2]
  refine⟨bC,wS (hp hg) ?_⟩
  rw[← fx hg];exact k.h
 ·rw[← fw hg (v:=r)];exact k.h
theorem BT{f:FuncId}{r:AV}{fo:Operand}{a c:List AV}(h:aS xr g (fo::args)=some (og,.cl f a c::as,ps))(bC:gR P f=true)(hp:og.getD true=true→Pure P f (a++as++c) r)(hps:OB ps)(k:VY P cfg al ld K (bH og d r xr) σ):
  VY P cfg al (⟨ix,⟨some d,.fD fo args,g⟩,cf⟩::ld) K xr σ:=by
 obtain⟨hc,he⟩:=cM h
 refine oV hc (fun hg=> ?_) (fun hg=> ?_)
 ·have:=he hps hg
  simp only[aL,Z2]at this
  simp only[cy,ax.cls,aK,this.1,this.2]
  refine⟨bC,r,hp hg,?_⟩
  have:=k.h;rw[fx hg]at this;grind
 ·rw[← fw hg (v:=r)];exact k.h
end
end Go.Sx
