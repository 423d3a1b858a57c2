import Derived.Test.YtmemninechdogaaGreatDoorSxSt
set_option linter.all false
namespace Go.Sx
open Go.RowKit
theorem RL.cR{M:Mem}{x:AV}{vs:List Value}(h:RL M [x] vs):∃v,vs=[v]/\R M x v:=by obtain⟨v,vs',rfl,h1,h2⟩:=h.aZ;exact⟨v,by rw[h2.qD],h1⟩
def K1(lo hi:Option Operand)(as:List AV):Option (ByteArray×Int×Int):=
 match lo,hi,as with
 |none,none,[.v (.string s)]=>some (s,0,s.size)|some _,none,[.v (.string s),.v (.int _ a)]=>some (s,a,s.size)|none,some _,[.v (.string s),.v (.int _ b)]=>some (s,0,b)|some _,some _,[.v (.string s),.v (.int _ a),.v (.int _ b)]=>some (s,a,b)|_,_,_=>none
def lE:List (List AV)->Option (List Int)
 |[]=>some []|[.v (.int .u8 n)]::l=>(lE l).map (n::·)|_=>none
def mC(ns:List Int):ByteArray:=⟨(ns.map fun n=>UInt8.ofNat n.toNat).toArray⟩
section
variable {P:Program}[Glob P]{M:Mem}{w0:Base}{w:World}{z:Store}
theorem Vh{t ty:TypeId}{x:Operand}{lo hi:Option Operand}{as:List AV}{s:ByteArray}{a b:Int}(h:K1 lo hi as=some (s,a,b))(hb:0<=a/\a<=b/\b<=s.size):
  jU P (.slice t x lo hi none) ty [.str] (x::(lo.toList++hi.toList)) as (.v (.string (s.extract a.toNat b.toNat))):=⟨fun z bu M w0 w p hI hR=>by
 have ht:P.underlying t=some .string:=by simp only[ey,Z2,Zn]at bu;exact Fu bu
 refine⟨.value (.string (s.extract a.toNat b.toNat)),w,M,.v (.string (s.extract a.toNat b.toNat)),.string (s.extract a.toNat b.toNat),z,?_,rfl,Mem.le.refl _,hI,.v _,rfl,rfl⟩;unfold K1 at h;split at h<;>cases h
 .obtain⟨v,hv,hx⟩:=hR.cR;simp at hv;simp[execOp,Instr.sliceAt,aX ht,Instr.slice,Instr.sliceBounds,hv,hx.aC]
 .obtain⟨v,vs,hv,hx,ef⟩:=hR.aZ;obtain⟨v2,iw,eu⟩:=ef.cR;subst iw;simp only[Option.toList_none,Option.toList_some,Y5,Zz,YJ,Z2,Zn]at hv;have e1:=hx.aC;have e2:=eu.aC;have h1:(0:Int)<=a/\a<=(s.size:Int):=⟨hb.1,hb.2.1⟩
  simp[execOp,Instr.sliceAt,aX ht,Instr.slice,Instr.sliceBounds,Instr.sliceBound,asIntOf,hv.1,hv.2,e1,e2,h1]
 .obtain⟨v,vs,hv,hx,ef⟩:=hR.aZ;obtain⟨v2,iw,eu⟩:=ef.cR;subst iw;simp only[Option.toList_none,Option.toList_some,Zf,Zz,YJ,Z2,Zn]at hv;have e1:=hx.aC;have e2:=eu.aC;have h1:(0:Int)<=b/\b<=(s.size:Int):=⟨hb.2.1,hb.2.2⟩
  simp[execOp,Instr.sliceAt,aX ht,Instr.slice,Instr.sliceBounds,Instr.sliceBound,asIntOf,hv.1,hv.2,e1,e2,h1]
 .obtain⟨v,vs,hv,hx,ef⟩:=hR.aZ;obtain⟨v2,qG,iw,eu,hR3⟩:=ef.aZ;obtain⟨v3,qi,iy⟩:=hR3.cR;subst qi;subst iw;simp only[Option.toList_some,ZB,Zf,Zz,YJ,Z2,Zn]at hv;have e1:=hx.aC;have e2:=eu.aC;have e3:=iy.aC;have h1:(0:Int)<=b/\b<=(s.size:Int):=⟨by omega,hb.2.2⟩
  have h2:(0:Int)<=a/\a<=(b.toNat:Int):=⟨hb.1,by omega⟩
  simp[execOp,Instr.sliceAt,aX ht,Instr.slice,Instr.sliceBounds,Instr.sliceBound,asIntOf,hv.1,hv.2.1,hv.2.2,e1,e2,e3,h1,h2]
  grind⟩
theorem T6{M:Mem}:∀{rows:List (List AV)} {ns:List Int} {L:List Value},lE rows=some ns->RL M rows.flatten L->L=ns.map (.int .u8)
 |[],ns,L,h,hR=>by cases h;exact hR.qD|r::rows,ns,L,h,hR=>by
  unfold lE at h;split at h
  .grind
  .rename_i n l he;cases he;obtain⟨ns',h1,rfl⟩:=Z8.1 h;obtain⟨v,vs,rfl,hx,ef⟩:=RL.aZ (x:=.v (.int .u8 n)) (xs:=rows.flatten) hR;rw[hx.aC,T6 h1 ef];rfl
  grind
theorem aaP(ns:List Int):ns.foldl (fun r n=>r.push (UInt8.ofNat n.toNat)) ByteArray.empty=mC ns:=by
 have:∀(ns:List Int) (s:ByteArray),ns.foldl (fun r n=>r.push (UInt8.ofNat n.toNat)) s=⟨s.data++(ns.map fun n=>UInt8.ofNat n.toNat).toArray⟩:=by
  intro ns
  induction ns with
  |nil=>simp_all|cons n ns ih=>simp_all
 simp only[mC];simp_all
theorem zg{src dst e ty:TypeId}{x:Operand}{v:AV}{rows:List (List AV)}{ns:List Int}{q:TI}(hv:dH 1 v=some rows)(rB:¬∃s,v= .v (.string s))(hn:lE rows=some ns):
  jU P (.convert src dst x) ty [.sl e,.int .u8,.str,q] [x] [v] (.v (.string (mC ns))):=⟨fun z bu M w0 w p hI hR=>by
 simp only[ey,Z2,Zn]at bu;have hs:=wM bu.1;have he:P.underlying e=some (.int .u8):=by have:=bu.2.1;unfold zH at this;rw[hs]at this;exact Li this
 have hd:=Fu bu.2.2.1;obtain⟨u,hu,hx⟩:=hR.cR;simp at hu;obtain⟨base,cap,L,rfl,hL,_,cY⟩:=EX (P:=P) hI hx hv rB;have gE:=T6 hn hL;subst gE;refine⟨.value (.string (mC ns)),w,M,.v (.string (mC ns)),.string (mC ns),z,?_,rfl,Mem.le.refl _,hI,.v _,rfl,rfl⟩;have hc:=run_convert_bytes_string (P:=P) w src dst e base rows.length cap hs he hd;simp only[execOp,hu,Sem.run_bind,hc];cases base with
 |none=>
  simp only[Builtin.firstCells,Sem.run_pure,Result.ok.injEq,Zn]at cY;have:ns=[]:=by simp_all
  subst this;rfl
 |some a=>
  simp only[Builtin.firstCells,Yt]at cY;rw[run_bytesToString w a rows.length cap ns cY,aaP]
  simp_all⟩
theorem Lm:∀(ls:List UInt8),lE (ls.map dB)=some (ls.map fun b=>(b.toNat:Int))
 |[]=>rfl|b::ls=>by show(lE (ls.map dB)).map ((b.toNat:Int)::·)=_;rw[Lm ls];rfl
theorem MG(ls:List UInt8):mC (ls.map fun b=>(b.toNat:Int))=⟨ls.toArray⟩:=by
 simp only[mC,Yu]
 congr 2
 conv=>rhs;rw[<-List.map_id ls]
 apply List.map_congr_left;simp_all
theorem Inv.ah5(hI:Inv P M w0 z w){w':World}(e1:w'.os=w.os)(e2:w'.tape=w.tape)(e3:w'.output=w.output)(hs:w.heap.size<=w'.heap.size)(hold:∀k,k<w.heap.size->w'.heap[k]? =w.heap[k]?)(cs:List Value)
  (hc:∀o v,cs[o]? =some v->w'.cell? ⟨w.heap.size,o,none⟩=some v):Inv P (M.add w.heap.size cs.length cs) w0 z w':=by
 have hle:=hI.nN cs.length cs;refine⟨e1.trans hI.os,e2.trans hI.tape,e3.trans hI.output,ZD hI.size hs,fun k hk=>(hold k (Yz hk hI.size)).trans (hI.old k hk),fun b o v hv=>?_,fun e he=>⟨(hI.st e he).1,?_⟩,hI.nd,fun g l e=>(hI.gl g l e).mono hle,hI.gw,fun b o v hv az=>hI.bm b o v (by simp only[Mem.add]at hv;rwa [Z9 (by have:=hI.size;omega)]at hv) az⟩
 .simp only[Mem.add]at hv;split at hv
  .grind
  .have h1:=hI.bZ b o v hv;have hb:b<w.heap.size:=by simpa using World.block_lt_of_cell? _ _ h1
   rw[<-h1];simp only[World.cell?,hold b hb]
 .obtain⟨tg,b,x⟩:=e;have hk:=(hI.st _ he).2;have az:b<w.heap.size:=hI.ub he;have aW:b≠w.heap.size:=by omega
  have fO:=hk.heap (hold b az);cases x with
  |cells l=>obtain⟨h1,cs',t',h2,h3⟩:=fO;exact⟨fun o=>by simp[Mem.add,aW,h1 o],cs',t',h2,h3.mono hle⟩
  |tail u' c=>obtain⟨h1,cs',t',h2,h3⟩:=fO;exact⟨fun o ho=>by simp[Mem.add,aW,h1 o ho],cs',t',h2,h3⟩
  |map es k=>obtain⟨h1,l,h2,h3,h4⟩:=fO;exact⟨fun o=>by simp[Mem.add,aW,h1 o],l,h2,h3,h4.mono hle⟩
theorem Vd{t e ty:TypeId}{x h0 m0:Operand}{nn:Bool}{ah:Nat}{rows:List (List AV)}{h:Nat}{k k':IntKind}(h1:0<h)(h2:h<=rows.length):
  jU P (.slice t x none (some h0) (some m0)) ty [.sl e,.sz ah] [x,h0,m0] [.sl nn ah rows,.v (.int k (h:Int)),.v (.int k' (h:Int))] (.fl ah (rows.take h)):=⟨fun z bu M w0 w p hI hR=>by
 simp only[ey,Z2,Zn]at bu;have ht:=wM bu.1;have hz:∀w,(sizeOf e).run P w= .ok ah w:=fun w=>by
  have:=bu.2;unfold BI at this;rw[ht]at this;simp only at this;split at this
  .rename_i i hi;cases this;simp[sizeOf,typeInfo,hi]
  grind
 obtain⟨v1,cB,e1,kU,bV⟩:=hR.aZ;obtain⟨v2,qG,e2,eu,ef⟩:=bV.aZ;obtain⟨v3,e3,iy⟩:=ef.cR;subst e3 e2;simp only[Zz,YJ,Z2,Zn]at e1;have g2:=eu.aC;have g3:=iy.aC;subst g2 g3;cases kU<;>(try cases hX)
 .grind
 .rename_i b off cap cs hc hm bl hM Dt;refine⟨.value (.slice (some ⟨b,off,none⟩) h h),w,M,.fl ah (rows.take h),.slice (some ⟨b,off,none⟩) h h,z,?_,rfl,Mem.le.refl _,hI,?_,rfl,rfl⟩
  .have c1:h<=cap:=by omega
   have c2:¬h=0:=by omega
   simp[execOp,Instr.sliceAt,aX ht,Instr.slice,Instr.sliceBounds,Instr.sliceBound,asIntOf,e1,hz,c1,c2,Addr.add]
  .have hl:(rows.take h).length=h:=by grind
   have:=R.fl (M:=M) ah (rows.take h) b off cs (fun i hi=>by grind) (fun k hk=>hM k (by rw[hl]at hk;exact Yz hk (Y4 _ h2))) (fun i hi j hj=>by
    grind) (by omega)
   grind⟩
theorem Vg{t e ty:TypeId}{x h0 m0:Operand}{ah:Nat}{k k':IntKind}:
  jU P (.slice t x none (some h0) (some m0)) ty [.sl e,.sz ah] [x,h0,m0] [.v (.slice none 0 0),.v (.int k 0),.v (.int k' 0)] (.v (.slice none 0 0)):=⟨fun z bu M w0 w p hI hR=>by
 simp only[ey,Z2,Zn]at bu;have ht:=wM bu.1;have hz:∀w,(sizeOf e).run P w= .ok ah w:=fun w=>by
  have:=bu.2;unfold BI at this;rw[ht]at this;simp only at this;split at this
  .rename_i i hi;cases this;simp[sizeOf,typeInfo,hi]
  grind
 obtain⟨v1,cB,e1,kU,bV⟩:=hR.aZ;obtain⟨v2,qG,e2,eu,ef⟩:=bV.aZ;obtain⟨v3,e3,iy⟩:=ef.cR;subst e3 e2;simp at e1;have g1:=kU.aC;have g2:=eu.aC;have g3:=iy.aC;subst g1 g2 g3;refine⟨.value (.slice none 0 0),w,M,.v (.slice none 0 0),.slice none 0 0,z,?_,rfl,Mem.le.refl _,hI,.v _,rfl,rfl⟩
 simp[execOp,Instr.sliceAt,aX ht,Instr.slice,Instr.sliceBounds,Instr.sliceBound,asIntOf,e1,hz]⟩
theorem Vf{t e ty:TypeId}{x l0 h0 m0:Operand}{nn:Bool}{ah:Nat}{rows:List (List AV)}{l h:Nat}{k k' Ee:IntKind}(h1:l<h)(h2:h<=rows.length):
  jU P (.slice t x (some l0) (some h0) (some m0)) ty [.sl e,.sz ah] [x,l0,h0,m0] [.sl nn ah rows,.v (.int Ee (l:Int)),.v (.int k (h:Int)),.v (.int k' (h:Int))] (.sl true ah ((rows.take h).drop l)):=⟨fun z bu M w0 w p hI hR=>by
 simp only[ey,Z2,Zn]at bu;have ht:=wM bu.1;have hz:∀w,(sizeOf e).run P w= .ok ah w:=fun w=>by
  have:=bu.2;unfold BI at this;rw[ht]at this;simp only at this;split at this
  .rename_i i hi;cases this;simp[sizeOf,typeInfo,hi]
  grind
 obtain⟨v1,cB,e1,kU,bV⟩:=hR.aZ;obtain⟨v0,Uy,e0,tS,gO⟩:=bV.aZ;obtain⟨v2,qG,e2,eu,ef⟩:=gO.aZ;obtain⟨v3,e3,iy⟩:=ef.cR;subst e3 e2 e0;simp only[Zz,YJ,Z2,Zn]at e1;have g0:=tS.aC;have g2:=eu.aC;have g3:=iy.aC;subst g0 g2 g3;generalize hX:AV.sl nn ah rows=X at kU;cases kU<;>(try cases hX)
 .grind
 .rename_i b off cap cs hc hm bl hM Dt;refine⟨.value (.slice (some ⟨b,off+l*ah,none⟩) (h-l) (h-l)),w,M,.sl true ah ((rows.take h).drop l),.slice (some ⟨b,off+l*ah,none⟩) (h-l) (h-l),z,?_,rfl,Mem.le.refl _,hI,?_,rfl,rfl⟩
  .have c1:h<=cap:=by omega
   have c2:¬h=l:=by omega
   have c3:l<=h:=by omega
   simp[execOp,Instr.sliceAt,aX ht,Instr.slice,Instr.sliceBounds,Instr.sliceBound,asIntOf,e1,hz,c1,c2,c3,Addr.add]
  .have hl:((rows.take h).drop l).length=h-l:=by grind
   have hg:∀i (hi:i<((rows.take h).drop l).length),((rows.take h).drop l)[i]=rows[l+i]'(by omega):=fun i hi=>by grind
   have:=R.sl (M:=M) true ah ((rows.take h).drop l) b (off+l*ah) (h-l) (fun k=>cs (l*ah+k)) (fun i hi=>by grind) (fun k hk=>by
     rw[XK];refine hM _ ?_;rw[hl]at hk;have:l*ah+(h-l)*ah<=rows.length*ah:=by rw[<-YG];exact Y4 _ (by omega)
     omega) (fun i hi j hj=>by
    have dU:j<(rows[l+i]'(by omega)).length:=by rw[hg i hi]at hj;exact hj
    have:=Dt (l+i) (by omega) j dU;rw[YG,XK]at this
    simpa[hg i hi]using this) (by omega) (by omega)
   grind⟩
theorem Ve{t e ty:TypeId}{x l0 h0 m0:Operand}{nn:Bool}{ah:Nat}{rows:List (List AV)}{h:Nat}{k k' Ee:IntKind}(h1:0<rows.length)(h2:h<=rows.length):
  jU P (.slice t x (some l0) (some h0) (some m0)) ty [.sl e,.sz ah] [x,l0,h0,m0] [.sl nn ah rows,.v (.int Ee (h:Int)),.v (.int k (h:Int)),.v (.int k' (h:Int))] (.sl true ah []):=⟨fun z bu M w0 w p hI hR=>by
 simp only[ey,Z2,Zn]at bu;have ht:=wM bu.1;have hz:∀w,(sizeOf e).run P w= .ok ah w:=fun w=>by
  have:=bu.2;unfold BI at this;rw[ht]at this;simp only at this;split at this
  .rename_i i hi;cases this;simp[sizeOf,typeInfo,hi]
  grind
 obtain⟨v1,cB,e1,kU,bV⟩:=hR.aZ;obtain⟨v0,Uy,e0,tS,gO⟩:=bV.aZ;obtain⟨v2,qG,e2,eu,ef⟩:=gO.aZ;obtain⟨v3,e3,iy⟩:=ef.cR;subst e3 e2 e0;simp at e1;have g0:=tS.aC;have g2:=eu.aC;have g3:=iy.aC;subst g0 g2 g3;cases kU<;>(try cases hX)
 .grind
 .rename_i b off cap cs hc hm bl hM Dt;refine⟨.value (.slice (some ⟨b,off,none⟩) 0 0),w,M,.sl true ah [],.slice (some ⟨b,off,none⟩) 0 0,z,?_,rfl,Mem.le.refl _,hI,.nil true ah _ (fun _=>rfl),rfl,rfl⟩;have c1:h<=cap:=by omega
  simp[execOp,Instr.sliceAt,aX ht,Instr.slice,Instr.sliceBounds,Instr.sliceBound,asIntOf,e1,hz,c1,Addr.add]⟩
theorem Gc{src dst e ty:TypeId}{x:Operand}{s:ByteArray}{q:TI}(qe:s.size<=9223372036854775806):jU P (.convert src dst x) ty [.str,q,.sl e,.int .u8] [x] [.v (.string s)] (.sl true 1 (s.data.toList.map dB)):=⟨fun z bu M w0 w p hI hR=>by
 simp only[ey,Z2,Zn]at bu;have hs:=Fu bu.1;have hd:=wM bu.2.2.1;have he:P.underlying e=some (.int .u8):=by have:=bu.2.2.2;unfold zH at this;rw[hd]at this;exact Li this
 obtain⟨u,hu,hx⟩:=hR.cR;simp only[Zz,YJ,Z2,Zn]at hu;have hxv:=hx.aC;subst hxv
 let q0:=Question.appendCap s.size 0 e
 let cap:=q0.cut (w.tape w.drawn q0)
 have tB:cap=s.size+w.tape w.drawn q0%(2^63-s.size):=rfl;have ad3:w.tape w.drawn q0%(2^63-s.size)<2^63-s.size:=Nat.mod_lt _ (by omega)
 let arr:Array Value:=s.data.map (fun b=>Value.int .u8 b.toNat)++Array.replicate (cap-s.size) (.int .u8 0)
 let w1:World:=w.drew.alloc (.cells arr e)
 let w2:World:=w1.freeze ⟨w.heap.size,arr.size,none⟩ 1
 let cs:List Value:=s.data.toList.map (fun b=>Value.int .u8 b.toNat)
 have hlen:cs.length=s.size:=by simp[cs]
 have hfz:∀k,k≠w.heap.size->w2.heap[k]? =w1.heap[k]? :=fun k hk=>by have cN:¬w.heap.size=k:=fun e=>hk e.symm;simp only[w2,World.freeze,Nat.one_ne_zero,YU,XW,Z9 cN]
 have h1:w1.heap[w.heap.size]? =some (.cells arr e):=heap_alloc_new w.drew _;have h2:∃f,w2.heap[w.heap.size]? =some (.cells arr e f):=by simp only[w2,World.freeze,Nat.one_ne_zero,YU,XW,YK,h1,ZJ];grind
 have hold:∀k,k<w.heap.size->w2.heap[k]? =w.heap[k]? :=fun k hk=>(hfz k (by omega)).trans (IQ w.drew _ k hk);have AN:∀o v,cs[o]? =some v->w2.cell? ⟨w.heap.size,o,none⟩=some v:=fun o v hv=>by obtain⟨f,h2⟩:=h2;simp only[World.cell?,h2,Xk,ZT,YU,arr];grind
 have gD:Inv P (M.add w.heap.size cs.length cs) w0 z w2:=Inv.ah5 (w':=w2) hI rfl rfl rfl (by grind) hold cs AN;refine⟨.value (.slice (some ⟨w.heap.size,0,none⟩) s.size cap),w2,_,.sl true 1 (s.data.toList.map dB),_,z,?_,rfl,hI.nN _ _,gD,?_,rfl,rfl⟩
 .have hf:q0.forced=false:=rfl;have tM:w1.shape? w.heap.size=some (e,arr.size):=by simp only[World.shape?,h1]
  simp only[execOp,hu,convert,Sem.run_bind,aX hs,aX hd,aX he,Result.andThen_ok,Conv.stringToBytes,newRow,markStringish];simp[choose,Sem.run,Sem.bind,Bind.bind,Pure.pure,Question.forced,newObj,shape,freeze]
  erw [tM]
  rfl
 .have hr:Rows (M.add w.heap.size cs.length cs) w.heap.size 0 1 (s.data.toList.map dB) (fun k=>cs.getD k undef):=by
   refine Rows.of_flat (fun i hi=>by simp[dB]) ?_ (fun k v hv=>?_)
   .have:∀l:List UInt8,RL (M.add w.heap.size cs.length cs) (l.map dB).flatten (l.map fun b=>Value.int .u8 b.toNat):=by
     intro l
     induction l with
     |nil=>exact RL.nil|cons b l ih=>exact RL.cons (.v _) ih
    grind
   .have hk:k<cs.length:=(ZG.1 hv).1;simp only[Mem.add,YK,ZH];rw[Z3 hk];exact hv
  have:=R.nP (cap:=cap) hr (by simp;omega) (by unfold maxLen;omega) true
  grind⟩
end
def lY:TI->Option TypeDesc
 |.int k=>some (.int k)|.str=>some .string|_=>none
theorem EJ{q:TI}{kd:TypeDesc}{d:Option TypeDesc}(h:lY q=some kd)(ht:jP d=q):d=some kd:=by
 unfold lY at h;split at h
 .cases h;exact Li ht
 .cases h;exact Fu ht
 grind
def fu(kd:TypeDesc)(k:Value):List (Value×Nat×AV)->Option (Option AV)
 |[]=>some none|e::es=>match Instr.sameNow kd k e.1 with
  |some true=>some (some e.2.2)|some false=>fu kd k es|none=>none
theorem Hv{M:Mem}{kd:TypeDesc}{k:Value}:∀{es:List (Value×Nat×AV)} {l:List MapEntry} (i:Nat),l.map (fun e=>(e.key,e.born))=es.map (fun e=>(e.1,e.2.1))->fu kd k es=some none->Instr.findNow kd k l i=some none
 |[],l,i,hk,_=>by
  have:l=[]:=by simp_all
  subst this;rfl
 |e::es,l,i,hk,h=>by
  cases l with
  |nil=>grind|cons m l=>
   simp at hk;simp only[fu]at h;simp only[Instr.findNow,hk.1.1];split at h
   .cases h
   .rename_i e1;rw[e1];exact Hv (M:=M) (i+1) hk.2 h
   grind
theorem C7{M:Mem}{kd:TypeDesc}{k:Value}{x:AV}:∀{es:List (Value×Nat×AV)} {l:List MapEntry} (i:Nat),l.map (fun e=>(e.key,e.born))=es.map (fun e=>(e.1,e.2.1))->RL M (es.map (·.2.2)) (l.map (·.val))->fu kd k es=some (some x)->
  ∃j v,Instr.findNow kd k l i=some (some (j,v))/\R M x v
 |[],l,i,_,_,h=>by cases h|e::es,l,i,hk,hR,h=>by
  cases l with
  |nil=>grind|cons m l=>
   simp at hk;obtain⟨v,vs,hv,hx,ef⟩:=RL.aZ (x:=e.2.2) (xs:=es.map (·.2.2)) hR;obtain⟨jf,rfl⟩:=hv;simp only[fu]at h;simp only[Instr.findNow,hk.1.1];split at h
   .rename_i e1;rw[e1];grind
   .rename_i e1;rw[e1];exact C7 (i+1) hk.2 ef h
   grind
section
variable {P:Program}[Glob P]{M:Mem}{w0:Base}{w:World}{z:Store}
theorem run_checkKey{b:Bool}{n:Nat}{q:TI}{kd:TypeDesc}{kt:TypeId}{v:Value}(hp:lY q=some kd)(hk:P.underlying kt=some kd):(Instr.checkKey b (n+1) kt v).run P w= .ok () w:=by
 unfold lY at hp;split at hp
 .cases hp;cases v<;>simp[Instr.checkKey,aX hk]
 .cases hp;cases v<;>simp[Instr.checkKey,aX hk]
 grind
theorem Inv.rh{tg b k:Nat}{es:List (Value×Nat×AV)}(hI:Inv P M w0 z w)(hb:aV z tg=some (b,.map es k)):
  (∀o,M b o=none)/\∃l:List MapEntry,w.heap[b]? =some (.map l.toArray k)/\l.map (fun e=>(e.key,e.born))=es.map (fun e=>(e.1,e.2.1))/\RL M (es.map (·.2.2)) (l.map (·.val)):=(hI.st _ (ua hb)).2
theorem L8(tag:Nat){t ty:TypeId}{ti:List TI}:fH P (.makeMap t none) ty ti [] [] z fun x af=>∃b,x= .bJ tag b/\af=(tag,b,.map [] 0)::z:=by
 intro _ M w0 w p hI _;refine⟨.value (.map (some w.heap.size)),w.alloc (.map #[] 0),M,.bJ tag w.heap.size,_,_,?_,rfl,Mem.le.refl _,?_,.bJ _ _,_,rfl,rfl⟩
 .rfl
 .have h':=hI.alloc (.map #[] 0);refine⟨h'.os,h'.tape,h'.output,h'.size,h'.old,h'.bZ,fun e he=>?_,?_,h'.gl,h'.gw,h'.bm⟩
  .rcases ZR.1 he with rfl|he
   .exact⟨hI.size,hI.Dd,[],heap_alloc_new _ _,rfl,RL.nil⟩
   .exact h'.st e he
  .simp only[Zz,YQ];exact⟨hI.fresh,hI.nd⟩
theorem L4{tg b ck:Nat}{es:List (Value×Nat×AV)}{t ty kt vt:TypeId}{q:TI}{kd:TypeDesc}{m k x:Operand}{key:Value}{v:AV}(hp:lY q=some kd)(hl:aV z tg=some (b,.map es ck))(hf:fu kd key es=some none):
  fH P (.insert t m k x) ty [.mp kt vt,q] [m,k,x] [.bJ tg b,.v key,v] z fun y af=>y= .v undef/\af=du z tg b (.map (es++[(key,ck,v)]) (ck+1)):=by
 intro bu M w0 w p hI hR;simp only[ey,Z2,Zn]at bu;have ht:=uA bu.1;have hk:P.underlying kt=some kd:=by have:=bu.2;unfold A6 at this;rw[ht]at this;exact EJ hp this
 obtain⟨v1,cB,e1,h1,bV⟩:=hR.aZ;obtain⟨v2,qG,e2,h2,ef⟩:=bV.aZ;obtain⟨v3,e3,h3⟩:=ef.cR;subst e3 e2;simp at e1;obtain⟨hM,l,hh,gi,gU⟩:=hI.rh hl;have g1:=h1.qs;have g2:=h2.aC;subst g1 g2;have jC:=Hv (M:=M) 0 gi hf
 let w':World:={w with heap:=w.heap.setIfInBounds b (.map (l++[(⟨v2,v3,ck⟩:MapEntry)]).toArray (ck+1))}
 refine⟨.skip,w',M,.v undef,undef,_,?_,rfl,Mem.le.refl _,?_,.v _,rfl,rfl⟩
 .have hu:l.toArray.push (⟨v2,v3,ck⟩:MapEntry)=(l++[(⟨v2,v3,ck⟩:MapEntry)]).toArray:=by grind
  simp only[execOp,e1.1,e1.2.1,e1.2.2,Instr.mapUpdate,Sem.run_bind,aX ht,Result.andThen_ok,getObj,Sem.run,hh,run_checkKey hp hk,Instr.findKey,aX hk,jC,Sem.run_pure,setObj,hu];rfl
 .refine hI.yV (y:=.map (es++[(v2,ck,v)]) (ck+1)) hl (fun k hk=>?_) rfl rfl rfl (by simp[w']) hM ⟨hM,l++[⟨v2,v3,ck⟩],?_,?_,?_⟩
  .grind
  .grind
  .grind
  .simp;exact RL.append gU (RL.cons h3 RL.nil)
theorem L5{tg b ck:Nat}{es:List (Value×Nat×AV)}{t ty kt vt:TypeId}{q:TI}{kd:TypeDesc}{m k:Operand}{key:Value}{v:AV}(hp:lY q=some kd)(hl:aV z tg=some (b,.map es ck))(hf:fu kd key es=some (some v)):
  fH P (.lookup t m k false) ty [.mp kt vt,q] [m,k] [.bJ tg b,.v key] z fun y af=>y=v/\af=z:=by
 intro bu M w0 w p hI hR;simp only[ey,Z2,Zn]at bu;have ht:=uA bu.1;have hk:P.underlying kt=some kd:=by have:=bu.2;unfold A6 at this;rw[ht]at this;exact EJ hp this
 obtain⟨v1,cB,e1,h1,bV⟩:=hR.aZ;obtain⟨v2,e2,h2⟩:=bV.cR;subst e2;simp at e1;obtain⟨hM,l,hh,gi,gU⟩:=hI.rh hl;have g1:=h1.qs;have g2:=h2.aC;subst g1 g2;obtain⟨j,u,jC,hu⟩:=C7 (M:=M) 0 gi gU hf;refine⟨.value u,w,M,v,u,z,?_,rfl,Mem.le.refl _,hI,hu,rfl,rfl⟩;simp only[execOp,e1.1,e1.2,Instr.lookup,Sem.run_bind,aX ht,Result.andThen_ok,getObj,Sem.run,hh,run_checkKey hp hk,Instr.findKey,aX hk,jC,Sem.run_pure];rfl
end
section
variable {P:Program}[Glob P]{N:Nat}{cfg:Nat->Nat}{Q:Exit->ag->Store->Prop}{K:ag->Store->Prop}{E:List PanicEntry->Store->Prop}{rg:ag}{z af:Store}{l:List CI}{d:Nat}{v:AV}{xr cP:XR}{ps:List Prop}
 {aq cf:List Nat} {ix:Nat} {ld:List CD} {g:Option (Nat×Bool)} {og:Option Bool} {as:List AV} {args:List Operand} {op:Op} {ty:TypeId} {ti:List TI}
theorem qT(h:wa xr none args=some (og,as,ps)):og=none:=by unfold wa gX at h;obtain⟨bD,h',_,_⟩:=ie h;split at h'<;>cases h';rfl
theorem Cm{r:AV}(h:wa xr g args=some (og,as,ps))(hp:og.getD true=true->jU P op ty ti args as r)(aw:OB ps)(k:VX P cfg l K E (bQ og d r xr) z):VX P cfg (⟨some d,.cL op ty ti args,g⟩::l) K E xr z:=by
 obtain⟨hc,he⟩:=cC h;refine jW hc (fun hg=>?_) (fun hg=>?_)
 .simp only[ak,he aw hg];refine((hp hg).sp z).mono fun x af ⟨e1,e2⟩=>?_;subst e1 e2;rw[<-fU hg];exact k.h
 .rw[<-fT hg (v:=r)];exact k.h
theorem Gq{r:AV}(h:wa xr g args=some (og,as,ps))(hp:og.getD true=true->jU P op ty ti args as r)(aw:OB ps)(k:VY P cfg aq ld K (bQ og d r xr) z):VY P cfg aq (⟨ix,⟨some d,.cL op ty ti args,g⟩,cf⟩::ld) K xr z:=by
 obtain⟨hc,he⟩:=cC h;refine pI hc (fun hg=>?_) (fun hg=>?_)
 .simp only[cy,aB.cls,aM,he aw hg];have:=k.h;rw[fU hg]at this;grind
 .rw[<-fT hg (v:=r)];exact k.h
theorem VX.t6{t:TypeId}{x:Operand}{lo hi:Option Operand}{s:ByteArray}{a b:Int}(aw:OB ps)(hb:og.getD true=true->0<=a/\a<=b/\b<=s.size)(k:VX P cfg l K E (bQ og d (.v (.string (s.extract a.toNat b.toNat))) xr) z)(h:wa xr g args=some (og,as,ps):=by exact rfl)(he:args=x::(lo.toList++hi.toList):=by exact rfl)(hs:K1 lo hi as=some (s,a,b):=by exact rfl):VX P cfg (⟨some d,.cL (.slice t x lo hi none) ty [.str] args,g⟩::l) K E xr z:=
 Cm h (fun hg=>by subst he;exact Vh hs (hb hg)) aw k
theorem VY.t6{t:TypeId}{x:Operand}{lo hi:Option Operand}{s:ByteArray}{a b:Int}(aw:OB ps)(hb:og.getD true=true->0<=a/\a<=b/\b<=s.size)(k:VY P cfg aq ld K (bQ og d (.v (.string (s.extract a.toNat b.toNat))) xr) z)(h:wa xr g args=some (og,as,ps):=by exact rfl)(he:args=x::(lo.toList++hi.toList):=by exact rfl)(hs:K1 lo hi as=some (s,a,b):=by exact rfl):VY P cfg aq (⟨ix,⟨some d,.cL (.slice t x lo hi none) ty [.str] args,g⟩,cf⟩::ld) K xr z:=
 Gq h (fun hg=>by subst he;exact Vh hs (hb hg)) aw k
def rP:AV->Bool
 |.v (.string _)=>false|_=>true
theorem Ew(h:rP v=true):¬∃s,v= .v (.string s):=fun⟨s,e⟩=>by subst e;cases h
theorem VX.r4{src dst e:TypeId}{x:Operand}{q:TI}{rows:List (List AV)}{ns:List Int}(aw:OB ps)(k:VX P cfg l K E (bQ og d (.v (.string (mC ns))) xr) z)(h:wa xr g [x]=some (og,[v],ps):=by exact rfl)(hv:dH 1 v=some rows:=by exact rfl)(hn:rP v=true:=by exact rfl)(hu:lE rows=some ns:=by exact rfl):VX P cfg (⟨some d,.cL (.convert src dst x) ty [.sl e,.int .u8,.str,q] [x],g⟩::l) K E xr z:=
 Cm h (fun _=>zg hv (Ew hn) hu) aw k
theorem VY.r4{src dst e:TypeId}{x:Operand}{q:TI}{rows:List (List AV)}{ns:List Int}(aw:OB ps)(k:VY P cfg aq ld K (bQ og d (.v (.string (mC ns))) xr) z)(h:wa xr g [x]=some (og,[v],ps):=by exact rfl)(hv:dH 1 v=some rows:=by exact rfl)(hn:rP v=true:=by exact rfl)(hu:lE rows=some ns:=by exact rfl):VY P cfg aq (⟨ix,⟨some d,.cL (.convert src dst x) ty [.sl e,.int .u8,.str,q] [x],g⟩,cf⟩::ld) K xr z:=
 Gq h (fun _=>zg hv (Ew hn) hu) aw k
theorem VX.r5{src dst e:TypeId}{x:Operand}{q:TI}{ls:List UInt8}(aw:OB ps)(k:VX P cfg l K E (bQ og d (.v (.string ⟨ls.toArray⟩)) xr) z)(h:wa xr g [x]=some (og,[v],ps):=by exact rfl)(hv:dH 1 v=some (ls.map dB):=by exact rfl)(hn:rP v=true:=by exact rfl):VX P cfg (⟨some d,.cL (.convert src dst x) ty [.sl e,.int .u8,.str,q] [x],g⟩::l) K E xr z:=
 Cm h (fun _=>by have:=zg (P:=P) (src:=src) (dst:=dst) (e:=e) (ty:=ty) (x:=x) (q:=q) hv (Ew hn) (Lm ls);rwa [MG]at this) aw k
theorem VY.r5{src dst e:TypeId}{x:Operand}{q:TI}{ls:List UInt8}(aw:OB ps)(k:VY P cfg aq ld K (bQ og d (.v (.string ⟨ls.toArray⟩)) xr) z)(h:wa xr g [x]=some (og,[v],ps):=by exact rfl)(hv:dH 1 v=some (ls.map dB):=by exact rfl)(hn:rP v=true:=by exact rfl):VY P cfg aq (⟨ix,⟨some d,.cL (.convert src dst x) ty [.sl e,.int .u8,.str,q] [x],g⟩,cf⟩::ld) K xr z:=
 Gq h (fun _=>by have:=zg (P:=P) (src:=src) (dst:=dst) (e:=e) (ty:=ty) (x:=x) (q:=q) hv (Ew hn) (Lm ls);rwa [MG]at this) aw k
theorem VX.t7{src dst e:TypeId}{x:Operand}{q:TI}{s:ByteArray}(aw:OB ps)(hb:og.getD true=true->s.size<=9223372036854775806)(k:VX P cfg l K E (bQ og d (.sl true 1 (s.data.toList.map dB)) xr) z)(h:wa xr g [x]=some (og,[.v (.string s)],ps):=by exact rfl):VX P cfg (⟨some d,.cL (.convert src dst x) ty [.str,q,.sl e,.int .u8] [x],g⟩::l) K E xr z:=
 Cm h (fun hg=>Gc (hb hg)) aw k
theorem VY.t7{src dst e:TypeId}{x:Operand}{q:TI}{s:ByteArray}(aw:OB ps)(hb:og.getD true=true->s.size<=9223372036854775806)(k:VY P cfg aq ld K (bQ og d (.sl true 1 (s.data.toList.map dB)) xr) z)(h:wa xr g [x]=some (og,[.v (.string s)],ps):=by exact rfl):VY P cfg aq (⟨ix,⟨some d,.cL (.convert src dst x) ty [.str,q,.sl e,.int .u8] [x],g⟩,cf⟩::ld) K xr z:=
 Gq h (fun hg=>Gc (hb hg)) aw k
def fA(s:ByteArray)(i:Nat):UInt8:=s.data.toList.getD i 0
theorem VX.t5{x i:Operand}{s:ByteArray}{iv:AV}{n:Int}(aw:OB ps)(hb:og.getD true=true->0<=n/\n<s.size)(k:VX P cfg l K E (bQ og d (.v (.int .u8 (fA s n.toNat).toNat)) xr) z)(h:wa xr g [x,i]=some (og,[.v (.string s),iv],ps):=by exact rfl)(hi:iT iv=some n:=by exact rfl):VX P cfg (⟨some d,.idxs x i,g⟩::l) K E xr z:=by
 obtain⟨hc,he⟩:=cC h;refine jW hc (fun hg=>?_) (fun hg=>?_)
 .have:=he aw hg;simp only[aL,Z2,Zn]at this;obtain⟨q,hq⟩:=rI hi;simp only[ak,this.1,this.2,hq];have az:=hb hg;have hk:=k.h;rw[fU hg]at hk;have e:fA s n.toNat=s[n.toNat]'(by omega):=by
   have h2:n.toNat<s.data.toList.length:=by simp_all
   simp only[fA,Z1,ZX h2,Zm];rfl
  grind
 .rw[<-fT hg (v:=.v (.int .u8 (fA s n.toNat).toNat))];exact k.h
theorem VY.t5{x i:Operand}{s:ByteArray}{iv:AV}{n:Int}(aw:OB ps)(hb:og.getD true=true->0<=n/\n<s.size)(k:VY P cfg aq ld K (bQ og d (.v (.int .u8 (fA s n.toNat).toNat)) xr) z)(h:wa xr g [x,i]=some (og,[.v (.string s),iv],ps):=by exact rfl)(hi:iT iv=some n:=by exact rfl):VY P cfg aq (⟨ix,⟨some d,.idxs x i,g⟩,cf⟩::ld) K xr z:=by
 obtain⟨hc,he⟩:=cC h;refine pI hc (fun hg=>?_) (fun hg=>?_)
 .have:=he aw hg;simp only[aL,Z2,Zn]at this;obtain⟨q,hq⟩:=rI hi;simp only[cy,aB.cls,aM,ak,this.1,this.2,hq];have az:=hb hg;have hk:=k.h;rw[fU hg]at hk;have e:fA s n.toNat=s[n.toNat]'(by omega):=by
   have h2:n.toNat<s.data.toList.length:=by simp_all
   simp only[fA,Z1,ZX h2,Zm];rfl
  grind
 .rw[<-fT hg (v:=.v (.int .u8 (fA s n.toNat).toNat))];exact k.h
theorem VQ{t:TypeId}(k:∀b,VX P cfg l K E ((d,.s (.bJ d b))::xr) ((d,b,.map [] 0)::z)):VX P cfg (⟨some d,.exts (.makeMap t none) ty ti [],none⟩::l) K E xr z:=by constructor;refine(L8 d).mono fun x af ⟨b,e1,e2⟩=>?_;subst e1 e2;exact(k b).h
theorem VX.r6{t kt vt:TypeId}{q:TI}{kd:TypeDesc}{m k x:Operand}{tg b b' ck:Nat}{es:List (Value×Nat×AV)}{key:Value}(aw:OB ps)(kk:VX P cfg l K E xr af)(h:wa xr none [m,k,x]=some (og,[.bJ tg b,.v key,v],ps):=by exact rfl)(hp:lY q=some kd:=by exact rfl)(hl:aV z tg=some (b',.map es ck):=by exact rfl)(hb:b=b':=by exact rfl)(hf:fu kd key es=some none:=by exact rfl)(hu:uD z tg b (.map (es++[(key,ck,v)]) (ck+1))=some af:=by exact rfl):VX P cfg (⟨none,.exts (.insert t m k x) ty [.mp kt vt,q] [m,k,x],none⟩::l) K E xr z:=by obtain⟨hc,he⟩:=cC h;have cO:=qT h;subst cO;subst hb;constructor;simp only[fb,cE,ak,he aw rfl];refine(L4 hp hl hf).mono fun y s ⟨e1,e2⟩=>?_;rw[BO hu]at e2;subst e1 e2;exact kk.h
theorem VX.r7{t kt vt:TypeId}{q:TI}{kd:TypeDesc}{m k:Operand}{tg b b' ck:Nat}{es:List (Value×Nat×AV)}{key:Value}(aw:OB ps)(kk:VX P cfg l K E ((d,.s v)::xr) z)(h:wa xr none [m,k]=some (og,[.bJ tg b,.v key],ps):=by exact rfl)(hp:lY q=some kd:=by exact rfl)(hl:aV z tg=some (b',.map es ck):=by exact rfl)(hb:b=b':=by exact rfl)(hf:fu kd key es=some (some v):=by exact rfl):VX P cfg (⟨some d,.cL (.lookup t m k false) ty [.mp kt vt,q] [m,k],none⟩::l) K E xr z:=by obtain⟨hc,he⟩:=cC h;have cO:=qT h;subst cO;subst hb;constructor;simp only[fb,cE,ak,he aw rfl];refine(L5 hp hl hf).mono fun y s ⟨e1,e2⟩=>?_;subst e1 e2;exact kk.h
theorem Ml{f:FuncId}{r:AV}{fo:Operand}{a c:List AV}(h:wa xr g (fo::args)=some (og,.cl f a c::as,ps))(bL:im P f=true)(hp:og.getD true=true->Pure P f (a++as++c) r)(aw:OB ps)(k:VX P cfg l K E (bQ og d r xr) z):
  VX P cfg (⟨some d,.fZ fo args,g⟩::l) K E xr z:=by
 obtain⟨hc,he⟩:=cC h;refine jW hc (fun hg=>?_) (fun hg=>?_)
 .have:=he aw hg;simp only[aL,Z2]at this;simp only[ak,this.1,this.2];refine⟨bL,xg (hp hg) ?_⟩;rw[<-fU hg];exact k.h
 .rw[<-fT hg (v:=r)];exact k.h
theorem Co{f:FuncId}{r:AV}{fo:Operand}{a c:List AV}(h:wa xr g (fo::args)=some (og,.cl f a c::as,ps))(bL:im P f=true)(hp:og.getD true=true->Pure P f (a++as++c) r)(aw:OB ps)(k:VY P cfg aq ld K (bQ og d r xr) z):
  VY P cfg aq (⟨ix,⟨some d,.fZ fo args,g⟩,cf⟩::ld) K xr z:=by
 obtain⟨hc,he⟩:=cC h;refine pI hc (fun hg=>?_) (fun hg=>?_)
 .have:=he aw hg;simp only[aL,Z2]at this;simp only[cy,aB.cls,aM,this.1,this.2];refine⟨bL,r,hp hg,?_⟩;have:=k.h;rw[fU hg]at this;grind
 .rw[<-fT hg (v:=r)];exact k.h
