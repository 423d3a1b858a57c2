/-
  The layer Sx: strings, conversions, maps, functions with what they hold: the rules.
-/
import Derived.Test.YtomhopcnkicknaaGreatDoorSxSt
import Derived.Laws.BytesString
set_option linter.unusedVariables false
set_option linter.unusedSimpArgs false
set_option linter.unusedSectionVars false
namespace Go.Sx
open Go.RowKit
theorem RL.eJ{M:Mem}{x:AV}{vs:List Value}(h:RL M [x] vs):∃ v,vs=[v]∧R M x v:=by
 obtain⟨v,kh,rfl,h1,h2⟩:=h.bL
 exact⟨v,by rw[h2.nR],h1⟩
def wN(lo hi:Option Operand)(as:List AV):Option (ByteArray×Int×Int):=
 match lo,hi,as with
 |none,none,[.v (.string s)]=>some (s,0,s.size)
 |some _,none,[.v (.string s),.v (.int _ a)]=>some (s,a,s.size)
 |none,some _,[.v (.string s),.v (.int _ b)]=>some (s,0,b)
 |some _,some _,[.v (.string s),.v (.int _ a),.v (.int _ b)]=>some (s,a,b)
 |_,_,_=>none
def o7:List (List AV)→Option (List Int)
 |[]=>some []
 |[.v (.int .u8 n)]::l=>(o7 l).map (n::·)
 |_=>none
def kB(ns:List Int):ByteArray:=⟨(ns.map fun n=>UInt8.ofNat n.toNat).toArray⟩
section
variable {P:Program}[Glob P]{M:Mem}{w0:Base}{w:World}{σ:Store}
theorem JW{t ty:TypeId}{x:Operand}{lo hi:Option Operand}{as:List AV}{s:ByteArray}{a b:Int}(h:wN lo hi as=some (s,a,b))(hb:0≤a∧a≤b∧b≤s.size):
  sw P (.slice t x lo hi none) ty [.str] (x::(lo.toList++hi.toList)) as (.v (.string (s.extract a.toNat b.toNat))):=⟨fun σ db M w0 w ρ hI hR=>by
 have ht:P.underlying t=some .string:=by
  simp only[fq,ZS,Zk]at db;exact DC db
 refine⟨.value (.string (s.extract a.toNat b.toNat)),w,M,.v (.string (s.extract a.toNat b.toNat)),.string (s.extract a.toNat b.toNat),σ,?_,rfl,Mem.le.refl _,hI,.v _,rfl,rfl⟩
 unfold wN at h
 split at h<;>cases h
 ·obtain⟨v,hv,hx⟩:=hR.eJ
  simp at hv
  simp[execOp,Instr.sliceAt,aW ht,Instr.slice,Instr.sliceBounds,hv,hx.aC]
 ·obtain⟨v,vs,hv,hx,gP⟩:=hR.bL
  obtain⟨v2,gD,fM⟩:=gP.eJ
  subst gD
  simp only[Option.toList_none,Option.toList_some,Zb,ZC,Y5,ZS,Zk]at hv
  have e1:=hx.aC
  have e2:=fM.aC
  have h1:(0:Int)≤a∧a≤(s.size:Int):=⟨hb.1,hb.2.1⟩
  simp[execOp,Instr.sliceAt,aW ht,Instr.slice,Instr.sliceBounds,Instr.sliceBound,asIntOf,hv.1,hv.2,e1,e2,h1]
 ·obtain⟨v,vs,hv,hx,gP⟩:=hR.bL
  obtain⟨v2,gD,fM⟩:=gP.eJ
  subst gD
  simp only[Option.toList_none,Option.toList_some,Y0,ZC,Y5,ZS,Zk]at hv
  have e1:=hx.aC
  have e2:=fM.aC
  have h1:(0:Int)≤b∧b≤(s.size:Int):=⟨hb.2.1,hb.2.2⟩
  simp[execOp,Instr.sliceAt,aW ht,Instr.slice,Instr.sliceBounds,Instr.sliceBound,asIntOf,hv.1,hv.2,e1,e2,h1]
 ·obtain⟨v,vs,hv,hx,gP⟩:=hR.bL
  obtain⟨v2,Jj,gD,fM,hR3⟩:=gP.bL
  obtain⟨v3,vV,hx3⟩:=hR3.eJ
  subst vV
  subst gD
  simp only[Option.toList_some,Ze,Y0,ZC,Y5,ZS,Zk]at hv
  have e1:=hx.aC
  have e2:=fM.aC
  have e3:=hx3.aC
  have h1:(0:Int)≤b∧b≤(s.size:Int):=⟨by omega,hb.2.2⟩
  have h2:(0:Int)≤a∧a≤(b.toNat:Int):=⟨hb.1,by omega⟩
  simp[execOp,Instr.sliceAt,aW ht,Instr.slice,Instr.sliceBounds,Instr.sliceBound,asIntOf,hv.1,hv.2.1,hv.2.2,e1,e2,e3,h1,h2]
  grind⟩
theorem Re{M:Mem}:∀ {rows:List (List AV)} {ns:List Int} {L:List Value},o7 rows=some ns→RL M rows.flatten L→L=ns.map (.int .u8)
 |[],ns,L,h,hR=>by cases h;exact hR.nR
 |r::rows,ns,L,h,hR=>by
  unfold o7 at h
  split at h
  ·grind
  ·rename_i n l he
   cases he
   obtain⟨ns',h1,rfl⟩:=ZO.1 h
   obtain⟨v,vs,rfl,hx,gP⟩:=RL.bL (x:= .v (.int .u8 n)) (xs:=rows.flatten) hR
   rw[hx.aC,Re h1 gP];rfl
  grind
theorem WQ(ns:List Int):ns.foldl (fun r n=>r.push (UInt8.ofNat n.toNat)) ByteArray.empty=kB ns:=by
 have:∀ (ns:List Int) (s:ByteArray),ns.foldl (fun r n=>r.push (UInt8.ofNat n.toNat)) s=⟨s.data++(ns.map fun n=>UInt8.ofNat n.toNat).toArray⟩:=by
  intro ns
  induction ns with
  |nil=>simp_all
  |cons n ns ih=>
   simp_all
 simp only[kB]
 simp_all
theorem AY{src dst e ty:TypeId}{x:Operand}{v:AV}{rows:List (List AV)}{ns:List Int}{q:TI}(hv:ew 1 v=some rows)(yR:¬∃ s,v= .v (.string s))(hn:o7 rows=some ns):
  sw P (.convert src dst x) ty [.sl e,.int .u8,.str,q] [x] [v] (.v (.string (kB ns))):=⟨fun σ db M w0 w ρ hI hR=>by
 simp only[fq,ZS,Zk]at db
 have hs:=IZ db.1
 have he:P.underlying e=some (.int .u8):=by
  have:=db.2.1
  unfold vg at this
  rw[hs]at this
  exact IY this
 have hd:=DC db.2.2.1
 obtain⟨u,hu,hx⟩:=hR.eJ
 simp at hu
 obtain⟨base,cap,L,rfl,hL,_,eW⟩:=Di (P:=P) hI hx hv yR
 have mr:=Re hn hL
 subst mr
 refine⟨.value (.string (kB ns)),w,M,.v (.string (kB ns)),.string (kB ns),σ,?_,rfl,Mem.le.refl _,hI,.v _,rfl,rfl⟩
 have hc:=run_convert_bytes_string (P:=P) w src dst e base rows.length cap hs he hd
 simp only[execOp,hu,Sem.run_bind,hc]
 cases base with
 |none=>
  simp only[Builtin.firstCells,Sem.run_pure,Result.ok.injEq,Zk]at eW
  have:ns=[]:=by
   simp_all
  subst this
  rfl
 |some a=>
  simp only[Builtin.firstCells,YO]at eW
  rw[run_bytesToString w a rows.length cap ns eW,WQ]
  simp_all⟩
theorem I4:∀ (ls:List UInt8),o7 (ls.map dn)=some (ls.map fun b=>(b.toNat:Int))
 |[]=>rfl
 |b::ls=>by
  show(o7 (ls.map dn)).map ((b.toNat:Int)::·)=_
  rw[I4 ls];rfl
theorem Kv(ls:List UInt8):kB (ls.map fun b=>(b.toNat:Int))=⟨ls.toArray⟩:=by
 simp only[kB,Yk]
 congr 2
 conv=>rhs;rw[← List.map_id ls]
 apply List.map_congr_left
 simp_all
theorem Inv.agJ(hI:Inv P M w0 σ w){w':World}(e1:w'.os=w.os)(e2:w'.tape=w.tape)(e3:w'.output=w.output)(hs:w.heap.size≤w'.heap.size)(hold:∀ k,k<w.heap.size→w'.heap[k]? =w.heap[k]?)(cs:List Value)
  (hc:∀ o v,cs[o]? =some v→w'.cell? ⟨w.heap.size,o,none⟩=some v):Inv P (M.add w.heap.size cs.length cs) w0 σ w':=by
 have hle:=hI.mB cs.length cs
 refine⟨e1.trans hI.os,e2.trans hI.tape,e3.trans hI.output,ZJ hI.size hs,fun k hk=>(hold k (YE hk hI.size)).trans (hI.old k hk),fun b o v hv=> ?_,fun e he=>⟨(hI.st e he).1,?_⟩,hI.nd,fun g l e=>(hI.gl g l e).mono hle,hI.gw,fun b o v hv ax=>hI.bm b o v (by simp only[Mem.add]at hv;rwa [Z6 (by have:=hI.size;omega)]at hv) ax⟩
 ·simp only[Mem.add]at hv
  split at hv
  ·grind
  ·have h1:=hI.cQ b o v hv
   have hb:b<w.heap.size:=by simpa using World.block_lt_of_cell? _ _ h1
   rw[← h1]
   simp only[World.cell?,hold b hb]
 ·obtain⟨tg,b,x⟩:=e
  have hk:=(hI.st _ he).2
  have ax:b<w.heap.size:=hI.zP he
  have bB:b≠w.heap.size:=by omega
  have c9:=hk.heap (hold b ax)
  cases x with
  |cells l=>obtain⟨h1,cs',t',h2,h3⟩:=c9;exact⟨fun o=>by simp[Mem.add,bB,h1 o],cs',t',h2,h3.mono hle⟩
  |tail u' c=>obtain⟨h1,cs',t',h2,h3⟩:=c9;exact⟨fun o ho=>by simp[Mem.add,bB,h1 o ho],cs',t',h2,h3⟩
  |map es k=>obtain⟨h1,l,h2,h3,h4⟩:=c9;exact⟨fun o=>by simp[Mem.add,bB,h1 o],l,h2,h3,h4.mono hle⟩
theorem El{src dst e ty:TypeId}{x:Operand}{s:ByteArray}{q:TI}(pT:s.size≤9223372036854775806):sw P (.convert src dst x) ty [.str,q,.sl e,.int .u8] [x] [.v (.string s)] (.sl true 1 (s.data.toList.map dn)):=⟨fun σ db M w0 w ρ hI hR=>by
 simp only[fq,ZS,Zk]at db
 have hs:=DC db.1
 have hd:=IZ db.2.2.1
 have he:P.underlying e=some (.int .u8):=by
  have:=db.2.2.2
  unfold vg at this
  rw[hd]at this
  exact IY this
 obtain⟨u,hu,hx⟩:=hR.eJ
 simp only[ZC,Y5,ZS,Zk]at hu
 have hxv:=hx.aC
 subst hxv
 let q0:=Question.appendCap s.size 0 e
 let cap:=q0.cut (w.tape w.drawn q0)
 have ru:cap=s.size+w.tape w.drawn q0 % (2 ^ 63-s.size):=rfl
 have ac3:w.tape w.drawn q0 % (2 ^ 63-s.size)<2 ^ 63-s.size:=Nat.mod_lt _ (by omega)
 let arr:Array Value:=s.data.map (fun b=>Value.int .u8 b.toNat)++Array.replicate (cap-s.size) (.int .u8 0)
 let w1:World:=w.drew.alloc (.cells arr e)
 let w2:World:=w1.freeze ⟨w.heap.size,arr.size,none⟩ 1
 let cs:List Value:=s.data.toList.map (fun b=>Value.int .u8 b.toNat)
 have hlen:cs.length=s.size:=by simp[cs]
 have hfz:∀ k,k≠w.heap.size→w2.heap[k]? =w1.heap[k]? :=fun k hk=>by
  have cN:¬w.heap.size=k:=fun e=>hk e.symm
  simp only[w2,World.freeze,Nat.one_ne_zero,Za,Yd,Z6 cN]
 have h1:w1.heap[w.heap.size]? =some (.cells arr e):=heap_alloc_new w.drew _
 have h2:∃ f,w2.heap[w.heap.size]? =some (.cells arr e f):=by
  simp only[w2,World.freeze,Nat.one_ne_zero,Za,Yd,YV,h1,Zc]
  grind
 have hold:∀ k,k<w.heap.size→w2.heap[k]? =w.heap[k]? :=fun k hk=>(hfz k (by omega)).trans (F5 w.drew _ k hk)
 have hcell:∀ o v,cs[o]? =some v→w2.cell? ⟨w.heap.size,o,none⟩=some v:=fun o v hv=>by
  obtain⟨f,h2⟩:=h2
  simp only[World.cell?,h2,XI,ZG,Za,arr]
  grind
 have s9:Inv P (M.add w.heap.size cs.length cs) w0 σ w2:=Inv.agJ (w':=w2) hI rfl rfl rfl (by grind) hold cs hcell
 refine⟨.value (.slice (some ⟨w.heap.size,0,none⟩) s.size cap),w2,_,.sl true 1 (s.data.toList.map dn),_,σ,?_,rfl,hI.mB _ _,s9,?_,rfl,rfl⟩
 ·have hf:q0.forced=false:=rfl
  have oM:w1.shape? w.heap.size=some (e,arr.size):=by simp only[World.shape?,h1]
  simp only[execOp,hu,convert,Sem.run_bind,aW hs,aW hd,aW he,Result.andThen_ok,Conv.stringToBytes,newRow,markStringish]
  simp[choose,Sem.run,Sem.bind,Bind.bind,Pure.pure,Question.forced,newObj,shape,freeze]
  erw [oM]
  rfl
 ·have hr:Rows (M.add w.heap.size cs.length cs) w.heap.size 0 1 (s.data.toList.map dn) (fun k=>cs.getD k undef):=by
   refine Rows.of_flat (fun i hi=>by simp[dn]) ?_ (fun k v hv=> ?_)
   ·have:∀ l:List UInt8,RL (M.add w.heap.size cs.length cs) (l.map dn).flatten (l.map fun b=>Value.int .u8 b.toNat):=by
     intro l
     induction l with
     |nil=>exact RL.nil
     |cons b l ih=>exact RL.cons (.v _) ih
    grind
   ·have hk:k<cs.length:=(ZE.1 hv).1
    simp only[Mem.add,YV,Zl]
    rw[Z3 hk];exact hv
  have:=R.mD (cap:=cap) hr (by simp;omega) (by unfold maxLen;omega) true
  grind⟩
end
def o0:TI→Option TypeDesc
 | .int k=>some (.int k)
 | .str=>some .string
 |_=>none
theorem PF{q:TI}{kd:TypeDesc}{d:Option TypeDesc}(h:o0 q=some kd)(ht:jB d=q):d=some kd:=by
 unfold o0 at h
 split at h
 ·cases h;exact IY ht
 ·cases h;exact DC ht
 grind
def mT(kd:TypeDesc)(k:Value):List (Value×Nat×AV)→Option (Option AV)
 |[]=>some none
 |e::es=>match Instr.sameNow kd k e.1 with
  |some true=>some (some e.2.2)
  |some false=>mT kd k es
  |none=>none
theorem LS{M:Mem}{kd:TypeDesc}{k:Value}:∀ {es:List (Value×Nat×AV)} {l:List MapEntry} (i:Nat),l.map (fun e=>(e.key,e.born))=es.map (fun e=>(e.1,e.2.1))→mT kd k es=some none→Instr.findNow kd k l i=some none
 |[],l,i,hk,_=>by
  have:l=[]:=by simp_all
  subst this;rfl
 |e::es,l,i,hk,h=>by
  cases l with
  |nil=>grind
  |cons m l=>
   simp at hk
   simp only[mT]at h
   simp only[Instr.findNow,hk.1.1]
   split at h
   ·cases h
   ·rename_i e1;rw[e1];exact LS (M:=M) (i+1) hk.2 h
   grind
theorem LU{M:Mem}{kd:TypeDesc}{k:Value}{x:AV}:∀ {es:List (Value×Nat×AV)} {l:List MapEntry} (i:Nat),l.map (fun e=>(e.key,e.born))=es.map (fun e=>(e.1,e.2.1))→RL M (es.map (·.2.2)) (l.map (·.val))→mT kd k es=some (some x)→
  ∃ j v,Instr.findNow kd k l i=some (some (j,v))∧R M x v
 |[],l,i,_,_,h=>by cases h
 |e::es,l,i,hk,hR,h=>by
  cases l with
  |nil=>grind
  |cons m l=>
   simp at hk
   obtain⟨v,vs,hv,hx,gP⟩:=RL.bL (x:=e.2.2) (xs:=es.map (·.2.2)) hR
   obtain⟨Cv,rfl⟩:=hv
   simp only[mT]at h
   simp only[Instr.findNow,hk.1.1]
   split at h
   ·rename_i e1
    rw[e1]
    grind
   ·rename_i e1;rw[e1];exact LU (i+1) hk.2 gP h
   grind
section
variable {P:Program}[Glob P]{M:Mem}{w0:Base}{w:World}{σ:Store}
theorem run_checkKey{b:Bool}{n:Nat}{q:TI}{kd:TypeDesc}{kt:TypeId}{v:Value}(hp:o0 q=some kd)(hk:P.underlying kt=some kd):(Instr.checkKey b (n+1) kt v).run P w= .ok () w:=by
 unfold o0 at hp
 split at hp
 ·cases hp;cases v<;>simp[Instr.checkKey,aW hk]
 ·cases hp;cases v<;>simp[Instr.checkKey,aW hk]
 grind
theorem Inv.s3{tg b k:Nat}{es:List (Value×Nat×AV)}(hI:Inv P M w0 σ w)(hb:bo σ tg=some (b,.map es k)):
  (∀ o,M b o=none)∧∃ l:List MapEntry,w.heap[b]? =some (.map l.toArray k)∧l.map (fun e=>(e.key,e.born))=es.map (fun e=>(e.1,e.2.1))∧RL M (es.map (·.2.2)) (l.map (·.val)):=(hI.st _ (rJ hb)).2
theorem SF(tag:Nat){t ty:TypeId}{ti:List TI}:jf P (.makeMap t none) ty ti [] [] σ fun x af=>∃ b,x= .dc tag b∧af=(tag,b,.map [] 0)::σ:=by
 intro _ M w0 w ρ hI _
 refine⟨.value (.map (some w.heap.size)),w.alloc (.map #[] 0),M,.dc tag w.heap.size,_,_,?_,rfl,Mem.le.refl _,?_,.dc _ _,_,rfl,rfl⟩
 ·rfl
 ·have h':=hI.alloc (.map #[] 0)
  refine⟨h'.os,h'.tape,h'.output,h'.size,h'.old,h'.cQ,fun e he=> ?_,?_,h'.gl,h'.gw,h'.bm⟩
  ·rcases ZQ.1 he with rfl|he
   ·exact⟨hI.size,hI.BJ,[],heap_alloc_new _ _,rfl,RL.nil⟩
   ·exact h'.st e he
  ·simp only[ZC,YX]
   exact⟨hI.fresh,hI.nd⟩
theorem SB{tg b dE:Nat}{es:List (Value×Nat×AV)}{t ty kt vt:TypeId}{q:TI}{kd:TypeDesc}{m k x:Operand}{key:Value}{v:AV}(hp:o0 q=some kd)(hl:bo σ tg=some (b,.map es dE))(hf:mT kd key es=some none):
  jf P (.insert t m k x) ty [.mp kt vt,q] [m,k,x] [.dc tg b,.v key,v] σ fun y af=>y= .v undef∧af=eB σ tg b (.map (es++[(key,dE,v)]) (dE+1)):=by
 intro db M w0 w ρ hI hR
 simp only[fq,ZS,Zk]at db
 have ht:=wU db.1
 have hk:P.underlying kt=some kd:=by
  have:=db.2
  unfold Hj at this
  rw[ht]at this
  exact PF hp this
 obtain⟨v1,dI,e1,h1,fh⟩:=hR.bL
 obtain⟨v2,Jj,e2,h2,gP⟩:=fh.bL
 obtain⟨v3,e3,h3⟩:=gP.eJ
 subst e3 e2
 simp at e1
 obtain⟨hM,l,hh,gS,iy⟩:=hI.s3 hl
 have g1:=h1.tZ
 have g2:=h2.aC
 subst g1 g2
 have ng:=LS (M:=M) 0 gS hf
 let w':World:={w with heap:=w.heap.setIfInBounds b (.map (l++[(⟨v2,v3,dE⟩:MapEntry)]).toArray (dE+1))}
 refine⟨.skip,w',M,.v undef,undef,_,?_,rfl,Mem.le.refl _,?_,.v _,rfl,rfl⟩
 ·have hu:l.toArray.push (⟨v2,v3,dE⟩:MapEntry)=(l++[(⟨v2,v3,dE⟩:MapEntry)]).toArray:=by grind
  simp only[execOp,e1.1,e1.2.1,e1.2.2,Instr.mapUpdate,Sem.run_bind,aW ht,Result.andThen_ok,getObj,Sem.run,hh,run_checkKey hp hk,Instr.findKey,aW hk,ng,Sem.run_pure,setObj,hu]
  rfl
 ·refine hI.Aq (y:= .map (es++[(v2,dE,v)]) (dE+1)) hl (fun k hk=> ?_) rfl rfl rfl (by simp[w']) hM ⟨hM,l++[⟨v2,v3,dE⟩],?_,?_,?_⟩
  ·grind
  ·grind
  ·grind
  ·simp
   exact RL.append iy (RL.cons h3 RL.nil)
theorem SD{tg b dE:Nat}{es:List (Value×Nat×AV)}{t ty kt vt:TypeId}{q:TI}{kd:TypeDesc}{m k:Operand}{key:Value}{v:AV}(hp:o0 q=some kd)(hl:bo σ tg=some (b,.map es dE))(hf:mT kd key es=some (some v)):
  jf P (.lookup t m k false) ty [.mp kt vt,q] [m,k] [.dc tg b,.v key] σ fun y af=>y=v∧af=σ:=by
 intro db M w0 w ρ hI hR
 simp only[fq,ZS,Zk]at db
 have ht:=wU db.1
 have hk:P.underlying kt=some kd:=by
  have:=db.2
  unfold Hj at this
  rw[ht]at this
  exact PF hp this
 obtain⟨v1,dI,e1,h1,fh⟩:=hR.bL
 obtain⟨v2,e2,h2⟩:=fh.eJ
 subst e2
 simp at e1
 obtain⟨hM,l,hh,gS,iy⟩:=hI.s3 hl
 have g1:=h1.tZ
 have g2:=h2.aC
 subst g1 g2
 obtain⟨j,u,ng,hu⟩:=LU (M:=M) 0 gS iy hf
 refine⟨.value u,w,M,v,u,σ,?_,rfl,Mem.le.refl _,hI,hu,rfl,rfl⟩
 simp only[execOp,e1.1,e1.2,Instr.lookup,Sem.run_bind,aW ht,Result.andThen_ok,getObj,Sem.run,hh,run_checkKey hp hk,Instr.findKey,aW hk,ng,Sem.run_pure]
 rfl
end
section
variable {P:Program}[Glob P]{N:Nat}{cfg:Nat→Nat}{Q:Exit→ah→Store→Prop}{K:ah→Store→Prop}{E:List PanicEntry→Store→Prop}{rg:ah}{σ af:Store}{l:List CI}{d:Nat}{v:AV}{xr cJ:XR}{ps:List Prop}
 {al cf:List Nat} {ix:Nat} {ld:List CD} {g:Option (Nat×Bool)} {og:Option Bool} {as:List AV} {args:List Operand} {op:Op} {ty:TypeId} {ti:List TI}
theorem qT(h:aL xr none args=some (og,as,ps)):og=none:=by
 unfold aL gX at h
 obtain⟨bJ,h',_,_⟩:=gE h
 split at h'<;>cases h';rfl
theorem xK{r:AV}(h:aL xr g args=some (og,as,ps))(hp:og.getD true=true→sw P op ty ti args as r)(aw:OB ps)(k:VX P cfg l K E (bM og d r xr) σ):VX P cfg (⟨some d,.bS op ty ti args,g⟩::l) K E xr σ:=by
 obtain⟨hc,he⟩:=cE h
 refine jh hc (fun hg=> ?_) (fun hg=> ?_)
 ·simp only[ak,he aw hg]
  refine((hp hg).sp σ).mono fun x af ⟨e1,e2⟩=> ?_
  subst e1 e2;rw[← fu hg];exact k.h
 ·rw[← ft hg (v:=r)];exact k.h
theorem A6{r:AV}(h:aL xr g args=some (og,as,ps))(hp:og.getD true=true→sw P op ty ti args as r)(aw:OB ps)(k:VY P cfg al ld K (bM og d r xr) σ):VY P cfg al (⟨ix,⟨some d,.bS op ty ti args,g⟩,cf⟩::ld) K xr σ:=by
 obtain⟨hc,he⟩:=cE h
 refine od hc (fun hg=> ?_) (fun hg=> ?_)
 ·simp only[di,aB.cls,aK,he aw hg]
  have:=k.h;rw[fu hg]at this;grind
 ·rw[← ft hg (v:=r)];exact k.h
theorem Tw{t:TypeId}{x:Operand}{lo hi:Option Operand}{s:ByteArray}{a b:Int}(h:aL xr g args=some (og,as,ps))(he:args=x::(lo.toList++hi.toList))(hs:wN lo hi as=some (s,a,b))(aw:OB ps)
  (hb:og.getD true=true→0≤a∧a≤b∧b≤s.size) (k:VX P cfg l K E (bM og d (.v (.string (s.extract a.toNat b.toNat))) xr) σ):VX P cfg (⟨some d,.bS (.slice t x lo hi none) ty [.str] args,g⟩::l) K E xr σ:=
 xK h (fun hg=>by subst he;exact JW hs (hb hg)) aw k
theorem TV{t:TypeId}{x:Operand}{lo hi:Option Operand}{s:ByteArray}{a b:Int}(h:aL xr g args=some (og,as,ps))(he:args=x::(lo.toList++hi.toList))(hs:wN lo hi as=some (s,a,b))(aw:OB ps)
  (hb:og.getD true=true→0≤a∧a≤b∧b≤s.size) (k:VY P cfg al ld K (bM og d (.v (.string (s.extract a.toNat b.toNat))) xr) σ):VY P cfg al (⟨ix,⟨some d,.bS (.slice t x lo hi none) ty [.str] args,g⟩,cf⟩::ld) K xr σ:=
 A6 h (fun hg=>by subst he;exact JW hs (hb hg)) aw k
def qi:AV→Bool
 | .v (.string _)=>false
 |_=>true
theorem C1(h:qi v=true):¬∃ s,v= .v (.string s):=fun⟨s,e⟩=>by subst e;cases h
theorem Ta{src dst e:TypeId}{x:Operand}{q:TI}{rows:List (List AV)}{ns:List Int}(h:aL xr g [x]=some (og,[v],ps))(hv:ew 1 v=some rows)(hn:qi v=true)(hu:o7 rows=some ns)(aw:OB ps)
  (k:VX P cfg l K E (bM og d (.v (.string (kB ns))) xr) σ):VX P cfg (⟨some d,.bS (.convert src dst x) ty [.sl e,.int .u8,.str,q] [x],g⟩::l) K E xr σ:=
 xK h (fun _=>AY hv (C1 hn) hu) aw k
theorem TJ{src dst e:TypeId}{x:Operand}{q:TI}{rows:List (List AV)}{ns:List Int}(h:aL xr g [x]=some (og,[v],ps))(hv:ew 1 v=some rows)(hn:qi v=true)(hu:o7 rows=some ns)(aw:OB ps)
  (k:VY P cfg al ld K (bM og d (.v (.string (kB ns))) xr) σ):VY P cfg al (⟨ix,⟨some d,.bS (.convert src dst x) ty [.sl e,.int .u8,.str,q] [x],g⟩,cf⟩::ld) K xr σ:=
 A6 h (fun _=>AY hv (C1 hn) hu) aw k
theorem S6{src dst e:TypeId}{x:Operand}{q:TI}{ls:List UInt8}(h:aL xr g [x]=some (og,[v],ps))(hv:ew 1 v=some (ls.map dn))(hn:qi v=true)(aw:OB ps)
  (k:VX P cfg l K E (bM og d (.v (.string ⟨ls.toArray⟩)) xr) σ):VX P cfg (⟨some d,.bS (.convert src dst x) ty [.sl e,.int .u8,.str,q] [x],g⟩::l) K E xr σ:=
 xK h (fun _=>by have:=AY (P:=P) (src:=src) (dst:=dst) (e:=e) (ty:=ty) (x:=x) (q:=q) hv (C1 hn) (I4 ls);rwa [Kv]at this) aw k
theorem TH{src dst e:TypeId}{x:Operand}{q:TI}{ls:List UInt8}(h:aL xr g [x]=some (og,[v],ps))(hv:ew 1 v=some (ls.map dn))(hn:qi v=true)(aw:OB ps)
  (k:VY P cfg al ld K (bM og d (.v (.string ⟨ls.toArray⟩)) xr) σ):VY P cfg al (⟨ix,⟨some d,.bS (.convert src dst x) ty [.sl e,.int .u8,.str,q] [x],g⟩,cf⟩::ld) K xr σ:=
 A6 h (fun _=>by have:=AY (P:=P) (src:=src) (dst:=dst) (e:=e) (ty:=ty) (x:=x) (q:=q) hv (C1 hn) (I4 ls);rwa [Kv]at this) aw k
theorem Tc{src dst e:TypeId}{x:Operand}{q:TI}{s:ByteArray}(h:aL xr g [x]=some (og,[.v (.string s)],ps))(aw:OB ps)(hb:og.getD true=true→s.size≤9223372036854775806)
  (k:VX P cfg l K E (bM og d (.sl true 1 (s.data.toList.map dn)) xr) σ):VX P cfg (⟨some d,.bS (.convert src dst x) ty [.str,q,.sl e,.int .u8] [x],g⟩::l) K E xr σ:=
 xK h (fun hg=>El (hb hg)) aw k
theorem TK{src dst e:TypeId}{x:Operand}{q:TI}{s:ByteArray}(h:aL xr g [x]=some (og,[.v (.string s)],ps))(aw:OB ps)(hb:og.getD true=true→s.size≤9223372036854775806)
  (k:VY P cfg al ld K (bM og d (.sl true 1 (s.data.toList.map dn)) xr) σ):VY P cfg al (⟨ix,⟨some d,.bS (.convert src dst x) ty [.str,q,.sl e,.int .u8] [x],g⟩,cf⟩::ld) K xr σ:=
 A6 h (fun hg=>El (hb hg)) aw k
def eU(s:ByteArray)(i:Nat):UInt8:=s.data.toList.getD i 0
theorem Tg{x i:Operand}{s:ByteArray}{iv:AV}{n:Int}(h:aL xr g [x,i]=some (og,[.v (.string s),iv],ps))(hi:gT iv=some n)(aw:OB ps)(hb:og.getD true=true→0≤n∧n<s.size)
  (k:VX P cfg l K E (bM og d (.v (.int .u8 (eU s n.toNat).toNat)) xr) σ):VX P cfg (⟨some d,.idxs x i,g⟩::l) K E xr σ:=by
 obtain⟨hc,he⟩:=cE h
 refine jh hc (fun hg=> ?_) (fun hg=> ?_)
 ·have:=he aw hg
  simp only[bD,ZS,Zk]at this
  obtain⟨q,hq⟩:=qb hi
  simp only[ak,this.1,this.2,hq]
  have ax:=hb hg
  have hk:=k.h
  rw[fu hg]at hk
  have e:eU s n.toNat=s[n.toNat]'(by omega):=by
   have h2:n.toNat<s.data.toList.length:=by simp_all
   simp only[eU,ZY,ZX h2,Zu]
   rfl
  grind
 ·rw[← ft hg (v:= .v (.int .u8 (eU s n.toNat).toNat))];exact k.h
theorem aNH{x i:Operand}{s:ByteArray}{iv:AV}{n:Int}(h:aL xr g [x,i]=some (og,[.v (.string s),iv],ps))(hi:gT iv=some n)(aw:OB ps)(hb:og.getD true=true→0≤n∧n<s.size)
  (k:VY P cfg al ld K (bM og d (.v (.int .u8 (eU s n.toNat).toNat)) xr) σ):VY P cfg al (⟨ix,⟨some d,.idxs x i,g⟩,cf⟩::ld) K xr σ:=by
 obtain⟨hc,he⟩:=cE h
 refine od hc (fun hg=> ?_) (fun hg=> ?_)
 ·have:=he aw hg
  simp only[bD,ZS,Zk]at this
  obtain⟨q,hq⟩:=qb hi
  simp only[di,aB.cls,aK,ak,this.1,this.2,hq]
  have ax:=hb hg
  have hk:=k.h
  rw[fu hg]at hk
  have e:eU s n.toNat=s[n.toNat]'(by omega):=by
   have h2:n.toNat<s.data.toList.length:=by simp_all
   simp only[eU,ZY,ZX h2,Zu]
   rfl
  grind
 ·rw[← ft hg (v:= .v (.int .u8 (eU s n.toNat).toNat))];exact k.h
theorem Tn{t:TypeId}(k:∀ b,VX P cfg l K E ((d,.s (.dc d b))::xr) ((d,b,.map [] 0)::σ)):VX P cfg (⟨some d,.exts (.makeMap t none) ty ti [],none⟩::l) K E xr σ:=by
 constructor
 refine(SF d).mono fun x af ⟨b,e1,e2⟩=> ?_
 subst e1 e2
 exact(k b).h
theorem Th{t kt vt:TypeId}{q:TI}{kd:TypeDesc}{m k x:Operand}{tg b b' dE:Nat}{es:List (Value×Nat×AV)}{key:Value}(h:aL xr none [m,k,x]=some (og,[.dc tg b,.v key,v],ps))(hp:o0 q=some kd)(hl:bo σ tg=some (b',.map es dE))(hb:b=b')
  (hf:mT kd key es=some none) (hu:rX σ tg b (.map (es++[(key,dE,v)]) (dE+1))=some af) (aw:OB ps) (kk:VX P cfg l K E xr af):VX P cfg (⟨none,.exts (.insert t m k x) ty [.mp kt vt,q] [m,k,x],none⟩::l) K E xr σ:=by
 obtain⟨hc,he⟩:=cE h
 have cY:=qT h
 subst cY
 subst hb
 constructor
 simp only[fF,dP,ak,he aw rfl]
 refine(SB hp hl hf).mono fun y s ⟨e1,e2⟩=> ?_
 rw[Ar hu]at e2
 subst e1 e2
 exact kk.h
theorem Tk{t kt vt:TypeId}{q:TI}{kd:TypeDesc}{m k:Operand}{tg b b' dE:Nat}{es:List (Value×Nat×AV)}{key:Value}(h:aL xr none [m,k]=some (og,[.dc tg b,.v key],ps))(hp:o0 q=some kd)(hl:bo σ tg=some (b',.map es dE))(hb:b=b')
  (hf:mT kd key es=some (some v)) (aw:OB ps) (kk:VX P cfg l K E ((d,.s v)::xr) σ):VX P cfg (⟨some d,.bS (.lookup t m k false) ty [.mp kt vt,q] [m,k],none⟩::l) K E xr σ:=by
 obtain⟨hc,he⟩:=cE h
 have cY:=qT h
 subst cY
 subst hb
 constructor
 simp only[fF,dP,ak,he aw rfl]
 refine(SD hp hl hf).mono fun y s ⟨e1,e2⟩=> ?_
 subst e1 e2
 exact kk.h
theorem S4{f:FuncId}{r:AV}{fo:Operand}{a c:List AV}(h:aL xr g (fo::args)=some (og,.cl f a c::as,ps))(dJ:jI P f=true)(hp:og.getD true=true→Pure P f (a++as++c) r)(aw:OB ps)(k:VX P cfg l K E (bM og d r xr) σ):
  VX P cfg (⟨some d,.gz fo args,g⟩::l) K E xr σ:=by
 obtain⟨hc,he⟩:=cE h
 refine jh hc (fun hg=> ?_) (fun hg=> ?_)
 ·have:=he aw hg
  simp only[bD,ZS]at this
  simp only[ak,this.1,this.2]
  refine⟨dJ,uX (hp hg) ?_⟩
  rw[← fu hg];exact k.h
 ·rw[← ft hg (v:=r)];exact k.h
theorem A5{f:FuncId}{r:AV}{fo:Operand}{a c:List AV}(h:aL xr g (fo::args)=some (og,.cl f a c::as,ps))(dJ:jI P f=true)(hp:og.getD true=true→Pure P f (a++as++c) r)(aw:OB ps)(k:VY P cfg al ld K (bM og d r xr) σ):
  VY P cfg al (⟨ix,⟨some d,.gz fo args,g⟩,cf⟩::ld) K xr σ:=by
 obtain⟨hc,he⟩:=cE h
 refine od hc (fun hg=> ?_) (fun hg=> ?_)
 ·have:=he aw hg
  simp only[bD,ZS]at this
  simp only[di,aB.cls,aK,this.1,this.2]
  refine⟨dJ,r,hp hg,?_⟩
  have:=k.h;rw[fu hg]at this;grind
 ·rw[← ft hg (v:=r)];exact k.h
end
end Go.Sx
