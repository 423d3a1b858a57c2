/-
  The layer Sx: a region of open order, new variables and stores among its operations, with one call that turns the store and may panic.
-/
import Derived.Test.YtbihckigennlhaaGreatDoorSxSt
import Derived.Laws.BytesString
set_option linter.unusedVariables false
set_option linter.unusedSimpArgs false
set_option linter.unusedSectionVars false
namespace Go.Sx
open Go.RowKit
def zA(d:Nat):List CD→Option (List CD×CD×List CD)
 |[]=>none
 |c::l=>bif (match c.c.d with|some e=>Nat.beq e d|none=>false)then some ([],c,l)else match zA d l with
  |some (a,s,b)=>some (c::a,s,b)
  |none=>none
theorem OS{d:Nat}:∀ {l a b:List CD} {s:CD},zA d l=some (a,s,b)→l=a++s::b
 |[],_,_,_,h=>by cases h
 |c::l,a,b,s,h=>by
  simp only[zA]at h
  generalize (match c.c.d with|some e=>Nat.beq e d|none=>false)=q at h
  cases q with
  |true=>grind
  |false=>
   cases h2:zA d l with
   |none=>grind
   |some p=>rw[h2]at h;cases h;rw[OS h2];rfl
def uS(ah:List Nat):List CD→List CD→Bool
 |_,[]=>true
 |acc,b::l=>(acc.any fun a=> !jy ah a b) && uS ah (b::acc) l
theorem JH{ah:List Nat}{x:CD}{B:List CD}:∀ (c' acc:List CD),uS ah acc (c'++x::B)=true→∃ a,(a∈acc∨a∈c')∧jy ah a x=false
 |[],acc,h=>by
  simp only[Ze,uS,Z0,Yg,YV]at h
  grind
 |c::c',acc,h=>by
  simp only[ZD,uS,Z0]at h
  obtain⟨a,ha,hc⟩:=JH c' _ h.2
  grind
section
variable {P:Program}[Glob P]{cfg:Nat→Nat}{ts ah:List Nat}{rg:ae}{σ:Store}{N:Nat}{K:ae→Store→Prop}{E:List PanicEntry→Store→Prop}{Q:Exit→ae→Store→Prop}{k:List Fr}{xr:XR}
def qh(P:Program)[Glob P](cfg:Nat→Nat)(ts ah:List Nat)(K:ae→Store→Prop)(E:List PanicEntry→Store→Prop)(d:Nat)(f:FuncId)(args:List Operand)(l2:List CD)(rg:ae)(σ:Store):Prop:=
 ∃ R:dj→Store→Prop,Spec P f (aU rg args) σ R∧(∀ x σ',R (.ret x) σ'→(∀ t b l,ts.elem t=false→aN σ t=some (b,.cells l)→aN σ' t=some (b,.cells l))∧cD P cfg ah l2 (Cl K) ((d,x)::rg) σ')∧∀ ch σ',R (.cL ch) σ'→E ch σ'
theorem JN{t:Nat}(h:(ts++ah).elem t=false):ts.elem t=false∧ah.elem t=false:=by
 grind
theorem acm{cf:List Nat}{op:aw}(h:lN (ts++ah) cf rg op=true):lN ah cf rg op=true:=by
 cases op<;>try exact h
 simp only[lN]at h ⊢
 split at h
 ·grind
 ·rfl
theorem ay3{c:CD}{K:AV→Store→Prop}(hc:c.c.op.cls≤1)(h:hU P cfg (ts++ah) c K rg σ):hU P cfg ah c K rg σ:=by
 have bT:cO P cfg (ts++ah) c.cf c.c.d rg σ K c.c.op→cO P cfg ah c.cf c.c.d rg σ K c.c.op:=fun h=>by
  unfold cO at h ⊢
  split at h
  ·exact h
  ·exact⟨acm h.1,h.2⟩
  all_goals(grind)
 unfold hU at h ⊢
 split at h
 ·grind
 grind
theorem Ur{a c:CD}(ha:a.c.op.cls≤1)(hc:c.c.op.cls≤1)(h:jy ah a c=true):jy (ts++ah) a c=true:=by
 unfold jy at h ⊢
 simp only[Z0]at h ⊢
 grind
theorem M4{d:Nat}{f:FuncId}{args:List Operand}{l2:List CD}{s:CD}(hs:s.c=⟨some d,.call f args,none⟩)(EO:∀ b∈l2,fV b=true):∀ (A:List CD) (rg:ae) (σ:Store),
  (∀ a∈A,fV a=true∧a.c.op.cls≤1∧jy ah a s=true)→cD P cfg (ts++ah) A (Cl (qh P cfg ts ah K E d f args l2)) rg σ→
  ∃ br,dk br σ∧∃ R:dj→Store→Prop,Spec P f (aU rg args) br R∧(∀ x σ',R (.ret x) σ'→(∀ t b l,ts.elem t=false→aN br t=some (b,.cells l)→aN σ' t=some (b,.cells l))∧cD P cfg ah (A++l2) (Cl K) ((d,x)::rg) σ')∧∀ ch σ',R (.cL ch) σ'→E ch σ'
 |[],rg,σ,_,h=>by
  obtain⟨rg',σ',h1,h2,R,hR,hk,he⟩:=h
  refine⟨σ',h2,R,?_,fun x dv hr=>⟨(hk x dv hr).1,?_⟩,he⟩
  ·rw[← jz args fun t _=>h1 t];grind
  ·exact Cx (Cl.closed K) l2 EO _ _ _ _ (vL h1 (some d) x) (dk.refl _) (hk x dv hr).2
 |a::A,rg,σ,hA,h=>by
  obtain⟨ha,bJ,mz⟩:=hA a (by simp)
  obtain⟨y,hy,hv⟩:=uT bJ h
  obtain⟨br,jd,R,hR,hk,he⟩:=M4 hs EO A _ σ (fun b hb=>hA b (by simp[hb])) hy
  unfold jy at mz
  simp only[Z0,Zl,ZB]at mz
  obtain⟨⟨⟨nR,ib⟩,iY⟩,_⟩:=mz
  rw[hs]at ib iY
  refine⟨br,jd,R,?_,fun x σ' hr=>⟨(hk x σ' hr).1,?_⟩,he⟩
  ·rw[← jz (rg:=bM a.c.d y rg) args fun t ht=>tK nR t (by unfold rm CI.reads;rw[hs];exact Zy _ (Zy _ ht))];grind
  ·refine Cw (rg:=rg) (fun t ht=>(tK (d:=some d) (x:=x) ib t ht).symm) (ay3 bJ (hv σ' (fun h1 t ht hcf b l hl=>(hk x σ' hr).1 t b l (JN ht).1 ((jd.1 t).trans hl)) _ ?_))
   exact Cx (Cl.closed K) (A++l2) (fun b hb=>(Zm.1 hb).elim (fun h=>(hA b (by simp[h])).1) (EO b)) _ _ _ _ (fun i=>(F9 (d:=a.c.d) (d':=some d) iY i).symm) (dk.refl _) (hk x σ' hr).2
theorem QC(ts:List Nat){l1 l2:List CD}{s:CD}{d:Nat}{f:FuncId}{args:List Operand}(hs:s.c=⟨some d,.call f args,none⟩)(hq:(l1.all fun a=>Nat.ble a.c.op.cls 1)=true)(hd:uS ah [s] l2=true)
  (h:cD P cfg (ts++ah) l1 (qh P cfg ts ah (Q .normal) (fun ch σ'=>Q (.panic ch) [] σ') d f args l2) rg σ):SW P N (.dr ah (l1++s::l2)) Q rg σ:=by
 refine H2 cfg (fun L rg σ=>(∃ A,L=A++s::l2∧(∀ a∈A,a.c.op.cls≤1)∧cD P cfg (ts++ah) A (Cl (qh P cfg ts ah (Q .normal) (fun ch σ'=>Q (.panic ch) [] σ') d f args l2)) rg σ)∨cD P cfg ah L (Cl (Q .normal)) rg σ)
  (fun ho=> .inl ⟨l1,rfl,fun a ha=>Z8 (ZF.1 hq a ha),G2 (fun _ _=>Cl.intro) l1 rg σ (fun x hx=>ho x (by simp[hx])) h⟩) (fun rg σ hv=> ?_) fun A x B rg σ ho hA hv=> ?_
 ·rcases hv with⟨A,e,_⟩|hv
  ·simp at e
  ·exact hv
 ·have call:∀ A B,(∀ a∈A,a.c.op.cls≤1)→(∀ a∈A++s::l2,fV a=true)→(∀ a∈A,jy ah a s=true)→B=l2→cD P cfg (ts++ah) A (Cl (qh P cfg ts ah (Q .normal) (fun ch σ'=>Q (.panic ch) [] σ') d f args l2)) rg σ→
    ∃ rg' σ',(∀ i,lk rg' i=lk rg i)∧dk σ' σ∧di P cfg s.c (fun y σ2=>(∃ A',A++B=A'++s::l2∧(∀ a∈A',a.c.op.cls≤1)∧cD P cfg (ts++ah) A' (Cl (qh P cfg ts ah (Q .normal) (fun ch σ'=>Q (.panic ch) [] σ') d f args l2)) (bM s.c.d y rg) σ2)∨cD P cfg ah (A++B) (Cl (Q .normal)) (bM s.c.d y rg) σ2) (fun ch σ'=>Q (.panic ch) [] σ') rg' σ':=by
   rintro A B hc ho hA rfl hv
   obtain⟨br,jd,R,hR,hk,he⟩:=M4 hs (fun b hb=>ho b (by simp[hb])) A rg σ (fun a ha=>⟨ho a (by simp[ha]),hc a ha,hA a ha⟩) hv
   refine⟨rg,br,fun _=>rfl,jd,?_⟩
   unfold di
   rw[hs]
   simp only[aj]
   exact⟨R,hR,fun x σ' hr=> .inr (hk x σ' hr).2,he⟩
  rcases hv with⟨A',e,hc,hv⟩|hv
  ·rcases List.append_eq_append_iff.1 e with⟨a',e1,e2⟩|⟨c',e1,e2⟩
   ·cases a' with
    |nil=>
     simp_all
    |cons y a'=>
     simp only[ZD,ZW]at e2
     obtain⟨rfl,rfl⟩:=e2
     subst e1
     refine⟨rg,σ,fun _=>rfl,dk.refl _,Cv (ho x (by simp)) (zO (ho x (by simp)) (AU (ah:=ts++ah) (Cl.closed _) (ho x (by simp)) A a' rg σ (fun a ha=>⟨Ur (hc a (by simp[ha])) (hc x (by simp)) (hA a ha),ho a (by simp[ha])⟩) (fun b hb=>ho b (by simp[hb])) hv) fun y σ2 _ h=> .inl ⟨A++a',by simp,fun a ha=>hc a ?_,h⟩)⟩
     grind
   ·cases c' with
    |nil=>
     simp only[Ze,ZW]at e2
     rw[Zn]at e1
     obtain⟨rfl,rfl⟩:=e2
     subst e1
     exact call _ _ hc ho hA rfl hv
    |cons y c'=>
     exfalso
     simp only[ZD,ZW]at e2
     obtain⟨rfl,rfl⟩:=e2
     subst e1
     obtain⟨a,ha,mz⟩:=JH c' [s] hd
     have:=hA a (by rcases ha with ha|ha<;>simp_all)
     rw[this]at mz;cases mz
  ·exact⟨rg,σ,fun _=>rfl,dk.refl _,Cv (ho x (by simp)) (zO (ho x (by simp)) (AU (Cl.closed _) (ho x (by simp)) A B rg σ (fun a ha=>⟨hA a ha,ho a (by simp[ha])⟩) (fun b hb=>ho b (by simp[hb])) hv) fun _ _ _ h=> .inr h)⟩
theorem xj(ts:List Nat)(d:Nat){ld l1 l2:List CD}{ix:Nat}{cf:List Nat}{f:FuncId}{args:List Operand}(hl:zA d ld=some (l1,⟨ix,⟨some d,.call f args,none⟩,cf⟩,l2))(hq:(l1.all fun a=>Nat.ble a.c.op.cls 1)=true)
  (hd:uS ah [⟨ix,⟨some d,.call f args,none⟩,cf⟩] l2=true) (hx:toXO rg=some xr)
  (h:VY P cfg (ts++ah) l1 (qh P cfg ts ah (FK P N cfg Q .normal k) (fun ch σ'=>FK P N cfg Q (.panic ch) k [] σ') d f args l2) xr σ):WK P N cfg Q (.dr ah ld) k rg σ:=by
 have e:=OS hl
 subst e
 refine⟨WA.mono (Q:=fun e=>FK P N cfg Q e k) ⟨rfl,QC (cfg:=cfg) ts rfl hq hd ?_⟩ fun _ _ _ h=>h.h⟩
 have:=h.h
 rw[← tV hx,sq]at this
 grind
end
theorem RL.dV{M:Mem}{x:AV}{vs:List Value}(h:RL M [x] vs):∃ v,vs=[v]∧R M x v:=by
 obtain⟨v,iu,rfl,h1,h2⟩:=h.cN
 exact⟨v,by rw[h2.ub],h1⟩
def wu(lo hi:Option Operand)(as:List AV):Option (ByteArray×Int×Int):=
 match lo,hi,as with
 |none,none,[.v (.string s)]=>some (s,0,s.size)
 |some _,none,[.v (.string s),.v (.int _ a)]=>some (s,a,s.size)
 |none,some _,[.v (.string s),.v (.int _ b)]=>some (s,0,b)
 |some _,some _,[.v (.string s),.v (.int _ a),.v (.int _ b)]=>some (s,a,b)
 |_,_,_=>none
def wH:List (List AV)→Option (List Int)
 |[]=>some []
 |[.v (.int .u8 n)]::l=>(wH l).map (n::·)
 |_=>none
def qk(ns:List Int):ByteArray:=⟨(ns.map fun n=>UInt8.ofNat n.toNat).toArray⟩
section
variable {P:Program}[Glob P]{M:Mem}{w0:Base}{w:World}{σ:Store}
theorem HO{t ty:TypeId}{x:Operand}{lo hi:Option Operand}{as:List AV}{s:ByteArray}{a b:Int}(h:wu lo hi as=some (s,a,b))(hb:0≤a∧a≤b∧b≤s.size):
  OpP P (.slice t x lo hi none) ty [.str] (x::(lo.toList++hi.toList)) as (.v (.string (s.extract a.toNat b.toNat))):=⟨fun σ dR M w0 w ρ hI hR=>by
 have ht:P.underlying t=some .string:=by
  simp only[fW,ZW,and_true]at dR;exact Cj dR
 refine⟨.value (.string (s.extract a.toNat b.toNat)),w,M,.v (.string (s.extract a.toNat b.toNat)),.string (s.extract a.toNat b.toNat),σ,?_,rfl,Mem.le.refl _,hI,.v _,rfl,rfl⟩
 unfold wu at h
 split at h<;>cases h
 ·obtain⟨v,hv,hx⟩:=hR.dV
  simp at hv
  simp[execOp,Instr.sliceAt,aY ht,Instr.slice,Instr.sliceBounds,hv,hx.az]
 ·obtain⟨v,vs,hv,hx,ff⟩:=hR.cN
  obtain⟨v2,kG,dm⟩:=ff.dV
  subst kG
  simp only[Option.toList_none,Option.toList_some,Zn,ZH,YX,ZW,and_true]at hv
  have e1:=hx.az
  have e2:=dm.az
  have h1:(0:Int)≤a∧a≤(s.size:Int):=⟨hb.1,hb.2.1⟩
  simp[execOp,Instr.sliceAt,aY ht,Instr.slice,Instr.sliceBounds,Instr.sliceBound,asIntOf,hv.1,hv.2,e1,e2,h1]
 ·obtain⟨v,vs,hv,hx,ff⟩:=hR.cN
  obtain⟨v2,kG,dm⟩:=ff.dV
  subst kG
  simp only[Option.toList_none,Option.toList_some,Ze,ZH,YX,ZW,and_true]at hv
  have e1:=hx.az
  have e2:=dm.az
  have h1:(0:Int)≤b∧b≤(s.size:Int):=⟨hb.2.1,hb.2.2⟩
  simp[execOp,Instr.sliceAt,aY ht,Instr.slice,Instr.sliceBounds,Instr.sliceBound,asIntOf,hv.1,hv.2,e1,e2,h1]
 ·obtain⟨v,vs,hv,hx,ff⟩:=hR.cN
  obtain⟨v2,PS,kG,dm,sL⟩:=ff.cN
  obtain⟨v3,hv3,hx3⟩:=sL.dV
  subst hv3
  subst kG
  simp only[Option.toList_some,ZD,Ze,ZH,YX,ZW,and_true]at hv
  have e1:=hx.az
  have e2:=dm.az
  have e3:=hx3.az
  have h1:(0:Int)≤b∧b≤(s.size:Int):=⟨by omega,hb.2.2⟩
  have h2:(0:Int)≤a∧a≤(b.toNat:Int):=⟨hb.1,by omega⟩
  simp[execOp,Instr.sliceAt,aY ht,Instr.slice,Instr.sliceBounds,Instr.sliceBound,asIntOf,hv.1,hv.2.1,hv.2.2,e1,e2,e3,h1,h2]
  grind⟩
theorem Px{M:Mem}:∀ {rows:List (List AV)} {ns:List Int} {L:List Value},wH rows=some ns→RL M rows.flatten L→L=ns.map (.int .u8)
 |[],ns,L,h,hR=>by cases h;exact hR.ub
 |r::rows,ns,L,h,hR=>by
  unfold wH at h
  split at h
  ·grind
  ·rename_i n l he
   cases he
   obtain⟨ns',h1,rfl⟩:=ZR.1 h
   obtain⟨v,vs,rfl,hx,ff⟩:=RL.cN (x:= .v (.int .u8 n)) (xs:=rows.flatten) hR
   rw[hx.az,Px h1 ff];rfl
  grind
theorem T9(ns:List Int):ns.foldl (fun r n=>r.push (UInt8.ofNat n.toNat)) ByteArray.empty=qk ns:=by
 have:∀ (ns:List Int) (s:ByteArray),ns.foldl (fun r n=>r.push (UInt8.ofNat n.toNat)) s=⟨s.data++(ns.map fun n=>UInt8.ofNat n.toNat).toArray⟩:=by
  intro ns
  induction ns with
  |nil=>simp_all
  |cons n ns ih=>
   simp_all
 simp only[qk]
 simp_all
theorem HL{src dst e ty:TypeId}{x:Operand}{v:AV}{rows:List (List AV)}{ns:List Int}{q:TI}(hv:eQ 1 v=some rows)(vo:¬∃ s,v= .v (.string s))(hn:wH rows=some ns):
  OpP P (.convert src dst x) ty [.sl e,.int .u8,.str,q] [x] [v] (.v (.string (qk ns))):=⟨fun σ dR M w0 w ρ hI hR=>by
 simp only[fW,ZW,and_true]at dR
 have hs:=Ph dR.1
 have he:P.underlying e=some (.int .u8):=by
  have:=dR.2.1
  unfold xE at this
  rw[hs]at this
  exact GI this
 have hd:=Cj dR.2.2.1
 obtain⟨u,hu,hx⟩:=hR.dV
 simp at hu
 obtain⟨base,cap,L,rfl,hL,_,fO⟩:=BZ (P:=P) hI hx hv vo
 have dq:=Px hn hL
 subst dq
 refine⟨.value (.string (qk ns)),w,M,.v (.string (qk ns)),.string (qk ns),σ,?_,rfl,Mem.le.refl _,hI,.v _,rfl,rfl⟩
 have hc:=run_convert_bytes_string (P:=P) w src dst e base rows.length cap hs he hd
 simp only[execOp,hu,Sem.run_bind,hc]
 cases base with
 |none=>
  simp only[Builtin.firstCells,Sem.run_pure,Result.ok.injEq,and_true]at fO
  have:ns=[]:=by
   simp_all
  subst this
  rfl
 |some a=>
  simp only[Builtin.firstCells,XU]at fO
  rw[run_bytesToString w a rows.length cap ns fO,T9]
  simp_all⟩
theorem GR:∀ (ls:List UInt8),wH (ls.map bn)=some (ls.map fun b=>(b.toNat:Int))
 |[]=>rfl
 |b::ls=>by
  show(wH (ls.map bn)).map ((b.toNat:Int)::·)=_
  rw[GR ls];rfl
theorem IW(ls:List UInt8):qk (ls.map fun b=>(b.toNat:Int))=⟨ls.toArray⟩:=by
 simp only[qk,Yw]
 congr 2
 conv=>rhs;rw[← List.map_id ls]
 apply List.map_congr_left
 simp_all
theorem Inv.acV(hI:Inv P M w0 σ w){w':World}(e1:w'.os=w.os)(e2:w'.tape=w.tape)(e3:w'.output=w.output)(hs:w.heap.size≤w'.heap.size)(hold:∀ k,k<w.heap.size→w'.heap[k]? =w.heap[k]?)(cs:List Value)
  (hc:∀ o v,cs[o]? =some v→w'.cell? ⟨w.heap.size,o,none⟩=some v):Inv P (M.add w.heap.size cs.length cs) w0 σ w':=by
 have hle:=hI.lO cs.length cs
 refine⟨e1.trans hI.os,e2.trans hI.tape,e3.trans hI.output,YG hI.size hs,fun k hk=>(hold k (Nat.lt_of_lt_of_le hk hI.size)).trans (hI.old k hk),fun b o v hv=> ?_,fun e he=>⟨(hI.st e he).1,?_⟩,hI.nd,fun g l e=>(hI.gl g l e).mono hle,hI.gw,fun b o v hv aH=>hI.bm b o v (by simp only[Mem.add]at hv;rwa [if_neg (by have:=hI.size;omega)]at hv) aH⟩
 ·simp only[Mem.add]at hv
  split at hv
  ·grind
  ·have h1:=hI.dB b o v hv
   have hb:b<w.heap.size:=by simpa using World.block_lt_of_cell? _ _ h1
   rw[← h1]
   simp only[World.cell?,hold b hb]
 ·obtain⟨tg,b,x⟩:=e
  have hk:=(hI.st _ he).2
  have aH:b<w.heap.size:=hI.BA he
  have aQ:b≠w.heap.size:=by omega
  have j1:=hk.heap (hold b aH)
  cases x with
  |cells l=>obtain⟨h1,cs',t',h2,h3⟩:=j1;exact⟨fun o=>by simp[Mem.add,aQ,h1 o],cs',t',h2,h3.mono hle⟩
  |tail u' c=>obtain⟨h1,cs',t',h2,h3⟩:=j1;exact⟨fun o ho=>by simp[Mem.add,aQ,h1 o ho],cs',t',h2,h3⟩
  |map es k=>obtain⟨h1,l,h2,h3,h4⟩:=j1;exact⟨fun o=>by simp[Mem.add,aQ,h1 o],l,h2,h3,h4.mono hle⟩
theorem HM{src dst e ty:TypeId}{x:Operand}{s:ByteArray}{q:TI}(pj:s.size≤9223372036854775806):OpP P (.convert src dst x) ty [.str,q,.sl e,.int .u8] [x] [.v (.string s)] (.sl true 1 (s.data.toList.map bn)):=⟨fun σ dR M w0 w ρ hI hR=>by
 simp only[fW,ZW,and_true]at dR
 have hs:=Cj dR.1
 have hd:=Ph dR.2.2.1
 have he:P.underlying e=some (.int .u8):=by
  have:=dR.2.2.2
  unfold xE at this
  rw[hd]at this
  exact GI this
 obtain⟨u,hu,hx⟩:=hR.dV
 simp only[ZH,YX,ZW,and_true]at hu
 have hxv:=hx.az
 subst hxv
 let q0:=Question.appendCap s.size 0 e
 let cap:=q0.cut (w.tape w.drawn q0)
 have lE:cap=s.size+w.tape w.drawn q0 % (2 ^ 63-s.size):=rfl
 have aau:w.tape w.drawn q0 % (2 ^ 63-s.size)<2 ^ 63-s.size:=Nat.mod_lt _ (by omega)
 let arr:Array Value:=s.data.map (fun b=>Value.int .u8 b.toNat)++Array.replicate (cap-s.size) (.int .u8 0)
 let w1:World:=w.drew.alloc (.cells arr e)
 let w2:World:=w1.freeze ⟨w.heap.size,arr.size,none⟩ 1
 let cs:List Value:=s.data.toList.map (fun b=>Value.int .u8 b.toNat)
 have hlen:cs.length=s.size:=by simp[cs]
 have hfz:∀ k,k≠w.heap.size→w2.heap[k]? =w1.heap[k]? :=fun k hk=>by
  have bY:¬w.heap.size=k:=fun e=>hk e.symm
  simp only[w2,World.freeze,Nat.one_ne_zero,Zt,Yq,if_neg bY]
 have h1:w1.heap[w.heap.size]? =some (.cells arr e):=heap_alloc_new w.drew _
 have h2:∃ f,w2.heap[w.heap.size]? =some (.cells arr e f):=by
  simp only[w2,World.freeze,Nat.one_ne_zero,Zt,Yq,Y7,h1,Zu]
  grind
 have hold:∀ k,k<w.heap.size→w2.heap[k]? =w.heap[k]? :=fun k hk=>(hfz k (by omega)).trans (Ev w.drew _ k hk)
 have hcell:∀ o v,cs[o]? =some v→w2.cell? ⟨w.heap.size,o,none⟩=some v:=fun o v hv=>by
  obtain⟨f,h2⟩:=h2
  simp only[World.cell?,h2,Option.isSome_none,ZS,Zt,arr]
  grind
 have bQ:Inv P (M.add w.heap.size cs.length cs) w0 σ w2:=Inv.acV (w':=w2) hI rfl rfl rfl (by grind) hold cs hcell
 refine⟨.value (.slice (some ⟨w.heap.size,0,none⟩) s.size cap),w2,_,.sl true 1 (s.data.toList.map bn),_,σ,?_,rfl,hI.lO _ _,bQ,?_,rfl,rfl⟩
 ·have hf:q0.forced=false:=rfl
  have hsh:w1.shape? w.heap.size=some (e,arr.size):=by simp only[World.shape?,h1]
  simp only[execOp,hu,convert,Sem.run_bind,aY hs,aY hd,aY he,Result.andThen_ok,Conv.stringToBytes,newRow,markStringish]
  simp[choose,Sem.run,Sem.bind,Bind.bind,Pure.pure,Question.forced,newObj,shape,freeze]
  erw [hsh]
  rfl
 ·have hr:Rows (M.add w.heap.size cs.length cs) w.heap.size 0 1 (s.data.toList.map bn) (fun k=>cs.getD k undef):=by
   refine Rows.of_flat (fun i hi=>by simp[bn]) ?_ (fun k v hv=> ?_)
   ·have:∀ l:List UInt8,RL (M.add w.heap.size cs.length cs) (l.map bn).flatten (l.map fun b=>Value.int .u8 b.toNat):=by
     intro l
     induction l with
     |nil=>exact RL.nil
     |cons b l ih=>exact RL.cons (.v _) ih
    grind
   ·have hk:k<cs.length:=(ZN.1 hv).1
    simp only[Mem.add,Y7,Zh]
    rw[if_pos hk];exact hv
  have:=R.lS (cap:=cap) hr (by simp;omega) (by unfold maxLen;omega) true
  grind⟩
end
def ox:TI→Option TypeDesc
 | .int k=>some (.int k)
 | .str=>some .string
 |_=>none
theorem NQ{q:TI}{kd:TypeDesc}{d:Option TypeDesc}(h:ox q=some kd)(ht:jn d=q):d=some kd:=by
 unfold ox at h
 split at h
 ·cases h;exact GI ht
 ·cases h;exact Cj ht
 grind
def mr(kd:TypeDesc)(k:Value):List (Value×Nat×AV)→Option (Option AV)
 |[]=>some none
 |e::es=>match Instr.sameNow kd k e.1 with
  |some true=>some (some e.2.2)
  |some false=>mr kd k es
  |none=>none
theorem Kq{M:Mem}{kd:TypeDesc}{k:Value}:∀ {es:List (Value×Nat×AV)} {l:List MapEntry} (i:Nat),l.map (fun e=>(e.key,e.born))=es.map (fun e=>(e.1,e.2.1))→mr kd k es=some none→Instr.findNow kd k l i=some none
 |[],l,i,hk,_=>by
  have:l=[]:=by simp_all
  subst this;rfl
 |e::es,l,i,hk,h=>by
  cases l with
  |nil=>grind
  |cons m l=>
   simp at hk
   simp only[mr]at h
   simp only[Instr.findNow,hk.1.1]
   split at h
   ·cases h
   ·rename_i e1;rw[e1];exact Kq (M:=M) (i+1) hk.2 h
   grind
theorem Kr{M:Mem}{kd:TypeDesc}{k:Value}{x:AV}:∀ {es:List (Value×Nat×AV)} {l:List MapEntry} (i:Nat),l.map (fun e=>(e.key,e.born))=es.map (fun e=>(e.1,e.2.1))→RL M (es.map (·.2.2)) (l.map (·.val))→mr kd k es=some (some x)→
  ∃ j v,Instr.findNow kd k l i=some (some (j,v))∧R M x v
 |[],l,i,_,_,h=>by cases h
 |e::es,l,i,hk,hR,h=>by
  cases l with
  |nil=>grind
  |cons m l=>
   simp at hk
   obtain⟨v,vs,hv,hx,ff⟩:=RL.cN (x:=e.2.2) (xs:=es.map (·.2.2)) hR
   obtain⟨yt,rfl⟩:=hv
   simp only[mr]at h
   simp only[Instr.findNow,hk.1.1]
   split at h
   ·rename_i e1
    rw[e1]
    grind
   ·rename_i e1;rw[e1];exact Kr (i+1) hk.2 ff h
   grind
section
variable {P:Program}[Glob P]{M:Mem}{w0:Base}{w:World}{σ:Store}
theorem run_checkKey{b:Bool}{n:Nat}{q:TI}{kd:TypeDesc}{kt:TypeId}{v:Value}(hp:ox q=some kd)(hk:P.underlying kt=some kd):(Instr.checkKey b (n+1) kt v).run P w= .ok () w:=by
 unfold ox at hp
 split at hp
 ·cases hp;cases v<;>simp[Instr.checkKey,aY hk]
 ·cases hp;cases v<;>simp[Instr.checkKey,aY hk]
 grind
theorem Inv.xL{tg b k:Nat}{es:List (Value×Nat×AV)}(hI:Inv P M w0 σ w)(hb:aN σ tg=some (b,.map es k)):
  (∀ o,M b o=none)∧∃ l:List MapEntry,w.heap[b]? =some (.map l.toArray k)∧l.map (fun e=>(e.key,e.born))=es.map (fun e=>(e.1,e.2.1))∧RL M (es.map (·.2.2)) (l.map (·.val)):=(hI.st _ (qW hb)).2
theorem Qt(tag:Nat){t ty:TypeId}{ti:List TI}:kh P (.makeMap t none) ty ti [] [] σ fun x σ'=>∃ b,x= .eA tag b∧σ'=(tag,b,.map [] 0)::σ:=by
 intro _ M w0 w ρ hI _
 refine⟨.value (.map (some w.heap.size)),w.alloc (.map #[] 0),M,.eA tag w.heap.size,_,_,?_,rfl,Mem.le.refl _,?_,.eA _ _,_,rfl,rfl⟩
 ·rfl
 ·have h':=hI.alloc (.map #[] 0)
  refine⟨h'.os,h'.tape,h'.output,h'.size,h'.old,h'.dB,fun e he=> ?_,?_,h'.gl,h'.gw,h'.bm⟩
  ·rcases ZV.1 he with rfl|he
   ·exact⟨hI.size,hI.DV,[],heap_alloc_new _ _,rfl,RL.nil⟩
   ·exact h'.st e he
  ·simp only[ZH,YF]
   exact⟨hI.fresh,hI.nd⟩
theorem Qq{tg b dY:Nat}{es:List (Value×Nat×AV)}{t ty kt vt:TypeId}{q:TI}{kd:TypeDesc}{m k x:Operand}{key:Value}{v:AV}(hp:ox q=some kd)(hl:aN σ tg=some (b,.map es dY))(hf:mr kd key es=some none):
  kh P (.insert t m k x) ty [.mp kt vt,q] [m,k,x] [.eA tg b,.v key,v] σ fun y σ'=>y= .v undef∧σ'=ct σ tg b (.map (es++[(key,dY,v)]) (dY+1)):=by
 intro dR M w0 w ρ hI hR
 simp only[fW,ZW,and_true]at dR
 have ht:=Ci dR.1
 have hk:P.underlying kt=some kd:=by
  have:=dR.2
  unfold Fw at this
  rw[ht]at this
  exact NQ hp this
 obtain⟨v1,vs1,e1,h1,iV⟩:=hR.cN
 obtain⟨v2,PS,e2,h2,ff⟩:=iV.cN
 obtain⟨v3,e3,h3⟩:=ff.dV
 subst e3 e2
 simp at e1
 obtain⟨hM,l,hh,jC,kH⟩:=hI.xL hl
 have g1:=h1.yJ
 have g2:=h2.az
 subst g1 g2
 have hfn:=Kq (M:=M) 0 jC hf
 let w':World:={w with heap:=w.heap.setIfInBounds b (.map (l++[(⟨v2,v3,dY⟩:MapEntry)]).toArray (dY+1))}
 refine⟨.skip,w',M,.v undef,undef,_,?_,rfl,Mem.le.refl _,?_,.v _,rfl,rfl⟩
 ·have hu:l.toArray.push (⟨v2,v3,dY⟩:MapEntry)=(l++[(⟨v2,v3,dY⟩:MapEntry)]).toArray:=by grind
  simp only[execOp,e1.1,e1.2.1,e1.2.2,Instr.mapUpdate,Sem.run_bind,aY ht,Result.andThen_ok,getObj,Sem.run,hh,run_checkKey hp hk,Instr.findKey,aY hk,hfn,Sem.run_pure,setObj,hu]
  rfl
 ·refine hI.zM (y:= .map (es++[(v2,dY,v)]) (dY+1)) hl (fun k hk=> ?_) rfl rfl rfl (by simp[w']) hM ⟨hM,l++[⟨v2,v3,dY⟩],?_,?_,?_⟩
  ·grind
  ·grind
  ·grind
  ·simp
   exact RL.append kH (RL.cons h3 RL.nil)
theorem Qr{tg b dY:Nat}{es:List (Value×Nat×AV)}{t ty kt vt:TypeId}{q:TI}{kd:TypeDesc}{m k:Operand}{key:Value}{v:AV}(hp:ox q=some kd)(hl:aN σ tg=some (b,.map es dY))(hf:mr kd key es=some (some v)):
  kh P (.lookup t m k false) ty [.mp kt vt,q] [m,k] [.eA tg b,.v key] σ fun y σ'=>y=v∧σ'=σ:=by
 intro dR M w0 w ρ hI hR
 simp only[fW,ZW,and_true]at dR
 have ht:=Ci dR.1
 have hk:P.underlying kt=some kd:=by
  have:=dR.2
  unfold Fw at this
  rw[ht]at this
  exact NQ hp this
 obtain⟨v1,vs1,e1,h1,iV⟩:=hR.cN
 obtain⟨v2,e2,h2⟩:=iV.dV
 subst e2
 simp at e1
 obtain⟨hM,l,hh,jC,kH⟩:=hI.xL hl
 have g1:=h1.yJ
 have g2:=h2.az
 subst g1 g2
 obtain⟨j,u,hfn,hu⟩:=Kr (M:=M) 0 jC kH hf
 refine⟨.value u,w,M,v,u,σ,?_,rfl,Mem.le.refl _,hI,hu,rfl,rfl⟩
 simp only[execOp,e1.1,e1.2,Instr.lookup,Sem.run_bind,aY ht,Result.andThen_ok,getObj,Sem.run,hh,run_checkKey hp hk,Instr.findKey,aY hk,hfn,Sem.run_pure]
 rfl
end
section
variable {P:Program}[Glob P]{N:Nat}{cfg:Nat→Nat}{Q:Exit→ae→Store→Prop}{K:ae→Store→Prop}{E:List PanicEntry→Store→Prop}{rg:ae}{σ σ':Store}{l:List CI}{d:Nat}{v:AV}{xr cu:XR}{ps:List Prop}
 {ah cf:List Nat} {ix:Nat} {ld:List CD} {g:Option (Nat×Bool)} {og:Option Bool} {as:List AV} {args:List Operand} {op:Op} {ty:TypeId} {ti:List TI}
theorem uJ(h:aA xr none args=some (og,as,ps)):og=none:=by
 unfold aA gX at h
 obtain⟨bg,h',_,_⟩:=fD h
 split at h'<;>cases h';rfl
theorem Ai{r:AV}(h:aA xr g args=some (og,as,ps))(hp:og.getD true=true→OpP P op ty ti args as r)(al:OB ps)(k:VX P cfg l K E (bF og d r xr) σ):VX P cfg (⟨some d,.cp op ty ti args,g⟩::l) K E xr σ:=by
 obtain⟨hc,he⟩:=bZ h
 refine gU hc (fun hg=> ?_) (fun hg=> ?_)
 ·simp only[aj,he al hg]
  refine((hp hg).sp σ).mono fun x σ' ⟨e1,e2⟩=> ?_
  subst e1 e2;rw[← eP hg];exact k.h
 ·rw[← eO hg (v:=r)];exact k.h
theorem C5{r:AV}(h:aA xr g args=some (og,as,ps))(hp:og.getD true=true→OpP P op ty ti args as r)(al:OB ps)(k:VY P cfg ah ld K (bF og d r xr) σ):VY P cfg ah (⟨ix,⟨some d,.cp op ty ti args,g⟩,cf⟩::ld) K xr σ:=by
 obtain⟨hc,he⟩:=bZ h
 refine nB hc (fun hg=> ?_) (fun hg=> ?_)
 ·simp only[cO,aw.cls,aG,he al hg]
  have:=k.h;rw[eP hg]at this;grind
 ·rw[← eO hg (v:=r)];exact k.h
theorem Rt{t:TypeId}{x:Operand}{lo hi:Option Operand}{s:ByteArray}{a b:Int}(h:aA xr g args=some (og,as,ps))(he:args=x::(lo.toList++hi.toList))(hs:wu lo hi as=some (s,a,b))(al:OB ps)
  (hb:og.getD true=true→0≤a∧a≤b∧b≤s.size) (k:VX P cfg l K E (bF og d (.v (.string (s.extract a.toNat b.toNat))) xr) σ):VX P cfg (⟨some d,.cp (.slice t x lo hi none) ty [.str] args,g⟩::l) K E xr σ:=
 Ai h (fun hg=>by subst he;exact HO hs (hb hg)) al k
theorem RW{t:TypeId}{x:Operand}{lo hi:Option Operand}{s:ByteArray}{a b:Int}(h:aA xr g args=some (og,as,ps))(he:args=x::(lo.toList++hi.toList))(hs:wu lo hi as=some (s,a,b))(al:OB ps)
  (hb:og.getD true=true→0≤a∧a≤b∧b≤s.size) (k:VY P cfg ah ld K (bF og d (.v (.string (s.extract a.toNat b.toNat))) xr) σ):VY P cfg ah (⟨ix,⟨some d,.cp (.slice t x lo hi none) ty [.str] args,g⟩,cf⟩::ld) K xr σ:=
 C5 h (fun hg=>by subst he;exact HO hs (hb hg)) al k
def yG:AV→Bool
 | .v (.string _)=>false
 |_=>true
theorem Na(h:yG v=true):¬∃ s,v= .v (.string s):=fun⟨s,e⟩=>by subst e;cases h
theorem Q6{src dst e:TypeId}{x:Operand}{q:TI}{ls:List UInt8}(h:aA xr g [x]=some (og,[v],ps))(hv:eQ 1 v=some (ls.map bn))(hn:yG v=true)(al:OB ps)
  (k:VX P cfg l K E (bF og d (.v (.string ⟨ls.toArray⟩)) xr) σ):VX P cfg (⟨some d,.cp (.convert src dst x) ty [.sl e,.int .u8,.str,q] [x],g⟩::l) K E xr σ:=
 Ai h (fun _=>by have:=HL (P:=P) (src:=src) (dst:=dst) (e:=e) (ty:=ty) (x:=x) (q:=q) hv (Na hn) (GR ls);rwa [IW]at this) al k
theorem RF{src dst e:TypeId}{x:Operand}{q:TI}{ls:List UInt8}(h:aA xr g [x]=some (og,[v],ps))(hv:eQ 1 v=some (ls.map bn))(hn:yG v=true)(al:OB ps)
  (k:VY P cfg ah ld K (bF og d (.v (.string ⟨ls.toArray⟩)) xr) σ):VY P cfg ah (⟨ix,⟨some d,.cp (.convert src dst x) ty [.sl e,.int .u8,.str,q] [x],g⟩,cf⟩::ld) K xr σ:=
 C5 h (fun _=>by have:=HL (P:=P) (src:=src) (dst:=dst) (e:=e) (ty:=ty) (x:=x) (q:=q) hv (Na hn) (GR ls);rwa [IW]at this) al k
theorem Q7{src dst e:TypeId}{x:Operand}{q:TI}{s:ByteArray}(h:aA xr g [x]=some (og,[.v (.string s)],ps))(al:OB ps)(hb:og.getD true=true→s.size≤9223372036854775806)
  (k:VX P cfg l K E (bF og d (.sl true 1 (s.data.toList.map bn)) xr) σ):VX P cfg (⟨some d,.cp (.convert src dst x) ty [.str,q,.sl e,.int .u8] [x],g⟩::l) K E xr σ:=
 Ai h (fun hg=>HM (hb hg)) al k
theorem RH{src dst e:TypeId}{x:Operand}{q:TI}{s:ByteArray}(h:aA xr g [x]=some (og,[.v (.string s)],ps))(al:OB ps)(hb:og.getD true=true→s.size≤9223372036854775806)
  (k:VY P cfg ah ld K (bF og d (.sl true 1 (s.data.toList.map bn)) xr) σ):VY P cfg ah (⟨ix,⟨some d,.cp (.convert src dst x) ty [.str,q,.sl e,.int .u8] [x],g⟩,cf⟩::ld) K xr σ:=
 C5 h (fun hg=>HM (hb hg)) al k
def bB(s:ByteArray)(i:Nat):UInt8:=s.data.toList.getD i 0
theorem Rc{x i:Operand}{s:ByteArray}{iv:AV}{n:Int}(h:aA xr g [x,i]=some (og,[.v (.string s),iv],ps))(hi:ic iv=some n)(al:OB ps)(hb:og.getD true=true→0≤n∧n<s.size)
  (k:VX P cfg l K E (bF og d (.v (.int .u8 (bB s n.toNat).toNat)) xr) σ):VX P cfg (⟨some d,.idxs x i,g⟩::l) K E xr σ:=by
 obtain⟨hc,he⟩:=bZ h
 refine gU hc (fun hg=> ?_) (fun hg=> ?_)
 ·have:=he al hg
  simp only[aU,ZW,and_true]at this
  obtain⟨q,hq⟩:=qS hi
  simp only[aj,this.1,this.2,hq]
  have aH:=hb hg
  have hk:=k.h
  rw[eP hg]at hk
  have e:bB s n.toNat=s[n.toNat]'(by omega):=by
   have h2:n.toNat<s.data.toList.length:=by simp_all
   simp only[bB,Z1,Z6 h2,ZE]
   rfl
  grind
 ·rw[← eO hg (v:= .v (.int .u8 (bB s n.toNat).toNat))];exact k.h
theorem RO{x i:Operand}{s:ByteArray}{iv:AV}{n:Int}(h:aA xr g [x,i]=some (og,[.v (.string s),iv],ps))(hi:ic iv=some n)(al:OB ps)(hb:og.getD true=true→0≤n∧n<s.size)
  (k:VY P cfg ah ld K (bF og d (.v (.int .u8 (bB s n.toNat).toNat)) xr) σ):VY P cfg ah (⟨ix,⟨some d,.idxs x i,g⟩,cf⟩::ld) K xr σ:=by
 obtain⟨hc,he⟩:=bZ h
 refine nB hc (fun hg=> ?_) (fun hg=> ?_)
 ·have:=he al hg
  simp only[aU,ZW,and_true]at this
  obtain⟨q,hq⟩:=qS hi
  simp only[cO,aw.cls,aG,aj,this.1,this.2,hq]
  have aH:=hb hg
  have hk:=k.h
  rw[eP hg]at hk
  have e:bB s n.toNat=s[n.toNat]'(by omega):=by
   have h2:n.toNat<s.data.toList.length:=by simp_all
   simp only[bB,Z1,Z6 h2,ZE]
   rfl
  grind
 ·rw[← eO hg (v:= .v (.int .u8 (bB s n.toNat).toNat))];exact k.h
theorem Rk{t:TypeId}(k:∀ b,VX P cfg l K E ((d,.s (.eA d b))::xr) ((d,b,.map [] 0)::σ)):VX P cfg (⟨some d,.exts (.makeMap t none) ty ti [],none⟩::l) K E xr σ:=by
 constructor
 refine(Qt d).mono fun x σ' ⟨b,e1,e2⟩=> ?_
 subst e1 e2
 exact(k b).h
theorem Re{t kt vt:TypeId}{q:TI}{kd:TypeDesc}{m k x:Operand}{tg b b' dY:Nat}{es:List (Value×Nat×AV)}{key:Value}(h:aA xr none [m,k,x]=some (og,[.eA tg b,.v key,v],ps))(hp:ox q=some kd)(hl:aN σ tg=some (b',.map es dY))(hb:b=b')
  (hf:mr kd key es=some none) (hu:uc σ tg b (.map (es++[(key,dY,v)]) (dY+1))=some σ') (al:OB ps) (kk:VX P cfg l K E xr σ'):VX P cfg (⟨none,.exts (.insert t m k x) ty [.mp kt vt,q] [m,k,x],none⟩::l) K E xr σ:=by
 obtain⟨hc,he⟩:=bZ h
 have cI:=uJ h
 subst cI
 subst hb
 constructor
 simp only[dW,di,aj,he al rfl]
 refine(Qq hp hl hf).mono fun y s ⟨e1,e2⟩=> ?_
 rw[Ct hu]at e2
 subst e1 e2
 exact kk.h
theorem Rh{t kt vt:TypeId}{q:TI}{kd:TypeDesc}{m k:Operand}{tg b b' dY:Nat}{es:List (Value×Nat×AV)}{key:Value}(h:aA xr none [m,k]=some (og,[.eA tg b,.v key],ps))(hp:ox q=some kd)(hl:aN σ tg=some (b',.map es dY))(hb:b=b')
  (hf:mr kd key es=some (some v)) (al:OB ps) (kk:VX P cfg l K E ((d,.s v)::xr) σ):VX P cfg (⟨some d,.cp (.lookup t m k false) ty [.mp kt vt,q] [m,k],none⟩::l) K E xr σ:=by
 obtain⟨hc,he⟩:=bZ h
 have cI:=uJ h
 subst cI
 subst hb
 constructor
 simp only[dW,di,aj,he al rfl]
 refine(Qr hp hl hf).mono fun y s ⟨e1,e2⟩=> ?_
 subst e1 e2
 exact kk.h
theorem Q1{f:FuncId}{r:AV}{fo:Operand}{a c:List AV}(h:aA xr g (fo::args)=some (og,.cl f a c::as,ps))(bJ:gV P f=true)(hp:og.getD true=true→Pure P f (a++as++c) r)(al:OB ps)(k:VX P cfg l K E (bF og d r xr) σ):
  VX P cfg (⟨some d,.dA fo args,g⟩::l) K E xr σ:=by
 obtain⟨hc,he⟩:=bZ h
 refine gU hc (fun hg=> ?_) (fun hg=> ?_)
 ·have:=he al hg
  simp only[aU,ZW]at this
  simp only[aj,this.1,this.2]
  refine⟨bJ,uO (hp hg) ?_⟩
  rw[← eP hg];exact k.h
 ·rw[← eO hg (v:=r)];exact k.h
theorem RD{f:FuncId}{r:AV}{fo:Operand}{a c:List AV}(h:aA xr g (fo::args)=some (og,.cl f a c::as,ps))(bJ:gV P f=true)(hp:og.getD true=true→Pure P f (a++as++c) r)(al:OB ps)(k:VY P cfg ah ld K (bF og d r xr) σ):
  VY P cfg ah (⟨ix,⟨some d,.dA fo args,g⟩,cf⟩::ld) K xr σ:=by
 obtain⟨hc,he⟩:=bZ h
 refine nB hc (fun hg=> ?_) (fun hg=> ?_)
 ·have:=he al hg
  simp only[aU,ZW]at this
  simp only[cO,aw.cls,aG,this.1,this.2]
  refine⟨bJ,r,hp hg,?_⟩
  have:=k.h;rw[eP hg]at this;grind
 ·rw[← eO hg (v:=r)];exact k.h
end
end Go.Sx
