/-
  The layer Sx: a region of open order, new variables and stores among its operations, with one call that turns the store and may panic.
-/
import Derived.Test.YtbihckigennlhaaGreatDoorSxSt
import Derived.Laws.BytesString
set_option linter.unusedVariables false
set_option linter.unusedSimpArgs false
set_option linter.unusedSectionVars false
namespace Go.Sx
open Go.RowKit
def xX(d:Nat):List CD→Option (List CD×CD×List CD)
 |[]=>none
 |c::l=>bif (match c.c.d with|some e=>Nat.beq e d|none=>false)then some ([],c,l)else match xX d l with
  |some (a,s,b)=>some (c::a,s,b)
  |none=>none
theorem MB{d:Nat}:∀ {l a b:List CD} {s:CD},xX d l=some (a,s,b)→l=a++s::b
 |[],_,_,_,h=>by cases h
 |c::l,a,b,s,h=>by
  simp only[xX]at h
  generalize (match c.c.d with|some e=>Nat.beq e d|none=>false)=q at h
  cases q with
  |true=>cases h;rfl
  |false=>
   simp only[X9]at h
   cases h2:xX d l with
   |none=>rw[h2]at h;cases h
   |some p=>obtain⟨a',s',b'⟩:=p;rw[h2]at h;cases h;rw[MB h2];rfl
def tw(ah:List Nat):List CD→List CD→Bool
 |_,[]=>true
 |acc,b::l=>(acc.any fun a=> !iO ah a b) && tw ah (b::acc) l
theorem HS{ah:List Nat}{x:CD}{B:List CD}:∀ (c' acc:List CD),tw ah acc (c'++x::B)=true→∃ a,(a∈acc∨a∈c')∧iO ah a x=false
 |[],acc,h=>by
  simp only[Zh,tw,Z3,Yn,Y4]at h
  obtain⟨⟨a,ha,hc⟩,_⟩:=h
  exact⟨a,.inl ha,hc⟩
 |c::c',acc,h=>by
  simp only[ZH,tw,Z3]at h
  obtain⟨a,ha,hc⟩:=HS c' _ h.2
  refine⟨a,?_,hc⟩
  rcases ha with ha|ha
  ·rcases ZU.1 ha with rfl|ha
   ·exact .inr (by simp)
   ·exact .inl ha
  ·exact .inr (by simp[ha])
section
variable {P:Program}[Glob P]{cfg:Nat→Nat}{ts ah:List Nat}{rg:ae}{σ:Store}{N:Nat}{K:ae→Store→Prop}{E:List PanicEntry→Store→Prop}{Q:Exit→ae→Store→Prop}{k:List Fr}{xr:XR}
def o4(P:Program)[Glob P](cfg:Nat→Nat)(ts ah:List Nat)(K:ae→Store→Prop)(E:List PanicEntry→Store→Prop)(d:Nat)(f:FuncId)(args:List Operand)(l2:List CD)(rg:ae)(σ:Store):Prop:=
 ∃ R:cU→Store→Prop,Spec P f (aQ rg args) σ R∧(∀ x σ',R (.ret x) σ'→(∀ t b l,ts.elem t=false→aK σ t=some (b,.cells l)→aK σ' t=some (b,.cells l))∧cx P cfg ah l2 (Cl K) ((d,x)::rg) σ')∧∀ ch σ',R (.cC ch) σ'→E ch σ'
theorem HZ{t:Nat}(h:(ts++ah).elem t=false):ts.elem t=false∧ah.elem t=false:=by
 constructor<;>(rw[← YA]at h ⊢;intro h2;exact h (List.elem_eq_true_of_mem (by rw[Zl];first|exact .inl (List.mem_of_elem_eq_true h2)|exact .inr (List.mem_of_elem_eq_true h2))))
theorem aah{cf:List Nat}{op:au}(h:kG (ts++ah) cf rg op=true):kG ah cf rg op=true:=by
 cases op<;>try exact h
 simp only[kG]at h ⊢
 split at h
 ·simp only[Z3,Y4]at h ⊢
  exact⟨(HZ h.1).2,h.2⟩
 ·rfl
theorem as7{c:CD}{K:AV→Store→Prop}(hc:c.c.op.cls≤1)(h:cK P cfg (ts++ah) c K rg σ):cK P cfg ah c K rg σ:=by
 have cj:cF P cfg (ts++ah) c.cf c.c.d rg σ K c.c.op→cF P cfg ah c.cf c.c.d rg σ K c.c.op:=fun h=>by
  unfold cF at h ⊢
  split at h
  ·exact h
  ·exact⟨aah h.1,h.2⟩
  all_goals(rename_i e;first|(rw[e]at hc;omega)|exact h.elim)
 unfold cK at h ⊢
 split at h
 ·exact cj h
 ·split at h
  ·exact⟨fun e=>cj (h.1 e),h.2⟩
  ·exact h
  ·exact h.elim
theorem Ry{a c:CD}(ha:a.c.op.cls≤1)(hc:c.c.op.cls≤1)(h:iO ah a c=true):iO (ts++ah) a c=true:=by
 unfold iO at h ⊢
 simp only[Z3]at h ⊢
 refine⟨h.1,?_⟩
 generalize a.c.op.cls=m at ha
 generalize c.c.op.cls=n at hc
 match m,n,ha,hc with
 |0,_,_,_=>rfl
 |1,0,_,_=>rfl
 |1,1,_,_=>rfl
theorem KR{d:Nat}{f:FuncId}{args:List Operand}{l2:List CD}{s:CD}(hs:s.c=⟨some d,.call f args,none⟩)(Di:∀ b∈l2,fy b=true):∀ (A:List CD) (rg:ae) (σ:Store),
  (∀ a∈A,fy a=true∧a.c.op.cls≤1∧iO ah a s=true)→cx P cfg (ts++ah) A (Cl (o4 P cfg ts ah K E d f args l2)) rg σ→
  ∃ bn,cV bn σ∧∃ R:cU→Store→Prop,Spec P f (aQ rg args) bn R∧(∀ x σ',R (.ret x) σ'→(∀ t b l,ts.elem t=false→aK bn t=some (b,.cells l)→aK σ' t=some (b,.cells l))∧cx P cfg ah (A++l2) (Cl K) ((d,x)::rg) σ')∧∀ ch σ',R (.cC ch) σ'→E ch σ'
 |[],rg,σ,_,h=>by
  obtain⟨ao,σ',h1,h2,R,hR,hk,he⟩:=h
  refine⟨σ',h2,R,?_,fun x di hr=>⟨(hk x di hr).1,?_⟩,he⟩
  ·rw[← iQ args fun t _=>h1 t];exact hR
  ·exact Ba (Cl.closed K) l2 Di _ _ _ _ (uH h1 (some d) x) (cV.refl _) (hk x di hr).2
 |a::A,rg,σ,hA,h=>by
  obtain⟨ha,bI,lD⟩:=hA a (by simp)
  obtain⟨y,hy,hv⟩:=tz bI h
  obtain⟨bn,iB,R,hR,hk,he⟩:=KR hs Di A _ σ (fun b hb=>hA b (by simp[hb])) hy
  unfold iO at lD
  simp only[Z3,Zk,ZG]at lD
  obtain⟨⟨⟨pG,gD⟩,iq⟩,_⟩:=lD
  rw[hs]at gD iq
  refine⟨bn,iB,R,?_,fun x σ' hr=>⟨(hk x σ' hr).1,?_⟩,he⟩
  ·rw[← iQ (rg:=bM a.c.d y rg) args fun t ht=>sj pG t (by unfold qe CI.reads;rw[hs];exact ZC _ (ZC _ ht))];exact hR
  ·refine A9 (rg:=rg) (fun t ht=>(sj (d:=some d) (x:=x) gD t ht).symm) (as7 bI (hv σ' (fun h1 t ht tV b l hl=>(hk x σ' hr).1 t b l (HZ ht).1 ((iB.1 t).trans hl)) _ ?_))
   exact Ba (Cl.closed K) (A++l2) (fun b hb=>(Zl.1 hb).elim (fun h=>(hA b (by simp[h])).1) (Di b)) _ _ _ _ (fun i=>(En (d:=a.c.d) (d':=some d) iq i).symm) (cV.refl _) (hk x σ' hr).2
theorem Oj(ts:List Nat){l1 l2:List CD}{s:CD}{d:Nat}{f:FuncId}{args:List Operand}(hs:s.c=⟨some d,.call f args,none⟩)(hq:(l1.all fun a=>Nat.ble a.c.op.cls 1)=true)(hd:tw ah [s] l2=true)
  (h:cx P cfg (ts++ah) l1 (o4 P cfg ts ah (Q .normal) (fun ch σ'=>Q (.panic ch) [] σ') d f args l2) rg σ):SW P N (.c8 ah (l1++s::l2)) Q rg σ:=by
 refine F5 cfg (fun L rg σ=>(∃ A,L=A++s::l2∧(∀ a∈A,a.c.op.cls≤1)∧cx P cfg (ts++ah) A (Cl (o4 P cfg ts ah (Q .normal) (fun ch σ'=>Q (.panic ch) [] σ') d f args l2)) rg σ)∨cx P cfg ah L (Cl (Q .normal)) rg σ)
  (fun ho=> .inl ⟨l1,rfl,fun a ha=>Z9 (ZJ.1 hq a ha),E6 (fun _ _=>Cl.intro) l1 rg σ (fun x hx=>ho x (by simp[hx])) h⟩) (fun rg σ hv=> ?_) fun A x B rg σ ho hA hv=> ?_
 ·rcases hv with⟨A,e,_⟩|hv
  ·simp at e
  ·exact hv
 ·have call:∀ A B,(∀ a∈A,a.c.op.cls≤1)→(∀ a∈A++s::l2,fy a=true)→(∀ a∈A,iO ah a s=true)→B=l2→cx P cfg (ts++ah) A (Cl (o4 P cfg ts ah (Q .normal) (fun ch σ'=>Q (.panic ch) [] σ') d f args l2)) rg σ→
    ∃ ao σ',(∀ i,lk ao i=lk rg i)∧cV σ' σ∧cT P cfg s.c (fun y aw=>(∃ A',A++B=A'++s::l2∧(∀ a∈A',a.c.op.cls≤1)∧cx P cfg (ts++ah) A' (Cl (o4 P cfg ts ah (Q .normal) (fun ch σ'=>Q (.panic ch) [] σ') d f args l2)) (bM s.c.d y rg) aw)∨cx P cfg ah (A++B) (Cl (Q .normal)) (bM s.c.d y rg) aw) (fun ch σ'=>Q (.panic ch) [] σ') ao σ':=by
   rintro A B hc ho hA rfl hv
   obtain⟨bn,iB,R,hR,hk,he⟩:=KR hs (fun b hb=>ho b (by simp[hb])) A rg σ (fun a ha=>⟨ho a (by simp[ha]),hc a ha,hA a ha⟩) hv
   refine⟨rg,bn,fun _=>rfl,iB,?_⟩
   unfold cT
   rw[hs]
   simp only[aj]
   exact⟨R,hR,fun x σ' hr=> .inr (hk x σ' hr).2,he⟩
  rcases hv with⟨A',e,hc,hv⟩|hv
  ·rcases List.append_eq_append_iff.1 e with⟨a',e1,e2⟩|⟨c',e1,e2⟩
   ·cases a' with
    |nil=>
     simp only[Zh,ZY]at e2
     rw[Zx]at e1
     obtain⟨rfl,rfl⟩:=e2
     subst e1
     exact call _ _ hc ho hA rfl hv
    |cons y a'=>
     simp only[ZH,ZY]at e2
     obtain⟨rfl,rfl⟩:=e2
     subst e1
     refine⟨rg,σ,fun _=>rfl,cV.refl _,A8 (ho x (by simp)) (yc (ho x (by simp)) (yV (ah:=ts++ah) (Cl.closed _) (ho x (by simp)) A a' rg σ (fun a ha=>⟨Ry (hc a (by simp[ha])) (hc x (by simp)) (hA a ha),ho a (by simp[ha])⟩) (fun b hb=>ho b (by simp[hb])) hv) fun y aw _ h=> .inl ⟨A++a',by simp,fun a ha=>hc a ?_,h⟩)⟩
     rcases Zl.1 ha with h|h<;>simp[h]
   ·cases c' with
    |nil=>
     simp only[Zh,ZY]at e2
     rw[Zx]at e1
     obtain⟨rfl,rfl⟩:=e2
     subst e1
     exact call _ _ hc ho hA rfl hv
    |cons y c'=>
     exfalso
     simp only[ZH,ZY]at e2
     obtain⟨rfl,rfl⟩:=e2
     subst e1
     obtain⟨a,ha,lD⟩:=HS c' [s] hd
     have:=hA a (by rcases ha with ha|ha<;>simp_all)
     rw[this]at lD;cases lD
  ·exact⟨rg,σ,fun _=>rfl,cV.refl _,A8 (ho x (by simp)) (yc (ho x (by simp)) (yV (Cl.closed _) (ho x (by simp)) A B rg σ (fun a ha=>⟨hA a ha,ho a (by simp[ha])⟩) (fun b hb=>ho b (by simp[hb])) hv) fun _ _ _ h=> .inr h)⟩
theorem vN(ts:List Nat)(d:Nat){ld l1 l2:List CD}{ix:Nat}{cf:List Nat}{f:FuncId}{args:List Operand}(hl:xX d ld=some (l1,⟨ix,⟨some d,.call f args,none⟩,cf⟩,l2))(hq:(l1.all fun a=>Nat.ble a.c.op.cls 1)=true)
  (hd:tw ah [⟨ix,⟨some d,.call f args,none⟩,cf⟩] l2=true) (hx:iJ rg=some xr)
  (h:VY P cfg (ts++ah) l1 (o4 P cfg ts ah (FK P N cfg Q .normal k) (fun ch σ'=>FK P N cfg Q (.panic ch) k [] σ') d f args l2) xr σ):WK P N cfg Q (.c8 ah ld) k rg σ:=by
 have e:=MB hl
 subst e
 refine⟨WA.mono (Q:=fun e=>FK P N cfg Q e k) ⟨rfl,Oj (cfg:=cfg) ts rfl hq hd ?_⟩ fun _ _ _ h=>h.h⟩
 have:=h.h
 rw[← su hx,qO]at this
 exact this
end
theorem RL.dN{M:Mem}{x:AV}{vs:List Value}(h:RL M [x] vs):∃ v,vs=[v]∧R M x v:=by
 obtain⟨v,gL,rfl,h1,h2⟩:=h.cE
 exact⟨v,by rw[h2.sD],h1⟩
def vb(lo hi:Option Operand)(as:List AV):Option (ByteArray×Int×Int):=
 match lo,hi,as with
 |none,none,[.v (.string s)]=>some (s,0,s.size)
 |some _,none,[.v (.string s),.v (.int _ a)]=>some (s,a,s.size)
 |none,some _,[.v (.string s),.v (.int _ b)]=>some (s,0,b)
 |some _,some _,[.v (.string s),.v (.int _ a),.v (.int _ b)]=>some (s,a,b)
 |_,_,_=>none
def vm:List (List AV)→Option (List Int)
 |[]=>some []
 |[.v (.int .u8 n)]::l=>(vm l).map (n::·)
 |_=>none
def o7(ns:List Int):ByteArray:=⟨(ns.map fun n=>UInt8.ofNat n.toNat).toArray⟩
section
variable {P:Program}[Glob P]{M:Mem}{w0:Base}{w:World}{σ:Store}
theorem FU{t ty:TypeId}{x:Operand}{lo hi:Option Operand}{as:List AV}{s:ByteArray}{a b:Int}(h:vb lo hi as=some (s,a,b))(hb:0≤a∧a≤b∧b≤s.size):
  qE P (.slice t x lo hi none) ty [.str] (x::(lo.toList++hi.toList)) as (.v (.string (s.extract a.toNat b.toNat))):=⟨fun σ dI M w0 w ρ hI hR=>by
 have ht:P.underlying t=some .string:=by
  simp only[fz,ZY,and_true]at dI;exact A0 dI
 refine⟨.value (.string (s.extract a.toNat b.toNat)),w,M,.v (.string (s.extract a.toNat b.toNat)),.string (s.extract a.toNat b.toNat),σ,?_,rfl,Mem.le.refl _,hI,.v _,rfl,rfl⟩
 unfold vb at h
 split at h<;>cases h
 ·obtain⟨v,hv,hx⟩:=hR.dN
  simp only[Option.toList_none,Zx,ZL,Y7,ZY,and_true]at hv
  simp[execOp,Instr.sliceAt,aV ht,Instr.slice,Instr.sliceBounds,hv,hx.ax]
 ·obtain⟨v,vs,hv,hx,eL⟩:=hR.cE
  obtain⟨v2,jP,cX⟩:=eL.dN
  subst jP
  simp only[Option.toList_none,Option.toList_some,Zx,ZL,Y7,ZY,and_true]at hv
  have e1:=hx.ax
  have e2:=cX.ax
  have h1:(0:Int)≤a∧a≤(s.size:Int):=⟨hb.1,hb.2.1⟩
  simp[execOp,Instr.sliceAt,aV ht,Instr.slice,Instr.sliceBounds,Instr.sliceBound,asIntOf,hv.1,hv.2,e1,e2,h1]
 ·obtain⟨v,vs,hv,hx,eL⟩:=hR.cE
  obtain⟨v2,jP,cX⟩:=eL.dN
  subst jP
  simp only[Option.toList_none,Option.toList_some,Zh,ZL,Y7,ZY,and_true]at hv
  have e1:=hx.ax
  have e2:=cX.ax
  have h1:(0:Int)≤b∧b≤(s.size:Int):=⟨hb.2.1,hb.2.2⟩
  simp[execOp,Instr.sliceAt,aV ht,Instr.slice,Instr.sliceBounds,Instr.sliceBound,asIntOf,hv.1,hv.2,e1,e2,h1]
 ·obtain⟨v,vs,hv,hx,eL⟩:=hR.cE
  obtain⟨v2,Nt,jP,cX,ri⟩:=eL.cE
  obtain⟨v3,Wg,Wn⟩:=ri.dN
  subst Wg
  subst jP
  simp only[Option.toList_some,ZH,Zh,ZL,Y7,ZY,and_true]at hv
  have e1:=hx.ax
  have e2:=cX.ax
  have e3:=Wn.ax
  have h1:(0:Int)≤b∧b≤(s.size:Int):=⟨by omega,hb.2.2⟩
  have h2:(0:Int)≤a∧a≤(b.toNat:Int):=⟨hb.1,by omega⟩
  simp[execOp,Instr.sliceAt,aV ht,Instr.slice,Instr.sliceBounds,Instr.sliceBound,asIntOf,hv.1,hv.2.1,hv.2.2,e1,e2,e3,h1,h2]
  intro aE
  omega⟩
theorem Na{M:Mem}:∀ {rows:List (List AV)} {ns:List Int} {L:List Value},vm rows=some ns→RL M rows.flatten L→L=ns.map (.int .u8)
 |[],ns,L,h,hR=>by cases h;exact hR.sD
 |r::rows,ns,L,h,hR=>by
  unfold vm at h
  split at h
  ·rename_i he;cases he
  ·rename_i n l he
   cases he
   obtain⟨ns',h1,rfl⟩:=ZS.1 h
   obtain⟨v,vs,rfl,hx,eL⟩:=RL.cE (x:= .v (.int .u8 n)) (xs:=rows.flatten) hR
   rw[hx.ax,Na h1 eL];rfl
  ·cases h
theorem Rk(ns:List Int):ns.foldl (fun r n=>r.push (UInt8.ofNat n.toNat)) ByteArray.empty=o7 ns:=by
 have:∀ (ns:List Int) (s:ByteArray),ns.foldl (fun r n=>r.push (UInt8.ofNat n.toNat)) s=⟨s.data++(ns.map fun n=>UInt8.ofNat n.toNat).toArray⟩:=by
  intro ns
  induction ns with
  |nil=>intro s;simp
  |cons n ns ih=>
   intro s
   rw[List.foldl_cons,ih]
   congr 1
   apply YX
   simp[ByteArray.push]
 rw[this]
 simp only[o7]
 congr 1
 apply YX
 simp[ByteArray.empty,ByteArray.emptyWithCapacity]
 try rfl
theorem FR{src dst e ty:TypeId}{x:Operand}{v:AV}{rows:List (List AV)}{ns:List Int}{q:TI}(hv:eu 1 v=some rows)(uj:¬∃ s,v= .v (.string s))(hn:vm rows=some ns):
  qE P (.convert src dst x) ty [.sl e,.int .u8,.str,q] [x] [v] (.v (.string (o7 ns))):=⟨fun σ dI M w0 w ρ hI hR=>by
 simp only[fz,ZY,and_true]at dI
 have hs:=MV dI.1
 have he:P.underlying e=some (.int .u8):=by
  have:=dI.2.1
  unfold wh at this
  rw[hs]at this
  exact ER this
 have hd:=A0 dI.2.2.1
 obtain⟨u,hu,hx⟩:=hR.dN
 simp only[ZL,Y7,ZY,and_true]at hu
 obtain⟨base,cap,L,rfl,hL,_,fq⟩:=Aw (P:=P) hI hx hv uj
 have cZ:=Na hn hL
 subst cZ
 refine⟨.value (.string (o7 ns)),w,M,.v (.string (o7 ns)),.string (o7 ns),σ,?_,rfl,Mem.le.refl _,hI,.v _,rfl,rfl⟩
 have hc:=run_convert_bytes_string (P:=P) w src dst e base rows.length cap hs he hd
 simp only[execOp,hu,Sem.run_bind,hc]
 cases base with
 |none=>
  simp only[Builtin.firstCells,Sem.run_pure,Result.ok.injEq,and_true]at fq
  have:ns=[]:=by
   have:=congrArg Array.toList fq
   simpa using this
  subst this
  simp[Conv.bytesToString,Sem.run_pure]
  rfl
 |some a=>
  simp only[Builtin.firstCells,X8]at fq
  rw[run_bytesToString w a rows.length cap ns fq,Rk]
  simp[Sem.run_pure]⟩
theorem EW:∀ (ls:List UInt8),vm (ls.map bA)=some (ls.map fun b=>(b.toNat:Int))
 |[]=>rfl
 |b::ls=>by
  show(vm (ls.map bA)).map ((b.toNat:Int)::·)=_
  rw[EW ls];rfl
theorem G4(ls:List UInt8):o7 (ls.map fun b=>(b.toNat:Int))=⟨ls.toArray⟩:=by
 simp only[o7,Yv]
 congr 2
 conv=>rhs;rw[← List.map_id ls]
 apply List.map_congr_left
 intro b _
 simp
theorem Inv.aaP(hI:Inv P M w0 σ w){w':World}(e1:w'.os=w.os)(e2:w'.tape=w.tape)(e3:w'.output=w.output)(hs:w.heap.size≤w'.heap.size)(hold:∀ k,k<w.heap.size→w'.heap[k]? =w.heap[k]?)(cs:List Value)
  (hc:∀ o v,cs[o]? =some v→w'.cell? ⟨w.heap.size,o,none⟩=some v):Inv P (M.add w.heap.size cs.length cs) w0 σ w':=by
 have hle:=hI.kH cs.length cs
 refine⟨e1.trans hI.os,e2.trans hI.tape,e3.trans hI.output,YJ hI.size hs,fun k hk=>(hold k (Nat.lt_of_lt_of_le hk hI.size)).trans (hI.old k hk),fun b o v hv=> ?_,fun e he=>⟨(hI.st e he).1,?_⟩,hI.nd,fun g l e=>(hI.gl g l e).mono hle,hI.gw,fun b o v hv aE=>hI.bm b o v (by simp only[Mem.add]at hv;rwa [if_neg (by have:=hI.size;omega)]at hv) aE⟩
 ·simp only[Mem.add]at hv
  split at hv
  ·rename_i e
   subst e
   split at hv
   ·exact hc o v hv
   ·cases hv
  ·have h1:=hI.dr b o v hv
   have hb:b<w.heap.size:=by simpa using World.block_lt_of_cell? _ _ h1
   rw[← h1]
   simp only[World.cell?,hold b hb]
 ·obtain⟨tg,b,x⟩:=e
  have hk:=(hI.st _ he).2
  have aE:b<w.heap.size:=hI.z8 he
  have aR:b≠w.heap.size:=by omega
  have jt:=hk.heap (hold b aE)
  cases x with
  |cells l=>obtain⟨h1,cs',t',h2,h3⟩:=jt;exact⟨fun o=>by simp[Mem.add,aR,h1 o],cs',t',h2,h3.mono hle⟩
  |tail u' c=>obtain⟨h1,cs',t',h2,h3⟩:=jt;exact⟨fun o ho=>by simp[Mem.add,aR,h1 o ho],cs',t',h2,h3⟩
  |map es k=>obtain⟨h1,l,h2,h3,h4⟩:=jt;exact⟨fun o=>by simp[Mem.add,aR,h1 o],l,h2,h3,h4.mono hle⟩
theorem FT{src dst e ty:TypeId}{x:Operand}{s:ByteArray}{q:TI}(oq:s.size≤9223372036854775806):qE P (.convert src dst x) ty [.str,q,.sl e,.int .u8] [x] [.v (.string s)] (.sl true 1 (s.data.toList.map bA)):=⟨fun σ dI M w0 w ρ hI hR=>by
 simp only[fz,ZY,and_true]at dI
 have hs:=A0 dI.1
 have hd:=MV dI.2.2.1
 have he:P.underlying e=some (.int .u8):=by
  have:=dI.2.2.2
  unfold wh at this
  rw[hd]at this
  exact ER this
 obtain⟨u,hu,hx⟩:=hR.dN
 simp only[ZL,Y7,ZY,and_true]at hu
 have Wp:=hx.ax
 subst Wp
 let q0:=Question.appendCap s.size 0 e
 let cap:=q0.cut (w.tape w.drawn q0)
 have kr:cap=s.size+w.tape w.drawn q0 % (2 ^ 63-s.size):=rfl
 have Vz:w.tape w.drawn q0 % (2 ^ 63-s.size)<2 ^ 63-s.size:=Nat.mod_lt _ (by omega)
 let arr:Array Value:=s.data.map (fun b=>Value.int .u8 b.toNat)++Array.replicate (cap-s.size) (.int .u8 0)
 let w1:World:=w.drew.alloc (.cells arr e)
 let w2:World:=w1.freeze ⟨w.heap.size,arr.size,none⟩ 1
 let cs:List Value:=s.data.toList.map (fun b=>Value.int .u8 b.toNat)
 have hlen:cs.length=s.size:=by simp[cs]
 have hfz:∀ k,k≠w.heap.size→w2.heap[k]? =w1.heap[k]? :=fun k hk=>by
  have bU:¬w.heap.size=k:=fun e=>hk e.symm
  simp only[w2,World.freeze,Nat.one_ne_zero,ZA,Yy,if_neg bU]
 have h1:w1.heap[w.heap.size]? =some (.cells arr e):=heap_alloc_new w.drew _
 have h2:∃ f,w2.heap[w.heap.size]? =some (.cells arr e f):=by
  simp only[w2,World.freeze,Nat.one_ne_zero,ZA,Yy,Ze,h1,Zy]
  exact⟨_,rfl⟩
 have hold:∀ k,k<w.heap.size→w2.heap[k]? =w.heap[k]? :=fun k hk=>(hfz k (by omega)).trans (C1 w.drew _ k hk)
 have hcell:∀ o v,cs[o]? =some v→w2.cell? ⟨w.heap.size,o,none⟩=some v:=fun o v hv=>by
  obtain⟨f,h2⟩:=h2
  simp only[World.cell?,h2,Option.isSome_none,ZT,ZA,arr]
  have ho:o<s.size:=by rw[← hlen];exact(ZP.1 hv).1
  rw[Ye (by simpa using ho)]
  rw[← hv]
  simp[cs]
 have bQ:Inv P (M.add w.heap.size cs.length cs) w0 σ w2:=Inv.aaP (w':=w2) hI rfl rfl rfl (by simp[w2,World.freeze,w1]) hold cs hcell
 refine⟨.value (.slice (some ⟨w.heap.size,0,none⟩) s.size cap),w2,_,.sl true 1 (s.data.toList.map bA),_,σ,?_,rfl,hI.kH _ _,bQ,?_,rfl,rfl⟩
 ·have hf:q0.forced=false:=rfl
  have pM:w1.shape? w.heap.size=some (e,arr.size):=by simp only[World.shape?,h1]
  simp only[execOp,hu,convert,Sem.run_bind,aV hs,aV hd,aV he,Result.andThen_ok,Conv.stringToBytes,newRow,markStringish]
  simp[choose,Sem.run,Sem.bind,Bind.bind,Pure.pure,Question.forced,newObj,shape,freeze]
  erw [pM]
  rfl
 ·have hr:Rows (M.add w.heap.size cs.length cs) w.heap.size 0 1 (s.data.toList.map bA) (fun k=>cs.getD k undef):=by
   refine Rows.of_flat (fun i hi=>by simp[bA]) ?_ (fun k v hv=> ?_)
   ·have:∀ l:List UInt8,RL (M.add w.heap.size cs.length cs) (l.map bA).flatten (l.map fun b=>Value.int .u8 b.toNat):=by
     intro l
     induction l with
     |nil=>exact RL.nil
     |cons b l ih=>exact RL.cons (.v _) ih
    exact this _
   ·have hk:k<cs.length:=(ZP.1 hv).1
    simp only[Mem.add,Ze,Y8]
    rw[if_pos hk];exact hv
  have:=R.kJ (cap:=cap) hr (by simp;omega) (by unfold maxLen;omega) true
  simpa using this⟩
end
def nz:TI→Option TypeDesc
 | .int k=>some (.int k)
 | .str=>some .string
 |_=>none
theorem Lz{q:TI}{kd:TypeDesc}{d:Option TypeDesc}(h:nz q=some kd)(ht:iI d=q):d=some kd:=by
 unfold nz at h
 split at h
 ·cases h;exact ER ht
 ·cases h;exact A0 ht
 ·cases h
def ly(kd:TypeDesc)(k:Value):List (Value×Nat×AV)→Option (Option AV)
 |[]=>some none
 |e::es=>match Instr.sameNow kd k e.1 with
  |some true=>some (some e.2.2)
  |some false=>ly kd k es
  |none=>none
theorem IG{M:Mem}{kd:TypeDesc}{k:Value}:∀ {es:List (Value×Nat×AV)} {l:List MapEntry} (i:Nat),l.map (fun e=>(e.key,e.born))=es.map (fun e=>(e.1,e.2.1))→ly kd k es=some none→Instr.findNow kd k l i=some none
 |[],l,i,hk,_=>by
  have:l=[]:=by simpa using hk
  subst this;rfl
 |e::es,l,i,hk,h=>by
  cases l with
  |nil=>simp at hk
  |cons m l=>
   simp only[ZL,ZY,Y5]at hk
   simp only[ly]at h
   simp only[Instr.findNow,hk.1.1]
   split at h
   ·cases h
   ·rename_i e1;rw[e1];exact IG (M:=M) (i+1) hk.2 h
   ·cases h
theorem IH{M:Mem}{kd:TypeDesc}{k:Value}{x:AV}:∀ {es:List (Value×Nat×AV)} {l:List MapEntry} (i:Nat),l.map (fun e=>(e.key,e.born))=es.map (fun e=>(e.1,e.2.1))→RL M (es.map (·.2.2)) (l.map (·.val))→ly kd k es=some (some x)→
  ∃ j v,Instr.findNow kd k l i=some (some (j,v))∧R M x v
 |[],l,i,_,_,h=>by cases h
 |e::es,l,i,hk,hR,h=>by
  cases l with
  |nil=>simp at hk
  |cons m l=>
   simp only[ZL,ZY,Y5]at hk
   obtain⟨v,vs,hv,hx,eL⟩:=RL.cE (x:=e.2.2) (xs:=es.map (·.2.2)) hR
   simp only[ZL,ZY]at hv
   obtain⟨xj,rfl⟩:=hv
   simp only[ly]at h
   simp only[Instr.findNow,hk.1.1]
   split at h
   ·rename_i e1
    cases h
    rw[e1]
    exact⟨i,m.val,rfl,by rw[xj];exact hx⟩
   ·rename_i e1;rw[e1];exact IH (i+1) hk.2 eL h
   ·cases h
section
variable {P:Program}[Glob P]{M:Mem}{w0:Base}{w:World}{σ:Store}
theorem run_checkKey{b:Bool}{n:Nat}{q:TI}{kd:TypeDesc}{kt:TypeId}{v:Value}(hp:nz q=some kd)(hk:P.underlying kt=some kd):(Instr.checkKey b (n+1) kt v).run P w= .ok () w:=by
 unfold nz at hp
 split at hp
 ·cases hp;cases v<;>simp[Instr.checkKey,aV hk]
 ·cases hp;cases v<;>simp[Instr.checkKey,aV hk]
 ·cases hp
theorem Inv.wu{tg b k:Nat}{es:List (Value×Nat×AV)}(hI:Inv P M w0 σ w)(hb:aK σ tg=some (b,.map es k)):
  (∀ o,M b o=none)∧∃ l:List MapEntry,w.heap[b]? =some (.map l.toArray k)∧l.map (fun e=>(e.key,e.born))=es.map (fun e=>(e.1,e.2.1))∧RL M (es.map (·.2.2)) (l.map (·.val)):=(hI.st _ (pV hb)).2
theorem N9(tag:Nat){t ty:TypeId}{ti:List TI}:jF P (.makeMap t none) ty ti [] [] σ fun x σ'=>∃ b,x= .dY tag b∧σ'=(tag,b,.map [] 0)::σ:=by
 intro _ M w0 w ρ hI _
 refine⟨.value (.map (some w.heap.size)),w.alloc (.map #[] 0),M,.dY tag w.heap.size,_,_,?_,rfl,Mem.le.refl _,?_,.dY _ _,_,rfl,rfl⟩
 ·simp[execOp,Instr.makeMap,newObj]
  rfl
 ·have h':=hI.alloc (.map #[] 0)
  refine⟨h'.os,h'.tape,h'.output,h'.size,h'.old,h'.dr,fun e he=> ?_,?_,h'.gl,h'.gw,h'.bm⟩
  ·rcases ZU.1 he with rfl|he
   ·exact⟨hI.size,hI.Cr,[],heap_alloc_new _ _,rfl,RL.nil⟩
   ·exact h'.st e he
  ·simp only[ZL,YL]
   exact⟨hI.fresh,hI.nd⟩
theorem N7{tg b dR:Nat}{es:List (Value×Nat×AV)}{t ty kt vt:TypeId}{q:TI}{kd:TypeDesc}{m k x:Operand}{key:Value}{v:AV}(hp:nz q=some kd)(hl:aK σ tg=some (b,.map es dR))(hf:ly kd key es=some none):
  jF P (.insert t m k x) ty [.mp kt vt,q] [m,k,x] [.dY tg b,.v key,v] σ fun y σ'=>y= .v undef∧σ'=ck σ tg b (.map (es++[(key,dR,v)]) (dR+1)):=by
 intro dI M w0 w ρ hI hR
 simp only[fz,ZY,and_true]at dI
 have ht:=AZ dI.1
 have hk:P.underlying kt=some kd:=by
  have:=dI.2
  unfold DS at this
  rw[ht]at this
  exact Lz hp this
 obtain⟨v1,vp,e1,h1,ik⟩:=hR.cE
 obtain⟨v2,Nt,e2,h2,eL⟩:=ik.cE
 obtain⟨v3,e3,h3⟩:=eL.dN
 subst e3 e2
 simp only[ZL,Y7,ZY,and_true]at e1
 obtain⟨hM,l,hh,iS,jQ⟩:=hI.wu hl
 have g1:=h1.xC
 have g2:=h2.ax
 subst g1 g2
 have kv:=IG (M:=M) 0 iS hf
 let w':World:={w with heap:=w.heap.setIfInBounds b (.map (l++[(⟨v2,v3,dR⟩:MapEntry)]).toArray (dR+1))}
 have aE:b<w.heap.size:=(Zz.1 hh).1
 refine⟨.skip,w',M,.v undef,undef,_,?_,rfl,Mem.le.refl _,?_,.v _,rfl,rfl⟩
 ·have hu:l.toArray.push (⟨v2,v3,dR⟩:MapEntry)=(l++[(⟨v2,v3,dR⟩:MapEntry)]).toArray:=by apply YX;simp
  simp only[execOp,e1.1,e1.2.1,e1.2.2,Instr.mapUpdate,Sem.run_bind,aV ht,Result.andThen_ok,getObj,Sem.run,hh,run_checkKey hp hk,Instr.findKey,aV hk,kv,Sem.run_pure,setObj,hu]
  rfl
 ·refine hI.ya (y:= .map (es++[(v2,dR,v)]) (dR+1)) hl (fun k hk=> ?_) rfl rfl rfl (by simp[w']) hM ⟨hM,l++[⟨v2,v3,dR⟩],?_,?_,?_⟩
  ·simp only[w']
   rw[Zj (fun e=>hk e.symm)]
  ·simp only[w']
   rw[Yg aE]
  ·simp[iS]
  ·simp only[Y2,ZL,Y7]
   exact RL.append jQ (RL.cons h3 RL.nil)
theorem N8{tg b dR:Nat}{es:List (Value×Nat×AV)}{t ty kt vt:TypeId}{q:TI}{kd:TypeDesc}{m k:Operand}{key:Value}{v:AV}(hp:nz q=some kd)(hl:aK σ tg=some (b,.map es dR))(hf:ly kd key es=some (some v)):
  jF P (.lookup t m k false) ty [.mp kt vt,q] [m,k] [.dY tg b,.v key] σ fun y σ'=>y=v∧σ'=σ:=by
 intro dI M w0 w ρ hI hR
 simp only[fz,ZY,and_true]at dI
 have ht:=AZ dI.1
 have hk:P.underlying kt=some kd:=by
  have:=dI.2
  unfold DS at this
  rw[ht]at this
  exact Lz hp this
 obtain⟨v1,vp,e1,h1,ik⟩:=hR.cE
 obtain⟨v2,e2,h2⟩:=ik.dN
 subst e2
 simp only[ZL,Y7,ZY,and_true]at e1
 obtain⟨hM,l,hh,iS,jQ⟩:=hI.wu hl
 have g1:=h1.xC
 have g2:=h2.ax
 subst g1 g2
 obtain⟨j,u,kv,hu⟩:=IH (M:=M) 0 iS jQ hf
 refine⟨.value u,w,M,v,u,σ,?_,rfl,Mem.le.refl _,hI,hu,rfl,rfl⟩
 simp only[execOp,e1.1,e1.2,Instr.lookup,Sem.run_bind,aV ht,Result.andThen_ok,getObj,Sem.run,hh,run_checkKey hp hk,Instr.findKey,aV hk,kv,Sem.run_pure]
 rfl
end
section
variable {P:Program}[Glob P]{N:Nat}{cfg:Nat→Nat}{Q:Exit→ae→Store→Prop}{K:ae→Store→Prop}{E:List PanicEntry→Store→Prop}{rg:ae}{σ σ':Store}{l:List CI}{d:Nat}{v:AV}{xr cm:XR}{ps:List Prop}
 {ah cf:List Nat} {ix:Nat} {ld:List CD} {g:Option (Nat×Bool)} {og:Option Bool} {as:List AV} {args:List Operand} {op:Op} {ty:TypeId} {ti:List TI}
theorem td(h:ay xr none args=some (og,as,ps)):og=none:=by
 unfold ay gX at h
 obtain⟨aX,h',_,_⟩:=fb h
 split at h'<;>cases h';rfl
theorem yx{r:AV}(h:ay xr g args=some (og,as,ps))(hp:og.getD true=true→qE P op ty ti args as r)(al:OB ps)(k:VX P cfg l K E (bE og d r xr) σ):VX P cfg (⟨some d,.b8 op ty ti args,g⟩::l) K E xr σ:=by
 obtain⟨hc,he⟩:=bY h
 refine gP hc (fun hg=> ?_) (fun hg=> ?_)
 ·simp only[aj,he al hg]
  refine((hp hg).sp σ).mono fun x σ' ⟨e1,e2⟩=> ?_
  subst e1 e2;rw[← eH hg];exact k.h
 ·rw[← eG hg (v:=r)];exact k.h
theorem BC{r:AV}(h:ay xr g args=some (og,as,ps))(hp:og.getD true=true→qE P op ty ti args as r)(al:OB ps)(k:VY P cfg ah ld K (bE og d r xr) σ):VY P cfg ah (⟨ix,⟨some d,.b8 op ty ti args,g⟩,cf⟩::ld) K xr σ:=by
 obtain⟨hc,he⟩:=bY h
 refine mC hc (fun hg=> ?_) (fun hg=> ?_)
 ·simp only[cF,au.cls,aC,he al hg]
  refine⟨r,hp hg,?_⟩
  have:=k.h;rw[eH hg]at this;exact this
 ·rw[← eG hg (v:=r)];exact k.h
theorem Pa{t:TypeId}{x:Operand}{lo hi:Option Operand}{s:ByteArray}{a b:Int}(h:ay xr g args=some (og,as,ps))(he:args=x::(lo.toList++hi.toList))(hs:vb lo hi as=some (s,a,b))(al:OB ps)
  (hb:og.getD true=true→0≤a∧a≤b∧b≤s.size) (k:VX P cfg l K E (bE og d (.v (.string (s.extract a.toNat b.toNat))) xr) σ):VX P cfg (⟨some d,.b8 (.slice t x lo hi none) ty [.str] args,g⟩::l) K E xr σ:=
 yx h (fun hg=>by subst he;exact FU hs (hb hg)) al k
theorem PC{t:TypeId}{x:Operand}{lo hi:Option Operand}{s:ByteArray}{a b:Int}(h:ay xr g args=some (og,as,ps))(he:args=x::(lo.toList++hi.toList))(hs:vb lo hi as=some (s,a,b))(al:OB ps)
  (hb:og.getD true=true→0≤a∧a≤b∧b≤s.size) (k:VY P cfg ah ld K (bE og d (.v (.string (s.extract a.toNat b.toNat))) xr) σ):VY P cfg ah (⟨ix,⟨some d,.b8 (.slice t x lo hi none) ty [.str] args,g⟩,cf⟩::ld) K xr σ:=
 BC h (fun hg=>by subst he;exact FU hs (hb hg)) al k
def xz:AV→Bool
 | .v (.string _)=>false
 |_=>true
theorem KY(h:xz v=true):¬∃ s,v= .v (.string s):=fun⟨s,e⟩=>by subst e;cases h
theorem OP{src dst e:TypeId}{x:Operand}{q:TI}{ls:List UInt8}(h:ay xr g [x]=some (og,[v],ps))(hv:eu 1 v=some (ls.map bA))(hn:xz v=true)(al:OB ps)
  (k:VX P cfg l K E (bE og d (.v (.string ⟨ls.toArray⟩)) xr) σ):VX P cfg (⟨some d,.b8 (.convert src dst x) ty [.sl e,.int .u8,.str,q] [x],g⟩::l) K E xr σ:=
 yx h (fun _=>by have:=FR (P:=P) (src:=src) (dst:=dst) (e:=e) (ty:=ty) (x:=x) (q:=q) hv (KY hn) (EW ls);rwa [G4]at this) al k
theorem Pp{src dst e:TypeId}{x:Operand}{q:TI}{ls:List UInt8}(h:ay xr g [x]=some (og,[v],ps))(hv:eu 1 v=some (ls.map bA))(hn:xz v=true)(al:OB ps)
  (k:VY P cfg ah ld K (bE og d (.v (.string ⟨ls.toArray⟩)) xr) σ):VY P cfg ah (⟨ix,⟨some d,.b8 (.convert src dst x) ty [.sl e,.int .u8,.str,q] [x],g⟩,cf⟩::ld) K xr σ:=
 BC h (fun _=>by have:=FR (P:=P) (src:=src) (dst:=dst) (e:=e) (ty:=ty) (x:=x) (q:=q) hv (KY hn) (EW ls);rwa [G4]at this) al k
theorem OQ{src dst e:TypeId}{x:Operand}{q:TI}{s:ByteArray}(h:ay xr g [x]=some (og,[.v (.string s)],ps))(al:OB ps)(hb:og.getD true=true→s.size≤9223372036854775806)
  (k:VX P cfg l K E (bE og d (.sl true 1 (s.data.toList.map bA)) xr) σ):VX P cfg (⟨some d,.b8 (.convert src dst x) ty [.str,q,.sl e,.int .u8] [x],g⟩::l) K E xr σ:=
 yx h (fun hg=>FT (hb hg)) al k
theorem Pq{src dst e:TypeId}{x:Operand}{q:TI}{s:ByteArray}(h:ay xr g [x]=some (og,[.v (.string s)],ps))(al:OB ps)(hb:og.getD true=true→s.size≤9223372036854775806)
  (k:VY P cfg ah ld K (bE og d (.sl true 1 (s.data.toList.map bA)) xr) σ):VY P cfg ah (⟨ix,⟨some d,.b8 (.convert src dst x) ty [.str,q,.sl e,.int .u8] [x],g⟩,cf⟩::ld) K xr σ:=
 BC h (fun hg=>FT (hb hg)) al k
def bH(s:ByteArray)(i:Nat):UInt8:=s.data.toList.getD i 0
theorem OV{x i:Operand}{s:ByteArray}{iv:AV}{n:Int}(h:ay xr g [x,i]=some (og,[.v (.string s),iv],ps))(hi:gE iv=some n)(al:OB ps)(hb:og.getD true=true→0≤n∧n<s.size)
  (k:VX P cfg l K E (bE og d (.v (.int .u8 (bH s n.toNat).toNat)) xr) σ):VX P cfg (⟨some d,.idxs x i,g⟩::l) K E xr σ:=by
 obtain⟨hc,he⟩:=bY h
 refine gP hc (fun hg=> ?_) (fun hg=> ?_)
 ·have:=he al hg
  simp only[aQ,ZY,and_true]at this
  obtain⟨q,hq⟩:=pR hi
  simp only[aj,this.1,this.2,hq]
  have aE:=hb hg
  refine⟨aE,?_⟩
  have hk:=k.h
  rw[eH hg]at hk
  have e:bH s n.toNat=s[n.toNat]'(by omega):=by
   have h2:n.toNat<s.data.toList.length:=by rw[YM];have:s.size=s.data.size:=rfl;omega
   simp only[bH,ZV,Z1 h2,ZI]
   rfl
  rw[e]at hk
  exact hk
 ·rw[← eG hg (v:= .v (.int .u8 (bH s n.toNat).toNat))];exact k.h
theorem Pv{x i:Operand}{s:ByteArray}{iv:AV}{n:Int}(h:ay xr g [x,i]=some (og,[.v (.string s),iv],ps))(hi:gE iv=some n)(al:OB ps)(hb:og.getD true=true→0≤n∧n<s.size)
  (k:VY P cfg ah ld K (bE og d (.v (.int .u8 (bH s n.toNat).toNat)) xr) σ):VY P cfg ah (⟨ix,⟨some d,.idxs x i,g⟩,cf⟩::ld) K xr σ:=by
 obtain⟨hc,he⟩:=bY h
 refine mC hc (fun hg=> ?_) (fun hg=> ?_)
 ·have:=he al hg
  simp only[aQ,ZY,and_true]at this
  obtain⟨q,hq⟩:=pR hi
  simp only[cF,au.cls,aC,aj,this.1,this.2,hq]
  have aE:=hb hg
  refine⟨aE,?_⟩
  have hk:=k.h
  rw[eH hg]at hk
  have e:bH s n.toNat=s[n.toNat]'(by omega):=by
   have h2:n.toNat<s.data.toList.length:=by rw[YM];have:s.size=s.data.size:=rfl;omega
   simp only[bH,ZV,Z1 h2,ZI]
   rfl
  rw[e]at hk
  exact hk
 ·rw[← eG hg (v:= .v (.int .u8 (bH s n.toNat).toNat))];exact k.h
theorem O1{t:TypeId}(k:∀ b,VX P cfg l K E ((d,.s (.dY d b))::xr) ((d,b,.map [] 0)::σ)):VX P cfg (⟨some d,.exts (.makeMap t none) ty ti [],none⟩::l) K E xr σ:=by
 constructor
 simp only[dO,cT,aj,aQ]
 refine(N9 d).mono fun x σ' ⟨b,e1,e2⟩=> ?_
 subst e1 e2
 exact(k b).h
theorem OW{t kt vt:TypeId}{q:TI}{kd:TypeDesc}{m k x:Operand}{tg b b' dR:Nat}{es:List (Value×Nat×AV)}{key:Value}(h:ay xr none [m,k,x]=some (og,[.dY tg b,.v key,v],ps))(hp:nz q=some kd)(hl:aK σ tg=some (b',.map es dR))(hb:b=b')
  (hf:ly kd key es=some none) (hu:sE σ tg b (.map (es++[(key,dR,v)]) (dR+1))=some σ') (al:OB ps) (kk:VX P cfg l K E xr σ'):VX P cfg (⟨none,.exts (.insert t m k x) ty [.mp kt vt,q] [m,k,x],none⟩::l) K E xr σ:=by
 obtain⟨hc,he⟩:=bY h
 have cA:=td h
 subst cA
 subst hb
 constructor
 simp only[dO,cT,aj,he al rfl]
 refine(N7 hp hl hf).mono fun y s ⟨e1,e2⟩=> ?_
 rw[A7 hu]at e2
 subst e1 e2
 exact kk.h
theorem OY{t kt vt:TypeId}{q:TI}{kd:TypeDesc}{m k:Operand}{tg b b' dR:Nat}{es:List (Value×Nat×AV)}{key:Value}(h:ay xr none [m,k]=some (og,[.dY tg b,.v key],ps))(hp:nz q=some kd)(hl:aK σ tg=some (b',.map es dR))(hb:b=b')
  (hf:ly kd key es=some (some v)) (al:OB ps) (kk:VX P cfg l K E ((d,.s v)::xr) σ):VX P cfg (⟨some d,.b8 (.lookup t m k false) ty [.mp kt vt,q] [m,k],none⟩::l) K E xr σ:=by
 obtain⟨hc,he⟩:=bY h
 have cA:=td h
 subst cA
 subst hb
 constructor
 simp only[dO,cT,aj,he al rfl]
 refine(N8 hp hl hf).mono fun y s ⟨e1,e2⟩=> ?_
 subst e1 e2
 exact kk.h
theorem OM{f:FuncId}{r:AV}{fo:Operand}{a c:List AV}(h:ay xr g (fo::args)=some (og,.cl f a c::as,ps))(bI:gx P f=true)(hp:og.getD true=true→Pure P f (a++as++c) r)(al:OB ps)(k:VX P cfg l K E (bE og d r xr) σ):
  VX P cfg (⟨some d,.dp fo args,g⟩::l) K E xr σ:=by
 obtain⟨hc,he⟩:=bY h
 refine gP hc (fun hg=> ?_) (fun hg=> ?_)
 ·have:=he al hg
  simp only[aQ,ZY]at this
  simp only[aj,this.1,this.2]
  refine⟨bI,tp (hp hg) ?_⟩
  rw[← eH hg];exact k.h
 ·rw[← eG hg (v:=r)];exact k.h
theorem Pn{f:FuncId}{r:AV}{fo:Operand}{a c:List AV}(h:ay xr g (fo::args)=some (og,.cl f a c::as,ps))(bI:gx P f=true)(hp:og.getD true=true→Pure P f (a++as++c) r)(al:OB ps)(k:VY P cfg ah ld K (bE og d r xr) σ):
  VY P cfg ah (⟨ix,⟨some d,.dp fo args,g⟩,cf⟩::ld) K xr σ:=by
 obtain⟨hc,he⟩:=bY h
 refine mC hc (fun hg=> ?_) (fun hg=> ?_)
 ·have:=he al hg
  simp only[aQ,ZY]at this
  simp only[cF,au.cls,aC,this.1,this.2]
  refine⟨bI,r,hp hg,?_⟩
  have:=k.h;rw[eH hg]at this;exact this
 ·rw[← eG hg (v:=r)];exact k.h
end
end Go.Sx
