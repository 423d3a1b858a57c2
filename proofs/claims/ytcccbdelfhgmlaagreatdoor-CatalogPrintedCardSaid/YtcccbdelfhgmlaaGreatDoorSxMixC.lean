/-
  The layer Sx: a region of open order, new variables and stores among its operations, with one call that turns the store and may panic.
-/
import Derived.Test.YtcccbdelfhgmlaaGreatDoorSxSt
import Derived.Laws.BytesString
set_option linter.unusedVariables false
set_option linter.unusedSimpArgs false
set_option linter.unusedSectionVars false
namespace Go.Sx
open Go.RowKit
def Cv(d:Nat):List CD→Option (List CD×CD×List CD)
 |[]=>none
 |c::l=>bif (match c.c.d with|some e=>Nat.beq e d|none=>false)then some ([],c,l)else match Cv d l with
  |some (a,s,b)=>some (c::a,s,b)
  |none=>none
theorem UE{d:Nat}:∀ {l a b:List CD} {s:CD},Cv d l=some (a,s,b)→l=a++s::b
 |[],_,_,_,h=>by cases h
 |c::l,a,b,s,h=>by
  simp only[Cv]at h
  generalize (match c.c.d with|some e=>Nat.beq e d|none=>false)=q at h
  cases q with
  |true=>grind
  |false=>
   cases h2:Cv d l with
   |none=>grind
   |some p=>rw[h2]at h;cases h;rw[UE h2];rfl
def xw(ah:List Nat):List CD→List CD→Bool
 |_,[]=>true
 |acc,b::l=>(acc.any fun a=> !j2 ah a b) && xw ah (b::acc) l
theorem OC{ah:List Nat}{x:CD}{B:List CD}:∀ (c' acc:List CD),xw ah acc (c'++x::B)=true→∃ a,(a∈acc∨a∈c')∧j2 ah a x=false
 |[],acc,h=>by
  simp only[Za,xw,Z0,YC,YW]at h
  grind
 |c::c',acc,h=>by
  simp only[ZC,xw,Z0]at h
  obtain⟨a,ha,hc⟩:=OC c' _ h.2
  grind
section
variable {P:Program}[Glob P]{cfg:Nat→Nat}{ts ah:List Nat}{rg:ag}{σ:Store}{N:Nat}{K:ag→Store→Prop}{E:List PanicEntry→Store→Prop}{Q:Exit→ag→Store→Prop}{k:List Fr}{xr:XR}
def sr(P:Program)[Glob P](cfg:Nat→Nat)(ts ah:List Nat)(K:ag→Store→Prop)(E:List PanicEntry→Store→Prop)(d:Nat)(f:FuncId)(args:List Operand)(l2:List CD)(rg:ag)(σ:Store):Prop:=
 ∃ R:dH→Store→Prop,Spec P f (bo rg args) σ R∧(∀ x σ',R (.ret x) σ'→(∀ t b l,ts.elem t=false→aR σ t=some (b,.cells l)→aR σ' t=some (b,.cells l))∧cZ P cfg ah l2 (Cl K) ((d,x)::rg) σ')∧∀ ch σ',R (.dn ch) σ'→E ch σ'
theorem ac2{t:Nat}(h:(ts++ah).elem t=false):ts.elem t=false∧ah.elem t=false:=by
 grind
theorem af2{cf:List Nat}{op:aw}(h:nu (ts++ah) cf rg op=true):nu ah cf rg op=true:=by
 cases op<;>try exact h
 simp only[nu]at h ⊢
 split at h
 ·grind
 ·rfl
theorem axH{c:CD}{K:AV→Store→Prop}(hc:c.c.op.cls≤1)(h:du P cfg (ts++ah) c K rg σ):du P cfg ah c K rg σ:=by
 have bP:de P cfg (ts++ah) c.cf c.c.d rg σ K c.c.op→de P cfg ah c.cf c.c.d rg σ K c.c.op:=fun h=>by
  unfold de at h ⊢
  split at h
  ·exact h
  ·exact⟨af2 h.1,h.2⟩
  all_goals(grind)
 unfold du at h ⊢
 split at h
 ·grind
 grind
theorem abQ{a c:CD}(ha:a.c.op.cls≤1)(hc:c.c.op.cls≤1)(h:j2 ah a c=true):j2 (ts++ah) a c=true:=by
 unfold j2 at h ⊢
 simp only[Z0]at h ⊢
 grind
theorem Sv{d:Nat}{f:FuncId}{args:List Operand}{l2:List CD}{s:CD}(hs:s.c=⟨some d,.call f args,none⟩)(Jh:∀ b∈l2,gI b=true):∀ (A:List CD) (rg:ag) (σ:Store),
  (∀ a∈A,gI a=true∧a.c.op.cls≤1∧j2 ah a s=true)→cZ P cfg (ts++ah) A (Cl (sr P cfg ts ah K E d f args l2)) rg σ→
  ∃ bI,dI bI σ∧∃ R:dH→Store→Prop,Spec P f (bo rg args) bI R∧(∀ x σ',R (.ret x) σ'→(∀ t b l,ts.elem t=false→aR bI t=some (b,.cells l)→aR σ' t=some (b,.cells l))∧cZ P cfg ah (A++l2) (Cl K) ((d,x)::rg) σ')∧∀ ch σ',R (.dn ch) σ'→E ch σ'
 |[],rg,σ,_,h=>by
  obtain⟨ao,σ',h1,h2,R,hR,hk,he⟩:=h
  refine⟨σ',h2,R,?_,fun x dS hr=>⟨(hk x dS hr).1,?_⟩,he⟩
  ·rw[← j3 args fun t _=>h1 t];grind
  ·exact FU (Cl.closed K) l2 Jh _ _ _ _ (yA h1 (some d) x) (dI.refl _) (hk x dS hr).2
 |a::A,rg,σ,hA,h=>by
  obtain⟨ha,b7,lM⟩:=hA a (by simp)
  obtain⟨y,hy,hv⟩:=xy b7 h
  obtain⟨bI,iI,R,hR,hk,he⟩:=Sv hs Jh A _ σ (fun b hb=>hA b (by simp[hb])) hy
  unfold j2 at lM
  simp only[Z0,Y7,Zq]at lM
  obtain⟨⟨⟨oq,ia⟩,jM⟩,_⟩:=lM
  rw[hs]at ia jM
  refine⟨bI,iI,R,?_,fun x σ' hr=>⟨(hk x σ' hr).1,?_⟩,he⟩
  ·rw[← j3 (rg:=cm a.c.d y rg) args fun t ht=>vW oq t (by unfold tX CI.reads;rw[hs];exact ZN _ (ZN _ ht))];grind
  ·refine FT (rg:=rg) (fun t ht=>(vW (d:=some d) (x:=x) ia t ht).symm) (axH b7 (hv σ' (fun h1 t ht xV b l hl=>(hk x σ' hr).1 t b l (ac2 ht).1 ((iI.1 t).trans hl)) _ ?_))
   exact FU (Cl.closed K) (A++l2) (fun b hb=>(ZG.1 hb).elim (fun h=>(hA b (by simp[h])).1) (Jh b)) _ _ _ _ (fun i=>(KA (d:=a.c.d) (d':=some d) jM i).symm) (dI.refl _) (hk x σ' hr).2
theorem WC(ts:List Nat){l1 l2:List CD}{s:CD}{d:Nat}{f:FuncId}{args:List Operand}(hs:s.c=⟨some d,.call f args,none⟩)(hq:(l1.all fun a=>Nat.ble a.c.op.cls 1)=true)(hd:xw ah [s] l2=true)
  (h:cZ P cfg (ts++ah) l1 (sr P cfg ts ah (Q .normal) (fun ch σ'=>Q (.panic ch) [] σ') d f args l2) rg σ):SW P N (.dC ah (l1++s::l2)) Q rg σ:=by
 refine Mx cfg (fun L rg σ=>(∃ A,L=A++s::l2∧(∀ a∈A,a.c.op.cls≤1)∧cZ P cfg (ts++ah) A (Cl (sr P cfg ts ah (Q .normal) (fun ch σ'=>Q (.panic ch) [] σ') d f args l2)) rg σ)∨cZ P cfg ah L (Cl (Q .normal)) rg σ)
  (fun ho=> .inl ⟨l1,rfl,fun a ha=>Z7 (ZA.1 hq a ha),Lr (fun _ _=>Cl.intro) l1 rg σ (fun x hx=>ho x (by simp[hx])) h⟩) (fun rg σ hv=> ?_) fun A x B rg σ ho hA hv=> ?_
 ·rcases hv with⟨A,e,_⟩|hv
  ·simp at e
  ·exact hv
 ·have call:∀ A B,(∀ a∈A,a.c.op.cls≤1)→(∀ a∈A++s::l2,gI a=true)→(∀ a∈A,j2 ah a s=true)→B=l2→cZ P cfg (ts++ah) A (Cl (sr P cfg ts ah (Q .normal) (fun ch σ'=>Q (.panic ch) [] σ') d f args l2)) rg σ→
    ∃ ao σ',(∀ i,lk ao i=lk rg i)∧dI σ' σ∧dO P cfg s.c (fun y az=>(∃ A',A++B=A'++s::l2∧(∀ a∈A',a.c.op.cls≤1)∧cZ P cfg (ts++ah) A' (Cl (sr P cfg ts ah (Q .normal) (fun ch σ'=>Q (.panic ch) [] σ') d f args l2)) (cm s.c.d y rg) az)∨cZ P cfg ah (A++B) (Cl (Q .normal)) (cm s.c.d y rg) az) (fun ch σ'=>Q (.panic ch) [] σ') ao σ':=by
   rintro A B hc ho hA rfl hv
   obtain⟨bI,iI,R,hR,hk,he⟩:=Sv hs (fun b hb=>ho b (by simp[hb])) A rg σ (fun a ha=>⟨ho a (by simp[ha]),hc a ha,hA a ha⟩) hv
   refine⟨rg,bI,fun _=>rfl,iI,?_⟩
   unfold dO
   rw[hs]
   simp only[aj]
   exact⟨R,hR,fun x σ' hr=> .inr (hk x σ' hr).2,he⟩
  rcases hv with⟨A',e,hc,hv⟩|hv
  ·rcases List.append_eq_append_iff.1 e with⟨a',e1,e2⟩|⟨c',e1,e2⟩
   ·cases a' with
    |nil=>
     simp_all
    |cons y a'=>
     simp only[ZC,ZT]at e2
     obtain⟨rfl,rfl⟩:=e2
     subst e1
     refine⟨rg,σ,fun _=>rfl,dI.refl _,FR (ho x (by simp)) (CL (ho x (by simp)) (DJ (ah:=ts++ah) (Cl.closed _) (ho x (by simp)) A a' rg σ (fun a ha=>⟨abQ (hc a (by simp[ha])) (hc x (by simp)) (hA a ha),ho a (by simp[ha])⟩) (fun b hb=>ho b (by simp[hb])) hv) fun y az _ h=> .inl ⟨A++a',by simp,fun a ha=>hc a ?_,h⟩)⟩
     grind
   ·cases c' with
    |nil=>
     simp only[Za,ZT]at e2
     rw[Zg]at e1
     obtain⟨rfl,rfl⟩:=e2
     subst e1
     exact call _ _ hc ho hA rfl hv
    |cons y c'=>
     exfalso
     simp only[ZC,ZT]at e2
     obtain⟨rfl,rfl⟩:=e2
     subst e1
     obtain⟨a,ha,lM⟩:=OC c' [s] hd
     have:=hA a (by rcases ha with ha|ha<;>simp_all)
     rw[this]at lM;cases lM
  ·exact⟨rg,σ,fun _=>rfl,dI.refl _,FR (ho x (by simp)) (CL (ho x (by simp)) (DJ (Cl.closed _) (ho x (by simp)) A B rg σ (fun a ha=>⟨hA a ha,ho a (by simp[ha])⟩) (fun b hb=>ho b (by simp[hb])) hv) fun _ _ _ h=> .inr h)⟩
theorem Am(ts:List Nat)(d:Nat){ld l1 l2:List CD}{ix:Nat}{cf:List Nat}{f:FuncId}{args:List Operand}(hl:Cv d ld=some (l1,⟨ix,⟨some d,.call f args,none⟩,cf⟩,l2))(hq:(l1.all fun a=>Nat.ble a.c.op.cls 1)=true)
  (hd:xw ah [⟨ix,⟨some d,.call f args,none⟩,cf⟩] l2=true) (hx:toXO rg=some xr)
  (h:VY P cfg (ts++ah) l1 (sr P cfg ts ah (FK P N cfg Q .normal k) (fun ch σ'=>FK P N cfg Q (.panic ch) k [] σ') d f args l2) xr σ):WK P N cfg Q (.dC ah ld) k rg σ:=by
 have e:=UE hl
 subst e
 refine⟨WA.mono (Q:=fun e=>FK P N cfg Q e k) ⟨rfl,WC (cfg:=cfg) ts rfl hq hd ?_⟩ fun _ _ _ h=>h.h⟩
 have:=h.h
 rw[← wq hx,uS]at this
 grind
end
theorem RL.eg{M:Mem}{x:AV}{vs:List Value}(h:RL M [x] vs):∃ v,vs=[v]∧R M x v:=by
 obtain⟨v,jh,rfl,h1,h2⟩:=h.bS
 exact⟨v,by rw[h2.rR],h1⟩
def y5(lo hi:Option Operand)(as:List AV):Option (ByteArray×Int×Int):=
 match lo,hi,as with
 |none,none,[.v (.string s)]=>some (s,0,s.size)
 |some _,none,[.v (.string s),.v (.int _ a)]=>some (s,a,s.size)
 |none,some _,[.v (.string s),.v (.int _ b)]=>some (s,0,b)
 |some _,some _,[.v (.string s),.v (.int _ a),.v (.int _ b)]=>some (s,a,b)
 |_,_,_=>none
def zH:List (List AV)→Option (List Int)
 |[]=>some []
 |[.v (.int .u8 n)]::l=>(zH l).map (n::·)
 |_=>none
def sG(ns:List Int):ByteArray:=⟨(ns.map fun n=>UInt8.ofNat n.toNat).toArray⟩
section
variable {P:Program}[Glob P]{M:Mem}{w0:Base}{w:World}{σ:Store}
theorem Mm{t ty:TypeId}{x:Operand}{lo hi:Option Operand}{as:List AV}{s:ByteArray}{a b:Int}(h:y5 lo hi as=some (s,a,b))(hb:0≤a∧a≤b∧b≤s.size):
  uH P (.slice t x lo hi none) ty [.str] (x::(lo.toList++hi.toList)) as (.v (.string (s.extract a.toNat b.toNat))):=⟨fun σ eH M w0 w ρ hI hR=>by
 have ht:P.underlying t=some .string:=by
  simp only[gJ,ZT,Zd]at eH;exact FI eH
 refine⟨.value (.string (s.extract a.toNat b.toNat)),w,M,.v (.string (s.extract a.toNat b.toNat)),.string (s.extract a.toNat b.toNat),σ,?_,rfl,Mem.le.refl _,hI,.v _,rfl,rfl⟩
 unfold y5 at h
 split at h<;>cases h
 ·obtain⟨v,hv,hx⟩:=hR.eg
  simp at hv
  simp[execOp,Instr.sliceAt,bw ht,Instr.slice,Instr.sliceBounds,hv,hx.ay]
 ·obtain⟨v,vs,hv,hx,fO⟩:=hR.bS
  obtain⟨v2,mg,dK⟩:=fO.eg
  subst mg
  simp only[Option.toList_none,Option.toList_some,Zg,Zu,YO,ZT,Zd]at hv
  have e1:=hx.ay
  have e2:=dK.ay
  have h1:(0:Int)≤a∧a≤(s.size:Int):=⟨hb.1,hb.2.1⟩
  simp[execOp,Instr.sliceAt,bw ht,Instr.slice,Instr.sliceBounds,Instr.sliceBound,asIntOf,hv.1,hv.2,e1,e2,h1]
 ·obtain⟨v,vs,hv,hx,fO⟩:=hR.bS
  obtain⟨v2,mg,dK⟩:=fO.eg
  subst mg
  simp only[Option.toList_none,Option.toList_some,Za,Zu,YO,ZT,Zd]at hv
  have e1:=hx.ay
  have e2:=dK.ay
  have h1:(0:Int)≤b∧b≤(s.size:Int):=⟨hb.2.1,hb.2.2⟩
  simp[execOp,Instr.sliceAt,bw ht,Instr.slice,Instr.sliceBounds,Instr.sliceBound,asIntOf,hv.1,hv.2,e1,e2,h1]
 ·obtain⟨v,vs,hv,hx,fO⟩:=hR.bS
  obtain⟨v2,Vy,mg,dK,vh⟩:=fO.bS
  obtain⟨v3,ym,hx3⟩:=vh.eg
  subst ym
  subst mg
  simp only[Option.toList_some,ZC,Za,Zu,YO,ZT,Zd]at hv
  have e1:=hx.ay
  have e2:=dK.ay
  have e3:=hx3.ay
  have h1:(0:Int)≤b∧b≤(s.size:Int):=⟨by omega,hb.2.2⟩
  have h2:(0:Int)≤a∧a≤(b.toNat:Int):=⟨hb.1,by omega⟩
  simp[execOp,Instr.sliceAt,bw ht,Instr.slice,Instr.sliceBounds,Instr.sliceBound,asIntOf,hv.1,hv.2.1,hv.2.2,e1,e2,e3,h1,h2]
  grind⟩
theorem Va{M:Mem}:∀ {rows:List (List AV)} {ns:List Int} {L:List Value},zH rows=some ns→RL M rows.flatten L→L=ns.map (.int .u8)
 |[],ns,L,h,hR=>by cases h;exact hR.rR
 |r::rows,ns,L,h,hR=>by
  unfold zH at h
  split at h
  ·grind
  ·rename_i n l he
   cases he
   obtain⟨ns',h1,rfl⟩:=ZQ.1 h
   obtain⟨v,vs,rfl,hx,fO⟩:=RL.bS (x:= .v (.int .u8 n)) (xs:=rows.flatten) hR
   rw[hx.ay,Va h1 fO];rfl
  grind
theorem abA(ns:List Int):ns.foldl (fun r n=>r.push (UInt8.ofNat n.toNat)) ByteArray.empty=sG ns:=by
 have:∀ (ns:List Int) (s:ByteArray),ns.foldl (fun r n=>r.push (UInt8.ofNat n.toNat)) s=⟨s.data++(ns.map fun n=>UInt8.ofNat n.toNat).toArray⟩:=by
  intro ns
  induction ns with
  |nil=>simp_all
  |cons n ns ih=>
   simp_all
 simp only[sG]
 simp_all
theorem Mk{src dst e ty:TypeId}{x:Operand}{v:AV}{rows:List (List AV)}{ns:List Int}{q:TI}(hv:fb 1 v=some rows)(ye:¬∃ s,v= .v (.string s))(hn:zH rows=some ns):
  uH P (.convert src dst x) ty [.sl e,.int .u8,.str,q] [x] [v] (.v (.string (sG ns))):=⟨fun σ eH M w0 w ρ hI hR=>by
 simp only[gJ,ZT,Zd]at eH
 have hs:=U3 eH.1
 have he:P.underlying e=some (.int .u8):=by
  have:=eH.2.1
  unfold AL at this
  rw[hs]at this
  exact Lc this
 have hd:=FI eH.2.2.1
 obtain⟨u,hu,hx⟩:=hR.eg
 simp at hu
 obtain⟨base,cap,L,rfl,hL,_,eY⟩:=Fe (P:=P) hI hx hv ye
 have dM:=Va hn hL
 subst dM
 refine⟨.value (.string (sG ns)),w,M,.v (.string (sG ns)),.string (sG ns),σ,?_,rfl,Mem.le.refl _,hI,.v _,rfl,rfl⟩
 have hc:=run_convert_bytes_string (P:=P) w src dst e base rows.length cap hs he hd
 simp only[execOp,hu,Sem.run_bind,hc]
 cases base with
 |none=>
  simp only[Builtin.firstCells,Sem.run_pure,Result.ok.injEq,Zd]at eY
  have:ns=[]:=by
   simp_all
  subst this
  rfl
 |some a=>
  simp only[Builtin.firstCells,Yi]at eY
  rw[run_bytesToString w a rows.length cap ns eY,abA]
  simp_all⟩
theorem Lh:∀ (ls:List UInt8),zH (ls.map ck)=some (ls.map fun b=>(b.toNat:Int))
 |[]=>rfl
 |b::ls=>by
  show(zH (ls.map ck)).map ((b.toNat:Int)::·)=_
  rw[Lh ls];rfl
theorem NC(ls:List UInt8):sG (ls.map fun b=>(b.toNat:Int))=⟨ls.toArray⟩:=by
 simp only[sG,Yf]
 congr 2
 conv=>rhs;rw[← List.map_id ls]
 apply List.map_congr_left
 simp_all
theorem Inv.agH(hI:Inv P M w0 σ w){w':World}(e1:w'.os=w.os)(e2:w'.tape=w.tape)(e3:w'.output=w.output)(hs:w.heap.size≤w'.heap.size)(hold:∀ k,k<w.heap.size→w'.heap[k]? =w.heap[k]?)(cs:List Value)
  (hc:∀ o v,cs[o]? =some v→w'.cell? ⟨w.heap.size,o,none⟩=some v):Inv P (M.add w.heap.size cs.length cs) w0 σ w':=by
 have hle:=hI.nw cs.length cs
 refine⟨e1.trans hI.os,e2.trans hI.tape,e3.trans hI.output,Zk hI.size hs,fun k hk=>(hold k (Yx hk hI.size)).trans (hI.old k hk),fun b o v hv=> ?_,fun e he=>⟨(hI.st e he).1,?_⟩,hI.nd,fun g l e=>(hI.gl g l e).mono hle,hI.gw,fun b o v hv ax=>hI.bm b o v (by simp only[Mem.add]at hv;rwa [Z9 (by have:=hI.size;omega)]at hv) ax⟩
 ·simp only[Mem.add]at hv
  split at hv
  ·grind
  ·have h1:=hI.dA b o v hv
   have hb:b<w.heap.size:=by simpa using World.block_lt_of_cell? _ _ h1
   rw[← h1]
   simp only[World.cell?,hold b hb]
 ·obtain⟨tg,b,x⟩:=e
  have hk:=(hI.st _ he).2
  have ax:b<w.heap.size:=hI.EC he
  have aJ:b≠w.heap.size:=by omega
  have dt:=hk.heap (hold b ax)
  cases x with
  |cells l=>obtain⟨h1,cs',t',h2,h3⟩:=dt;exact⟨fun o=>by simp[Mem.add,aJ,h1 o],cs',t',h2,h3.mono hle⟩
  |tail u' c=>obtain⟨h1,cs',t',h2,h3⟩:=dt;exact⟨fun o ho=>by simp[Mem.add,aJ,h1 o ho],cs',t',h2,h3⟩
  |map es k=>obtain⟨h1,l,h2,h3,h4⟩:=dt;exact⟨fun o=>by simp[Mem.add,aJ,h1 o],l,h2,h3,h4.mono hle⟩
theorem Ml{src dst e ty:TypeId}{x:Operand}{s:ByteArray}{q:TI}(rj:s.size≤9223372036854775806):uH P (.convert src dst x) ty [.str,q,.sl e,.int .u8] [x] [.v (.string s)] (.sl true 1 (s.data.toList.map ck)):=⟨fun σ eH M w0 w ρ hI hR=>by
 simp only[gJ,ZT,Zd]at eH
 have hs:=FI eH.1
 have hd:=U3 eH.2.2.1
 have he:P.underlying e=some (.int .u8):=by
  have:=eH.2.2.2
  unfold AL at this
  rw[hd]at this
  exact Lc this
 obtain⟨u,hu,hx⟩:=hR.eg
 simp only[Zu,YO,ZT,Zd]at hu
 have hxv:=hx.ay
 subst hxv
 let q0:=Question.appendCap s.size 0 e
 let cap:=q0.cut (w.tape w.drawn q0)
 have mU:cap=s.size+w.tape w.drawn q0 % (2 ^ 63-s.size):=rfl
 have ae2:w.tape w.drawn q0 % (2 ^ 63-s.size)<2 ^ 63-s.size:=Nat.mod_lt _ (by omega)
 let arr:Array Value:=s.data.map (fun b=>Value.int .u8 b.toNat)++Array.replicate (cap-s.size) (.int .u8 0)
 let w1:World:=w.drew.alloc (.cells arr e)
 let w2:World:=w1.freeze ⟨w.heap.size,arr.size,none⟩ 1
 let cs:List Value:=s.data.toList.map (fun b=>Value.int .u8 b.toNat)
 have hlen:cs.length=s.size:=by simp[cs]
 have hfz:∀ k,k≠w.heap.size→w2.heap[k]? =w1.heap[k]? :=fun k hk=>by
  have cC:¬w.heap.size=k:=fun e=>hk e.symm
  simp only[w2,World.freeze,Nat.one_ne_zero,Zf,Yk,Z9 cC]
 have h1:w1.heap[w.heap.size]? =some (.cells arr e):=heap_alloc_new w.drew _
 have h2:∃ f,w2.heap[w.heap.size]? =some (.cells arr e f):=by
  simp only[w2,World.freeze,Nat.one_ne_zero,Zf,Yk,Y4,h1,Zh]
  grind
 have hold:∀ k,k<w.heap.size→w2.heap[k]? =w.heap[k]? :=fun k hk=>(hfz k (by omega)).trans (IV w.drew _ k hk)
 have hcell:∀ o v,cs[o]? =some v→w2.cell? ⟨w.heap.size,o,none⟩=some v:=fun o v hv=>by
  obtain⟨f,h2⟩:=h2
  simp only[World.cell?,h2,Option.isSome_none,ZM,Zf,arr]
  grind
 have cr:Inv P (M.add w.heap.size cs.length cs) w0 σ w2:=Inv.agH (w':=w2) hI rfl rfl rfl (by grind) hold cs hcell
 refine⟨.value (.slice (some ⟨w.heap.size,0,none⟩) s.size cap),w2,_,.sl true 1 (s.data.toList.map ck),_,σ,?_,rfl,hI.nw _ _,cr,?_,rfl,rfl⟩
 ·have hf:q0.forced=false:=rfl
  have tv:w1.shape? w.heap.size=some (e,arr.size):=by simp only[World.shape?,h1]
  simp only[execOp,hu,convert,Sem.run_bind,bw hs,bw hd,bw he,Result.andThen_ok,Conv.stringToBytes,newRow,markStringish]
  simp[choose,Sem.run,Sem.bind,Bind.bind,Pure.pure,Question.forced,newObj,shape,freeze]
  erw [tv]
  rfl
 ·have hr:Rows (M.add w.heap.size cs.length cs) w.heap.size 0 1 (s.data.toList.map ck) (fun k=>cs.getD k undef):=by
   refine Rows.of_flat (fun i hi=>by simp[ck]) ?_ (fun k v hv=> ?_)
   ·have:∀ l:List UInt8,RL (M.add w.heap.size cs.length cs) (l.map ck).flatten (l.map fun b=>Value.int .u8 b.toNat):=by
     intro l
     induction l with
     |nil=>exact RL.nil
     |cons b l ih=>exact RL.cons (.v _) ih
    grind
   ·have hk:k<cs.length:=(ZP.1 hv).1
    simp only[Mem.add,Y4,Zc]
    rw[Z8 hk];exact hv
  have:=R.nz (cap:=cap) hr (by simp;omega) (by unfold maxLen;omega) true
  grind⟩
end
def qj:TI→Option TypeDesc
 | .int k=>some (.int k)
 | .str=>some .string
 |_=>none
theorem Tq{q:TI}{kd:TypeDesc}{d:Option TypeDesc}(h:qj q=some kd)(ht:jV d=q):d=some kd:=by
 unfold qj at h
 split at h
 ·cases h;exact Lc ht
 ·cases h;exact FI ht
 grind
def nW(kd:TypeDesc)(k:Value):List (Value×Nat×AV)→Option (Option AV)
 |[]=>some none
 |e::es=>match Instr.sameNow kd k e.1 with
  |some true=>some (some e.2.2)
  |some false=>nW kd k es
  |none=>none
theorem Py{M:Mem}{kd:TypeDesc}{k:Value}:∀ {es:List (Value×Nat×AV)} {l:List MapEntry} (i:Nat),l.map (fun e=>(e.key,e.born))=es.map (fun e=>(e.1,e.2.1))→nW kd k es=some none→Instr.findNow kd k l i=some none
 |[],l,i,hk,_=>by
  have:l=[]:=by simp_all
  subst this;rfl
 |e::es,l,i,hk,h=>by
  cases l with
  |nil=>grind
  |cons m l=>
   simp at hk
   simp only[nW]at h
   simp only[Instr.findNow,hk.1.1]
   split at h
   ·cases h
   ·rename_i e1;rw[e1];exact Py (M:=M) (i+1) hk.2 h
   grind
theorem Pz{M:Mem}{kd:TypeDesc}{k:Value}{x:AV}:∀ {es:List (Value×Nat×AV)} {l:List MapEntry} (i:Nat),l.map (fun e=>(e.key,e.born))=es.map (fun e=>(e.1,e.2.1))→RL M (es.map (·.2.2)) (l.map (·.val))→nW kd k es=some (some x)→
  ∃ j v,Instr.findNow kd k l i=some (some (j,v))∧R M x v
 |[],l,i,_,_,h=>by cases h
 |e::es,l,i,hk,hR,h=>by
  cases l with
  |nil=>grind
  |cons m l=>
   simp at hk
   obtain⟨v,vs,hv,hx,fO⟩:=RL.bS (x:=e.2.2) (xs:=es.map (·.2.2)) hR
   obtain⟨Ej,rfl⟩:=hv
   simp only[nW]at h
   simp only[Instr.findNow,hk.1.1]
   split at h
   ·rename_i e1
    rw[e1]
    grind
   ·rename_i e1;rw[e1];exact Pz (i+1) hk.2 fO h
   grind
section
variable {P:Program}[Glob P]{M:Mem}{w0:Base}{w:World}{σ:Store}
theorem run_checkKey{b:Bool}{n:Nat}{q:TI}{kd:TypeDesc}{kt:TypeId}{v:Value}(hp:qj q=some kd)(hk:P.underlying kt=some kd):(Instr.checkKey b (n+1) kt v).run P w= .ok () w:=by
 unfold qj at hp
 split at hp
 ·cases hp;cases v<;>simp[Instr.checkKey,bw hk]
 ·cases hp;cases v<;>simp[Instr.checkKey,bw hk]
 grind
theorem Inv.AW{tg b k:Nat}{es:List (Value×Nat×AV)}(hI:Inv P M w0 σ w)(hb:aR σ tg=some (b,.map es k)):
  (∀ o,M b o=none)∧∃ l:List MapEntry,w.heap[b]? =some (.map l.toArray k)∧l.map (fun e=>(e.key,e.born))=es.map (fun e=>(e.1,e.2.1))∧RL M (es.map (·.2.2)) (l.map (·.val)):=(hI.st _ (tK hb)).2
theorem Wq(tag:Nat){t ty:TypeId}{ti:List TI}:lG P (.makeMap t none) ty ti [] [] σ fun x σ'=>∃ b,x= .eu tag b∧σ'=(tag,b,.map [] 0)::σ:=by
 intro _ M w0 w ρ hI _
 refine⟨.value (.map (some w.heap.size)),w.alloc (.map #[] 0),M,.eu tag w.heap.size,_,_,?_,rfl,Mem.le.refl _,?_,.eu _ _,_,rfl,rfl⟩
 ·rfl
 ·have h':=hI.alloc (.map #[] 0)
  refine⟨h'.os,h'.tape,h'.output,h'.size,h'.old,h'.dA,fun e he=> ?_,?_,h'.gl,h'.gw,h'.bm⟩
  ·rcases ZV.1 he with rfl|he
   ·exact⟨hI.size,hI.H6,[],heap_alloc_new _ _,rfl,RL.nil⟩
   ·exact h'.st e he
  ·simp only[Zu,YG]
   exact⟨hI.fresh,hI.nd⟩
theorem Wo{tg b eL:Nat}{es:List (Value×Nat×AV)}{t ty kt vt:TypeId}{q:TI}{kd:TypeDesc}{m k x:Operand}{key:Value}{v:AV}(hp:qj q=some kd)(hl:aR σ tg=some (b,.map es eL))(hf:nW kd key es=some none):
  lG P (.insert t m k x) ty [.mp kt vt,q] [m,k,x] [.eu tg b,.v key,v] σ fun y σ'=>y= .v undef∧σ'=cM σ tg b (.map (es++[(key,eL,v)]) (eL+1)):=by
 intro eH M w0 w ρ hI hR
 simp only[gJ,ZT,Zd]at eH
 have ht:=FH eH.1
 have hk:P.underlying kt=some kd:=by
  have:=eH.2
  unfold JY at this
  rw[ht]at this
  exact Tq hp this
 obtain⟨v1,wC,e1,h1,jK⟩:=hR.bS
 obtain⟨v2,Vy,e2,h2,fO⟩:=jK.bS
 obtain⟨v3,e3,h3⟩:=fO.eg
 subst e3 e2
 simp at e1
 obtain⟨hM,l,hh,kR,mh⟩:=hI.AW hl
 have g1:=h1.B5
 have g2:=h2.ay
 subst g1 g2
 have mX:=Py (M:=M) 0 kR hf
 let w':World:={w with heap:=w.heap.setIfInBounds b (.map (l++[(⟨v2,v3,eL⟩:MapEntry)]).toArray (eL+1))}
 refine⟨.skip,w',M,.v undef,undef,_,?_,rfl,Mem.le.refl _,?_,.v _,rfl,rfl⟩
 ·have hu:l.toArray.push (⟨v2,v3,eL⟩:MapEntry)=(l++[(⟨v2,v3,eL⟩:MapEntry)]).toArray:=by grind
  simp only[execOp,e1.1,e1.2.1,e1.2.2,Instr.mapUpdate,Sem.run_bind,bw ht,Result.andThen_ok,getObj,Sem.run,hh,run_checkKey hp hk,Instr.findKey,bw hk,mX,Sem.run_pure,setObj,hu]
  rfl
 ·refine hI.CJ (y:= .map (es++[(v2,eL,v)]) (eL+1)) hl (fun k hk=> ?_) rfl rfl rfl (by simp[w']) hM ⟨hM,l++[⟨v2,v3,eL⟩],?_,?_,?_⟩
  ·grind
  ·grind
  ·grind
  ·simp
   exact RL.append mh (RL.cons h3 RL.nil)
theorem Wp{tg b eL:Nat}{es:List (Value×Nat×AV)}{t ty kt vt:TypeId}{q:TI}{kd:TypeDesc}{m k:Operand}{key:Value}{v:AV}(hp:qj q=some kd)(hl:aR σ tg=some (b,.map es eL))(hf:nW kd key es=some (some v)):
  lG P (.lookup t m k false) ty [.mp kt vt,q] [m,k] [.eu tg b,.v key] σ fun y σ'=>y=v∧σ'=σ:=by
 intro eH M w0 w ρ hI hR
 simp only[gJ,ZT,Zd]at eH
 have ht:=FH eH.1
 have hk:P.underlying kt=some kd:=by
  have:=eH.2
  unfold JY at this
  rw[ht]at this
  exact Tq hp this
 obtain⟨v1,wC,e1,h1,jK⟩:=hR.bS
 obtain⟨v2,e2,h2⟩:=jK.eg
 subst e2
 simp at e1
 obtain⟨hM,l,hh,kR,mh⟩:=hI.AW hl
 have g1:=h1.B5
 have g2:=h2.ay
 subst g1 g2
 obtain⟨j,u,mX,hu⟩:=Pz (M:=M) 0 kR mh hf
 refine⟨.value u,w,M,v,u,σ,?_,rfl,Mem.le.refl _,hI,hu,rfl,rfl⟩
 simp only[execOp,e1.1,e1.2,Instr.lookup,Sem.run_bind,bw ht,Result.andThen_ok,getObj,Sem.run,hh,run_checkKey hp hk,Instr.findKey,bw hk,mX,Sem.run_pure]
 rfl
end
section
variable {P:Program}[Glob P]{N:Nat}{cfg:Nat→Nat}{Q:Exit→ag→Store→Prop}{K:ag→Store→Prop}{E:List PanicEntry→Store→Prop}{rg:ag}{σ σ':Store}{l:List CI}{d:Nat}{v:AV}{xr cT:XR}{ps:List Prop}
 {ah cf:List Nat} {ix:Nat} {ld:List CD} {g:Option (Nat×Bool)} {og:Option Bool} {as:List AV} {args:List Operand} {op:Op} {ty:TypeId} {ti:List TI}
theorem xj(h:aB xr none args=some (og,as,ps)):og=none:=by
 unfold aB gX at h
 obtain⟨bC,h',_,_⟩:=fS h
 split at h'<;>cases h';rfl
theorem C9{r:AV}(h:aB xr g args=some (og,as,ps))(hp:og.getD true=true→uH P op ty ti args as r)(ak:OB ps)(k:VX P cfg l K E (bR og d r xr) σ):VX P cfg (⟨some d,.cH op ty ti args,g⟩::l) K E xr σ:=by
 obtain⟨hc,he⟩:=cz h
 refine iT hc (fun hg=> ?_) (fun hg=> ?_)
 ·simp only[aj,he ak hg]
  refine((hp hg).sp σ).mono fun x σ' ⟨e1,e2⟩=> ?_
  subst e1 e2;rw[← fC hg];exact k.h
 ·rw[← fB hg (v:=r)];exact k.h
theorem Gv{r:AV}(h:aB xr g args=some (og,as,ps))(hp:og.getD true=true→uH P op ty ti args as r)(ak:OB ps)(k:VY P cfg ah ld K (bR og d r xr) σ):VY P cfg ah (⟨ix,⟨some d,.cH op ty ti args,g⟩,cf⟩::ld) K xr σ:=by
 obtain⟨hc,he⟩:=cz h
 refine o8 hc (fun hg=> ?_) (fun hg=> ?_)
 ·simp only[de,aw.cls,aG,he ak hg]
  have:=k.h;rw[fC hg]at this;grind
 ·rw[← fB hg (v:=r)];exact k.h
theorem Xp{t:TypeId}{x:Operand}{lo hi:Option Operand}{s:ByteArray}{a b:Int}(h:aB xr g args=some (og,as,ps))(he:args=x::(lo.toList++hi.toList))(hs:y5 lo hi as=some (s,a,b))(ak:OB ps)
  (hb:og.getD true=true→0≤a∧a≤b∧b≤s.size) (k:VX P cfg l K E (bR og d (.v (.string (s.extract a.toNat b.toNat))) xr) σ):VX P cfg (⟨some d,.cH (.slice t x lo hi none) ty [.str] args,g⟩::l) K E xr σ:=
 C9 h (fun hg=>by subst he;exact Mm hs (hb hg)) ak k
theorem aal{t:TypeId}{x:Operand}{lo hi:Option Operand}{s:ByteArray}{a b:Int}(h:aB xr g args=some (og,as,ps))(he:args=x::(lo.toList++hi.toList))(hs:y5 lo hi as=some (s,a,b))(ak:OB ps)
  (hb:og.getD true=true→0≤a∧a≤b∧b≤s.size) (k:VY P cfg ah ld K (bR og d (.v (.string (s.extract a.toNat b.toNat))) xr) σ):VY P cfg ah (⟨ix,⟨some d,.cH (.slice t x lo hi none) ty [.str] args,g⟩,cf⟩::ld) K xr σ:=
 Gv h (fun hg=>by subst he;exact Mm hs (hb hg)) ak k
def B1:AV→Bool
 | .v (.string _)=>false
 |_=>true
theorem SG(h:B1 v=true):¬∃ s,v= .v (.string s):=fun⟨s,e⟩=>by subst e;cases h
theorem W3{src dst e:TypeId}{x:Operand}{q:TI}{ls:List UInt8}(h:aB xr g [x]=some (og,[v],ps))(hv:fb 1 v=some (ls.map ck))(hn:B1 v=true)(ak:OB ps)
  (k:VX P cfg l K E (bR og d (.v (.string ⟨ls.toArray⟩)) xr) σ):VX P cfg (⟨some d,.cH (.convert src dst x) ty [.sl e,.int .u8,.str,q] [x],g⟩::l) K E xr σ:=
 C9 h (fun _=>by have:=Mk (P:=P) (src:=src) (dst:=dst) (e:=e) (ty:=ty) (x:=x) (q:=q) hv (SG hn) (Lh ls);rwa [NC]at this) ak k
theorem XA{src dst e:TypeId}{x:Operand}{q:TI}{ls:List UInt8}(h:aB xr g [x]=some (og,[v],ps))(hv:fb 1 v=some (ls.map ck))(hn:B1 v=true)(ak:OB ps)
  (k:VY P cfg ah ld K (bR og d (.v (.string ⟨ls.toArray⟩)) xr) σ):VY P cfg ah (⟨ix,⟨some d,.cH (.convert src dst x) ty [.sl e,.int .u8,.str,q] [x],g⟩,cf⟩::ld) K xr σ:=
 Gv h (fun _=>by have:=Mk (P:=P) (src:=src) (dst:=dst) (e:=e) (ty:=ty) (x:=x) (q:=q) hv (SG hn) (Lh ls);rwa [NC]at this) ak k
theorem W4{src dst e:TypeId}{x:Operand}{q:TI}{s:ByteArray}(h:aB xr g [x]=some (og,[.v (.string s)],ps))(ak:OB ps)(hb:og.getD true=true→s.size≤9223372036854775806)
  (k:VX P cfg l K E (bR og d (.sl true 1 (s.data.toList.map ck)) xr) σ):VX P cfg (⟨some d,.cH (.convert src dst x) ty [.str,q,.sl e,.int .u8] [x],g⟩::l) K E xr σ:=
 C9 h (fun hg=>Ml (hb hg)) ak k
theorem XB{src dst e:TypeId}{x:Operand}{q:TI}{s:ByteArray}(h:aB xr g [x]=some (og,[.v (.string s)],ps))(ak:OB ps)(hb:og.getD true=true→s.size≤9223372036854775806)
  (k:VY P cfg ah ld K (bR og d (.sl true 1 (s.data.toList.map ck)) xr) σ):VY P cfg ah (⟨ix,⟨some d,.cH (.convert src dst x) ty [.str,q,.sl e,.int .u8] [x],g⟩,cf⟩::ld) K xr σ:=
 Gv h (fun hg=>Ml (hb hg)) ak k
def bZ(s:ByteArray)(i:Nat):UInt8:=s.data.toList.getD i 0
theorem W9{x i:Operand}{s:ByteArray}{iv:AV}{n:Int}(h:aB xr g [x,i]=some (og,[.v (.string s),iv],ps))(hi:iL iv=some n)(ak:OB ps)(hb:og.getD true=true→0≤n∧n<s.size)
  (k:VX P cfg l K E (bR og d (.v (.int .u8 (bZ s n.toNat).toNat)) xr) σ):VX P cfg (⟨some d,.idxs x i,g⟩::l) K E xr σ:=by
 obtain⟨hc,he⟩:=cz h
 refine iT hc (fun hg=> ?_) (fun hg=> ?_)
 ·have:=he ak hg
  simp only[bo,ZT,Zd]at this
  obtain⟨q,hq⟩:=rA hi
  simp only[aj,this.1,this.2,hq]
  have ax:=hb hg
  have hk:=k.h
  rw[fC hg]at hk
  have e:bZ s n.toNat=s[n.toNat]'(by omega):=by
   have h2:n.toNat<s.data.toList.length:=by simp_all
   simp only[bZ,ZY,Z4 h2,Zx]
   rfl
  grind
 ·rw[← fB hg (v:= .v (.int .u8 (bZ s n.toNat).toNat))];exact k.h
theorem aae{x i:Operand}{s:ByteArray}{iv:AV}{n:Int}(h:aB xr g [x,i]=some (og,[.v (.string s),iv],ps))(hi:iL iv=some n)(ak:OB ps)(hb:og.getD true=true→0≤n∧n<s.size)
  (k:VY P cfg ah ld K (bR og d (.v (.int .u8 (bZ s n.toNat).toNat)) xr) σ):VY P cfg ah (⟨ix,⟨some d,.idxs x i,g⟩,cf⟩::ld) K xr σ:=by
 obtain⟨hc,he⟩:=cz h
 refine o8 hc (fun hg=> ?_) (fun hg=> ?_)
 ·have:=he ak hg
  simp only[bo,ZT,Zd]at this
  obtain⟨q,hq⟩:=rA hi
  simp only[de,aw.cls,aG,aj,this.1,this.2,hq]
  have ax:=hb hg
  have hk:=k.h
  rw[fC hg]at hk
  have e:bZ s n.toNat=s[n.toNat]'(by omega):=by
   have h2:n.toNat<s.data.toList.length:=by simp_all
   simp only[bZ,ZY,Z4 h2,Zx]
   rfl
  grind
 ·rw[← fB hg (v:= .v (.int .u8 (bZ s n.toNat).toNat))];exact k.h
theorem Xg{t:TypeId}(k:∀ b,VX P cfg l K E ((d,.s (.eu d b))::xr) ((d,b,.map [] 0)::σ)):VX P cfg (⟨some d,.exts (.makeMap t none) ty ti [],none⟩::l) K E xr σ:=by
 constructor
 refine(Wq d).mono fun x σ' ⟨b,e1,e2⟩=> ?_
 subst e1 e2
 exact(k b).h
theorem Xa{t kt vt:TypeId}{q:TI}{kd:TypeDesc}{m k x:Operand}{tg b b' eL:Nat}{es:List (Value×Nat×AV)}{key:Value}(h:aB xr none [m,k,x]=some (og,[.eu tg b,.v key,v],ps))(hp:qj q=some kd)(hl:aR σ tg=some (b',.map es eL))(hb:b=b')
  (hf:nW kd key es=some none) (hu:wy σ tg b (.map (es++[(key,eL,v)]) (eL+1))=some σ') (ak:OB ps) (kk:VX P cfg l K E xr σ'):VX P cfg (⟨none,.exts (.insert t m k x) ty [.mp kt vt,q] [m,k,x],none⟩::l) K E xr σ:=by
 obtain⟨hc,he⟩:=cz h
 have cP:=xj h
 subst cP
 subst hb
 constructor
 simp only[fg,dO,aj,he ak rfl]
 refine(Wo hp hl hf).mono fun y s ⟨e1,e2⟩=> ?_
 rw[FP hu]at e2
 subst e1 e2
 exact kk.h
theorem Xd{t kt vt:TypeId}{q:TI}{kd:TypeDesc}{m k:Operand}{tg b b' eL:Nat}{es:List (Value×Nat×AV)}{key:Value}(h:aB xr none [m,k]=some (og,[.eu tg b,.v key],ps))(hp:qj q=some kd)(hl:aR σ tg=some (b',.map es eL))(hb:b=b')
  (hf:nW kd key es=some (some v)) (ak:OB ps) (kk:VX P cfg l K E ((d,.s v)::xr) σ):VX P cfg (⟨some d,.cH (.lookup t m k false) ty [.mp kt vt,q] [m,k],none⟩::l) K E xr σ:=by
 obtain⟨hc,he⟩:=cz h
 have cP:=xj h
 subst cP
 subst hb
 constructor
 simp only[fg,dO,aj,he ak rfl]
 refine(Wp hp hl hf).mono fun y s ⟨e1,e2⟩=> ?_
 subst e1 e2
 exact kk.h
theorem WZ{f:FuncId}{r:AV}{fo:Operand}{a c:List AV}(h:aB xr g (fo::args)=some (og,.cl f a c::as,ps))(b7:iU P f=true)(hp:og.getD true=true→Pure P f (a++as++c) r)(ak:OB ps)(k:VX P cfg l K E (bR og d r xr) σ):
  VX P cfg (⟨some d,.dY fo args,g⟩::l) K E xr σ:=by
 obtain⟨hc,he⟩:=cz h
 refine iT hc (fun hg=> ?_) (fun hg=> ?_)
 ·have:=he ak hg
  simp only[bo,ZT]at this
  simp only[aj,this.1,this.2]
  refine⟨b7,xo (hp hg) ?_⟩
  rw[← fC hg];exact k.h
 ·rw[← fB hg (v:=r)];exact k.h
theorem Xy{f:FuncId}{r:AV}{fo:Operand}{a c:List AV}(h:aB xr g (fo::args)=some (og,.cl f a c::as,ps))(b7:iU P f=true)(hp:og.getD true=true→Pure P f (a++as++c) r)(ak:OB ps)(k:VY P cfg ah ld K (bR og d r xr) σ):
  VY P cfg ah (⟨ix,⟨some d,.dY fo args,g⟩,cf⟩::ld) K xr σ:=by
 obtain⟨hc,he⟩:=cz h
 refine o8 hc (fun hg=> ?_) (fun hg=> ?_)
 ·have:=he ak hg
  simp only[bo,ZT]at this
  simp only[de,aw.cls,aG,this.1,this.2]
  refine⟨b7,r,hp hg,?_⟩
  have:=k.h;rw[fC hg]at this;grind
 ·rw[← fB hg (v:=r)];exact k.h
end
end Go.Sx
