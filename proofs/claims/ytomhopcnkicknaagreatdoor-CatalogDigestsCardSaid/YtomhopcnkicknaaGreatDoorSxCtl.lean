/-
  The layer Sx, ninth part: regions, code, functions.
-/
import Derived.Test.YtomhopcnkicknaaGreatDoorSxSound
import Derived.Scope
set_option linter.unusedVariables false
set_option linter.unusedSimpArgs false
set_option linter.unusedSectionVars false
namespace Go.Sx
open Go.RowKit
structure CI where
 d:Option Nat
 op:aB
 g:Option (Nat×Bool)
structure CD where
 ix:Nat
 c:CI
 cf:List Nat
inductive SC where
 |skip
 |eZ (l:List CI)
 |cG (l:List CI)
 |dx (al:List Nat) (l:List CD)
 |seq (a b:SC)
 |cond (c:Operand) (t e:SC)
 |block (id:Nat) (b:SC)
 |loop (b:SC)
 |exit (id:Nat)
 |ret
 |scope (b:SC)
 |label (l:Nat)
 |goto (l:Nat)
def pF(P:Program)[Glob P](N:Nat)(ops:Array Oper)(o:Oper):Option CI:=
 match Bl P o,o.dst with
 |some lL,some t=>if t<N then
   match o.guard with
   |none=>some ⟨some t,lL,none⟩
   |some (j,want)=>match(ops[j]?).bind (·.dst)with
    |some u=>some ⟨some t,lL,some (u,want)⟩
    |none=>none
  else none
 |some lL,none=>
   match o.guard with
   |none=>some ⟨none,lL,none⟩
   |some (j,want)=>match(ops[j]?).bind (·.dst)with
    |some u=>some ⟨none,lL,some (u,want)⟩
    |none=>none
 |none,_=>none
def gL(P:Program)[Glob P](N:Nat)(ops:Array Oper):List Oper→Option (List CI)
 |[]=>some []
 |o::l=>match pF P N ops o with
  |some c=>(gL P N ops l).map (c::·)
  |none=>none
def aB.opers:aB→List Operand
 | .mv x| .box _ x| .load _ _ x| .oY x| .un _ x| .lq _ x| .pG x| .qh _ x| .kE _ x| .field _ _ _ x| .extract x _| .len _ x| .panic x=>[x]
 | .pick c a b=>[c,a,b]
 | .alloc _ _=>[]
 | .build _ ps=>ps.map (·.2.2)
 | .br _ _ ps=>ps
 | .store _ x y| .bin _ x y| .ic _ _ x y| .eqs _ _ x y| .eY _ x y| .lJ _ _ x y| .idxs x y| .append _ _ _ _ x y| .max2 x y| .min2 x y=>[x,y]
 | .er _ a b=>a++b
 | .slice _ x lo hi=>x::(lo.toList++hi.toList)
 | .call _ as=>as
 | .gz f as=>f::as
 | .bS _ _ _ as| .exts _ _ _ as=>as
def tmpsOf:List Operand→List Nat
 |[]=>[]
 | .tmp t::l=>t::tmpsOf l
 |_::l=>tmpsOf l
def CI.reads(c:CI):List Nat:=tmpsOf c.op.opers++(match c.g with|some (u,_)=>[u]|none=>[])
def posOf(t:Nat):List (Option Nat)→Nat→Option Nat
 |[],_=>none
 |x::l,k=>if x=some t then some k else posOf t l (k+1)
theorem Ic{t j:Nat}:∀ (l:List (Option Nat)) (k:Nat),posOf t l k=some j→∃ i,j=k+i∧l[i]? =some (some t)
 |[],k,h=>by cases h
 |x::l,k,h=>by
  simp only[posOf]at h
  split at h
  ·simp_all
  ·obtain⟨i,h1,h2⟩:=Ic l (k+1) h
   exact⟨i+1,by omega,by grind⟩
theorem Ib{t:Nat}:∀ (l:List (Option Nat)) (k:Nat),posOf t l k=none→some t∉l
 |[],k,h=>by simp
 |x::l,k,h=>by
  simp only[posOf]at h
  split at h
  ·cases h
  ·have:=Ib l (k+1) h
   grind
def aB.cls:aB→Nat
 | .load .. =>1
 | .alloc .. | .box .. =>2
 | .store .. =>3
 | .append .. | .exts .. =>4
 | .panic .. =>5
 |_=>0
def pI(ops:Array Oper)(l:List CI):Bool:=
 (l.map (·.d)).Nodup && l.all (fun c=>c.d.isSome && (Nat.ble c.op.cls 1 || (Nat.beq c.op.cls 4 && c.g.isNone))) &&
 (l.zip ops.toList).zipIdx.all fun((c,o),i)=>
  o.after.all (fun e=> !Region.binds .any e || decide (e.on<i)) &&
  c.reads.all fun t=>match posOf t (l.map (·.d)) 0 with
   |some j=>o.after.any fun e=>Region.binds .any e && e.on == j
   |none=>true
def uc:List CI→Nat→Option Nat
 |[],_=>none
 |c::l,k=>bif Nat.beq c.op.cls 4 then some k else uc l (k+1)
theorem Ia{k:Nat}:∀ (l:List CI) (m:Nat),uc l m=some k→∃ i,∃ h:i<l.length,k=m+i∧l[i].op.cls=4∧∀ j,j<i→(hj:j<l.length)→l[j].op.cls≠4
 |[],m,h=>by cases h
 |c::l,m,h=>by
  simp only[uc]at h
  cases e:Nat.beq c.op.cls 4 with
  |true=>simp_all
  |false=>
   rw[e]at h
   obtain⟨i,h1,h2,h3,h4⟩:=Ia l (m+1) h
   refine⟨i+1,by grind,by omega,by grind,fun j hj hl=> ?_⟩
   cases j with
   |zero=>intro e2;simp_all
   |succ j=>grind
def pJ(ops:Array Oper)(l:List CI):Bool:=match uc l 0 with
 |none=>false
 |some k=>
 (l.map (·.d)).Nodup && l.all (fun c=>c.d.isSome && (Nat.ble c.op.cls 1 || (Nat.beq c.op.cls 4 && c.g.isNone))) &&
 (l.zip ops.toList).zipIdx.all fun((c,o),i)=>
  o.after.all (fun e=> !Region.binds .any e || decide (e.on<i)) &&
  c.reads.all fun t=>match posOf t (l.map (·.d)) 0 with
   |some j=>(o.after.any fun e=>Region.binds .any e && e.on == j) || (Nat.ble i k && Nat.blt k j)
   |none=>true
def fS(ops:Array Oper)(i j:Nat):Bool:=match ops[i]? with
 |some o=>o.after.any fun e=>Region.binds .any e && e.on == j
 |none=>false
def Ot(ops:Array Oper):List CI→Nat→List Nat→List Nat
 |[],_,acc=>acc
 |c::l,i,acc=>Ot ops l (i+1) (bif Nat.ble 2 c.op.cls || acc.any (fS ops i)then i::acc else acc)
def PJ:aB→Option Nat
 | .store _ (.tmp s) _=>some s
 |_=>none
def isApp:aB→Bool
 | .append .. =>true
 |_=>false
def xP(l:List CI):List Nat:=l.filterMap fun c=>bif Nat.beq c.op.cls 2 || isApp c.op then c.d else none
def EU(s:Nat):List CI→Option aB
 |[]=>none
 |c::l=>match c.d with
  |some d=>bif Nat.beq d s then some c.op else EU s l
  |none=>EU s l
def rootOf(l:List CI):Nat→Nat→Option Nat
 |0,_=>none
 |n+1,s=>match EU s l with
  |none=>some s
  |some (.alloc ..)|some (.box ..)=>some s
  |some (.kE _ (.tmp s'))|some (.oY (.tmp s'))|some (.lJ _ _ (.tmp s') _)|some (.eY _ (.tmp s') _)|some (.mv (.tmp s'))=>rootOf l n s'
  |_=>none
def uZ(ops:Array Oper)(l0:List CI)(i:Nat):List CI→Nat→List Nat
 |[],_=>[]
 |c::l,j=>match PJ c.op with
  |some s=>bif fS ops i j || fS ops j i then uZ ops l0 i l (j+1)else match rootOf l0 l0.length s with
   |some r=>bif (xP l0).elem r then uZ ops l0 i l (j+1)else r::uZ ops l0 i l (j+1)
   |none=>uZ ops l0 i l (j+1)
  |none=>uZ ops l0 i l (j+1)
def Hc:aB→Bool
 | .call .. =>true
 |_=>false
def EH(ops:Array Oper)(i:Nat):List CI→Nat→List Nat
 |[],_=>[]
 |c::l,j=>bif Hc c.op && fS ops i j then c.d.toList++EH ops i l (j+1)else EH ops i l (j+1)
def OX(ops:Array Oper)(l:List CI)(i:Nat):Option CD:=
 match l[i]? with
 |some c=>some ⟨i,c,bif Nat.beq c.op.cls 1 then uZ ops l i l 0 else match PJ c.op with
  |some s=>(rootOf l l.length s).toList
  |none=>bif Nat.beq c.op.cls 0 then EH ops i l 0 else[]⟩
 |none=>none
def C0(d:Option Nat)(x:CD):Bool:=match d with
 |some d=> !x.c.reads.elem d && !x.cf.elem d
 |none=>true
def sL(al:List Nat)(a c:CD):Bool:=
 C0 a.c.d c && C0 c.c.d a && (a.c.d.isNone || decide (a.c.d≠c.c.d)) &&
 match a.c.op.cls,c.c.op.cls with
 |0,_=>true
 |1,0|1,1=>true
 |1,2=>(match c.c.d with|some d=>al.elem d|none=>false)
 |1,3=>(match c.cf with|[s]=>a.cf.elem s || al.elem s|_=>false)
 |1,4=>(match c.c.d with|some d=>al.elem d|none=>false)
 |2,2=>true
 |_,_=>false
def yr(ops:Array Oper):Nat→Nat→Nat→Bool
 |0,i,j=>fS ops i j
 |n+1,i,j=>fS ops i j || (List.range ops.size).any fun b=>fS ops i b && yr ops n b j
def wC(ops:Array Oper)(al:List Nat):List CD→Bool
 |[]=>true
 |a::l=> !fS ops a.ix a.ix && l.all (fun c=> !fS ops a.ix c.ix && (fS ops c.ix a.ix || sL al a c || (Nat.beq c.c.op.cls 4 && yr ops 2 c.ix a.ix))) && wC ops al l
def gU(x:CD):Bool:=(Nat.ble x.c.op.cls 3 || isApp x.c.op) && (Nat.ble x.c.op.cls 1 || x.c.g.isNone) && (!Nat.beq x.c.op.cls 2 || x.c.d.isSome)
def Hv(l:List CI):Bool:=Nat.ble 2 (l.filter fun c=>Nat.beq c.op.cls 4).length
def CW(ops:Array Oper)(al:List Nat)(ds:List CD):Bool:=
 decide ((ds.map (·.ix)).Nodup) && Nat.ble ds.length ops.size && (List.range ops.size).all (fun i=>ds.any fun x=>Nat.beq x.ix i) && ds.all gU && ops.all (fun o=>o.after.all fun e=> !Region.binds .any e || decide (e.on<ops.size)) && wC ops al ds
def K1(ops:Array Oper):List CI→Nat→List Nat→List Nat
 |[],_,acc=>acc
 |c::l,i,acc=>K1 ops l (i+1) (bif Hc c.op || acc.any (fS ops i)then i::acc else acc)
def zQ(ops:Array Oper)(l:List CI):List CD:=
 let late:=Ot ops l 0 []
 let dep:=bif Nat.beq (l.filter fun c=>Hc c.op).length 1 then K1 ops l 0 []else[]
 ((List.range l.length).filter (fun i=> !late.elem i && !dep.elem i)++(List.range l.length).filter (fun i=> !late.elem i && dep.elem i)++(List.range l.length).filter (fun i=>late.elem i)).filterMap (OX ops l)
theorem OV{ops:Array Oper}{l:List CI}{x:CD}(h:x∈zQ ops l):l[x.ix]? =some x.c:=by
 obtain⟨i,_,hi⟩:=List.mem_filterMap.1 h
 unfold OX at hi
 split at hi
 ·grind
 grind
def tN(ops:Array Oper):Nat:=bif rI ops (ops.size-2)then 2 else 1
def gV(ops:Array Oper):Array Oper:=ops.extract 0 (ops.size-tN ops)
def mI(ops:Array Oper):Array Oper:=ops.extract (ops.size-tN ops) ops.size
def IU(ops:Array Oper):Bool:=Nat.ble (tN ops) ops.size && vr ops && vr (gV ops) && rI ops (ops.size-tN ops) && (gV ops).all (fun o=>match o.guard with|some (j,_)=>Nat.blt j (ops.size-tN ops)|none=>true) && (mI ops).all (fun o=>o.guard.isNone)
def KU(P:Program)[Glob P](N:Nat)(ops:Array Oper):Option SC:=
 match gL P N (gV ops) (gV ops).toList,gL P N (mI ops) (mI ops).toList with
 |some l1,some l2=>if IU ops=true∧((pI (gV ops) l1=true∨pJ (gV ops) l1=true)∧Hv l1=false)∧P.follows .mixedOrders=true then some (.seq (.cG l1) (.eZ l2))else none
 |_,_=>none
def dF(P:Program)[Glob P](N:Nat):Code→Option SC
 | .skip=>some .skip
 | .region _ ops false=>(gL P N ops ops.toList).map .eZ
 | .region _ ops true=>match gL P N ops ops.toList with
  |some l=>if Hv l=true∧CW ops (xP l) (zQ ops l)∧P.follows .mixedOrders=true then some (.dx (xP l) (zQ ops l))
    else if(pI ops l=true∨pJ ops l=true)∧P.follows .mixedOrders=true then some (.cG l)
    else if CW ops (xP l) (zQ ops l)∧P.follows .mixedOrders=true then some (.dx (xP l) (zQ ops l))else KU P N ops
  |none=>none
 | .seq a b=>match dF P N a,dF P N b with
  |some a,some b=>some (.seq a b)
  |_,_=>none
 | .cond c t e=>match dF P N t,dF P N e with
  |some t,some e=>some (.cond c t e)
  |_,_=>none
 | .block id b=>(dF P N b).map (.block id)
 | .loop b=>(dF P N b).map .loop
 | .exit id=>some (.exit id)
 | .ret=>some .ret
 | .scope b=>(dF P N b).map .scope
 | .label l=>some (.label l)
 | .goto l=>some (.goto l)
 |_=>none
def jJ(P:Program)[Glob P](M:Mem)(w0:Base)(N:Nat)(Q:Exit→ah→Store→Prop):Exit→Act→World→Prop:=fun e a w=>
 ∃ M' rg σ,M.le M'∧Inv P M' w0 σ w∧bW M' rg a∧a.tmps.size=N∧a.defers=Glob.df P∧Q e rg σ
def sO(P:Program)(c:Code)(Q:Exit→Act→World→Prop)(a:Act)(w:World):Prop:=match c with
 | .region _ ops true=>P.follows .mixedOrders=true∧∀ t,wpOps P ops Q (Region.linearise .any ops t) a {w with drawn:=w.drawn+1}
 | .region _ ops false=>wpOps P ops Q (List.range ops.size) a w
 |c=>c.wp P Q a w
theorem sP{P:Program}{c:Code}{Q:Exit→Act→World→Prop}{a:Act}{w:World}(h:sO P c Q a w):c.wp P Q a w:=by
 unfold sO at h
 split at h
 ·refine wp_region_draw fun t=> ?_
  simp only[Region.schedule,h.1,Bool.true_or,YV]
  grind
 ·exact wp_region h
 grind
theorem ES{P:Program}{id:Nat}{ops:Array Oper}{Q:Exit→Act→World→Prop}{a:Act}{w:World}(hm:P.follows .mixedOrders=true)(h:wpAny P .any ops Q ops.size (Array.replicate ops.size false) a {w with drawn:=w.drawn+1}):sO P (.region id ops true) Q a w:=
 ⟨hm,fun t=>wpAny_sound ops.size t _ a _ h⟩
def SW(P:Program)[Glob P](N:Nat)(s:SC)(Q:Exit→ah→Store→Prop)(rg:ah)(σ:Store):Prop:=
 ∀ c,dF P N c=some s→∀ (M:Mem) (w0:Base) (a:Act) (w:World),Inv P M w0 σ w→bW M rg a→a.tmps.size=N→a.defers=Glob.df P→sO P c (jJ P M w0 N Q) a w
def dP(P:Program)[Glob P](cfg:Nat→Nat)(c:CI)(K:AV→Store→Prop)(E:List PanicEntry→Store→Prop)(rg:ah)(σ:Store):Prop:=
 match c.g with
 |none=>ak P cfg c.d rg σ K E c.op
 |some (t,want)=>match lk rg t with
  | .v (.bool b)=>(b=want→ak P cfg c.d rg σ K E c.op)∧(b= !want→K (.v undef) σ)
  | .v (.tuple _)=>K (.v undef) σ
  |_=>False
def Gd(b want:Bool)(X Y:Prop):Prop:=(b=want→X)∧(b= !want→Y)
theorem Gd.l{b want:Bool}{X Y:Prop}(h:Gd b want X Y):b=want→X:=h.1
theorem Gd.r{b want:Bool}{X Y:Prop}(h:Gd b want X Y):b= !want→Y:=h.2
def o9(P:Program)[Glob P](cfg:Nat→Nat):List CI→(K:ah→Store→Prop)→(E:List PanicEntry→Store→Prop)→ah→Store→Prop
 |[],K,_,rg,σ=>K rg σ
 |c::l,K,E,rg,σ=>match c.g with
  |none=>ak P cfg c.d rg σ (fun x af=>o9 P cfg l K E (cr c.d x rg) af) E c.op
  |some (t,want)=>match lk rg t with
   | .v (.bool b)=>Gd b want (ak P cfg c.d ((t,.v (.bool want))::rg) σ (fun x af=>o9 P cfg l K E (cr c.d x ((t,.v (.bool want))::rg)) af) E c.op)
     (o9 P cfg l K E (cr c.d (.v undef) ((t,.v (.bool !want))::rg)) σ)
   | .v (.tuple _)=>o9 P cfg l K E (cr c.d (.v undef) rg) σ
   |_=>False
theorem CR{rg:ah}{t:Nat}{x:AV}(h:lk rg t=x)(i:Nat):lk ((t,x)::rg) i=lk rg i:=by
 simp only[lk]
 cases hb:Nat.beq t i with
 |true=>simp_all
 |false=>rfl
theorem aMK{P:Program}[Glob P]{cfg:Nat→Nat}{c:CI}{l:List CI}{K:ah→Store→Prop}{E:List PanicEntry→Store→Prop}{rg:ah}{σ:Store}(h:o9 P cfg (c::l) K E rg σ):
  ∃ ay,(∀ i,lk ay i=lk rg i)∧dP P cfg c (fun x af=>o9 P cfg l K E (cr c.d x ay) af) E ay σ:=by
 simp only[o9]at h
 split at h
 ·exact⟨rg,fun _=>rfl,by unfold dP;grind⟩
 ·rename_i t want hg
  split at h
  ·rename_i b hb
   by_cases fK:b=want
   ·subst fK
    have e:lk ((t,AV.v (.bool b))::rg) t= .v (.bool b):=by simp[lk,X8]
    refine⟨_,CR hb,?_⟩
    unfold dP
    rw[hg]
    simp only[e]
    exact⟨fun _=>h.l rfl,fun h'=>by grind⟩
   ·have iS:b= !want:=by cases b<;>cases want<;>simp_all
    subst iS
    have e:lk ((t,AV.v (.bool !want))::rg) t= .v (.bool !want):=by simp[lk,X8]
    refine⟨_,CR hb,?_⟩
    unfold dP
    rw[hg]
    simp only[e]
    exact⟨fun h'=>absurd h' fK,fun _=>h.r rfl⟩
  ·exact⟨rg,fun _=>rfl,by unfold dP;grind⟩
  grind
section
variable {P:Program}[Glob P]{M:Mem}{w0:Base}{w:World}{σ:Store}{rg:ah}{a:Act}{cfg:Nat→Nat}{N:Nat}
theorem s4{ops:Array Oper}{o:Oper}{c:CI}(hc:pF P N ops o=some c){K:AV→Store→Prop}{E:List PanicEntry→Store→Prop}(h:dP P cfg c K E rg σ)(hI:Inv P M w0 σ w)(hR:bW M rg a)
  {next:Act→World→Prop} {Q:Exit→Act→World→Prop} (hg:xB P M w0 w K E o a next Q):
  if Region.wanted o (yielded ops a.tmps)then o.wp P a w next Q∨(o.asks P a w∧LetsOut Q)else next (a.put o.dst undef) w:=by
 obtain⟨lL,acV,hd,cO,tv⟩:∃ lL,Bl P o=some lL∧c.d=o.dst∧c.op=lL∧((o.guard=none∧c.g=none)∨∃ j want u,o.guard=some (j,want)∧(ops[j]?).bind (·.dst)=some u∧c.g=some (u,want)):=by
  unfold pF at hc
  split at hc
  ·grind
  ·grind
  grind
 have run:ak P cfg c.d rg σ K E c.op→o.wp P a w next Q:=fun h=>Xl (cfg:=cfg) (d:=c.d) acV (by grind) hI hR hg
 have Qz:K (.v undef) σ→next (a.put o.dst undef) w:=fun h=>hg.val M _ σ undef w (Mem.le.refl _) hI (.v _) h
 unfold dP at h
 rcases tv with⟨h1,h2⟩|⟨j,want,u,h1,h2,h3⟩
 ·rw[h2]at h
  simp only[Region.wanted,h1,YV]
  grind
 ·rw[h3]at h
  simp only at h
  have hy:yielded ops a.tmps j=match a.tmps[u]? with
   |some (.bool b)=>some b
   |_=>none:=by unfold yielded;grind
  have hu:=hR u
  split at h
  ·rename_i b hb
   rw[hb]at hu
   have hv:=hu.aC
   have ht:a.tmps[u]? =some (.bool b):=by
    rw[ZT]at hv
    cases he:a.tmps[u]? with
    |none=>rw[he]at hv;simp[undef]at hv
    |some y=>rw[he]at hv;simp at hv;rw[hv]
   have G3:yielded ops a.tmps j=some b:=by rw[hy,ht]
   simp only[Region.wanted,h1,G3]
   by_cases fK:b=want
   ·subst fK
    simp only[beq_self_eq_true,YV]
    exact .inl (run (h.1 rfl))
   ·have:(some b == some want)=false:=by simp[fK]
    simp only[this,ZG,Za]
    exact Qz (h.2 (by cases b<;>cases want<;>simp_all))
  ·rename_i vs hb
   rw[hb]at hu
   have hv:=hu.aC
   have G3:yielded ops a.tmps j=none:=by
    rw[hy]
    rw[ZT]at hv
    cases he:a.tmps[u]? with
    |none=>rfl
    |some y=>rw[he]at hv;simp at hv;rw[hv]
   simp only[Region.wanted,h1,G3]
   have:((none:Option Bool) == some want)=false:=rfl
   simp only[this,ZG,Za]
   exact Qz h
  grind
theorem xW{ops:Array Oper}{o:Oper}{c:CI}(hc:pF P N ops o=some c):c.d=o.dst∧∀ t,c.d=some t→t<N:=by
 unfold pF at hc
 split at hc
 ·grind
 ·grind
 grind
theorem uw(ops:Array Oper){Q:Exit→ah→Store→Prop}{K:ah→Store→Prop}(hK:∀ rg σ,K rg σ→Q .normal rg σ):
  ∀ (os:List Oper) (k:Nat) (l:List CI),gL P N ops os=some l→(∀ i,i<os.length→ops[k+i]? =os[i]?)→
  ∀ (M:Mem) (w0:Base) (w:World) (a:Act) (rg:ah) (σ:Store),o9 P cfg l K (fun ch af=>Q (.panic ch) [] af) rg σ→Inv P M w0 σ w→bW M rg a→a.tmps.size=N→a.defers=Glob.df P→
   wpOps P ops (jJ P M w0 N Q) (List.range' k os.length) a w
 |[],k,l,hl,_,M,w0,w,a,rg,σ,h,hI,hR,hN,hD=>by
  simp only[gL,ZN]at hl
  subst hl
  exact⟨M,rg,σ,Mem.le.refl _,hI,hR,hN,hD,hK rg σ h⟩
 |o::os,k,l,hl,ho,M,w0,w,a,rg,σ,h,hI,hR,hN,hD=>by
  simp only[gL]at hl
  split at hl
  ·rename_i c hc
   obtain⟨l',fj,rfl⟩:=ZO.1 hl
   have Gs:ops[k]? =some o:=by simpa using ho 0 (by simp)
   obtain⟨ay,tI,h⟩:=aMK h
   replace hR:bW M ay a:=fun i=>by rw[tI];exact hR i
   obtain⟨jO,ax⟩:=xW hc
   simp only[Z8,List.range'_succ,wpOps,Gs]
   refine s4 hc h hI hR ⟨fun M' x af v w' hM aS hx hk=> ?_,fun M' ch af w' hM aS hk=> ?_⟩
   ·have ih:=uw ops hK os (k+1) l' fj (fun i hi=>by have:=ho (i+1) (by simpa using hi);rw[show k+1+i=k+(i+1)from by omega];simpa using this) M' w0 w' (a.put o.dst v) (cr c.d x ay) af hk aS
     (by rw[jO];exact(hR.mono hM).put o.dst (fun t ht=>by rw[hN];exact ax t (jO.trans ht)) hx) (by rw[Act.size_put];exact hN) (by rw[Act.x2];exact hD)
    refine qD ?_ _ _ _ ih
    rintro e a2 w2 ⟨M2,dA,bE,h1,h2⟩
    exact⟨M2,dA,bE,hM.trans h1,h2⟩
   ·exact⟨M',[],af,hM,aS,fun i=> .any _,hN,hD,hk⟩
  ·cases hl
 where
 qD {ops:Array Oper} {Q Q':Exit→Act→World→Prop} (h:∀ e a w,Q e a w→Q' e a w):∀ (is:List Nat) (a:Act) (w:World),wpOps P ops Q is a w→wpOps P ops Q' is a w
 |[],a,w,hq=>h _ _ _ hq
 |i::is,a,w,hq=>by
  rw[wpOps_cons]at hq ⊢
  unfold wpOp at hq ⊢
  split
  ·rename_i e;rw[e]at hq;exact qD h is a w hq
  ·rename_i o e
   rw[e]at hq
   simp only at hq
   split
   ·rename_i hw
    rw[Z3 hw]at hq
    refine hq.imp (fun hh=> ?_) (fun⟨x,y⟩=>⟨x,y.elim fun a h'=>h'.elim fun w vu=>⟨a,w,h _ _ _ vu⟩⟩)
    have h1:=Oper.wp_mono (K':=wpOps P ops Q' is) (fun a w=>qD h is a w) hh
    unfold Oper.wp at h1 ⊢
    generalize (execOp a.eval o).run P w=r at h1
    cases r with
    |ok n w'=>
     cases n<;>simp only[Oper.upon]at h1 ⊢<;>first
      |exact h1
      |exact Calls.mono h1 (fun e w'' he=>by cases e<;>first|exact he|exact h _ _ _ he|exact he.elim fun a h'=>h'.elim fun w vu=>⟨a,w,h _ _ _ vu⟩)
    |halt x w'=>cases x<;>simp only[Oper.upon]at h1 ⊢<;>first|exact h1|exact h _ _ _ h1
   ·rename_i hw
    rw[Z6 hw]at hq
    exact qD h is _ _ hq
theorem xX{c:Code}{Q Q':Exit→Act→World→Prop}(h:sO P c Q a w)(hq:∀ e a w,Q e a w→Q' e a w):sO P c Q' a w:=by
 unfold sO at h ⊢
 split
 ·exact⟨h.1,fun t=>uw.qD hq _ _ _ (h.2 t)⟩
 ·exact uw.qD hq _ _ _ h
 ·have h':c.wp P Q a w:=by
   grind
  exact wp_mono h' hq
theorem Jn{ops ops':Array Oper}{Q:Exit→Act→World→Prop}(f:Nat→Nat)(L2:List Nat):∀ (L:List Nat),(∀ i∈L,ops'[i]? =ops[f i]?∧∀ o,ops'[i]? =some o→∀ tmps,Region.wanted o (yielded ops' tmps)=Region.wanted o (yielded ops tmps))→∀ (a:Act) (w:World),
  wpOps P ops' (Exit.then (wpOps P ops Q L2) Q) L a w→wpOps P ops Q (L.map f++L2) a w
 |[],_,a,w,h=>h
 |i::L,hL,a,w,h=>by
  have ih:=Jn (ops:=ops) (ops':=ops') (Q:=Q) f L2 L (fun j hj=>hL j (ZL _ hj))
  obtain⟨h1,h2⟩:=hL i Zv
  rw[ZC,Ze,wpOps_cons]
  rw[wpOps_cons]at h
  unfold wpOp at h ⊢
  rw[← h1]
  split
  ·grind
  ·rename_i o e
   rw[e]at h
   simp only at h
   rw[← h2 o e]
   split
   ·rename_i hw
    rw[Z3 hw]at h
    refine h.imp (fun hh=> ?_) (fun⟨x,y⟩=>⟨x,y⟩)
    have h3:=Oper.wp_mono (K':=wpOps P ops Q (L.map f++L2)) (fun a w=>ih a w) hh
    generalize (execOp a.eval o).run P w=r at h3
    cases r with
    |ok n w'=>
     assumption
    |halt x w'=>assumption
   grind
theorem aMU{o:Oper}{ops ops':Array Oper}(h:∀ j want,o.guard=some (j,want)→ops'[j]? =ops[j]?)(tmps:Array Value):Region.wanted o (yielded ops' tmps)=Region.wanted o (yielded ops tmps):=by
 unfold Region.wanted
 cases hg:o.guard with
 |none=>rfl
 |some g=>
  obtain⟨j,want⟩:=g
  simp only[yielded,h j want hg]
theorem KV{M M':Mem}(h:M.le M'){Q:Exit→ah→Store→Prop}{e:Exit}{a:Act}{w:World}:jJ P M' w0 N Q e a w→jJ P M w0 N Q e a w:=
 fun⟨M2,dA,bE,h1,h2⟩=>⟨M2,dA,bE,h.trans h1,h2⟩
theorem SW.mono{s:SC}{Q Q':Exit→ah→Store→Prop}(h:SW P N s Q rg σ)(hq:∀ e rg σ,Q e rg σ→Q' e rg σ):SW P N s Q' rg σ:=
 fun c hc M w0 a w hI hR hN hD=>xX (h c hc M w0 a w hI hR hN hD) fun _ _ _ ⟨M2,dA,bE,h1,h2,h3,h4,h5,h6⟩=>⟨M2,dA,bE,h1,h2,h3,h4,h5,hq _ _ _ h6⟩
theorem SW.gB(l:List Nat){s:SC}{Q:Exit→ah→Store→Prop}(h:SW P N s Q (gB l rg) σ):SW P N s Q rg σ:=
 fun c hc M w0 a w hI hR hN hD=>h c hc M w0 a w hI (hR.gB l) hN hD
def qw(K:ah→Store→Prop)(Q:Exit→ah→Store→Prop):Exit→ah→Store→Prop
 | .normal,rg,σ=>K rg σ
 |e,rg,σ=>Q e rg σ
def pB(id:Nat)(Q:Exit→ah→Store→Prop):Exit→ah→Store→Prop
 | .exit oQ,rg,σ=>if oQ=id then Q .normal rg σ else Q (.exit oQ) rg σ
 |e,rg,σ=>Q e rg σ
def Sy(P:Program)[Glob P](N:Nat)(c:Code):SC→Prop
 | .skip=>c= .skip
 | .eZ l=>∃ id ops,c= .region id ops false∧gL P N ops ops.toList=some l
 | .cG l=>∃ id ops,c= .region id ops true∧gL P N ops ops.toList=some l∧(pI ops l=true∨pJ ops l=true)∧P.follows .mixedOrders=true
 | .dx al ds=>∃ id ops l,c= .region id ops true∧gL P N ops ops.toList=some l∧(∀ x∈ds,l[x.ix]? =some x.c)∧CW ops al ds=true∧P.follows .mixedOrders=true
 | .seq a b=>(∃ ca cb,c= .seq ca cb∧dF P N ca=some a∧dF P N cb=some b)∨
   ∃ id ops l1 l2,c= .region id ops true∧a= .cG l1∧b= .eZ l2∧gL P N (gV ops) (gV ops).toList=some l1∧gL P N (mI ops) (mI ops).toList=some l2∧IU ops=true∧((pI (gV ops) l1=true∨pJ (gV ops) l1=true)∧Hv l1=false)∧P.follows .mixedOrders=true
 | .cond x a b=>∃ ca cb,c= .cond x ca cb∧dF P N ca=some a∧dF P N cb=some b
 | .block id b=>∃ cb,c= .block id cb∧dF P N cb=some b
 | .loop b=>∃ cb,c= .loop cb∧dF P N cb=some b
 | .exit id=>c= .exit id
 | .ret=>c= .ret
 | .scope b=>∃ cb,c= .scope cb∧dF P N cb=some b
 | .label l=>c= .label l
 | .goto l=>c= .goto l
theorem kC{c:Code}{s:SC}(h:dF P N c=some s):Sy P N c s:=by
 cases c with
 |skip=>simp only[dF,ZN]at h;subst h;rfl
 |region id ops draw=>
  cases draw with
  |false=>
   simp only[dF]at h
   obtain⟨l,h1,rfl⟩:=ZO.1 h
   exact⟨id,ops,rfl,h1⟩
  |true=>
   simp only[dF]at h
   split at h
   ·rename_i l hl
    split at h
    ·rename_i hd;cases h;exact⟨id,ops,l,rfl,hl,fun x hx=>OV hx,hd.2.1,hd.2.2⟩
    split at h
    ·rename_i hd;cases h;exact⟨id,ops,rfl,hl,hd.1,hd.2⟩
    ·split at h
     ·rename_i hd;cases h;exact⟨id,ops,l,rfl,hl,fun x hx=>OV hx,hd.1,hd.2⟩
     ·unfold KU at h
      split at h
      ·rename_i l1 l2 e1 e2
       split at h
       ·rename_i hd;cases h;exact .inr ⟨id,ops,l1,l2,rfl,rfl,rfl,e1,e2,hd.1,hd.2.1,hd.2.2⟩
       grind
      grind
   grind
 |seq a b=>
  simp only[dF]at h
  split at h
  ·rename_i x y h1 h2;cases h;exact .inl ⟨a,b,rfl,h1,h2⟩
  grind
 |cond x a b=>
  simp only[dF]at h
  split at h
  ·rename_i x y h1 h2;cases h;exact⟨a,b,rfl,h1,h2⟩
  grind
 |block id b=>
  simp only[dF]at h
  obtain⟨l,h1,rfl⟩:=ZO.1 h
  exact⟨b,rfl,h1⟩
 |loop b=>
  simp only[dF]at h
  obtain⟨l,h1,rfl⟩:=ZO.1 h
  exact⟨b,rfl,h1⟩
 |exit id=>simp only[dF,ZN]at h;subst h;rfl
 |ret=>simp only[dF,ZN]at h;subst h;rfl
 |scope b=>
  simp only[dF]at h
  obtain⟨l,h1,rfl⟩:=ZO.1 h
  exact⟨b,rfl,h1⟩
 |label l=>simp only[dF,ZN]at h;subst h;rfl
 |goto l=>simp only[dF,ZN]at h;subst h;rfl
 |_=>simp[dF]at h
theorem SV{l:List CI}{Q:Exit→ah→Store→Prop}(cfg:Nat→Nat)(h:o9 P cfg l (Q .normal) (fun ch af=>Q (.panic ch) [] af) rg σ):SW P N (.eZ l) Q rg σ:=by
 intro c hc M w0 a w hI hR hN hD
 obtain⟨id,ops,rfl,hl⟩:=kC hc
 show wpOps _ _ _ _ _ _
 have:=uw (P:=P) (N:=N) (cfg:=cfg) ops (Q:=Q) (K:=Q .normal) (fun _ _ h=>h) ops.toList 0 l hl (fun i hi=>by simp) M w0 w a rg σ h hI hR hN hD
 rw[XY]
 grind
theorem J4{x y:SC}{Q:Exit→ah→Store→Prop}(h:SW P N x (qw (SW P N y Q) Q) rg σ):SW P N (.seq x y) Q rg σ:=by
 intro c hc M w0 a w hI hR hN hD
 rcases kC hc with⟨ca,cb,rfl,h1,h2⟩|⟨id,ops,l1,l2,rfl,rfl,rfl,e1,e2,hT,hd,tq⟩
 ·refine wp_seq (wp_mono (sP (h ca h1 M w0 a w hI hR hN hD)) ?_)
  rintro e a2 w2 ⟨M2,dA,bE,g1,g2,g3,g4,g5,g6⟩
  cases e with
  |normal=>
   refine wp_mono (sP (g6 cb h2 M2 w0 a2 w2 g2 g3 g4 g5)) ?_
   intro e a3 w3 hh
   exact KV g1 hh
  |_=>exact⟨M2,dA,bE,g1,g2,g3,g4,g5,g6⟩
 ·unfold IU at hT
  simp only[ZP]at hT
  obtain⟨⟨⟨⟨⟨c9,hf⟩,hfp⟩,hl⟩,hgp⟩,yH⟩:=hT
  have c9:=ZW c9
  have aw:(gV ops).size=ops.size-tN ops:=by unfold gV;grind
  have iw:(mI ops).size=tN ops:=by unfold mI;grind
  have Gv:∀ i,i<ops.size-tN ops→(gV ops)[i]? =ops[i]? :=fun i hi=>by
   unfold gV;grind
  have cW:dF P N (.region id (gV ops) true)=some (.cG l1):=by
   simp only[dF,e1]
   grind
  have dj:dF P N (.region id (mI ops) false)=some (.eZ l2):=by simp only[dF,e2];rfl
  refine⟨tq,fun t=> ?_⟩
  have eW:=(h _ cW M w0 a w hI hR hN hD).2 t
  rw[OE _ hfp,aw]at eW
  have e0:Region.linearise .any ops t=iD (gV ops) (ops.size-tN ops) t (fun i=> !Nat.blt i (ops.size-tN ops))++List.range' (ops.size-tN ops) (ops.size-(ops.size-tN ops)):=by
   rw[OE _ hf]
   have:=ahp hf hl aw (fun i h h' vu=>by
    have:=Gv i h
    rw[ZH vu,ZH h']at this
    exact Yn this) (ops.size-tN ops) t (fun i=> !Nat.blt i (ops.size-tN ops)) (fun i=> !Nat.blt i ops.size) (ZJ (Yw _ _) (by simp)) (fun i=>by
     by_cases hi:i<ops.size-tN ops
     ·have a1:Nat.blt i (ops.size-tN ops)=true:=by rw[Ya];exact hi
      have a2:Nat.blt i ops.size=true:=by rw[Ya];omega
      rw[Z3 hi,a1,a2]
     ·rw[Z6 hi])
   rwa [show ops.size-tN ops+(ops.size-(ops.size-tN ops))=ops.size by omega]at this
  rw[e0]
  have hL:∀ i∈iD (gV ops) (ops.size-tN ops) t (fun i=> !Nat.blt i (ops.size-tN ops)),i<ops.size-tN ops:=fun i hi=>by
   rw[← aw];exact PD _ _ _ _ hi
  have key:=Jn (P:=P) (ops:=ops) (ops':=gV ops) (Q:=jJ P M w0 N Q) (fun i=>i) (List.range' (ops.size-tN ops) (ops.size-(ops.size-tN ops))) (iD (gV ops) (ops.size-tN ops) t (fun i=> !Nat.blt i (ops.size-tN ops))) (fun i hi=>⟨Gv i (hL i hi),fun o ho tmps=>aMU (fun j want hg=>Gv j (by
   have hm:=Array.mem_of_getElem? ho
   have:=ZD.1 hgp o hm
   rw[hg]at this
   simpa only[Ya]using this)) tmps⟩) a _ (uw.qD ?_ _ _ _ eW)
  ·rw[List.map_id'']at key
   ·exact key
   ·exact fun _=>rfl
  ·rintro e a2 w2 ⟨M2,dA,bE,g1,g2,g3,g4,g5,g6⟩
   cases e with
   |normal=>
    have rA:wpOps P (mI ops) (jJ P M2 w0 N Q) (List.range (mI ops).size) a2 w2:=g6 _ dj M2 w0 a2 w2 g2 g3 g4 g5
    rw[iw]at rA
    have Oe:=Jn (P:=P) (ops:=ops) (ops':=mI ops) (Q:=jJ P M w0 N Q) (fun i=>ops.size-tN ops+i) [] (List.range (tN ops)) (fun i hi=>⟨by
     have:=Y6.1 hi
     unfold mI;rw[Array.getElem?_extract,Z3 (by omega)],fun o ho tmps=>by
     have hm:=Array.mem_of_getElem? ho
     have:=ZD.1 yH o hm
     simp only[Option.isNone_iff_eq_none]at this
     simp[Region.wanted,this]⟩) a2 w2 (uw.qD (fun e a3 w3 hh=>by cases e<;>exact KV g1 hh) _ _ _ rA)
    rw[Zb]at Oe
    rw[show ops.size-(ops.size-tN ops)=tN ops by omega]
    show wpOps P ops _ _ a2 w2
    have e3:(List.range (tN ops)).map (fun i=>ops.size-tN ops+i)=List.range' (ops.size-tN ops) (tN ops):=by rw[List.range'_eq_map_range]
    rw[← e3];exact Oe
   |_=>exact⟨M2,dA,bE,g1,g2,g3,g4,g5,g6⟩
theorem J5{Q:Exit→ah→Store→Prop}(h:Q .normal rg σ):SW P N .skip Q rg σ:=by
 intro c hc M w0 a w hI hR hN hD
 obtain rfl:=kC hc
 exact wp_skip ⟨M,rg,σ,Mem.le.refl _,hI,hR,hN,hD,h⟩
theorem J3{Q:Exit→ah→Store→Prop}(h:Q .ret rg σ):SW P N .ret Q rg σ:=by
 intro c hc M w0 a w hI hR hN hD
 obtain rfl:=kC hc
 exact wp_ret ⟨M,rg,σ,Mem.le.refl _,hI,hR,hN,hD,h⟩
theorem J0{id:Nat}{Q:Exit→ah→Store→Prop}(h:Q (.exit id) rg σ):SW P N (.exit id) Q rg σ:=by
 intro c hc M w0 a w hI hR hN hD
 obtain rfl:=kC hc
 exact wp_exit ⟨M,rg,σ,Mem.le.refl _,hI,hR,hN,hD,h⟩
theorem JZ{x:Operand}{s t:SC}{Q:Exit→ah→Store→Prop}{b:Bool}(hx:ev rg x= .v (.bool b))(h1:b=true→SW P N s Q rg σ)(h2:b=false→SW P N t Q rg σ):SW P N (.cond x s t) Q rg σ:=by
 intro c hc M w0 a w hI hR hN hD
 obtain⟨ca,cb,rfl,g1,g2⟩:=kC hc
 have he:=hR.ev x
 rw[hx]at he
 exact wp_cond_split he.aC (fun hb=>sP (h1 hb _ g1 M w0 a w hI hR hN hD)) (fun hb=>sP (h2 hb _ g2 M w0 a w hI hR hN hD))
theorem JY{id:Nat}{s:SC}{Q:Exit→ah→Store→Prop}(h:SW P N s (pB id Q) rg σ):SW P N (.block id s) Q rg σ:=by
 intro c hc M w0 a w hI hR hN hD
 obtain⟨cb,rfl,h1⟩:=kC hc
 refine wp_block (wp_mono (sP (h _ h1 M w0 a w hI hR hN hD)) ?_)
 rintro e a2 w2 ⟨M2,dA,bE,g1,g2,g3,g4,g5,g6⟩
 cases e with
 |exit oQ=>
  simp only[pB]at g6
  simp only[Exit.inBlock]
  split
  ·rename_i e;rw[Z3 e]at g6;exact⟨M2,dA,bE,g1,g2,g3,g4,g5,g6⟩
  ·rename_i e;rw[Z6 e]at g6;exact⟨M2,dA,bE,g1,g2,g3,g4,g5,g6⟩
 |_=>exact⟨M2,dA,bE,g1,g2,g3,g4,g5,g6⟩
theorem J1{s:SC}{Q:Exit→ah→Store→Prop}(I:Nat→ah→Store→Prop)(n:Nat)(h0:I n rg σ)(h:∀ n rg σ,I n rg σ→SW P N s (qw (fun ay af=>∃ n',n'<n∧I n' ay af) Q) rg σ):SW P N (.loop s) Q rg σ:=by
 intro c hc M w0 a w hI hR hN hD
 obtain⟨cb,rfl,pS⟩:=kC hc
 have key:∀ (m:Nat) (a:Act) (w:World),(∃ M2 dA bE,M.le M2∧Inv P M2 w0 bE w∧bW M2 dA a∧a.tmps.size=N∧a.defers=Glob.df P∧I m dA bE)→
   ∀ (b:Frame) (k:List Item) (cs:List Frame),∃ e a' w',jJ P M w0 N Q e a' w'∧Arrives P (lone (b.at a (.code cb:: .inLoop cb::k)) cs w) b k cs e a' w':=by
  intro m
  induction m using Nat.strongRecOn with
  |_ m ih=>
   rintro a w ⟨M2,dA,bE,g1,g2,g3,g4,g5,g6⟩ b k cs
   obtain⟨e,a',w',hq,rm⟩:=sP (h m dA bE g6 cb pS M2 w0 a w g2 g3 g4 g5) b (.inLoop cb::k) cs
   obtain⟨M3,mG,kY,k1,k2,k3,k4,k5,k6⟩:=hq
   cases e with
   |normal=>
    obtain⟨m',ax,hIm⟩:=k6
    obtain⟨e2,a2,w2,iq,acC⟩:=ih m' ax a' w' ⟨M3,mG,kY,g1.trans k1,k2,k3,k4,k5,hIm⟩ b k cs
    exact⟨e2,a2,w2,iq,.of_steps (Steps.trans rm (.one step_inLoop)) acC⟩
   |exit id=>exact⟨_,a',w',⟨M3,mG,kY,g1.trans k1,k2,k3,k4,k5,k6⟩,.pass (x:= .inLoop cb) rfl (fun _ _=> .inl (by simp)) rm⟩
   |goto l=>exact⟨_,a',w',⟨M3,mG,kY,g1.trans k1,k2,k3,k4,k5,k6⟩,.pass (x:= .inLoop cb) rfl (fun _ _=> .inl (by simp)) rm⟩
   |ret=>exact⟨_,a',w',⟨M3,mG,kY,g1.trans k1,k2,k3,k4,k5,k6⟩,.pass (x:= .inLoop cb) rfl (fun _ _=> .inl (by simp)) rm⟩
   |panic ch=>exact⟨_,a',w',⟨M3,mG,kY,g1.trans k1,k2,k3,k4,k5,k6⟩,.pass (x:= .inLoop cb) rfl (fun _ _=> .inl (by simp)) rm⟩
   |outgrown=>exact⟨_,a',w',⟨M3,mG,kY,g1.trans k1,k2,k3,k4,k5,k6⟩,.pass (x:= .inLoop cb) rfl (fun _ _=> .inl (by simp)) rm⟩
 intro b k cs
 obtain⟨e,a',w',hq,rm⟩:=key n a w ⟨M,rg,σ,Mem.le.refl _,hI,hR,hN,hD,h0⟩ b k cs
 exact⟨e,a',w',hq,.of_steps (.one step_loop) rm⟩
theorem SR{l:Nat}{Q:Exit→ah→Store→Prop}(h:Q .normal rg σ):SW P N (.label l) Q rg σ:=by
 intro c hc M w0 a w hI hR hN hD
 obtain rfl:=kC hc
 exact wp_label ⟨M,rg,σ,Mem.le.refl _,hI,hR,hN,hD,h⟩
theorem SQ{l:Nat}{Q:Exit→ah→Store→Prop}(h:Q (.goto l) rg σ):SW P N (.goto l) Q rg σ:=by
 intro c hc M w0 a w hI hR hN hD
 obtain rfl:=kC hc
 exact wp_goto ⟨M,rg,σ,Mem.le.refl _,hI,hR,hN,hD,h⟩
end
inductive RC where
 |tmp (t:Nat)
 |cell (t:Nat) (agg:Bool) (n:Nat)
structure FC where
 N:Nat
 code:SC
 res:List RC
def Bm(P:Program)[Glob P]:ResultVar→Option RC
 | .tmp t=>some (.tmp t)
 | .cell t ty=>(en P ty).map fun(g,n)=> .cell t g n
def Aa(tmps:Array Value):ResultVar→Sem Value
 | .tmp t=>pure (tmps.getD t undef)
 | .cell b t=>do loadVar t (← asAddr (tmps.getD b undef))
theorem P5(fn:Func)(tmps:Array Value):results fn tmps=(do let vs ← fn.results.mapM (Aa tmps);pure (if h:vs.size=1 then vs[0]else .tuple vs)):=by
 rfl
def sM(P:Program)[Glob P]:List ResultVar→Option (List RC)
 |[]=>some []
 | .tmp t::l=>(sM P l).map (.tmp t::·)
 | .cell t ty::l=>match en P ty with
  |some (g,n)=>(sM P l).map (.cell t g n::·)
  |none=>none
def iN(P:Program)[Glob P](fn:Func):Option FC:=
 match fn.body with
 |some c=>match dF P fn.ntmps c,sM P fn.results.toList with
  |some s,some r=>some ⟨fn.ntmps,s,r⟩
  |_,_=>none
 |none=>none
def uf(rg:ah)(σ:Store):RC→Option AV
 | .tmp t=>some (lk rg t)
 | .cell t g n=>match lk rg t with
  | .lp tg b o=>match bo σ tg with
   |some (b',.cells l)=>if b=b' then(if g then(if o+n≤l.length then some (.agg ((l.drop o).take n))else none)else l[o]?)else none
   |_=>none
  |_=>none
def rN(rg:ah)(σ:Store):List RC→Option (List AV)
 |[]=>some []
 |r::l=>match uf rg σ r with
  |some x=>(rN rg σ l).map (x::·)
  |none=>none
def wI(rg:ah)(σ:Store)(l:List RC):Option AV:=
 match rN rg σ l with
 |some [x]=>some x
 |some xs=>some (.aE xs)
 |none=>none
def Sub(σ af:Store):Prop:=(σ.map (·.2)).Sublist (af.map (·.2))
theorem Sub.refl(σ:Store):Sub σ σ:=List.Sublist.refl _
theorem Sub.trans{a b c:Store}(h:Sub a b)(k:Sub b c):Sub a c:=List.Sublist.trans h k
theorem Sub.cons{σ af:Store}{t b:Nat}{x:aG}(h:Sub σ af):Sub σ ((t,b,x)::af):=List.Sublist.cons _ h
theorem Sub.same{σ af:Store}{t t' b:Nat}{x:aG}(h:Sub σ af):Sub ((t,b,x)::σ) ((t',b,x)::af):=List.Sublist.cons_cons _ h
theorem Inv.sub{P:Program}[Glob P]{M:Mem}{w0:Base}{w:World}{σ af:Store}(hI:Inv P M w0 af w)(h:Sub σ af):Inv P M w0 σ w:=by
 refine⟨hI.os,hI.tape,hI.output,hI.size,hI.old,hI.cQ,fun e he=> ?_,?_,hI.gl,hI.gw,hI.bm⟩
 ·have hm:e.2∈af.map (·.2):=h.subset (Yz he)
  obtain⟨e',B4,h2⟩:=Y9.1 hm
  have:=hI.st e' B4
  grind
 ·have h2:=h.map (·.1)
  simp at h2
  exact hI.nd.sublist h2
def Wk(x y:AV):Prop:=∀ M v,R M x v→R M y v
theorem Wk.refl(x:AV):Wk x x:=fun _ _ h=>h
theorem Wk.own{ez t b u c:Nat}{rows:List (List AV)}(nn:Bool):Wk (.own ez t b u c rows) (.sl nn ez rows):=fun _ _ h=>h.Px nn
theorem Wk.sl{ez:Nat}{rows:List (List AV)}:Wk (.sl true ez rows) (.sl false ez rows):=fun _ _ h=>h.aLA
theorem Wk.nil{ez:Nat}:Wk (.v (.slice none 0 0)) (.sl false ez []):=fun _ _ h=>by rw[h.aC];exact .nil _ ez none (fun h=>nomatch h)
theorem Wk.lp{t t' b o:Nat}:Wk (.lp t b o) (.lp t' b o):=fun _ _ h=>by rw[h.nI];exact .lp _ _ _
theorem Wk.raw{t' b o:Nat}:Wk (.v (.pointer (some ⟨b,o,none⟩))) (.lp t' b o):=fun _ _ h=>by rw[h.aC];exact .lp _ _ _
theorem Wk.any(x:AV):Wk x .any:=fun _ v _=> .any v
theorem Wk.HV{x y:AV}(h:x=y):Wk x y:=h ▸ Wk.refl x
inductive cD:List AV→List AV→Prop
 |nil:cD [] []
 |cons {x y:AV} {xs ys:List AV} (h:Wk x y) (t:cD xs ys):cD (x::xs) (y::ys)
theorem cD.refl:∀ (l:List AV),cD l l
 |[]=> .nil
 |x::l=> .cons (Wk.refl x) (cD.refl l)
theorem cD.sound{M:Mem}{xs ys:List AV}(h:cD xs ys):∀ {vs:List Value},RL M xs vs→RL M ys vs:=by
 induction h with
 |nil=>grind
 |cons hx _ ih=>
  intro vs h
  obtain⟨v,kh,rfl,h1,h2⟩:=h.bL
  exact RL.cons (hx _ _ h1) (ih h2)
theorem cD.append{a b c d:List AV}(h:cD a b)(k:cD c d):cD (a++c) (b++d):=by
 induction h with
 |nil=>exact k
 |cons hx _ ih=>exact .cons hx ih
theorem Wk.agg{xs ys:List AV}(h:cD xs ys):Wk (.agg xs) (.agg ys):=fun _ _ k=>by
 obtain⟨cs,rfl,hl⟩:=k.rL
 exact R.qf (h.sound hl)
theorem Wk.aE{xs ys:List AV}(h:cD xs ys):Wk (.aE xs) (.aE ys):=fun _ _ k=>by
 obtain⟨cs,rfl,hl⟩:=k.Pj
 exact R.CY (h.sound hl)
theorem Wk.trans{x y z:AV}(h:Wk x y)(k:Wk y z):Wk x z:=fun M v hx=>k M v (h M v hx)
theorem Spec.wk{P:Program}[Glob P]{f:FuncId}{as bs:List AV}{σ:Store}{Q:jg→Store→Prop}(h:Spec P f bs σ Q)(hw:cD as bs):Spec P f as σ Q:=
 fun M w0 w cs hI hl=>h M w0 w cs hI (hw.sound hl)
theorem Pure.wk{P:Program}[Glob P]{f:FuncId}{as bs:List AV}{r:AV}(h:Pure P f bs r)(hw:cD as bs):Pure P f as r:=⟨fun σ=>(h.sp σ).wk hw⟩
theorem Spec.mono{P:Program}[Glob P]{f:FuncId}{as:List AV}{σ:Store}{Q Q':jg→Store→Prop}(h:Spec P f as σ Q)(hq:∀ r af,Q r af→Q' r af):Spec P f as σ Q':=
 fun M w0 w cs hI hl=>(h M w0 w cs hI hl).mono fun _ _ ⟨M',r,af,a,b,c,d⟩=>⟨M',r,af,a,b,c,hq _ _ d⟩
def kv:Nat→List AV→ah
 |_,[]=>[]
 |k,x::l=>(k,x)::kv (k+1) l
def nN(res:List RC)(Q:jg→Store→Prop):Exit→ah→Store→Prop
 | .normal,rg,σ| .ret,rg,σ=>∃ x,wI rg σ res=some x∧Q (.ret x) σ
 | .panic ch,_,σ=>Q (.lP ch) σ
 |_,_,_=>False
section
variable {P:Program}[Glob P]{M:Mem}{w0:Base}{w:World}{σ:Store}{rg:ah}{a:Act}
theorem Kk:∀ (as:List AV) (vs:List Value) (k:Nat) (tmps:Array Value),RL M as vs→(∀ i v,vs[i]? =some v→tmps[k+i]? =some v)→∀ i,R M (lk (kv k as) i) (tmps.getD i undef)
 |[],vs,k,tmps,_,_,i=> .any _
 |x::as,vs,k,tmps,h,ht,i=>by
  obtain⟨v,kh,rfl,hx,fm⟩:=h.bL
  simp only[kv,lk]
  cases hb:Nat.beq k i with
  |true=>
   have:=ht 0 v rfl
   simp_all
  |false=>exact Kk as kh (k+1) tmps fm (fun j u hu=>by have:=ht (j+1) u (by grind);grind) i
theorem ahM{r:RC}{rv:ResultVar}{x:AV}(hc:Bm P rv=some r)(hx:uf rg σ r=some x)(hI:Inv P M w0 σ w)(hR:bW M rg a):
  ∃ v,(Aa a.tmps rv).run P w= .ok v w∧R M x v:=by
 cases rv with
 |tmp t=>
  simp only[Bm,ZN]at hc
  subst hc
  simp only[uf,ZN]at hx
  subst hx
  exact⟨_,rfl,hR t⟩
 |cell t ty=>
  obtain⟨⟨g,n⟩,hg,rfl⟩:=ZO.1 hc
  simp only[uf]at hx
  have ht:=hR t
  split at hx
  ·rename_i tg b o he
   rw[he]at ht
   have hv:=ht.nI
   split at hx
   ·rename_i b' l hb
    split at hx
    case isFalse=>cases hx
    rename_i yt
    subst yt
    have hcell:∀ i y,(l.drop o)[i]? =some y→∃ v,w.cell? ⟨b,o+i,none⟩=some v∧R M y v:=fun i y e=>by
     rw[List.getElem?_drop]at e
     exact hI.cell hb e
    obtain⟨v,y,hr,yl,rfl⟩:=Dp (P:=P) (σ:=σ) (K:=fun y _=>y=x) hg (l.drop o) hcell (by
     grind)
    refine⟨v,?_,yl⟩
    simp only[Aa,hv]
    simpa[Instr.loadAt,Instr.sureAddr,asAddr]using hr
   grind
  grind
theorem P6:∀ (Ab:List ResultVar) (rs:List RC) (xs:List AV),sM P Ab=some rs→rN rg σ rs=some xs→Inv P M w0 σ w→bW M rg a→
  ∃ vs,(Ab.mapM (Aa a.tmps):Sem (List Value)).run P w= .ok vs w∧RL M xs vs
 |[],rs,xs,hc,hx,_,_=>by
  simp only[sM,ZN]at hc
  subst hc
  simp only[rN,ZN]at hx
  subst hx
  exact⟨[],rfl,RL.nil⟩
 |rv::Ab,rs,xs,hc,hx,hI,hR=>by
  obtain⟨r,rO,rfl,hr,hrs⟩:∃ r rO,rs=r::rO∧Bm P rv=some r∧sM P Ab=some rO:=by
   cases rv with
   |tmp t=>
    obtain⟨rO,h1,rfl⟩:=ZO.1 hc
    exact⟨_,rO,rfl,rfl,h1⟩
   |cell t ty=>
    simp only[sM]at hc
    split at hc
    ·rename_i g n hg
     obtain⟨rO,h1,rfl⟩:=ZO.1 hc
     exact⟨_,rO,rfl,by simp[Bm,hg],h1⟩
    grind
  simp only[rN]at hx
  split at hx
  ·rename_i x zA
   obtain⟨xs',h2,rfl⟩:=ZO.1 hx
   obtain⟨v,hv,yl⟩:=ahM hr zA hI hR
   obtain⟨vs,tM,hRL⟩:=P6 Ab rO xs' hrs h2 hI hR
   refine⟨v::vs,?_,RL.cons yl hRL⟩
   simp_all
  grind
theorem Spec.intro[ku P]{f:FuncId}{fn:Func}{fc:FC}{as:List AV}{Q:jg→Store→Prop}(hf:P.funcs[f]? =some fn)(hc:iN P fn=some fc)(hlen:as.length≤fc.N)(h:SW P fc.N fc.code (nN fc.res Q) (kv 0 as) σ):Spec P f as σ Q:=by
 intro M w0 w cs hI hl
 unfold iN at hc
 split at hc
 ·rename_i c hb
  split at hc
  ·rename_i s r hs hr
   cases hc
   have hle:cs.length≤fn.ntmps:=by rw[← hl.1];grind
   refine calls_of_wp hf hb (wp_mono (sP (h c hs M w0 _ w hI ?_ ?_ ku.h.symm)) ?_)
   ·refine Kk as cs 0 _ hl (fun i v hv=> ?_)
    grind
   ·grind
   ·rintro e a' w' ⟨M',ay,af,hM,aS,kJ,hN,hD,hq⟩
    rw[ku.h]at hD
    have fin:∀ x,wI ay af r=some x→Q (.ret x) af→a'.defers=[]∧∃ v,(results fn a'.tmps).run P w'= .ok v w'∧∃ M' r Sh,M.le M'∧Inv P M' w0 Sh w'∧sy M' r (.returned v)∧Q r Sh:=by
     intro x hx hQ
     unfold wI at hx
     have eW:∀ xs,rN ay af r=some xs→∃ vs,(fn.results.mapM (Aa a'.tmps):Sem (Array Value)).run P w'= .ok vs.toArray w'∧RL M' xs vs:=by
      intro xs fm
      obtain⟨vs,h1,h2⟩:=P6 fn.results.toList r xs hr fm aS kJ
      exact⟨vs,by rw[Array.mapM_eq_mapM_toList,Sem.run_map,h1];rfl,h2⟩
     split at hx
     ·rename_i y hy
      cases hx
      obtain⟨vs,h1,h2⟩:=eW _ hy
      obtain⟨v,kh,rfl,h3,h4⟩:=h2.bL
      obtain rfl:=h4.nR
      refine⟨hD,v,?_,M',.ret x,af,hM,aS,h3,hQ⟩
      rw[P5,Sem.run_bind,h1]
      simp
     ·rename_i xs bB hy
      cases hx
      obtain⟨vs,h1,h2⟩:=eW _ hy
      refine⟨hD,.tuple vs.toArray,?_,M',.ret (.aE xs),af,hM,aS,R.CY h2,hQ⟩
      rw[P5,Sem.run_bind,h1]
      simp only[Result.andThen_ok,Sem.run_pure]
      rw[dif_neg]
      intro bC
      have oF:xs.length=1:=by rw[h2.1];simpa using bC
      obtain⟨y,rfl⟩:=List.length_eq_one_iff.1 oF
      grind
     grind
    cases e with
    |normal=>obtain⟨x,hx,hQ⟩:=hq;exact fin x hx hQ
    |ret=>obtain⟨x,hx,hQ⟩:=hq;exact fin x hx hQ
    |panic ch=>exact⟨hD,M',.lP ch,af,hM,aS,rfl,hq⟩
    |_=>exact hq.elim
  grind
 grind
def mF(res:List RC)(r:AV)(σ:Store):Exit→ah→Store→Prop
 | .normal,rg,af| .ret,rg,af=>∃ x,wI rg af res=some x∧Wk x r∧Sub σ af
 |_,_,_=>False
theorem Spec.weak{f:FuncId}{as:List AV}{Q Q':jg→Store→Prop}(h:Spec P f as σ Q)(hq:∀ r af,Q r af→∃ r2 bE,Q' r2 bE∧Sub bE af∧(match r,r2 with| .ret x,.ret y=>Wk x y| .lP c,.lP c'=>c=c'|_,_=>False)):Spec P f as σ Q':=by
 intro M w0 w cs hI hl
 refine(h M w0 w cs hI hl).mono fun e w' ⟨M',r,af,a,b,c,d⟩=> ?_
 obtain⟨r2,bE,h1,h2,h3⟩:=hq r af d
 refine⟨M',r2,bE,a,b.sub h2,?_,h1⟩
 cases r with
 |ret x=>
  cases r2 with
  |ret y=>cases e<;>first|exact h3 _ _ c|exact c
  |lP c'=>grind
 |lP ch=>
  grind
theorem Pure.intro[ku P]{f:FuncId}{fn:Func}{fc:FC}{as:List AV}{r:AV}(hf:P.funcs[f]? =some fn)(hc:iN P fn=some fc)(hlen:as.length≤fc.N)(h:∀ σ,SW P fc.N fc.code (mF fc.res r σ) (kv 0 as) σ):Pure P f as r:=by
 refine⟨fun σ=> ?_⟩
 have:=Spec.intro (Q:=fun r' af=>∃ x,r'= .ret x∧Wk x r∧Sub σ af) hf hc hlen ((h σ).mono (fun e rg af hq=>by
  cases e with
  |normal=>obtain⟨x,h1,h2,h3⟩:=hq;exact⟨x,h1,x,rfl,h2,h3⟩
  |ret=>obtain⟨x,h1,h2,h3⟩:=hq;exact⟨x,h1,x,rfl,h2,h3⟩
  |_=>exact hq.elim))
 refine this.weak ?_
 grind
end
end Go.Sx
