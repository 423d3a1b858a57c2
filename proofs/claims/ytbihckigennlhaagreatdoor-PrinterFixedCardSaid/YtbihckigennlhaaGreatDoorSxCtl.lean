/-
  The layer Sx, ninth part: regions, code, functions.
-/
import Derived.Test.YtbihckigennlhaaGreatDoorSxSound
import Derived.Scope
set_option linter.unusedVariables false
set_option linter.unusedSimpArgs false
set_option linter.unusedSectionVars false
namespace Go.Sx
open Go.RowKit
structure CI where
 d:Option Nat
 op:au
 g:Option (Nat×Bool)
structure CD where
 ix:Nat
 c:CI
 cf:List Nat
inductive SC where
 |skip
 |bX (l:List CI)
 |dc (l:List CI)
 |c8 (ah:List Nat) (l:List CD)
 |seq (a b:SC)
 |cond (c:Operand) (t e:SC)
 |block (id:Nat) (b:SC)
 |loop (b:SC)
 |exit (id:Nat)
 |ret
 |scope (b:SC)
 |label (l:Nat)
 |goto (l:Nat)
def nT(P:Program)[Glob P](N:Nat)(ops:Array Oper)(o:Oper):Option CI:=
 match yI P o,o.dst with
 |some fG,some t=>if t<N then
   match o.guard with
   |none=>some ⟨some t,fG,none⟩
   |some (j,want)=>match(ops[j]?).bind (·.dst)with
    |some u=>some ⟨some t,fG,some (u,want)⟩
    |none=>none
  else none
 |some fG,none=>
   match o.guard with
   |none=>some ⟨none,fG,none⟩
   |some (j,want)=>match(ops[j]?).bind (·.dst)with
    |some u=>some ⟨none,fG,some (u,want)⟩
    |none=>none
 |none,_=>none
def gd(P:Program)[Glob P](N:Nat)(ops:Array Oper):List Oper→Option (List CI)
 |[]=>some []
 |o::l=>match nT P N ops o with
  |some c=>(gd P N ops l).map (c::·)
  |none=>none
def au.opers:au→List Operand
 | .mv x| .box _ x| .load _ _ x| .jw x| .un _ x| .kj _ x| .nU x| .kK _ x| .ig _ x| .field _ _ _ x| .extract x _| .len _ x| .panic x=>[x]
 | .pick c a b=>[c,a,b]
 | .alloc _ _=>[]
 | .build _ ps=>ps.map (·.2.2)
 | .bh _ _ ps=>ps
 | .store _ x y| .bin _ x y| .gz _ _ x y| .eqs _ _ x y| .er _ x y| .gV _ _ x y| .idxs x y| .append _ _ _ _ x y| .max2 x y| .min2 x y=>[x,y]
 | .fI _ a b=>a++b
 | .slice _ x lo hi=>x::(lo.toList++hi.toList)
 | .call _ as=>as
 | .dp f as=>f::as
 | .b8 _ _ _ as| .exts _ _ _ as=>as
def tmpsOf:List Operand→List Nat
 |[]=>[]
 | .tmp t::l=>t::tmpsOf l
 |_::l=>tmpsOf l
def CI.reads(c:CI):List Nat:=tmpsOf c.op.opers++(match c.g with|some (u,_)=>[u]|none=>[])
def posOf(t:Nat):List (Option Nat)→Nat→Option Nat
 |[],_=>none
 |x::l,k=>if x=some t then some k else posOf t l (k+1)
theorem Ej{t j:Nat}:∀ (l:List (Option Nat)) (k:Nat),posOf t l k=some j→∃ i,j=k+i∧l[i]? =some (some t)
 |[],k,h=>by cases h
 |x::l,k,h=>by
  simp only[posOf]at h
  split at h
  ·rename_i e;cases h;exact⟨0,rfl,by simp[e]⟩
  ·obtain⟨i,h1,h2⟩:=Ej l (k+1) h
   exact⟨i+1,by omega,by simpa using h2⟩
theorem Ei{t:Nat}:∀ (l:List (Option Nat)) (k:Nat),posOf t l k=none→some t∉l
 |[],k,h=>by simp
 |x::l,k,h=>by
  simp only[posOf]at h
  split at h
  ·cases h
  ·rename_i e
   have:=Ei l (k+1) h
   intro hm
   rcases ZU.1 hm with e'|hm
   ·exact e e'.symm
   ·exact this hm
def au.cls:au→Nat
 | .load .. =>1
 | .alloc .. | .box .. =>2
 | .store .. =>3
 | .append .. | .exts .. =>4
 | .panic .. =>5
 |_=>0
def nV(ops:Array Oper)(l:List CI):Bool:=
 (l.map (·.d)).Nodup && l.all (fun c=>c.d.isSome && (Nat.ble c.op.cls 1 || (Nat.beq c.op.cls 4 && c.g.isNone))) &&
 (l.zip ops.toList).zipIdx.all fun((c,o),i)=>
  o.after.all (fun e=> !Region.binds .any e || decide (e.on<i)) &&
  c.reads.all fun t=>match posOf t (l.map (·.d)) 0 with
   |some j=>o.after.any fun e=>Region.binds .any e && e.on == j
   |none=>true
def si:List CI→Nat→Option Nat
 |[],_=>none
 |c::l,k=>bif Nat.beq c.op.cls 4 then some k else si l (k+1)
theorem Eh{k:Nat}:∀ (l:List CI) (m:Nat),si l m=some k→∃ i,∃ h:i<l.length,k=m+i∧l[i].op.cls=4∧∀ j,j<i→(hj:j<l.length)→l[j].op.cls≠4
 |[],m,h=>by cases h
 |c::l,m,h=>by
  simp only[si]at h
  cases e:Nat.beq c.op.cls 4 with
  |true=>rw[e]at h;cases h;exact⟨0,by simp,rfl,ZM e,fun j hj=>absurd hj (by omega)⟩
  |false=>
   rw[e]at h
   obtain⟨i,h1,h2,h3,h4⟩:=Eh l (m+1) h
   refine⟨i+1,by simpa using h1,by omega,by simpa using h3,fun j hj hl=> ?_⟩
   cases j with
   |zero=>intro e2;have e2:c.op.cls=4:=e2;rw[e2]at e;cases e
   |succ j=>simpa using h4 j (by omega) (by simpa using hl)
def nW(ops:Array Oper)(l:List CI):Bool:=match si l 0 with
 |none=>false
 |some k=>
 (l.map (·.d)).Nodup && l.all (fun c=>c.d.isSome && (Nat.ble c.op.cls 1 || (Nat.beq c.op.cls 4 && c.g.isNone))) &&
 (l.zip ops.toList).zipIdx.all fun((c,o),i)=>
  o.after.all (fun e=> !Region.binds .any e || decide (e.on<i)) &&
  c.reads.all fun t=>match posOf t (l.map (·.d)) 0 with
   |some j=>(o.after.any fun e=>Region.binds .any e && e.on == j) || (Nat.ble i k && Nat.blt k j)
   |none=>true
def fj(ops:Array Oper)(i j:Nat):Bool:=match ops[i]? with
 |some o=>o.after.any fun e=>Region.binds .any e && e.on == j
 |none=>false
def KA(ops:Array Oper):List CI→Nat→List Nat→List Nat
 |[],_,acc=>acc
 |c::l,i,acc=>KA ops l (i+1) (bif Nat.ble 2 c.op.cls || acc.any (fj ops i)then i::acc else acc)
def LB:au→Option Nat
 | .store _ (.tmp s) _=>some s
 |_=>none
def isApp:au→Bool
 | .append .. =>true
 |_=>false
def vS(l:List CI):List Nat:=l.filterMap fun c=>bif Nat.beq c.op.cls 2 || isApp c.op then c.d else none
def Cd(s:Nat):List CI→Option au
 |[]=>none
 |c::l=>match c.d with
  |some d=>bif Nat.beq d s then some c.op else Cd s l
  |none=>Cd s l
def rootOf(l:List CI):Nat→Nat→Option Nat
 |0,_=>none
 |n+1,s=>match Cd s l with
  |none=>some s
  |some (.alloc ..)|some (.box ..)=>some s
  |some (.ig _ (.tmp s'))|some (.jw (.tmp s'))|some (.gV _ _ (.tmp s') _)|some (.er _ (.tmp s') _)|some (.mv (.tmp s'))=>rootOf l n s'
  |_=>none
def tq(ops:Array Oper)(l0:List CI)(i:Nat):List CI→Nat→List Nat
 |[],_=>[]
 |c::l,j=>match LB c.op with
  |some s=>bif fj ops i j || fj ops j i then tq ops l0 i l (j+1)else match rootOf l0 l0.length s with
   |some r=>bif (vS l0).elem r then tq ops l0 i l (j+1)else r::tq ops l0 i l (j+1)
   |none=>tq ops l0 i l (j+1)
  |none=>tq ops l0 i l (j+1)
def DN:au→Bool
 | .call .. =>true
 |_=>false
def B0(ops:Array Oper)(i:Nat):List CI→Nat→List Nat
 |[],_=>[]
 |c::l,j=>bif DN c.op && fj ops i j then c.d.toList++B0 ops i l (j+1)else B0 ops i l (j+1)
def KT(ops:Array Oper)(l:List CI)(i:Nat):Option CD:=
 match l[i]? with
 |some c=>some ⟨i,c,bif Nat.beq c.op.cls 1 then tq ops l i l 0 else match LB c.op with
  |some s=>(rootOf l l.length s).toList
  |none=>bif Nat.beq c.op.cls 0 then B0 ops i l 0 else[]⟩
 |none=>none
def Ae(d:Option Nat)(x:CD):Bool:=match d with
 |some d=> !x.c.reads.elem d && !x.cf.elem d
 |none=>true
def iO(ah:List Nat)(a c:CD):Bool:=
 Ae a.c.d c && Ae c.c.d a && (a.c.d.isNone || decide (a.c.d≠c.c.d)) &&
 match a.c.op.cls,c.c.op.cls with
 |0,_=>true
 |1,0|1,1=>true
 |1,2=>(match c.c.d with|some d=>ah.elem d|none=>false)
 |1,3=>(match c.cf with|[s]=>a.cf.elem s || ah.elem s|_=>false)
 |1,4=>(match c.c.d with|some d=>ah.elem d|none=>false)
 |2,2=>true
 |_,_=>false
def wG(ops:Array Oper):Nat→Nat→Nat→Bool
 |0,i,j=>fj ops i j
 |n+1,i,j=>fj ops i j || (List.range ops.size).any fun b=>fj ops i b && wG ops n b j
def uR(ops:Array Oper)(ah:List Nat):List CD→Bool
 |[]=>true
 |a::l=> !fj ops a.ix a.ix && l.all (fun c=> !fj ops a.ix c.ix && (fj ops c.ix a.ix || iO ah a c || (Nat.beq c.c.op.cls 4 && wG ops 2 c.ix a.ix))) && uR ops ah l
def fy(x:CD):Bool:=(Nat.ble x.c.op.cls 3 || isApp x.c.op) && (Nat.ble x.c.op.cls 1 || x.c.g.isNone) && (!Nat.beq x.c.op.cls 2 || x.c.d.isSome)
def DZ(l:List CI):Bool:=Nat.ble 2 (l.filter fun c=>Nat.beq c.op.cls 4).length
def Aa(ops:Array Oper)(ah:List Nat)(ds:List CD):Bool:=
 decide ((ds.map (·.ix)).Nodup) && Nat.ble ds.length ops.size && (List.range ops.size).all (fun i=>ds.any fun x=>Nat.beq x.ix i) && ds.all fy && ops.all (fun o=>o.after.all fun e=> !Region.binds .any e || decide (e.on<ops.size)) && uR ops ah ds
def HT(ops:Array Oper):List CI→Nat→List Nat→List Nat
 |[],_,acc=>acc
 |c::l,i,acc=>HT ops l (i+1) (bif DN c.op || acc.any (fj ops i)then i::acc else acc)
def uK(ops:Array Oper)(l:List CI):List CD:=
 let late:=KA ops l 0 []
 let dep:=bif Nat.beq (l.filter fun c=>DN c.op).length 1 then HT ops l 0 []else[]
 ((List.range l.length).filter (fun i=> !late.elem i && !dep.elem i)++(List.range l.length).filter (fun i=> !late.elem i && dep.elem i)++(List.range l.length).filter (fun i=>late.elem i)).filterMap (KT ops l)
theorem KS{ops:Array Oper}{l:List CI}{x:CD}(h:x∈uK ops l):l[x.ix]? =some x.c:=by
 unfold uK at h
 obtain⟨i,_,hi⟩:=List.mem_filterMap.1 h
 unfold KT at hi
 split at hi
 ·rename_i c hc;cases hi;exact hc
 ·cases hi
def tN(ops:Array Oper):Nat:=bif pT ops (ops.size-2)then 2 else 1
def gq(ops:Array Oper):Array Oper:=ops.extract 0 (ops.size-tN ops)
def kO(ops:Array Oper):Array Oper:=ops.extract (ops.size-tN ops) ops.size
def EO(ops:Array Oper):Bool:=Nat.ble (tN ops) ops.size && px ops && px (gq ops) && pT ops (ops.size-tN ops) && (gq ops).all (fun o=>match o.guard with|some (j,_)=>Nat.blt j (ops.size-tN ops)|none=>true) && (kO ops).all (fun o=>o.guard.isNone)
def HE(P:Program)[Glob P](N:Nat)(ops:Array Oper):Option SC:=
 match gd P N (gq ops) (gq ops).toList,gd P N (kO ops) (kO ops).toList with
 |some l1,some l2=>if EO ops=true∧((nV (gq ops) l1=true∨nW (gq ops) l1=true)∧DZ l1=false)∧P.follows .mixedOrders=true then some (.seq (.dc l1) (.bX l2))else none
 |_,_=>none
def bV(P:Program)[Glob P](N:Nat):Code→Option SC
 | .skip=>some .skip
 | .region _ ops false=>(gd P N ops ops.toList).map .bX
 | .region _ ops true=>match gd P N ops ops.toList with
  |some l=>if DZ l=true∧Aa ops (vS l) (uK ops l)∧P.follows .mixedOrders=true then some (.c8 (vS l) (uK ops l))
    else if(nV ops l=true∨nW ops l=true)∧P.follows .mixedOrders=true then some (.dc l)
    else if Aa ops (vS l) (uK ops l)∧P.follows .mixedOrders=true then some (.c8 (vS l) (uK ops l))else HE P N ops
  |none=>none
 | .seq a b=>match bV P N a,bV P N b with
  |some a,some b=>some (.seq a b)
  |_,_=>none
 | .cond c t e=>match bV P N t,bV P N e with
  |some t,some e=>some (.cond c t e)
  |_,_=>none
 | .block id b=>(bV P N b).map (.block id)
 | .loop b=>(bV P N b).map .loop
 | .exit id=>some (.exit id)
 | .ret=>some .ret
 | .scope b=>(bV P N b).map .scope
 | .label l=>some (.label l)
 | .goto l=>some (.goto l)
 |_=>none
def gg(P:Program)[Glob P](M:Mem)(w0:Base)(N:Nat)(Q:Exit→ae→Store→Prop):Exit→Act→World→Prop:=fun e a w=>
 ∃ M' rg σ,M.le M'∧Inv P M' w0 σ w∧bB M' rg a∧a.tmps.size=N∧a.defers=Glob.df P∧Q e rg σ
def pd(P:Program)(c:Code)(Q:Exit→Act→World→Prop)(a:Act)(w:World):Prop:=match c with
 | .region _ ops true=>P.follows .mixedOrders=true∧∀ t,wpOps P ops Q (Region.linearise .any ops t) a {w with drawn:=w.drawn+1}
 | .region _ ops false=>wpOps P ops Q (List.range ops.size) a w
 |c=>c.wp P Q a w
theorem mF{P:Program}{c:Code}{Q:Exit→Act→World→Prop}{a:Act}{w:World}(h:pd P c Q a w):c.wp P Q a w:=by
 unfold pd at h
 split at h
 ·refine wp_region_draw fun t=> ?_
  simp only[Region.schedule,h.1,Bool.true_or,Ze]
  exact h.2 t
 ·exact wp_region h
 ·exact h
theorem B9{P:Program}{id:Nat}{ops:Array Oper}{Q:Exit→Act→World→Prop}{a:Act}{w:World}(hm:P.follows .mixedOrders=true)(h:wpAny P .any ops Q ops.size (Array.replicate ops.size false) a {w with drawn:=w.drawn+1}):pd P (.region id ops true) Q a w:=
 ⟨hm,fun t=>wpAny_sound ops.size t _ a _ h⟩
def SW(P:Program)[Glob P](N:Nat)(s:SC)(Q:Exit→ae→Store→Prop)(rg:ae)(σ:Store):Prop:=
 ∀ c,bV P N c=some s→∀ (M:Mem) (w0:Base) (a:Act) (w:World),Inv P M w0 σ w→bB M rg a→a.tmps.size=N→a.defers=Glob.df P→pd P c (gg P M w0 N Q) a w
def cT(P:Program)[Glob P](cfg:Nat→Nat)(c:CI)(K:AV→Store→Prop)(E:List PanicEntry→Store→Prop)(rg:ae)(σ:Store):Prop:=
 match c.g with
 |none=>aj P cfg c.d rg σ K E c.op
 |some (t,want)=>match lk rg t with
  | .v (.bool b)=>(b=want→aj P cfg c.d rg σ K E c.op)∧(b= !want→K (.v undef) σ)
  | .v (.tuple _)=>K (.v undef) σ
  |_=>False
def Gd(b want:Bool)(X Y:Prop):Prop:=(b=want→X)∧(b= !want→Y)
theorem Gd.l{b want:Bool}{X Y:Prop}(h:Gd b want X Y):b=want→X:=h.1
theorem Gd.r{b want:Bool}{X Y:Prop}(h:Gd b want X Y):b= !want→Y:=h.2
def nG(P:Program)[Glob P](cfg:Nat→Nat):List CI→(K:ae→Store→Prop)→(E:List PanicEntry→Store→Prop)→ae→Store→Prop
 |[],K,_,rg,σ=>K rg σ
 |c::l,K,E,rg,σ=>match c.g with
  |none=>aj P cfg c.d rg σ (fun x σ'=>nG P cfg l K E (bM c.d x rg) σ') E c.op
  |some (t,want)=>match lk rg t with
   | .v (.bool b)=>Gd b want (aj P cfg c.d ((t,.v (.bool want))::rg) σ (fun x σ'=>nG P cfg l K E (bM c.d x ((t,.v (.bool want))::rg)) σ') E c.op)
     (nG P cfg l K E (bM c.d (.v undef) ((t,.v (.bool !want))::rg)) σ)
   | .v (.tuple _)=>nG P cfg l K E (bM c.d (.v undef) rg) σ
   |_=>False
theorem z7{rg:ae}{t:Nat}{x:AV}(h:lk rg t=x)(i:Nat):lk ((t,x)::rg) i=lk rg i:=by
 simp only[lk]
 cases hb:Nat.beq t i with
 |true=>rw[← ZM hb,h];rfl
 |false=>rfl
theorem as9{P:Program}[Glob P]{cfg:Nat→Nat}{c:CI}{l:List CI}{K:ae→Store→Prop}{E:List PanicEntry→Store→Prop}{rg:ae}{σ:Store}(h:nG P cfg (c::l) K E rg σ):
  ∃ ao,(∀ i,lk ao i=lk rg i)∧cT P cfg c (fun x σ'=>nG P cfg l K E (bM c.d x ao) σ') E ao σ:=by
 simp only[nG]at h
 split at h
 ·rename_i hg
  exact⟨rg,fun _=>rfl,by unfold cT;rw[hg];exact h⟩
 ·rename_i t want hg
  split at h
  ·rename_i b hb
   by_cases pC:b=want
   ·subst pC
    have e:lk ((t,AV.v (.bool b))::rg) t= .v (.bool b):=by simp[lk,YO]
    refine⟨_,z7 hb,?_⟩
    unfold cT
    rw[hg]
    simp only[e]
    exact⟨fun _=>h.l rfl,fun h'=>by cases b<;>simp at h'⟩
   ·have fV:b= !want:=by cases b<;>cases want<;>simp_all
    subst fV
    have e:lk ((t,AV.v (.bool !want))::rg) t= .v (.bool !want):=by simp[lk,YO]
    refine⟨_,z7 hb,?_⟩
    unfold cT
    rw[hg]
    simp only[e]
    exact⟨fun h'=>absurd h' pC,fun _=>h.r rfl⟩
  ·rename_i vs hb
   exact⟨rg,fun _=>rfl,by unfold cT;rw[hg];simp only[hb];exact h⟩
  ·exact h.elim
section
variable {P:Program}[Glob P]{M:Mem}{w0:Base}{w:World}{σ:Store}{rg:ae}{a:Act}{cfg:Nat→Nat}{N:Nat}
theorem qU{ops:Array Oper}{o:Oper}{c:CI}(hc:nT P N ops o=some c){K:AV→Store→Prop}{E:List PanicEntry→Store→Prop}(h:cT P cfg c K E rg σ)(hI:Inv P M w0 σ w)(hR:bB M rg a)
  {next:Act→World→Prop} {Q:Exit→Act→World→Prop} (hg:vC P M w0 w K E o a next Q):
  if Region.wanted o (yielded ops a.tmps)then o.wp P a w next Q∨(o.asks P a w∧LetsOut Q)else next (a.put o.dst undef) w:=by
 obtain⟨fG,Ve,hd,cj,zG⟩:∃ fG,yI P o=some fG∧c.d=o.dst∧c.op=fG∧((o.guard=none∧c.g=none)∨∃ j want u,o.guard=some (j,want)∧(ops[j]?).bind (·.dst)=some u∧c.g=some (u,want)):=by
  unfold nT at hc
  split at hc
  ·rename_i fG t hi hd
   split at hc
   ·split at hc
    ·rename_i wO;cases hc;exact⟨fG,hi,hd.symm,rfl,.inl ⟨wO,rfl⟩⟩
    ·rename_i j want wP
     split at hc
     ·rename_i u hu;cases hc;exact⟨fG,hi,hd.symm,rfl,.inr ⟨j,want,u,wP,hu,rfl⟩⟩
     ·cases hc
   ·cases hc
  ·rename_i fG hi hd
   split at hc
   ·rename_i wO;cases hc;exact⟨fG,hi,hd.symm,rfl,.inl ⟨wO,rfl⟩⟩
   ·rename_i j want wP
    split at hc
    ·rename_i u hu;cases hc;exact⟨fG,hi,hd.symm,rfl,.inr ⟨j,want,u,wP,hu,rfl⟩⟩
    ·cases hc
  ·cases hc
 have run:aj P cfg c.d rg σ K E c.op→o.wp P a w next Q:=fun h=>Sa (cfg:=cfg) (d:=c.d) Ve (by rw[← cj];exact h) hI hR hg
 have Mu:K (.v undef) σ→next (a.put o.dst undef) w:=fun h=>hg.val M _ σ undef w (Mem.le.refl _) hI (.v _) h
 unfold cT at h
 rcases zG with⟨h1,h2⟩|⟨j,want,u,h1,h2,h3⟩
 ·rw[h2]at h
  simp only[Region.wanted,h1,Ze]
  exact .inl (run h)
 ·rw[h3]at h
  simp only at h
  have hy:yielded ops a.tmps j=match a.tmps[u]? with
   |some (.bool b)=>some b
   |_=>none:=by unfold yielded;rw[h2];rfl
  have hu:=hR u
  split at h
  ·rename_i b hb
   rw[hb]at hu
   have hv:=hu.ax
   have ht:a.tmps[u]? =some (.bool b):=by
    rw[Z4]at hv
    cases he:a.tmps[u]? with
    |none=>rw[he]at hv;simp[undef]at hv
    |some y=>rw[he]at hv;simp at hv;rw[hv]
   have DI:yielded ops a.tmps j=some b:=by rw[hy,ht]
   simp only[Region.wanted,h1,DI]
   by_cases pC:b=want
   ·subst pC
    simp only[beq_self_eq_true,Ze]
    exact .inl (run (h.1 rfl))
   ·have:(some b == some want)=false:=by simp[pC]
    simp only[this,ZT,ZA]
    exact Mu (h.2 (by cases b<;>cases want<;>simp_all))
  ·rename_i vs hb
   rw[hb]at hu
   have hv:=hu.ax
   have DI:yielded ops a.tmps j=none:=by
    rw[hy]
    rw[Z4]at hv
    cases he:a.tmps[u]? with
    |none=>rfl
    |some y=>rw[he]at hv;simp at hv;rw[hv]
   simp only[Region.wanted,h1,DI]
   have:((none:Option Bool) == some want)=false:=rfl
   simp only[this,ZT,ZA]
   exact Mu h
  ·exact h.elim
theorem vY{ops:Array Oper}{o:Oper}{c:CI}(hc:nT P N ops o=some c):c.d=o.dst∧∀ t,c.d=some t→t<N:=by
 unfold nT at hc
 split at hc
 ·rename_i fG t hi hd
  split at hc
  ·rename_i aE
   split at hc
   ·cases hc;exact⟨hd.symm,fun u hu=>by cases hu;exact aE⟩
   ·split at hc
    ·cases hc;exact⟨hd.symm,fun u hu=>by cases hu;exact aE⟩
    ·cases hc
  ·cases hc
 ·rename_i fG hi hd
  split at hc
  ·cases hc;exact⟨hd.symm,fun u hu=>by cases hu⟩
  ·split at hc
   ·cases hc;exact⟨hd.symm,fun u hu=>by cases hu⟩
   ·cases hc
 ·cases hc
theorem sG(ops:Array Oper){Q:Exit→ae→Store→Prop}{K:ae→Store→Prop}(hK:∀ rg σ,K rg σ→Q .normal rg σ):
  ∀ (os:List Oper) (k:Nat) (l:List CI),gd P N ops os=some l→(∀ i,i<os.length→ops[k+i]? =os[i]?)→
  ∀ (M:Mem) (w0:Base) (w:World) (a:Act) (rg:ae) (σ:Store),nG P cfg l K (fun ch σ'=>Q (.panic ch) [] σ') rg σ→Inv P M w0 σ w→bB M rg a→a.tmps.size=N→a.defers=Glob.df P→
   wpOps P ops (gg P M w0 N Q) (List.range' k os.length) a w
 |[],k,l,hl,_,M,w0,w,a,rg,σ,h,hI,hR,hN,hD=>by
  simp only[gd,Z6]at hl
  subst hl
  exact⟨M,rg,σ,Mem.le.refl _,hI,hR,hN,hD,hK rg σ h⟩
 |o::os,k,l,hl,ho,M,w0,w,a,rg,σ,h,hI,hR,hN,hD=>by
  simp only[gd]at hl
  split at hl
  ·rename_i c hc
   obtain⟨l',fF,rfl⟩:=ZS.1 hl
   have Dh:ops[k]? =some o:=by simpa using ho 0 (by simp)
   obtain⟨ao,w9,h⟩:=as9 h
   replace hR:bB M ao a:=fun i=>by rw[w9];exact hR i
   obtain⟨iu,aE⟩:=vY hc
   simp only[Z8,List.range'_succ,wpOps,Dh]
   refine qU hc h hI hR ⟨fun M' x σ' v w' hM bo hx hk=> ?_,fun M' ch σ' w' hM bo hk=> ?_⟩
   ·have ih:=sG ops hK os (k+1) l' fF (fun i hi=>by have:=ho (i+1) (by simpa using hi);rw[show k+1+i=k+(i+1)from by omega];simpa using this) M' w0 w' (a.put o.dst v) (bM c.d x ao) σ' hk bo
     (by rw[iu];exact(hR.mono hM).put o.dst (fun t ht=>by rw[hN];exact aE t (iu.trans ht)) hx) (by rw[Act.size_put];exact hN) (by rw[Act.v8];exact hD)
    refine oS ?_ _ _ _ ih
    rintro e a2 w2 ⟨M2,bP,aw,h1,h2⟩
    exact⟨M2,bP,aw,hM.trans h1,h2⟩
   ·exact⟨M',[],σ',hM,bo,fun i=> .any _,hN,hD,hk⟩
  ·cases hl
where
 oS {ops:Array Oper} {Q Q':Exit→Act→World→Prop} (h:∀ e a w,Q e a w→Q' e a w):∀ (is:List Nat) (a:Act) (w:World),wpOps P ops Q is a w→wpOps P ops Q' is a w
 |[],a,w,hq=>h _ _ _ hq
 |i::is,a,w,hq=>by
  rw[wpOps_cons]at hq ⊢
  unfold wpOp at hq ⊢
  split
  ·rename_i e;rw[e]at hq;exact oS h is a w hq
  ·rename_i o e
   rw[e]at hq
   simp only at hq
   split
   ·rename_i hw
    rw[if_pos hw]at hq
    refine hq.imp (fun hh=> ?_) (fun⟨x,y⟩=>⟨x,y.elim fun a h'=>h'.elim fun w tK=>⟨a,w,h _ _ _ tK⟩⟩)
    have h1:=Oper.wp_mono (K':=wpOps P ops Q' is) (fun a w=>oS h is a w) hh
    unfold Oper.wp at h1 ⊢
    generalize (execOp a.eval o).run P w=r at h1
    cases r with
    |ok n w'=>
     cases n<;>simp only[Oper.upon]at h1 ⊢<;>first
      |exact h1
      |exact Calls.mono h1 (fun e yg he=>by cases e<;>first|exact he|exact h _ _ _ he|exact he.elim fun a h'=>h'.elim fun w tK=>⟨a,w,h _ _ _ tK⟩)
    |halt x w'=>cases x<;>simp only[Oper.upon]at h1 ⊢<;>first|exact h1|exact h _ _ _ h1
   ·rename_i hw
    rw[if_neg hw]at hq
    exact oS h is _ _ hq
theorem Ca{c:Code}{Q Q':Exit→Act→World→Prop}(h:pd P c Q a w)(hq:∀ e a w,Q e a w→Q' e a w):pd P c Q' a w:=by
 unfold pd at h ⊢
 split
 ·exact⟨h.1,fun t=>sG.oS hq _ _ _ (h.2 t)⟩
 ·exact sG.oS hq _ _ _ h
 ·rename_i h1 h2
  have h':c.wp P Q a w:=by
   split at h
   ·exact absurd rfl (h1 _ _)
   ·exact absurd rfl (h2 _ _)
   ·exact h
  exact wp_mono h' hq
theorem Fg{ops ops':Array Oper}{Q:Exit→Act→World→Prop}(f:Nat→Nat)(L2:List Nat):∀ (L:List Nat),(∀ i∈L,ops'[i]? =ops[f i]?∧∀ o,ops'[i]? =some o→∀ tmps,Region.wanted o (yielded ops' tmps)=Region.wanted o (yielded ops tmps))→∀ (a:Act) (w:World),
  wpOps P ops' (Exit.then (wpOps P ops Q L2) Q) L a w→wpOps P ops Q (L.map f++L2) a w
 |[],_,a,w,h=>h
 |i::L,hL,a,w,h=>by
  have ih:=Fg (ops:=ops) (ops':=ops') (Q:=Q) f L2 L (fun j hj=>hL j (ZX _ hj))
  obtain⟨h1,h2⟩:=hL i ZR
  rw[ZL,ZH,wpOps_cons]
  rw[wpOps_cons]at h
  unfold wpOp at h ⊢
  rw[← h1]
  split
  ·rename_i e;rw[e]at h;exact ih a w h
  ·rename_i o e
   rw[e]at h
   simp only at h
   rw[← h2 o e]
   split
   ·rename_i hw
    rw[if_pos hw]at h
    refine h.imp (fun hh=> ?_) (fun⟨x,y⟩=>⟨x,y⟩)
    have h3:=Oper.wp_mono (K':=wpOps P ops Q (L.map f++L2)) (fun a w=>ih a w) hh
    unfold Oper.wp at h3 ⊢
    generalize (execOp a.eval o).run P w=r at h3
    cases r with
    |ok n w'=>
     cases n<;>simp only[Oper.upon]at h3 ⊢<;>first
      |exact h3
      |exact Calls.mono h3 (fun e yg he=>by cases e<;>exact he)
    |halt x w'=>cases x<;>simp only[Oper.upon]at h3 ⊢<;>exact h3
   ·rename_i hw
    rw[if_neg hw]at h
    exact ih _ _ h
theorem atp{o:Oper}{ops ops':Array Oper}(h:∀ j want,o.guard=some (j,want)→ops'[j]? =ops[j]?)(tmps:Array Value):Region.wanted o (yielded ops' tmps)=Region.wanted o (yielded ops tmps):=by
 unfold Region.wanted
 cases hg:o.guard with
 |none=>rfl
 |some g=>
  obtain⟨j,want⟩:=g
  simp only[yielded,h j want hg]
theorem B7{M M':Mem}(h:M.le M'){Q:Exit→ae→Store→Prop}{e:Exit}{a:Act}{w:World}:gg P M' w0 N Q e a w→gg P M w0 N Q e a w:=
 fun⟨M2,bP,aw,h1,h2⟩=>⟨M2,bP,aw,h.trans h1,h2⟩
theorem SW.mono{s:SC}{Q Q':Exit→ae→Store→Prop}(h:SW P N s Q rg σ)(hq:∀ e rg σ,Q e rg σ→Q' e rg σ):SW P N s Q' rg σ:=
 fun c hc M w0 a w hI hR hN hD=>Ca (h c hc M w0 a w hI hR hN hD) fun _ _ _ ⟨M2,bP,aw,h1,h2,h3,h4,h5,h6⟩=>⟨M2,bP,aw,h1,h2,h3,h4,h5,hq _ _ _ h6⟩
theorem SW.eC(l:List Nat){s:SC}{Q:Exit→ae→Store→Prop}(h:SW P N s Q (eC l rg) σ):SW P N s Q rg σ:=
 fun c hc M w0 a w hI hR hN hD=>h c hc M w0 a w hI (hR.eC l) hN hD
def kQ(K:ae→Store→Prop)(Q:Exit→ae→Store→Prop):Exit→ae→Store→Prop
 | .normal,rg,σ=>K rg σ
 |e,rg,σ=>Q e rg σ
def nQ(id:Nat)(Q:Exit→ae→Store→Prop):Exit→ae→Store→Prop
 | .exit ni,rg,σ=>if ni=id then Q .normal rg σ else Q (.exit ni) rg σ
 |e,rg,σ=>Q e rg σ
def lg(P:Program)[Glob P](N:Nat)(c:Code):SC→Prop
 | .skip=>c= .skip
 | .bX l=>∃ id ops,c= .region id ops false∧gd P N ops ops.toList=some l
 | .dc l=>∃ id ops,c= .region id ops true∧gd P N ops ops.toList=some l∧(nV ops l=true∨nW ops l=true)∧P.follows .mixedOrders=true
 | .c8 ah ds=>∃ id ops l,c= .region id ops true∧gd P N ops ops.toList=some l∧(∀ x∈ds,l[x.ix]? =some x.c)∧Aa ops ah ds=true∧P.follows .mixedOrders=true
 | .seq a b=>(∃ ca cb,c= .seq ca cb∧bV P N ca=some a∧bV P N cb=some b)∨
   ∃ id ops l1 l2,c= .region id ops true∧a= .dc l1∧b= .bX l2∧gd P N (gq ops) (gq ops).toList=some l1∧gd P N (kO ops) (kO ops).toList=some l2∧EO ops=true∧((nV (gq ops) l1=true∨nW (gq ops) l1=true)∧DZ l1=false)∧P.follows .mixedOrders=true
 | .cond x a b=>∃ ca cb,c= .cond x ca cb∧bV P N ca=some a∧bV P N cb=some b
 | .block id b=>∃ cb,c= .block id cb∧bV P N cb=some b
 | .loop b=>∃ cb,c= .loop cb∧bV P N cb=some b
 | .exit id=>c= .exit id
 | .ret=>c= .ret
 | .scope b=>∃ cb,c= .scope cb∧bV P N cb=some b
 | .label l=>c= .label l
 | .goto l=>c= .goto l
theorem dF{c:Code}{s:SC}(h:bV P N c=some s):lg P N c s:=by
 cases c with
 |skip=>simp only[bV,Z6]at h;subst h;rfl
 |region id ops draw=>
  cases draw with
  |false=>
   simp only[bV]at h
   obtain⟨l,h1,rfl⟩:=ZS.1 h
   exact⟨id,ops,rfl,h1⟩
  |true=>
   simp only[bV]at h
   split at h
   ·rename_i l hl
    split at h
    ·rename_i hd;cases h;exact⟨id,ops,l,rfl,hl,fun x hx=>KS hx,hd.2.1,hd.2.2⟩
    split at h
    ·rename_i hd;cases h;exact⟨id,ops,rfl,hl,hd.1,hd.2⟩
    ·split at h
     ·rename_i hd;cases h;exact⟨id,ops,l,rfl,hl,fun x hx=>KS hx,hd.1,hd.2⟩
     ·unfold HE at h
      split at h
      ·rename_i l1 l2 e1 e2
       split at h
       ·rename_i hd;cases h;exact .inr ⟨id,ops,l1,l2,rfl,rfl,rfl,e1,e2,hd.1,hd.2.1,hd.2.2⟩
       ·cases h
      ·cases h
   ·cases h
 |seq a b=>
  simp only[bV]at h
  split at h
  ·rename_i x y h1 h2;cases h;exact .inl ⟨a,b,rfl,h1,h2⟩
  ·cases h
 |cond x a b=>
  simp only[bV]at h
  split at h
  ·rename_i x y h1 h2;cases h;exact⟨a,b,rfl,h1,h2⟩
  ·cases h
 |block id b=>
  simp only[bV]at h
  obtain⟨l,h1,rfl⟩:=ZS.1 h
  exact⟨b,rfl,h1⟩
 |loop b=>
  simp only[bV]at h
  obtain⟨l,h1,rfl⟩:=ZS.1 h
  exact⟨b,rfl,h1⟩
 |exit id=>simp only[bV,Z6]at h;subst h;rfl
 |ret=>simp only[bV,Z6]at h;subst h;rfl
 |scope b=>
  simp only[bV]at h
  obtain⟨l,h1,rfl⟩:=ZS.1 h
  exact⟨b,rfl,h1⟩
 |label l=>simp only[bV,Z6]at h;subst h;rfl
 |goto l=>simp only[bV,Z6]at h;subst h;rfl
 |_=>simp[bV]at h
def kn:SC→Nat→Option SC
 | .seq a b,l=>match kn a l with
  |some r=>some (.seq r b)
  |none=>kn b l
 | .label l',l=>if l' == l then some .skip else none
 |_,_=>none
theorem Cn{l:Nat}:∀ (c:Code) (s:SC),bV P N c=some s→match kn s l with
  |some r=>∃ rest,findLabel c l=some rest∧bV P N rest=some r
  |none=>findLabel c l=none
 | .seq ca cb,s,h=>by
  cases s with
  |seq a b=>
   rcases dF h with⟨ca',cb',e,h1,h2⟩|⟨id,ops,l1,l2,e,_⟩
   ·cases e
    have i1:=Cn (l:=l) ca a h1
    have i2:=Cn (l:=l) cb b h2
    simp only[kn,findLabel]
    cases e1:kn a l with
    |some r=>
     rw[e1]at i1
     obtain⟨rest,g1,g2⟩:=i1
     exact⟨.seq rest cb,by rw[g1],by simp only[bV,g2,h2]⟩
    |none=>
     rw[e1]at i1
     simp only at i1
     simp only[i1]
     exact i2
   ·cases e
  |_=>
   have:=dF h
   simp only[lg]at this
   first
    |exact nomatch this
    |(obtain⟨_,e,_⟩:=this;cases e)
    |(obtain⟨_,_,e,_⟩:=this;cases e)
    |(obtain⟨_,_,_,e,_⟩:=this;cases e)
 | .label l',s,h=>by
  simp only[bV,Z6]at h
  subst h
  simp only[kn,findLabel]
  by_cases e:(l' == l)=true
  ·rw[if_pos e];exact⟨.skip,by rw[if_pos e],rfl⟩
  ·rw[if_neg e];simp only;rw[if_neg e]
 | .region id ops draw,s,h=>by
  have:=dF h
  cases s<;>simp only[lg,reduceCtorEq,false_and,Ym,Yl,and_false]at this<;>simp only[kn,findLabel]
  rename_i a b
  rcases this with⟨_,_,e,_⟩|⟨_,_,l1,l2,e,e1,e2,_⟩
  ·rw[e1,e2];exact trivial
 | .skip,s,h=>by have:=dF h;cases s<;>simp only[lg,reduceCtorEq,false_and,Ym,Yl,or_self]at this<;>rfl
 | .cond _ _ _,s,h=>by have:=dF h;cases s<;>simp only[lg,reduceCtorEq,false_and,Ym,Yl,or_self]at this<;>rfl
 | .block _ _,s,h=>by have:=dF h;cases s<;>simp only[lg,reduceCtorEq,false_and,Ym,Yl,or_self]at this<;>rfl
 | .loop _,s,h=>by have:=dF h;cases s<;>simp only[lg,reduceCtorEq,false_and,Ym,Yl,or_self]at this<;>rfl
 | .exit _,s,h=>by have:=dF h;cases s<;>simp only[lg,reduceCtorEq,false_and,Ym,Yl,or_self]at this<;>rfl
 | .ret,s,h=>by have:=dF h;cases s<;>simp only[lg,reduceCtorEq,false_and,Ym,Yl,or_self]at this<;>rfl
 | .scope _,s,h=>by have:=dF h;cases s<;>simp only[lg,reduceCtorEq,false_and,Ym,Yl,or_self]at this<;>rfl
 | .goto _,s,h=>by have:=dF h;cases s<;>simp only[lg,reduceCtorEq,false_and,Ym,Yl,or_self]at this<;>rfl
 | .rangeFunc _ _ _ _,s,h=>by simp[bV]at h
 | .refuse _,s,h=>by simp[bV]at h
theorem Om{l:List CI}{Q:Exit→ae→Store→Prop}(cfg:Nat→Nat)(h:nG P cfg l (Q .normal) (fun ch σ'=>Q (.panic ch) [] σ') rg σ):SW P N (.bX l) Q rg σ:=by
 intro c hc M w0 a w hI hR hN hD
 obtain⟨id,ops,rfl,hl⟩:=dF hc
 show wpOps _ _ _ _ _ _
 have:=sG (P:=P) (N:=N) (cfg:=cfg) ops (Q:=Q) (K:=Q .normal) (fun _ _ h=>h) ops.toList 0 l hl (fun i hi=>by simp) M w0 w a rg σ h hI hR hN hD
 rw[Yf]
 simpa using this
theorem F7{x y:SC}{Q:Exit→ae→Store→Prop}(h:SW P N x (kQ (SW P N y Q) Q) rg σ):SW P N (.seq x y) Q rg σ:=by
 intro c hc M w0 a w hI hR hN hD
 rcases dF hc with⟨ca,cb,rfl,h1,h2⟩|⟨id,ops,l1,l2,rfl,rfl,rfl,e1,e2,hT,hd,ob⟩
 ·refine wp_seq (wp_mono (mF (h ca h1 M w0 a w hI hR hN hD)) ?_)
  rintro e a2 w2 ⟨M2,bP,aw,g1,g2,g3,g4,g5,g6⟩
  cases e with
  |normal=>
   refine wp_mono (mF (g6 cb h2 M2 w0 a2 w2 g2 g3 g4 g5)) ?_
   intro e a3 w3 hh
   exact B7 g1 hh
  |_=>exact⟨M2,bP,aw,g1,g2,g3,g4,g5,g6⟩
 ·unfold EO at hT
  simp only[Z3]at hT
  obtain⟨⟨⟨⟨⟨jt,hf⟩,U5⟩,hl⟩,Va⟩,wP⟩:=hT
  have jt:=Z9 jt
  have al:(gq ops).size=ops.size-tN ops:=by unfold gq;rw[Array.size_extract];omega
  have zO:(kO ops).size=tN ops:=by unfold kO;rw[Array.size_extract];omega
  have mX:∀ i,i<ops.size-tN ops→(gq ops)[i]? =ops[i]? :=fun i hi=>by
   unfold gq;rw[Array.getElem?_extract,if_pos (by omega)];simp
  have gC:bV P N (.region id (gq ops) true)=some (.dc l1):=by
   simp only[bV,e1]
   rw[if_neg (fun h=>by rw[hd.2]at h;exact nomatch h.1),if_pos ⟨hd.1,ob⟩]
  have rr:bV P N (.region id (kO ops) false)=some (.bX l2):=by simp only[bV,e2];rfl
  refine⟨ob,fun t=> ?_⟩
  have fq:=(h _ gC M w0 a w hI hR hN hD).2 t
  rw[KE _ U5,al]at fq
  have e0:Region.linearise .any ops t=gH (gq ops) (ops.size-tN ops) t (fun i=> !Nat.blt i (ops.size-tN ops))++List.range' (ops.size-tN ops) (ops.size-(ops.size-tN ops)):=by
   rw[KE _ hf]
   have:=abo hf hl al (fun i h h' tK=>by
    have:=mX i h
    rw[ZQ tK,ZQ h']at this
    exact Zc this) (ops.size-tN ops) t (fun i=> !Nat.blt i (ops.size-tN ops)) (fun i=> !Nat.blt i ops.size) (YJ (X3 _ _) (by simp)) (fun i=>by
     by_cases hi:i<ops.size-tN ops
     ·have a1:Nat.blt i (ops.size-tN ops)=true:=by rw[YR];exact hi
      have a2:Nat.blt i ops.size=true:=by rw[YR];omega
      rw[if_pos hi,a1,a2]
     ·rw[if_neg hi])
   rwa [show ops.size-tN ops+(ops.size-(ops.size-tN ops))=ops.size by omega]at this
  rw[e0]
  have hL:∀ i∈gH (gq ops) (ops.size-tN ops) t (fun i=> !Nat.blt i (ops.size-tN ops)),i<ops.size-tN ops:=fun i hi=>by
   rw[← al];exact Lv _ _ _ _ hi
  have key:=Fg (P:=P) (ops:=ops) (ops':=gq ops) (Q:=gg P M w0 N Q) (fun i=>i) (List.range' (ops.size-tN ops) (ops.size-(ops.size-tN ops))) (gH (gq ops) (ops.size-tN ops) t (fun i=> !Nat.blt i (ops.size-tN ops))) (fun i hi=>⟨mX i (hL i hi),fun o ho tmps=>atp (fun j want hg=>mX j (by
   have hm:=X1 ho
   have:=ZN.1 Va o hm
   rw[hg]at this
   simpa only[YR]using this)) tmps⟩) a _ (sG.oS ?_ _ _ _ fq)
  ·rw[List.map_id'']at key
   ·exact key
   ·exact fun _=>rfl
  ·rintro e a2 w2 ⟨M2,bP,aw,g1,g2,g3,g4,g5,g6⟩
   cases e with
   |normal=>
    have pL:wpOps P (kO ops) (gg P M2 w0 N Q) (List.range (kO ops).size) a2 w2:=g6 _ rr M2 w0 a2 w2 g2 g3 g4 g5
    rw[zO]at pL
    have Kv:=Fg (P:=P) (ops:=ops) (ops':=kO ops) (Q:=gg P M w0 N Q) (fun i=>ops.size-tN ops+i) [] (List.range (tN ops)) (fun i hi=>⟨by
     have:=Zg.1 hi
     unfold kO;rw[Array.getElem?_extract,if_pos (by omega)],fun o ho tmps=>by
     have hm:=X1 ho
     have:=ZN.1 wP o hm
     simp only[Option.isNone_iff_eq_none]at this
     simp[Region.wanted,this]⟩) a2 w2 (sG.oS (fun e a3 w3 hh=>by cases e<;>exact B7 g1 hh) _ _ _ pL)
    rw[Zx]at Kv
    rw[show ops.size-(ops.size-tN ops)=tN ops by omega]
    show wpOps P ops _ _ a2 w2
    have e3:(List.range (tN ops)).map (fun i=>ops.size-tN ops+i)=List.range' (ops.size-tN ops) (tN ops):=by rw[List.range'_eq_map_range]
    rw[← e3];exact Kv
   |_=>exact⟨M2,bP,aw,g1,g2,g3,g4,g5,g6⟩
theorem F8{Q:Exit→ae→Store→Prop}(h:Q .normal rg σ):SW P N .skip Q rg σ:=by
 intro c hc M w0 a w hI hR hN hD
 obtain rfl:=dF hc
 exact wp_skip ⟨M,rg,σ,Mem.le.refl _,hI,hR,hN,hD,h⟩
theorem F6{Q:Exit→ae→Store→Prop}(h:Q .ret rg σ):SW P N .ret Q rg σ:=by
 intro c hc M w0 a w hI hR hN hD
 obtain rfl:=dF hc
 exact wp_ret ⟨M,rg,σ,Mem.le.refl _,hI,hR,hN,hD,h⟩
theorem F0{id:Nat}{Q:Exit→ae→Store→Prop}(h:Q (.exit id) rg σ):SW P N (.exit id) Q rg σ:=by
 intro c hc M w0 a w hI hR hN hD
 obtain rfl:=dF hc
 exact wp_exit ⟨M,rg,σ,Mem.le.refl _,hI,hR,hN,hD,h⟩
theorem FZ{x:Operand}{s t:SC}{Q:Exit→ae→Store→Prop}{b:Bool}(hx:ev rg x= .v (.bool b))(h1:b=true→SW P N s Q rg σ)(h2:b=false→SW P N t Q rg σ):SW P N (.cond x s t) Q rg σ:=by
 intro c hc M w0 a w hI hR hN hD
 obtain⟨ca,cb,rfl,g1,g2⟩:=dF hc
 have he:=hR.ev x
 rw[hx]at he
 exact wp_cond_split he.ax (fun hb=>mF (h1 hb _ g1 M w0 a w hI hR hN hD)) (fun hb=>mF (h2 hb _ g2 M w0 a w hI hR hN hD))
theorem FY{id:Nat}{s:SC}{Q:Exit→ae→Store→Prop}(h:SW P N s (nQ id Q) rg σ):SW P N (.block id s) Q rg σ:=by
 intro c hc M w0 a w hI hR hN hD
 obtain⟨cb,rfl,h1⟩:=dF hc
 refine wp_block (wp_mono (mF (h _ h1 M w0 a w hI hR hN hD)) ?_)
 rintro e a2 w2 ⟨M2,bP,aw,g1,g2,g3,g4,g5,g6⟩
 cases e with
 |exit ni=>
  simp only[nQ]at g6
  simp only[Exit.inBlock]
  split
  ·rename_i e;rw[if_pos e]at g6;exact⟨M2,bP,aw,g1,g2,g3,g4,g5,g6⟩
  ·rename_i e;rw[if_neg e]at g6;exact⟨M2,bP,aw,g1,g2,g3,g4,g5,g6⟩
 |_=>exact⟨M2,bP,aw,g1,g2,g3,g4,g5,g6⟩
theorem F3{s:SC}{Q:Exit→ae→Store→Prop}(I:Nat→ae→Store→Prop)(n:Nat)(h0:I n rg σ)(h:∀ n rg σ,I n rg σ→SW P N s (kQ (fun ao σ'=>∃ n',n'<n∧I n' ao σ') Q) rg σ):SW P N (.loop s) Q rg σ:=by
 intro c hc M w0 a w hI hR hN hD
 obtain⟨cb,rfl,xe⟩:=dF hc
 have key:∀ (m:Nat) (a:Act) (w:World),(∃ M2 bP aw,M.le M2∧Inv P M2 w0 aw w∧bB M2 bP a∧a.tmps.size=N∧a.defers=Glob.df P∧I m bP aw)→
   ∀ (b:Frame) (k:List Item) (cs:List Frame),∃ e a' w',gg P M w0 N Q e a' w'∧Arrives P (lone (b.at a (.code cb:: .inLoop cb::k)) cs w) b k cs e a' w':=by
  intro m
  induction m using Nat.strongRecOn with
  |_ m ih=>
   rintro a w ⟨M2,bP,aw,g1,g2,g3,g4,g5,g6⟩ b k cs
   obtain⟨e,a',w',hq,fi⟩:=mF (h m bP aw g6 cb xe M2 w0 a w g2 g3 g4 g5) b (.inLoop cb::k) cs
   obtain⟨M3,dL,di,k1,k2,k3,k4,k5,k6⟩:=hq
   cases e with
   |normal=>
    obtain⟨m',aE,Um⟩:=k6
    obtain⟨e2,a2,w2,dH,wF⟩:=ih m' aE a' w' ⟨M3,dL,di,g1.trans k1,k2,k3,k4,k5,Um⟩ b k cs
    exact⟨e2,a2,w2,dH,.of_steps (Steps.trans fi (.one step_inLoop)) wF⟩
   |exit id=>exact⟨_,a',w',⟨M3,dL,di,g1.trans k1,k2,k3,k4,k5,k6⟩,.pass (x:= .inLoop cb) rfl (fun _ _=> .inl (by simp)) fi⟩
   |goto l=>exact⟨_,a',w',⟨M3,dL,di,g1.trans k1,k2,k3,k4,k5,k6⟩,.pass (x:= .inLoop cb) rfl (fun _ _=> .inl (by simp)) fi⟩
   |ret=>exact⟨_,a',w',⟨M3,dL,di,g1.trans k1,k2,k3,k4,k5,k6⟩,.pass (x:= .inLoop cb) rfl (fun _ _=> .inl (by simp)) fi⟩
   |panic ch=>exact⟨_,a',w',⟨M3,dL,di,g1.trans k1,k2,k3,k4,k5,k6⟩,.pass (x:= .inLoop cb) rfl (fun _ _=> .inl (by simp)) fi⟩
   |outgrown=>exact⟨_,a',w',⟨M3,dL,di,g1.trans k1,k2,k3,k4,k5,k6⟩,.pass (x:= .inLoop cb) rfl (fun _ _=> .inl (by simp)) fi⟩
 intro b k cs
 obtain⟨e,a',w',hq,fi⟩:=key n a w ⟨M,rg,σ,Mem.le.refl _,hI,hR,hN,hD,h0⟩ b k cs
 exact⟨e,a',w',hq,.of_steps (.one step_loop) fi⟩
theorem F2{l:Nat}{Q:Exit→ae→Store→Prop}(h:Q .normal rg σ):SW P N (.label l) Q rg σ:=by
 intro c hc M w0 a w hI hR hN hD
 obtain rfl:=dF hc
 exact wp_label ⟨M,rg,σ,Mem.le.refl _,hI,hR,hN,hD,h⟩
theorem F1{l:Nat}{Q:Exit→ae→Store→Prop}(h:Q (.goto l) rg σ):SW P N (.goto l) Q rg σ:=by
 intro c hc M w0 a w hI hR hN hD
 obtain rfl:=dF hc
 exact wp_goto ⟨M,rg,σ,Mem.le.refl _,hI,hR,hN,hD,h⟩
def pS(J:Nat→ae→Store→Prop)(Q:Exit→ae→Store→Prop):Exit→ae→Store→Prop
 | .goto l,rg,σ=>J l rg σ
 |e,rg,σ=>Q e rg σ
theorem Oo{s:SC}{Q:Exit→ae→Store→Prop}(J:Nat→Nat→ae→Store→Prop)(h0:SW P N s (pS (fun l rg σ=>∃ n,J l n rg σ) Q) rg σ)
  (h:∀ l n rg σ,J l n rg σ→∃ r,kn s l=some r∧SW P N r (pS (fun l' ao σ'=>∃ n',n'<n∧J l' n' ao σ') Q) rg σ):SW P N (.scope s) Q rg σ:=by
 intro c hc M w0 a w hI hR hN hD
 obtain⟨cb,rfl,xe⟩:=dF hc
 have key:∀ (m l:Nat) (a:Act) (w:World),(∃ M2 bP aw,M.le M2∧Inv P M2 w0 aw w∧bB M2 bP a∧a.tmps.size=N∧a.defers=Glob.df P∧J l m bP aw)→
   ∃ rest,findLabel cb l=some rest∧∀ (b:Frame) (k:List Item) (cs:List Frame),∃ e a' w',gg P M w0 N Q e a' w'∧Arrives P (lone (b.at a (.code rest:: .inScope cb::k)) cs w) b k cs e a' w':=by
  intro m
  induction m using Nat.strongRecOn with
  |_ m ih=>
   rintro l a w ⟨M2,bP,aw,g1,g2,g3,g4,g5,g6⟩
   obtain⟨r,hr,V4⟩:=h l m bP aw g6
   have hf:=Cn (P:=P) (N:=N) (l:=l) cb s xe
   rw[hr]at hf
   obtain⟨rest,lM,eX⟩:=hf
   refine⟨rest,lM,fun b k cs=> ?_⟩
   obtain⟨e,a',w',hq,fi⟩:=mF (V4 rest eX M2 w0 a w g2 g3 g4 g5) b (.inScope cb::k) cs
   obtain⟨M3,dL,di,k1,k2,k3,k4,k5,k6⟩:=hq
   cases e with
   |normal=>exact⟨.normal,a',w',⟨M3,dL,di,g1.trans k1,k2,k3,k4,k5,k6⟩,Steps.trans fi (.one step_inScope)⟩
   |exit id=>exact⟨.exit id,a',w',⟨M3,dL,di,g1.trans k1,k2,k3,k4,k5,k6⟩,fun k' hk=>fi k' (by simp[exitTo,hk])⟩
   |goto l'=>
    obtain⟨m',aE,hJ⟩:=k6
    obtain⟨Es,Dt,iU⟩:=ih m' aE l' a' w' ⟨M3,dL,di,g1.trans k1,k2,k3,k4,k5,hJ⟩
    obtain⟨e2,a2,w2,dH,wF⟩:=iU b k cs
    have hg:gotoIn l' (.inScope cb::k)=some (.code Es:: .inScope cb::k):=by simp[gotoIn,Dt]
    exact⟨e2,a2,w2,dH,.of_steps (fi _ hg) wF⟩
   |ret=>exact⟨_,a',w',⟨M3,dL,di,g1.trans k1,k2,k3,k4,k5,k6⟩,fi⟩
   |panic ch=>exact⟨_,a',w',⟨M3,dL,di,g1.trans k1,k2,k3,k4,k5,k6⟩,fi⟩
   |outgrown=>exact⟨_,a',w',⟨M3,dL,di,g1.trans k1,k2,k3,k4,k5,k6⟩,fi⟩
 intro b k cs
 obtain⟨e,a',w',hq,fi⟩:=mF (h0 cb xe M w0 a w hI hR hN hD) b (.inScope cb::k) cs
 obtain⟨M3,dL,di,k1,k2,k3,k4,k5,k6⟩:=hq
 cases e with
 |normal=>exact⟨.normal,a',w',⟨M3,dL,di,k1,k2,k3,k4,k5,k6⟩,.head step_scope (Steps.trans fi (.one step_inScope))⟩
 |exit id=>exact⟨.exit id,a',w',⟨M3,dL,di,k1,k2,k3,k4,k5,k6⟩,fun k' hk=> .head step_scope (fi k' (by simp[exitTo,hk]))⟩
 |goto l'=>
  obtain⟨m,hJ⟩:=k6
  obtain⟨Es,Dt,iU⟩:=key m l' a' w' ⟨M3,dL,di,k1,k2,k3,k4,k5,hJ⟩
  obtain⟨e2,a2,w2,dH,wF⟩:=iU b k cs
  have hg:gotoIn l' (.inScope cb::k)=some (.code Es:: .inScope cb::k):=by simp[gotoIn,Dt]
  exact⟨e2,a2,w2,dH,.of_steps (.head step_scope (fi _ hg)) wF⟩
 |ret=>exact⟨_,a',w',⟨M3,dL,di,k1,k2,k3,k4,k5,k6⟩,.of_steps (.one step_scope) fi⟩
 |panic ch=>exact⟨_,a',w',⟨M3,dL,di,k1,k2,k3,k4,k5,k6⟩,.of_steps (.one step_scope) fi⟩
 |outgrown=>exact⟨_,a',w',⟨M3,dL,di,k1,k2,k3,k4,k5,k6⟩,.of_steps (.one step_scope) fi⟩
end
end Go.Sx
