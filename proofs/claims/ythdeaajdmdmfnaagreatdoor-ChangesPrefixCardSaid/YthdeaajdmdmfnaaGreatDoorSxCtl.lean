/-
  The layer Sx, ninth part: regions, code, functions.
-/
import Derived.Test.YthdeaajdmdmfnaaGreatDoorSxSound
import Derived.Scope
set_option linter.unusedVariables false
set_option linter.unusedSimpArgs false
set_option linter.unusedSectionVars false
namespace Go.Sx
open Go.RowKit
structure CI where
 d:Option Nat
 op:ax
 g:Option (Nat×Bool)
structure CD where
 ix:Nat
 c:CI
 cf:List Nat
inductive SC where
 |skip
 |aQ (l:List CI)
 |c8 (l:List CI)
 |eA (al:List Nat) (l:List CD)
 |seq (a b:SC)
 |cond (c:Operand) (t e:SC)
 |block (id:Nat) (b:SC)
 |loop (b:SC)
 |exit (id:Nat)
 |ret
 |scope (b:SC)
 |label (l:Nat)
 |goto (l:Nat)
def qk(P:Program)[Glob P](N:Nat)(ops:Array Oper)(o:Oper):Option CI:=
 match Ci P o,o.dst with
 |some mg,some t=>if t<N then
   match o.guard with
   |none=>some ⟨some t,mg,none⟩
   |some (j,want)=>match(ops[j]?).bind (·.dst)with
    |some u=>some ⟨some t,mg,some (u,want)⟩
    |none=>none
  else none
 |some mg,none=>
   match o.guard with
   |none=>some ⟨none,mg,none⟩
   |some (j,want)=>match(ops[j]?).bind (·.dst)with
    |some u=>some ⟨none,mg,some (u,want)⟩
    |none=>none
 |none,_=>none
def ia(P:Program)[Glob P](N:Nat)(ops:Array Oper):List Oper→Option (List CI)
 |[]=>some []
 |o::l=>match qk P N ops o with
  |some c=>(ia P N ops l).map (c::·)
  |none=>none
def ax.opers:ax→List Operand
 | .mv x| .box _ x| .load _ _ x| .mo x| .un _ x| .lM _ x| .mG x| .nh _ x| .aY _ x| .field _ _ _ x| .extract x _| .len _ x| .panic x=>[x]
 | .pick c a b=>[c,a,b]
 | .alloc _ _=>[]
 | .build _ ps=>ps.map (·.2.2)
 | .dF _ _ ps=>ps
 | .store _ x y| .bin _ x y| .ji _ _ x y| .eqs _ _ x y| .fe _ x y| .me _ _ x y| .idxs x y| .append _ _ _ _ x y| .max2 x y| .min2 x y=>[x,y]
 | .ng _ a b=>a++b
 | .slice _ x lo hi=>x::(lo.toList++hi.toList)
 | .call _ as=>as
 | .fD f as=>f::as
 | .cu _ _ _ as| .exts _ _ _ as=>as
def tmpsOf:List Operand→List Nat
 |[]=>[]
 | .tmp t::l=>t::tmpsOf l
 |_::l=>tmpsOf l
def CI.reads(c:CI):List Nat:=tmpsOf c.op.opers++(match c.g with|some (u,_)=>[u]|none=>[])
def posOf(t:Nat):List (Option Nat)→Nat→Option Nat
 |[],_=>none
 |x::l,k=>if x=some t then some k else posOf t l (k+1)
theorem JV{t j:Nat}:∀ (l:List (Option Nat)) (k:Nat),posOf t l k=some j→∃ i,j=k+i∧l[i]? =some (some t)
 |[],k,h=>by cases h
 |x::l,k,h=>by
  simp only[posOf]at h
  split at h
  ·simp_all
  ·obtain⟨i,h1,h2⟩:=JV l (k+1) h
   exact⟨i+1,by omega,by grind⟩
theorem JU{t:Nat}:∀ (l:List (Option Nat)) (k:Nat),posOf t l k=none→some t∉l
 |[],k,h=>by simp
 |x::l,k,h=>by
  simp only[posOf]at h
  split at h
  ·cases h
  ·have:=JU l (k+1) h
   grind
def ax.cls:ax→Nat
 | .load .. =>1
 | .alloc .. | .box .. =>2
 | .store .. =>3
 | .append .. | .exts .. =>4
 | .panic .. =>5
 |_=>0
def qn(ops:Array Oper)(l:List CI):Bool:=
 (l.map (·.d)).Nodup && l.all (fun c=>c.d.isSome && (Nat.ble c.op.cls 1 || (Nat.beq c.op.cls 4 && c.g.isNone))) &&
 (l.zip ops.toList).zipIdx.all fun((c,o),i)=>
  o.after.toList.all (fun e=> !Region.binds .any e || decide (e.on<i)) &&
  c.reads.all fun t=>match posOf t (l.map (·.d)) 0 with
   |some j=>o.after.toList.any fun e=>Region.binds .any e && e.on == j
   |none=>true
def pQ:List CI→Nat→Option Nat
 |[],_=>none
 |c::l,k=>bif Nat.beq c.op.cls 4 then some k else pQ l (k+1)
theorem JT{k:Nat}:∀ (l:List CI) (m:Nat),pQ l m=some k→∃ i,∃ h:i<l.length,k=m+i∧l[i].op.cls=4∧∀ j,j<i→(hj:j<l.length)→l[j].op.cls≠4
 |[],m,h=>by cases h
 |c::l,m,h=>by
  simp only[pQ]at h
  cases e:Nat.beq c.op.cls 4 with
  |true=>simp_all
  |false=>
   rw[e]at h
   obtain⟨i,h1,h2,h3,h4⟩:=JT l (m+1) h
   refine⟨i+1,by grind,by omega,by grind,fun j hj hl=> ?_⟩
   cases j with
   |zero=>intro e2;simp_all
   |succ j=>grind
def qo(ops:Array Oper)(l:List CI):Bool:=match pQ l 0 with
 |none=>false
 |some k=>
 (l.map (·.d)).Nodup && l.all (fun c=>c.d.isSome && (Nat.ble c.op.cls 1 || (Nat.beq c.op.cls 4 && c.g.isNone))) &&
 (l.zip ops.toList).zipIdx.all fun((c,o),i)=>
  o.after.toList.all (fun e=> !Region.binds .any e || decide (e.on<i)) &&
  c.reads.all fun t=>match posOf t (l.map (·.d)) 0 with
   |some j=>(o.after.toList.any fun e=>Region.binds .any e && e.on == j) || (Nat.ble i k && Nat.blt k j)
   |none=>true
def gn(ops:Array Oper)(i j:Nat):Bool:=match ops[i]? with
 |some o=>o.after.toList.any fun e=>Region.binds .any e && e.on == j
 |none=>false
def Qf(ops:Array Oper):List CI→Nat→List Nat→List Nat
 |[],_,acc=>acc
 |c::l,i,acc=>Qf ops l (i+1) (bif Nat.ble 2 c.op.cls || acc.any (gn ops i)then i::acc else acc)
def Rl:ax→Option Nat
 | .store _ (.tmp s) _=>some s
 |_=>none
def isApp:ax→Bool
 | .append .. =>true
 |_=>false
def y5(l:List CI):List Nat:=l.filterMap fun c=>bif Nat.beq c.op.cls 2 || isApp c.op then c.d else none
def Gb(s:Nat):List CI→Option ax
 |[]=>none
 |c::l=>match c.d with
  |some d=>bif Nat.beq d s then some c.op else Gb s l
  |none=>Gb s l
def rootOf(l:List CI):Nat→Nat→Option Nat
 |0,_=>none
 |n+1,s=>match Gb s l with
  |none=>some s
  |some (.alloc ..)|some (.box ..)=>some s
  |some (.aY _ (.tmp s'))|some (.mo (.tmp s'))|some (.me _ _ (.tmp s') _)|some (.fe _ (.tmp s') _)|some (.mv (.tmp s'))=>rootOf l n s'
  |_=>none
def wW(ops:Array Oper)(l0:List CI)(i:Nat):List CI→Nat→List Nat
 |[],_=>[]
 |c::l,j=>match Rl c.op with
  |some s=>bif gn ops i j || gn ops j i then wW ops l0 i l (j+1)else match rootOf l0 l0.length s with
   |some r=>bif (y5 l0).elem r then wW ops l0 i l (j+1)else r::wW ops l0 i l (j+1)
   |none=>wW ops l0 i l (j+1)
  |none=>wW ops l0 i l (j+1)
def Jm:ax→Bool
 | .call .. =>true
 |_=>false
def FV(ops:Array Oper)(i:Nat):List CI→Nat→List Nat
 |[],_=>[]
 |c::l,j=>bif Jm c.op && gn ops i j then c.d.toList++FV ops i l (j+1)else FV ops i l (j+1)
def QC(ops:Array Oper)(l:List CI)(i:Nat):Option CD:=
 match l[i]? with
 |some c=>some ⟨i,c,bif Nat.beq c.op.cls 1 then wW ops l i l 0 else match Rl c.op with
  |some s=>(rootOf l l.length s).toList
  |none=>bif Nat.beq c.op.cls 0 then FV ops i l 0 else[]⟩
 |none=>none
def DY(d:Option Nat)(x:CD):Bool:=match d with
 |some d=> !x.c.reads.elem d && !x.cf.elem d
 |none=>true
def qj(al:List Nat)(a c:CD):Bool:=
 DY a.c.d c && DY c.c.d a && (a.c.d.isNone || decide (a.c.d≠c.c.d)) &&
 match a.c.op.cls,c.c.op.cls with
 |0,_=>true
 |1,0|1,1=>true
 |1,2=>(match c.c.d with|some d=>al.elem d|none=>false)
 |1,3=>(match c.cf with|[s]=>a.cf.elem s || al.elem s|_=>false)
 |1,4=>(match c.c.d with|some d=>al.elem d|none=>false)
 |2,2=>true
 |_,_=>false
def zU(ops:Array Oper):Nat→Nat→Nat→Bool
 |0,i,j=>gn ops i j
 |n+1,i,j=>gn ops i j || (List.range ops.size).any fun b=>gn ops i b && zU ops n b j
def ya(ops:Array Oper)(al:List Nat):List CD→Bool
 |[]=>true
 |a::l=> !gn ops a.ix a.ix && l.all (fun c=> !gn ops a.ix c.ix && (gn ops c.ix a.ix || qj al a c || (Nat.beq c.c.op.cls 4 && zU ops 2 c.ix a.ix))) && ya ops al l
def iC(x:CD):Bool:=(Nat.ble x.c.op.cls 3 || isApp x.c.op) && (Nat.ble x.c.op.cls 1 || x.c.g.isNone) && (!Nat.beq x.c.op.cls 2 || x.c.d.isSome)
def JC(l:List CI):Bool:=Nat.ble 2 (l.filter fun c=>Nat.beq c.op.cls 4).length
def DU(ops:Array Oper)(al:List Nat)(ds:List CD):Bool:=
 decide ((ds.map (·.ix)).Nodup) && Nat.ble ds.length ops.size && (List.range ops.size).all (fun i=>ds.any fun x=>Nat.beq x.ix i) && ds.all iC && ops.toList.all (fun o=>o.after.toList.all fun e=> !Region.binds .any e || decide (e.on<ops.size)) && ya ops al ds
def MB(ops:Array Oper):List CI→Nat→List Nat→List Nat
 |[],_,acc=>acc
 |c::l,i,acc=>MB ops l (i+1) (bif Jm c.op || acc.any (gn ops i)then i::acc else acc)
def AW(ops:Array Oper)(l:List CI):List CD:=
 let late:=Qf ops l 0 []
 let dep:=bif Nat.beq (l.filter fun c=>Jm c.op).length 1 then MB ops l 0 []else[]
 ((List.range l.length).filter (fun i=> !late.elem i && !dep.elem i)++(List.range l.length).filter (fun i=> !late.elem i && dep.elem i)++(List.range l.length).filter (fun i=>late.elem i)).filterMap (QC ops l)
theorem QB{ops:Array Oper}{l:List CI}{x:CD}(h:x∈AW ops l):l[x.ix]? =some x.c:=by
 obtain⟨i,_,hi⟩:=List.mem_filterMap.1 h
 unfold QC at hi
 split at hi
 ·grind
 grind
def tN(ops:Array Oper):Nat:=bif s7 ops (ops.size-2)then 2 else 1
def iE(ops:Array Oper):Array Oper:=(ops.toList.take (ops.size-tN ops)).toArray
def ny(ops:Array Oper):Array Oper:=(ops.toList.drop (ops.size-tN ops)).toArray
def KH(ops:Array Oper):Bool:=Nat.ble (tN ops) ops.size && se ops && se (iE ops) && s7 ops (ops.size-tN ops) && (iE ops).toList.all (fun o=>match o.guard with|some (j,_)=>Nat.blt j (ops.size-tN ops)|none=>true) && (ny ops).toList.all (fun o=>o.guard.isNone)
def Mx(P:Program)[Glob P](N:Nat)(ops:Array Oper):Option SC:=
 match ia P N (iE ops) (iE ops).toList,ia P N (ny ops) (ny ops).toList with
 |some l1,some l2=>if KH ops=true∧((qn (iE ops) l1=true∨qo (iE ops) l1=true)∧JC l1=false)∧P.follows .mixedOrders=true then some (.seq (.c8 l1) (.aQ l2))else none
 |_,_=>none
def cO(P:Program)[Glob P](N:Nat):Code→Option SC
 | .skip=>some .skip
 | .region _ ops false=>(ia P N ops ops.toList).map .aQ
 | .region _ ops true=>match ia P N ops ops.toList with
  |some l=>if JC l=true∧DU ops (y5 l) (AW ops l)∧P.follows .mixedOrders=true then some (.eA (y5 l) (AW ops l))
    else if(qn ops l=true∨qo ops l=true)∧P.follows .mixedOrders=true then some (.c8 l)
    else if DU ops (y5 l) (AW ops l)∧P.follows .mixedOrders=true then some (.eA (y5 l) (AW ops l))else Mx P N ops
  |none=>none
 | .seq a b=>match cO P N a,cO P N b with
  |some a,some b=>some (.seq a b)
  |_,_=>none
 | .cond c t e=>match cO P N t,cO P N e with
  |some t,some e=>some (.cond c t e)
  |_,_=>none
 | .block id b=>(cO P N b).map (.block id)
 | .loop b=>(cO P N b).map .loop
 | .exit id=>some (.exit id)
 | .ret=>some .ret
 | .scope b=>(cO P N b).map .scope
 | .label l=>some (.label l)
 | .goto l=>some (.goto l)
 |_=>none
def jh(P:Program)[Glob P](M:Mem)(w0:Base)(N:Nat)(Q:Exit→ag→Store→Prop):Exit→Act→World→Prop:=fun e a w=>
 ∃ M' rg σ,M.le M'∧Inv P M' w0 σ w∧bQ M' rg a∧a.tmps.size=N∧a.defers=Glob.df P∧Q e rg σ
def ib(P:Program)(c:Code)(Q:Exit→Act→World→Prop)(a:Act)(w:World):Prop:=match c with
 | .region _ ops true=>P.follows .mixedOrders=true∧∀ t,wpOps P ops Q (Region.linearise .any ops t) a {w with drawn:=w.drawn+1}
 | .region _ ops false=>wpOps P ops Q (List.range ops.size) a w
 |c=>c.wp P Q a w
theorem o7{P:Program}{c:Code}{Q:Exit→Act→World→Prop}{a:Act}{w:World}(h:ib P c Q a w):c.wp P Q a w:=by
 unfold ib at h
 split at h
 ·refine wp_region_draw fun t=> ?_
  simp only[Region.schedule,h.1,Bool.true_or,YX]
  grind
 ·exact wp_region h
 grind
theorem F8{P:Program}{id:Nat}{ops:Array Oper}{Q:Exit→Act→World→Prop}{a:Act}{w:World}(hm:P.follows .mixedOrders=true)(h:wpAny P .any ops Q ops.size (Array.replicate ops.size false) a {w with drawn:=w.drawn+1}):ib P (.region id ops true) Q a w:=
 ⟨hm,fun t=>wpAny_sound ops.size t _ a _ h⟩
def SW(P:Program)[Glob P](N:Nat)(s:SC)(Q:Exit→ag→Store→Prop)(rg:ag)(σ:Store):Prop:=
 ∀ c,cO P N c=some s→∀ (M:Mem) (w0:Base) (a:Act) (w:World),Inv P M w0 σ w→bQ M rg a→a.tmps.size=N→a.defers=Glob.df P→ib P c (jh P M w0 N Q) a w
def cK(P:Program)[Glob P](cfg:Nat→Nat)(c:CI)(K:AV→Store→Prop)(E:List PanicEntry→Store→Prop)(rg:ag)(σ:Store):Prop:=
 match c.g with
 |none=>aj P cfg c.d rg σ K E c.op
 |some (t,want)=>match lk rg t with
  | .v (.bool b)=>(b=want→aj P cfg c.d rg σ K E c.op)∧(b= !want→K (.v undef) σ)
  | .v (.tuple _)=>K (.v undef) σ
  |_=>False
def Gd(b want:Bool)(X Y:Prop):Prop:=(b=want→X)∧(b= !want→Y)
theorem Gd.l{b want:Bool}{X Y:Prop}(h:Gd b want X Y):b=want→X:=h.1
theorem Gd.r{b want:Bool}{X Y:Prop}(h:Gd b want X Y):b= !want→Y:=h.2
def jX(P:Program)[Glob P](cfg:Nat→Nat):List CI→(K:ag→Store→Prop)→(E:List PanicEntry→Store→Prop)→ag→Store→Prop
 |[],K,_,rg,σ=>K rg σ
 |c::l,K,E,rg,σ=>match c.g with
  |none=>aj P cfg c.d rg σ (fun x σ'=>jX P cfg l K E (bz c.d x rg) σ') E c.op
  |some (t,want)=>match lk rg t with
   | .v (.bool b)=>Gd b want (aj P cfg c.d ((t,.v (.bool want))::rg) σ (fun x σ'=>jX P cfg l K E (bz c.d x ((t,.v (.bool want))::rg)) σ') E c.op)
     (jX P cfg l K E (bz c.d (.v undef) ((t,.v (.bool !want))::rg)) σ)
   | .v (.tuple _)=>jX P cfg l K E (bz c.d (.v undef) rg) σ
   |_=>False
theorem DQ{rg:ag}{t:Nat}{x:AV}(h:lk rg t=x)(i:Nat):lk ((t,x)::rg) i=lk rg i:=by
 simp only[lk]
 cases hb:Nat.beq t i with
 |true=>simp_all
 |false=>rfl
theorem aji{P:Program}[Glob P]{cfg:Nat→Nat}{c:CI}{l:List CI}{K:ag→Store→Prop}{E:List PanicEntry→Store→Prop}{rg:ag}{σ:Store}(h:jX P cfg (c::l) K E rg σ):
  ∃ ak,(∀ i,lk ak i=lk rg i)∧cK P cfg c (fun x σ'=>jX P cfg l K E (bz c.d x ak) σ') E ak σ:=by
 simp only[jX]at h
 split at h
 ·exact⟨rg,fun _=>rfl,by unfold cK;grind⟩
 ·rename_i t want hg
  split at h
  ·rename_i b hb
   by_cases lT:b=want
   ·subst lT
    have e:lk ((t,AV.v (.bool b))::rg) t= .v (.bool b):=by simp[lk,YA]
    refine⟨_,DQ hb,?_⟩
    unfold cK
    rw[hg]
    simp only[e]
    exact⟨fun _=>h.l rfl,fun h'=>by grind⟩
   ·have mP:b= !want:=by cases b<;>cases want<;>simp_all
    subst mP
    have e:lk ((t,AV.v (.bool !want))::rg) t= .v (.bool !want):=by simp[lk,YA]
    refine⟨_,DQ hb,?_⟩
    unfold cK
    rw[hg]
    simp only[e]
    exact⟨fun h'=>absurd h' lT,fun _=>h.r rfl⟩
  ·exact⟨rg,fun _=>rfl,by unfold cK;grind⟩
  grind
section
variable {P:Program}[Glob P]{M:Mem}{w0:Base}{w:World}{σ:Store}{rg:ag}{a:Act}{cfg:Nat→Nat}{N:Nat}
theorem uy{ops:Array Oper}{o:Oper}{c:CI}(hc:qk P N ops o=some c){K:AV→Store→Prop}{E:List PanicEntry→Store→Prop}(h:cK P cfg c K E rg σ)(hI:Inv P M w0 σ w)(hR:bQ M rg a)
  {next:Act→World→Prop} {Q:Exit→Act→World→Prop} (hg:yJ P M w0 w K E o a next Q):
  if Region.wanted o (yielded ops a.tmps)then o.wp P a w next Q∨(o.asks P a w∧LetsOut Q)else next (a.put o.dst undef) w:=by
 obtain⟨mg,acd,hd,eK,lU⟩:∃ mg,Ci P o=some mg∧c.d=o.dst∧c.op=mg∧((o.guard=none∧c.g=none)∨∃ j want u,o.guard=some (j,want)∧(ops[j]?).bind (·.dst)=some u∧c.g=some (u,want)):=by
  unfold qk at hc
  split at hc
  ·grind
  ·grind
  grind
 have run:aj P cfg c.d rg σ K E c.op→o.wp P a w next Q:=fun h=>aab (cfg:=cfg) (d:=c.d) acd (by grind) hI hR hg
 have Sf:K (.v undef) σ→next (a.put o.dst undef) w:=fun h=>hg.val M _ σ undef w (Mem.le.refl _) hI (.v _) h
 unfold cK at h
 rcases lU with⟨h1,h2⟩|⟨j,want,u,h1,h2,h3⟩
 ·rw[h2]at h
  simp only[Region.wanted,h1,YX]
  grind
 ·rw[h3]at h
  simp only at h
  have hy:yielded ops a.tmps j=match a.tmps[u]? with
   |some (.bool b)=>some b
   |_=>none:=by unfold yielded;grind
  have hu:=hR u
  split at h
  ·rename_i b hb
   rw[hb]at hu
   have hv:=hu.ay
   have ht:a.tmps[u]? =some (.bool b):=by
    rw[ZT]at hv
    cases he:a.tmps[u]? with
    |none=>rw[he]at hv;simp[undef]at hv
    |some y=>rw[he]at hv;simp at hv;rw[hv]
   have Ja:yielded ops a.tmps j=some b:=by rw[hy,ht]
   simp only[Region.wanted,h1,Ja]
   by_cases lT:b=want
   ·subst lT
    simp only[beq_self_eq_true,YX]
    exact .inl (run (h.1 rfl))
   ·have:(some b == some want)=false:=by simp[lT]
    simp only[this,ZU,YV]
    exact Sf (h.2 (by cases b<;>cases want<;>simp_all))
  ·rename_i vs hb
   rw[hb]at hu
   have hv:=hu.ay
   have Ja:yielded ops a.tmps j=none:=by
    rw[hy]
    rw[ZT]at hv
    cases he:a.tmps[u]? with
    |none=>rfl
    |some y=>rw[he]at hv;simp at hv;rw[hv]
   simp only[Region.wanted,h1,Ja]
   have:((none:Option Bool) == some want)=false:=rfl
   simp only[this,ZU,YV]
   exact Sf h
  grind
theorem zi{ops:Array Oper}{o:Oper}{c:CI}(hc:qk P N ops o=some c):c.d=o.dst∧∀ t,c.d=some t→t<N:=by
 unfold qk at hc
 split at hc
 ·grind
 ·grind
 grind
theorem wh(ops:Array Oper){Q:Exit→ag→Store→Prop}{K:ag→Store→Prop}(hK:∀ rg σ,K rg σ→Q .normal rg σ):
  ∀ (os:List Oper) (k:Nat) (l:List CI),ia P N ops os=some l→(∀ i,i<os.length→ops[k+i]? =os[i]?)→
  ∀ (M:Mem) (w0:Base) (w:World) (a:Act) (rg:ag) (σ:Store),jX P cfg l K (fun ch σ'=>Q (.panic ch) [] σ') rg σ→Inv P M w0 σ w→bQ M rg a→a.tmps.size=N→a.defers=Glob.df P→
   wpOps P ops (jh P M w0 N Q) (List.range' k os.length) a w
 |[],k,l,hl,_,M,w0,w,a,rg,σ,h,hI,hR,hN,hD=>by
  simp only[ia,ZY]at hl
  subst hl
  exact⟨M,rg,σ,Mem.le.refl _,hI,hR,hN,hD,hK rg σ h⟩
 |o::os,k,l,hl,ho,M,w0,w,a,rg,σ,h,hI,hR,hN,hD=>by
  simp only[ia]at hl
  split at hl
  ·rename_i c hc
   obtain⟨l',fq,rfl⟩:=Z9.1 hl
   have ID:ops[k]? =some o:=by simpa using ho 0 (by simp)
   obtain⟨ak,uZ,h⟩:=aji h
   replace hR:bQ M ak a:=fun i=>by rw[uZ];exact hR i
   obtain⟨ko,aw⟩:=zi hc
   simp only[ZS,List.range'_succ,wpOps,ID]
   refine uy hc h hI hR ⟨fun M' x σ' v w' hM bp hx hk=> ?_,fun M' ch σ' w' hM bp hk=> ?_⟩
   ·have ih:=wh ops hK os (k+1) l' fq (fun i hi=>by have:=ho (i+1) (by simpa using hi);rw[show k+1+i=k+(i+1)from by omega];simpa using this) M' w0 w' (a.put o.dst v) (bz c.d x ak) σ' hk bp
     (by rw[ko];exact(hR.mono hM).put o.dst (fun t ht=>by rw[hN];exact aw t (ko.trans ht)) hx) (by rw[Act.size_put];exact hN) (by rw[Act.zk];exact hD)
    refine ru ?_ _ _ _ ih
    rintro e a2 w2 ⟨M2,bI,aJ,h1,h2⟩
    exact⟨M2,bI,aJ,hM.trans h1,h2⟩
   ·exact⟨M',[],σ',hM,bp,fun i=> .any _,hN,hD,hk⟩
  ·cases hl
 where
 ru {ops:Array Oper} {Q Q':Exit→Act→World→Prop} (h:∀ e a w,Q e a w→Q' e a w):∀ (is:List Nat) (a:Act) (w:World),wpOps P ops Q is a w→wpOps P ops Q' is a w
 |[],a,w,hq=>h _ _ _ hq
 |i::is,a,w,hq=>by
  rw[wpOps_cons]at hq ⊢
  unfold wpOp at hq ⊢
  split
  ·rename_i e;rw[e]at hq;exact ru h is a w hq
  ·rename_i o e
   rw[e]at hq
   simp only at hq
   split
   ·rename_i hw
    rw[ZV hw]at hq
    refine hq.imp (fun hh=> ?_) (fun⟨x,y⟩=>⟨x,y.elim fun a h'=>h'.elim fun w xe=>⟨a,w,h _ _ _ xe⟩⟩)
    have h1:=Oper.wp_mono (K':=wpOps P ops Q' is) (fun a w=>ru h is a w) hh
    unfold Oper.wp at h1 ⊢
    generalize (execOp a.eval o).run P w=r at h1
    cases r with
    |ok n w'=>
     cases n<;>simp only[Oper.upon]at h1 ⊢<;>first
      |exact h1
      |exact Calls.mono h1 (fun e tS he=>by cases e<;>first|exact he|exact h _ _ _ he|exact he.elim fun a h'=>h'.elim fun w xe=>⟨a,w,h _ _ _ xe⟩)
    |halt x w'=>cases x<;>simp only[Oper.upon]at h1 ⊢<;>first|exact h1|exact h _ _ _ h1
   ·rename_i hw
    rw[Z7 hw]at hq
    exact ru h is _ _ hq
theorem zj{c:Code}{Q Q':Exit→Act→World→Prop}(h:ib P c Q a w)(hq:∀ e a w,Q e a w→Q' e a w):ib P c Q' a w:=by
 unfold ib at h ⊢
 split
 ·exact⟨h.1,fun t=>wh.ru hq _ _ _ (h.2 t)⟩
 ·exact wh.ru hq _ _ _ h
 ·have h':c.wp P Q a w:=by
   grind
  exact wp_mono h' hq
theorem K7{ops ops':Array Oper}{Q:Exit→Act→World→Prop}(f:Nat→Nat)(L2:List Nat):∀ (L:List Nat),(∀ i∈L,ops'[i]? =ops[f i]?∧∀ o,ops'[i]? =some o→∀ tmps,Region.wanted o (yielded ops' tmps)=Region.wanted o (yielded ops tmps))→∀ (a:Act) (w:World),
  wpOps P ops' (Exit.then (wpOps P ops Q L2) Q) L a w→wpOps P ops Q (L.map f++L2) a w
 |[],_,a,w,h=>h
 |i::L,hL,a,w,h=>by
  have ih:=K7 (ops:=ops) (ops':=ops') (Q:=Q) f L2 L (fun j hj=>hL j (ZL _ hj))
  obtain⟨h1,h2⟩:=hL i ZD
  rw[Zv,ZG,wpOps_cons]
  rw[wpOps_cons]at h
  unfold wpOp at h ⊢
  rw[← h1]
  split
  ·grind
  ·rename_i o e
   rw[e]at h
   simp only at h
   rw[← h2 o e]
   split
   ·rename_i hw
    rw[ZV hw]at h
    refine h.imp (fun hh=> ?_) (fun⟨x,y⟩=>⟨x,y⟩)
    have h3:=Oper.wp_mono (K':=wpOps P ops Q (L.map f++L2)) (fun a w=>ih a w) hh
    generalize (execOp a.eval o).run P w=r at h3
    cases r with
    |ok n w'=>
     assumption
    |halt x w'=>assumption
   grind
theorem ajx{o:Oper}{ops ops':Array Oper}(h:∀ j want,o.guard=some (j,want)→ops'[j]? =ops[j]?)(tmps:Array Value):Region.wanted o (yielded ops' tmps)=Region.wanted o (yielded ops tmps):=by
 unfold Region.wanted
 cases hg:o.guard with
 |none=>rfl
 |some g=>
  obtain⟨j,want⟩:=g
  simp only[yielded,h j want hg]
theorem My{M M':Mem}(h:M.le M'){Q:Exit→ag→Store→Prop}{e:Exit}{a:Act}{w:World}:jh P M' w0 N Q e a w→jh P M w0 N Q e a w:=
 fun⟨M2,bI,aJ,h1,h2⟩=>⟨M2,bI,aJ,h.trans h1,h2⟩
theorem SW.mono{s:SC}{Q Q':Exit→ag→Store→Prop}(h:SW P N s Q rg σ)(hq:∀ e rg σ,Q e rg σ→Q' e rg σ):SW P N s Q' rg σ:=
 fun c hc M w0 a w hI hR hN hD=>zj (h c hc M w0 a w hI hR hN hD) fun _ _ _ ⟨M2,bI,aJ,h1,h2,h3,h4,h5,h6⟩=>⟨M2,bI,aJ,h1,h2,h3,h4,h5,hq _ _ _ h6⟩
theorem SW.ep(l:List Nat){s:SC}{Q:Exit→ag→Store→Prop}(h:SW P N s Q (ep l rg) σ):SW P N s Q rg σ:=
 fun c hc M w0 a w hI hR hN hD=>h c hc M w0 a w hI (hR.ep l) hN hD
def pV(K:ag→Store→Prop)(Q:Exit→ag→Store→Prop):Exit→ag→Store→Prop
 | .normal,rg,σ=>K rg σ
 |e,rg,σ=>Q e rg σ
def nL(id:Nat)(Q:Exit→ag→Store→Prop):Exit→ag→Store→Prop
 | .exit pJ,rg,σ=>if pJ=id then Q .normal rg σ else Q (.exit pJ) rg σ
 |e,rg,σ=>Q e rg σ
def nH(P:Program)[Glob P](N:Nat)(c:Code):SC→Prop
 | .skip=>c= .skip
 | .aQ l=>∃ id ops,c= .region id ops false∧ia P N ops ops.toList=some l
 | .c8 l=>∃ id ops,c= .region id ops true∧ia P N ops ops.toList=some l∧(qn ops l=true∨qo ops l=true)∧P.follows .mixedOrders=true
 | .eA al ds=>∃ id ops l,c= .region id ops true∧ia P N ops ops.toList=some l∧(∀ x∈ds,l[x.ix]? =some x.c)∧DU ops al ds=true∧P.follows .mixedOrders=true
 | .seq a b=>(∃ ca cb,c= .seq ca cb∧cO P N ca=some a∧cO P N cb=some b)∨
   ∃ id ops l1 l2,c= .region id ops true∧a= .c8 l1∧b= .aQ l2∧ia P N (iE ops) (iE ops).toList=some l1∧ia P N (ny ops) (ny ops).toList=some l2∧KH ops=true∧((qn (iE ops) l1=true∨qo (iE ops) l1=true)∧JC l1=false)∧P.follows .mixedOrders=true
 | .cond x a b=>∃ ca cb,c= .cond x ca cb∧cO P N ca=some a∧cO P N cb=some b
 | .block id b=>∃ cb,c= .block id cb∧cO P N cb=some b
 | .loop b=>∃ cb,c= .loop cb∧cO P N cb=some b
 | .exit id=>c= .exit id
 | .ret=>c= .ret
 | .scope b=>∃ cb,c= .scope cb∧cO P N cb=some b
 | .label l=>c= .label l
 | .goto l=>c= .goto l
theorem eX{c:Code}{s:SC}(h:cO P N c=some s):nH P N c s:=by
 cases c with
 |skip=>simp only[cO,ZY]at h;subst h;rfl
 |region id ops draw=>
  cases draw with
  |false=>
   simp only[cO]at h
   obtain⟨l,h1,rfl⟩:=Z9.1 h
   exact⟨id,ops,rfl,h1⟩
  |true=>
   simp only[cO]at h
   split at h
   ·rename_i l hl
    split at h
    ·rename_i hd;cases h;exact⟨id,ops,l,rfl,hl,fun x hx=>QB hx,hd.2.1,hd.2.2⟩
    split at h
    ·rename_i hd;cases h;exact⟨id,ops,rfl,hl,hd.1,hd.2⟩
    ·split at h
     ·rename_i hd;cases h;exact⟨id,ops,l,rfl,hl,fun x hx=>QB hx,hd.1,hd.2⟩
     ·unfold Mx at h
      split at h
      ·rename_i l1 l2 e1 e2
       split at h
       ·rename_i hd;cases h;exact .inr ⟨id,ops,l1,l2,rfl,rfl,rfl,e1,e2,hd.1,hd.2.1,hd.2.2⟩
       grind
      grind
   grind
 |seq a b=>
  simp only[cO]at h
  split at h
  ·rename_i x y h1 h2;cases h;exact .inl ⟨a,b,rfl,h1,h2⟩
  grind
 |cond x a b=>
  simp only[cO]at h
  split at h
  ·rename_i x y h1 h2;cases h;exact⟨a,b,rfl,h1,h2⟩
  grind
 |block id b=>
  simp only[cO]at h
  obtain⟨l,h1,rfl⟩:=Z9.1 h
  exact⟨b,rfl,h1⟩
 |loop b=>
  simp only[cO]at h
  obtain⟨l,h1,rfl⟩:=Z9.1 h
  exact⟨b,rfl,h1⟩
 |exit id=>simp only[cO,ZY]at h;subst h;rfl
 |ret=>simp only[cO,ZY]at h;subst h;rfl
 |scope b=>
  simp only[cO]at h
  obtain⟨l,h1,rfl⟩:=Z9.1 h
  exact⟨b,rfl,h1⟩
 |label l=>simp only[cO,ZY]at h;subst h;rfl
 |goto l=>simp only[cO,ZY]at h;subst h;rfl
 |_=>simp[cO]at h
def mK:SC→Nat→Option SC
 | .seq a b,l=>match mK a l with
  |some r=>some (.seq r b)
  |none=>mK b l
 | .label l',l=>if l' == l then some .skip else none
 |_,_=>none
theorem Gy{l:Nat}:∀ (c:Code) (s:SC),cO P N c=some s→match mK s l with
  |some r=>∃ rest,findLabel c l=some rest∧cO P N rest=some r
  |none=>findLabel c l=none
 | .seq ca cb,s,h=>by
  cases s with
  |seq a b=>
   rcases eX h with⟨ca',cb',e,h1,h2⟩|⟨id,ops,l1,l2,e,_⟩
   ·cases e
    have i1:=Gy (l:=l) ca a h1
    have i2:=Gy (l:=l) cb b h2
    simp only[mK,findLabel]
    cases e1:mK a l with
    |some r=>
     rw[e1]at i1
     obtain⟨rest,g1,g2⟩:=i1
     exact⟨.seq rest cb,by rw[g1],by simp only[cO,g2,h2]⟩
    |none=>
     grind
   grind
  |_=>
   have:=eX h
   simp only[nH]at this
   grind
 | .label l',s,h=>by
  simp only[cO,ZY]at h
  subst h
  simp only[mK,findLabel]
  by_cases e:(l' == l)=true
  ·rw[ZV e];exact⟨.skip,by grind,rfl⟩
  grind
 | .region id ops draw,s,h=>by
  have:=eX h
  cases s<;>simp only[nH,reduceCtorEq,Xr,XQ,XP,and_false]at this<;>simp only[mK,findLabel]
  rename_i a b
  rcases this with⟨_,_,e,_⟩|⟨_,_,l1,l2,e,e1,e2,_⟩
  ·rw[e1,e2];exact trivial
 | .skip,s,h=>by have:=eX h;cases s<;>simp only[nH,reduceCtorEq,Xr,XQ,XP,or_self]at this<;>rfl
 | .cond _ _ _,s,h=>by have:=eX h;cases s<;>simp only[nH,reduceCtorEq,Xr,XQ,XP,or_self]at this<;>rfl
 | .block _ _,s,h=>by have:=eX h;cases s<;>simp only[nH,reduceCtorEq,Xr,XQ,XP,or_self]at this<;>rfl
 | .loop _,s,h=>by have:=eX h;cases s<;>simp only[nH,reduceCtorEq,Xr,XQ,XP,or_self]at this<;>rfl
 | .exit _,s,h=>by have:=eX h;cases s<;>simp only[nH,reduceCtorEq,Xr,XQ,XP,or_self]at this<;>rfl
 | .ret,s,h=>by have:=eX h;cases s<;>simp only[nH,reduceCtorEq,Xr,XQ,XP,or_self]at this<;>rfl
 | .scope _,s,h=>by have:=eX h;cases s<;>simp only[nH,reduceCtorEq,Xr,XQ,XP,or_self]at this<;>rfl
 | .goto _,s,h=>by have:=eX h;cases s<;>simp only[nH,reduceCtorEq,Xr,XQ,XP,or_self]at this<;>rfl
 | .rangeFunc _ _ _ _,s,h=>by simp[cO]at h
 | .refuse _,s,h=>by simp[cO]at h
theorem LG{l:List CI}{Q:Exit→ag→Store→Prop}(cfg:Nat→Nat)(h:jX P cfg l (Q .normal) (fun ch σ'=>Q (.panic ch) [] σ') rg σ):SW P N (.aQ l) Q rg σ:=by
 intro c hc M w0 a w hI hR hN hD
 obtain⟨id,ops,rfl,hl⟩:=eX hc
 show wpOps _ _ _ _ _ _
 have:=wh (P:=P) (N:=N) (cfg:=cfg) ops (Q:=Q) (K:=Q .normal) (fun _ _ h=>h) ops.toList 0 l hl (fun i hi=>by simp) M w0 w a rg σ h hI hR hN hD
 rw[XF]
 grind
theorem yU{x y:SC}{Q:Exit→ag→Store→Prop}(h:SW P N x (pV (SW P N y Q) Q) rg σ):SW P N (.seq x y) Q rg σ:=by
 intro c hc M w0 a w hI hR hN hD
 rcases eX hc with⟨ca,cb,rfl,h1,h2⟩|⟨id,ops,l1,l2,rfl,rfl,rfl,e1,e2,hT,hd,sE⟩
 ·refine wp_seq (wp_mono (o7 (h ca h1 M w0 a w hI hR hN hD)) ?_)
  rintro e a2 w2 ⟨M2,bI,aJ,g1,g2,g3,g4,g5,g6⟩
  cases e with
  |normal=>
   refine wp_mono (o7 (g6 cb h2 M2 w0 a2 w2 g2 g3 g4 g5)) ?_
   intro e a3 w3 hh
   exact My g1 hh
  |_=>exact⟨M2,bI,aJ,g1,g2,g3,g4,g5,g6⟩
 ·unfold KH at hT
  simp only[Z8,Y1]at hT
  obtain⟨⟨⟨⟨⟨eZ,hf⟩,hfp⟩,hl⟩,hgp⟩,hgs⟩:=hT
  have eZ:=ZF eZ
  have hps:(iE ops).size=ops.size-tN ops:=by unfold iE;simp only[Y0,Zx,ZQ];omega
  have pF:(ny ops).size=tN ops:=by unfold ny;simp only[Y0,YQ,ZQ];omega
  have IH:∀ i,i<ops.size-tN ops→(iE ops)[i]? =ops[i]? :=fun i hi=>by
   unfold iE;simp only[XL,Y4,ZV hi,Zj]
  have bV:cO P N (.region id (iE ops) true)=some (.c8 l1):=by
   simp only[cO,e1]
   rw[Z7 (fun h=>by rw[hd.2]at h;exact nomatch h.1),ZV ⟨hd.1,sE⟩]
  have cG:cO P N (.region id (ny ops) false)=some (.aQ l2):=by simp only[cO,e2];rfl
  refine⟨sE,fun t=> ?_⟩
  have cP:=(h _ bV M w0 a w hI hR hN hD).2 t
  rw[Qm _ hfp,hps]at cP
  have e0:Region.linearise .any ops t=iV (iE ops) (ops.size-tN ops) t (fun i=> !Nat.blt i (ops.size-tN ops))++List.range' (ops.size-tN ops) (ops.size-(ops.size-tN ops)):=by
   rw[Qm _ hf]
   have:=afA hf hl hps (fun i h h' xe=>by
    have:=IH i h
    rw[ZN xe,ZN h']at this
    exact YK this) (ops.size-tN ops) t (fun i=> !Nat.blt i (ops.size-tN ops)) (fun i=> !Nat.blt i ops.size) (ZI (X8 _ _) (by simp)) (fun i=>by
     by_cases hi:i<ops.size-tN ops
     ·have a1:Nat.blt i (ops.size-tN ops)=true:=by rw[YC];exact hi
      have a2:Nat.blt i ops.size=true:=by rw[YC];omega
      rw[ZV hi,a1,a2]
     ·rw[Z7 hi])
   rwa [show ops.size-tN ops+(ops.size-(ops.size-tN ops))=ops.size by omega]at this
  rw[e0]
  have hL:∀ i∈iV (iE ops) (ops.size-tN ops) t (fun i=> !Nat.blt i (ops.size-tN ops)),i<ops.size-tN ops:=fun i hi=>by
   rw[← hps];exact Rf _ _ _ _ hi
  have key:=K7 (P:=P) (ops:=ops) (ops':=iE ops) (Q:=jh P M w0 N Q) (fun i=>i) (List.range' (ops.size-tN ops) (ops.size-(ops.size-tN ops))) (iV (iE ops) (ops.size-tN ops) t (fun i=> !Nat.blt i (ops.size-tN ops))) (fun i hi=>⟨IH i (hL i hi),fun o ho tmps=>ajx (fun j want hg=>IH j (by
   have hm:=Array.mem_of_getElem? ho
   have:=ZB.1 hgp o hm
   rw[hg]at this
   simpa only[YC]using this)) tmps⟩) a _ (wh.ru ?_ _ _ _ cP)
  ·rw[List.map_id'']at key
   ·exact key
   ·exact fun _=>rfl
  ·rintro e a2 w2 ⟨M2,bI,aJ,g1,g2,g3,g4,g5,g6⟩
   cases e with
   |normal=>
    have sK:wpOps P (ny ops) (jh P M2 w0 N Q) (List.range (ny ops).size) a2 w2:=g6 _ cG M2 w0 a2 w2 g2 g3 g4 g5
    rw[pF]at sK
    have P6:=K7 (P:=P) (ops:=ops) (ops':=ny ops) (Q:=jh P M w0 N Q) (fun i=>ops.size-tN ops+i) [] (List.range (tN ops)) (fun i hi=>⟨by
     have:=Y2.1 hi
     unfold ny;simp only[XL,Yz,Zj],fun o ho tmps=>by
     have hm:=Array.mem_of_getElem? ho
     have:=ZB.1 hgs o hm
     simp only[Option.isNone_iff_eq_none]at this
     simp[Region.wanted,this]⟩) a2 w2 (wh.ru (fun e a3 w3 hh=>by cases e<;>exact My g1 hh) _ _ _ sK)
    rw[YP]at P6
    rw[show ops.size-(ops.size-tN ops)=tN ops by omega]
    show wpOps P ops _ _ a2 w2
    have e3:(List.range (tN ops)).map (fun i=>ops.size-tN ops+i)=List.range' (ops.size-tN ops) (tN ops):=by rw[List.range'_eq_map_range]
    rw[← e3];exact P6
   |_=>exact⟨M2,bI,aJ,g1,g2,g3,g4,g5,g6⟩
theorem Fx{Q:Exit→ag→Store→Prop}(h:Q .normal rg σ):SW P N .skip Q rg σ:=by
 intro c hc M w0 a w hI hR hN hD
 obtain rfl:=eX hc
 exact wp_skip ⟨M,rg,σ,Mem.le.refl _,hI,hR,hN,hD,h⟩
theorem Fw{Q:Exit→ag→Store→Prop}(h:Q .ret rg σ):SW P N .ret Q rg σ:=by
 intro c hc M w0 a w hI hR hN hD
 obtain rfl:=eX hc
 exact wp_ret ⟨M,rg,σ,Mem.le.refl _,hI,hR,hN,hD,h⟩
theorem Fs{id:Nat}{Q:Exit→ag→Store→Prop}(h:Q (.exit id) rg σ):SW P N (.exit id) Q rg σ:=by
 intro c hc M w0 a w hI hR hN hD
 obtain rfl:=eX hc
 exact wp_exit ⟨M,rg,σ,Mem.le.refl _,hI,hR,hN,hD,h⟩
theorem BR{x:Operand}{s t:SC}{Q:Exit→ag→Store→Prop}{b:Bool}(hx:ev rg x= .v (.bool b))(h1:b=true→SW P N s Q rg σ)(h2:b=false→SW P N t Q rg σ):SW P N (.cond x s t) Q rg σ:=by
 intro c hc M w0 a w hI hR hN hD
 obtain⟨ca,cb,rfl,g1,g2⟩:=eX hc
 have he:=hR.ev x
 rw[hx]at he
 exact wp_cond_split he.ay (fun hb=>o7 (h1 hb _ g1 M w0 a w hI hR hN hD)) (fun hb=>o7 (h2 hb _ g2 M w0 a w hI hR hN hD))
theorem yS{id:Nat}{s:SC}{Q:Exit→ag→Store→Prop}(h:SW P N s (nL id Q) rg σ):SW P N (.block id s) Q rg σ:=by
 intro c hc M w0 a w hI hR hN hD
 obtain⟨cb,rfl,h1⟩:=eX hc
 refine wp_block (wp_mono (o7 (h _ h1 M w0 a w hI hR hN hD)) ?_)
 rintro e a2 w2 ⟨M2,bI,aJ,g1,g2,g3,g4,g5,g6⟩
 cases e with
 |exit pJ=>
  simp only[nL]at g6
  simp only[Exit.inBlock]
  split
  ·rename_i e;rw[ZV e]at g6;exact⟨M2,bI,aJ,g1,g2,g3,g4,g5,g6⟩
  ·rename_i e;rw[Z7 e]at g6;exact⟨M2,bI,aJ,g1,g2,g3,g4,g5,g6⟩
 |_=>exact⟨M2,bI,aJ,g1,g2,g3,g4,g5,g6⟩
theorem Fu{s:SC}{Q:Exit→ag→Store→Prop}(I:Nat→ag→Store→Prop)(n:Nat)(h0:I n rg σ)(h:∀ n rg σ,I n rg σ→SW P N s (pV (fun ak σ'=>∃ n',n'<n∧I n' ak σ') Q) rg σ):SW P N (.loop s) Q rg σ:=by
 intro c hc M w0 a w hI hR hN hD
 obtain⟨cb,rfl,om⟩:=eX hc
 have key:∀ (m:Nat) (a:Act) (w:World),(∃ M2 bI aJ,M.le M2∧Inv P M2 w0 aJ w∧bQ M2 bI a∧a.tmps.size=N∧a.defers=Glob.df P∧I m bI aJ)→
   ∀ (b:Frame) (k:List Item) (cs:List Frame),∃ e a' w',jh P M w0 N Q e a' w'∧Arrives P (lone (b.at a (.code cb:: .inLoop cb::k)) cs w) b k cs e a' w':=by
  intro m
  induction m using Nat.strongRecOn with
  |_ m ih=>
   rintro a w ⟨M2,bI,aJ,g1,g2,g3,g4,g5,g6⟩ b k cs
   obtain⟨e,a',w',hq,gm⟩:=o7 (h m bI aJ g6 cb om M2 w0 a w g2 g3 g4 g5) b (.inLoop cb::k) cs
   obtain⟨M3,eF,eo,k1,k2,k3,k4,k5,k6⟩:=hq
   cases e with
   |normal=>
    obtain⟨m',aw,hIm⟩:=k6
    obtain⟨e2,a2,w2,qE,zT⟩:=ih m' aw a' w' ⟨M3,eF,eo,g1.trans k1,k2,k3,k4,k5,hIm⟩ b k cs
    exact⟨e2,a2,w2,qE,.of_steps (Steps.trans gm (.one step_inLoop)) zT⟩
   |exit id=>exact⟨_,a',w',⟨M3,eF,eo,g1.trans k1,k2,k3,k4,k5,k6⟩,.pass (x:= .inLoop cb) rfl (fun _ _=> .inl (by simp)) gm⟩
   |goto l=>exact⟨_,a',w',⟨M3,eF,eo,g1.trans k1,k2,k3,k4,k5,k6⟩,.pass (x:= .inLoop cb) rfl (fun _ _=> .inl (by simp)) gm⟩
   |ret=>exact⟨_,a',w',⟨M3,eF,eo,g1.trans k1,k2,k3,k4,k5,k6⟩,.pass (x:= .inLoop cb) rfl (fun _ _=> .inl (by simp)) gm⟩
   |panic ch=>exact⟨_,a',w',⟨M3,eF,eo,g1.trans k1,k2,k3,k4,k5,k6⟩,.pass (x:= .inLoop cb) rfl (fun _ _=> .inl (by simp)) gm⟩
   |outgrown=>exact⟨_,a',w',⟨M3,eF,eo,g1.trans k1,k2,k3,k4,k5,k6⟩,.pass (x:= .inLoop cb) rfl (fun _ _=> .inl (by simp)) gm⟩
 intro b k cs
 obtain⟨e,a',w',hq,gm⟩:=key n a w ⟨M,rg,σ,Mem.le.refl _,hI,hR,hN,hD,h0⟩ b k cs
 exact⟨e,a',w',hq,.of_steps (.one step_loop) gm⟩
theorem LC{l:Nat}{Q:Exit→ag→Store→Prop}(h:Q .normal rg σ):SW P N (.label l) Q rg σ:=by
 intro c hc M w0 a w hI hR hN hD
 obtain rfl:=eX hc
 exact wp_label ⟨M,rg,σ,Mem.le.refl _,hI,hR,hN,hD,h⟩
theorem LB{l:Nat}{Q:Exit→ag→Store→Prop}(h:Q (.goto l) rg σ):SW P N (.goto l) Q rg σ:=by
 intro c hc M w0 a w hI hR hN hD
 obtain rfl:=eX hc
 exact wp_goto ⟨M,rg,σ,Mem.le.refl _,hI,hR,hN,hD,h⟩
def Jp(J:Nat→ag→Store→Prop)(Q:Exit→ag→Store→Prop):Exit→ag→Store→Prop
 | .goto l,rg,σ=>J l rg σ
 |e,rg,σ=>Q e rg σ
theorem LH{s:SC}{Q:Exit→ag→Store→Prop}(J:Nat→Nat→ag→Store→Prop)(h0:SW P N s (Jp (fun l rg σ=>∃ n,J l n rg σ) Q) rg σ)
  (h:∀ l n rg σ,J l n rg σ→∃ r,mK s l=some r∧SW P N r (Jp (fun l' ak σ'=>∃ n',n'<n∧J l' n' ak σ') Q) rg σ):SW P N (.scope s) Q rg σ:=by
 intro c hc M w0 a w hI hR hN hD
 obtain⟨cb,rfl,om⟩:=eX hc
 have key:∀ (m l:Nat) (a:Act) (w:World),(∃ M2 bI aJ,M.le M2∧Inv P M2 w0 aJ w∧bQ M2 bI a∧a.tmps.size=N∧a.defers=Glob.df P∧J l m bI aJ)→
   ∃ rest,findLabel cb l=some rest∧∀ (b:Frame) (k:List Item) (cs:List Frame),∃ e a' w',jh P M w0 N Q e a' w'∧Arrives P (lone (b.at a (.code rest:: .inScope cb::k)) cs w) b k cs e a' w':=by
  intro m
  induction m using Nat.strongRecOn with
  |_ m ih=>
   rintro l a w ⟨M2,bI,aJ,g1,g2,g3,g4,g5,g6⟩
   obtain⟨r,hr,hsw⟩:=h l m bI aJ g6
   have hf:=Gy (P:=P) (N:=N) (l:=l) cb s om
   rw[hr]at hf
   obtain⟨rest,jR,uO⟩:=hf
   refine⟨rest,jR,fun b k cs=> ?_⟩
   obtain⟨e,a',w',hq,gm⟩:=o7 (hsw rest uO M2 w0 a w g2 g3 g4 g5) b (.inScope cb::k) cs
   obtain⟨M3,eF,eo,k1,k2,k3,k4,k5,k6⟩:=hq
   cases e with
   |normal=>exact⟨.normal,a',w',⟨M3,eF,eo,g1.trans k1,k2,k3,k4,k5,k6⟩,Steps.trans gm (.one step_inScope)⟩
   |exit id=>exact⟨.exit id,a',w',⟨M3,eF,eo,g1.trans k1,k2,k3,k4,k5,k6⟩,fun k' hk=>gm k' (by assumption)⟩
   |goto l'=>
    obtain⟨m',aw,hJ⟩:=k6
    obtain⟨J5,Dm,kC⟩:=ih m' aw l' a' w' ⟨M3,eF,eo,g1.trans k1,k2,k3,k4,k5,hJ⟩
    obtain⟨e2,a2,w2,qE,zT⟩:=kC b k cs
    have hg:gotoIn l' (.inScope cb::k)=some (.code J5:: .inScope cb::k):=by simp[gotoIn,Dm]
    exact⟨e2,a2,w2,qE,.of_steps (gm _ hg) zT⟩
   |ret=>exact⟨_,a',w',⟨M3,eF,eo,g1.trans k1,k2,k3,k4,k5,k6⟩,gm⟩
   |panic ch=>exact⟨_,a',w',⟨M3,eF,eo,g1.trans k1,k2,k3,k4,k5,k6⟩,gm⟩
   |outgrown=>exact⟨_,a',w',⟨M3,eF,eo,g1.trans k1,k2,k3,k4,k5,k6⟩,gm⟩
 intro b k cs
 obtain⟨e,a',w',hq,gm⟩:=o7 (h0 cb om M w0 a w hI hR hN hD) b (.inScope cb::k) cs
 obtain⟨M3,eF,eo,k1,k2,k3,k4,k5,k6⟩:=hq
 cases e with
 |normal=>exact⟨.normal,a',w',⟨M3,eF,eo,k1,k2,k3,k4,k5,k6⟩,.head step_scope (Steps.trans gm (.one step_inScope))⟩
 |exit id=>exact⟨.exit id,a',w',⟨M3,eF,eo,k1,k2,k3,k4,k5,k6⟩,fun k' hk=> .head step_scope (gm k' (by assumption))⟩
 |goto l'=>
  obtain⟨m,hJ⟩:=k6
  obtain⟨J5,Dm,kC⟩:=key m l' a' w' ⟨M3,eF,eo,k1,k2,k3,k4,k5,hJ⟩
  obtain⟨e2,a2,w2,qE,zT⟩:=kC b k cs
  have hg:gotoIn l' (.inScope cb::k)=some (.code J5:: .inScope cb::k):=by simp[gotoIn,Dm]
  exact⟨e2,a2,w2,qE,.of_steps (.head step_scope (gm _ hg)) zT⟩
 |ret=>exact⟨_,a',w',⟨M3,eF,eo,k1,k2,k3,k4,k5,k6⟩,.of_steps (.one step_scope) gm⟩
 |panic ch=>exact⟨_,a',w',⟨M3,eF,eo,k1,k2,k3,k4,k5,k6⟩,.of_steps (.one step_scope) gm⟩
 |outgrown=>exact⟨_,a',w',⟨M3,eF,eo,k1,k2,k3,k4,k5,k6⟩,.of_steps (.one step_scope) gm⟩
end
inductive RC where
 |tmp (t:Nat)
 |cell (t:Nat) (agg:Bool) (n:Nat)
structure FC where
 N:Nat
 code:SC
 res:List RC
def Cj(P:Program)[Glob P]:ResultVar→Option RC
 | .tmp t=>some (.tmp t)
 | .cell t ty=>(eH P ty).map fun(g,n)=> .cell t g n
def yo(tmps:Array Value):ResultVar→Sem Value
 | .tmp t=>pure (tmps.getD t undef)
 | .cell b t=>do loadVar t (← asAddr (tmps.getD b undef))
theorem Em(fn:Func)(tmps:Array Value):results fn tmps=(do let vs ← fn.results.mapM (yo tmps);pure (if h:vs.size=1 then vs[0]else .tuple vs)):=by
 rfl
def ql(P:Program)[Glob P]:List ResultVar→Option (List RC)
 |[]=>some []
 | .tmp t::l=>(ql P l).map (.tmp t::·)
 | .cell t ty::l=>match eH P ty with
  |some (g,n)=>(ql P l).map (.cell t g n::·)
  |none=>none
def j6(P:Program)[Glob P](fn:Func):Option FC:=
 match fn.body with
 |some c=>match cO P fn.ntmps c,ql P fn.results.toList with
  |some s,some r=>some ⟨fn.ntmps,s,r⟩
  |_,_=>none
 |none=>none
def nu(rg:ag)(σ:Store):RC→Option AV
 | .tmp t=>some (lk rg t)
 | .cell t g n=>match lk rg t with
  | .lp tg b o=>match aV σ tg with
   |some (b',.cells l)=>if b=b' then(if g then(if o+n≤l.length then some (.agg ((l.drop o).take n))else none)else l[o]?)else none
   |_=>none
  |_=>none
def mw(rg:ag)(σ:Store):List RC→Option (List AV)
 |[]=>some []
 |r::l=>match nu rg σ r with
  |some x=>(mw rg σ l).map (x::·)
  |none=>none
def cS(rg:ag)(σ:Store)(l:List RC):Option AV:=
 match mw rg σ l with
 |some [x]=>some x
 |some xs=>some (.bo xs)
 |none=>none
def Sub(σ σ':Store):Prop:=(σ.map (·.2)).Sublist (σ'.map (·.2))
theorem Sub.refl(σ:Store):Sub σ σ:=List.Sublist.refl _
theorem Sub.trans{a b c:Store}(h:Sub a b)(k:Sub b c):Sub a c:=List.Sublist.trans h k
theorem Sub.cons{σ σ':Store}{t b:Nat}{x:aZ}(h:Sub σ σ'):Sub σ ((t,b,x)::σ'):=List.Sublist.cons _ h
theorem Sub.same{σ σ':Store}{t t' b:Nat}{x:aZ}(h:Sub σ σ'):Sub ((t,b,x)::σ) ((t',b,x)::σ'):=List.Sublist.cons_cons _ h
theorem Inv.sub{P:Program}[Glob P]{M:Mem}{w0:Base}{w:World}{σ σ':Store}(hI:Inv P M w0 σ' w)(h:Sub σ σ'):Inv P M w0 σ w:=by
 refine⟨hI.os,hI.tape,hI.output,hI.size,hI.old,hI.bL,fun e he=> ?_,?_,hI.gl,hI.gw,hI.bm⟩
 ·have hm:e.2∈σ'.map (·.2):=h.subset (Yk he)
  obtain⟨e',jO,h2⟩:=Zi.1 hm
  have:=hI.st e' jO
  grind
 ·have h2:=h.map (·.1)
  simp at h2
  exact hI.nd.sublist h2
def Wk(x y:AV):Prop:=∀ M v,R M x v→R M y v
theorem Wk.refl(x:AV):Wk x x:=fun _ _ h=>h
theorem Wk.own{ez t b u c:Nat}{rows:List (List AV)}(nn:Bool):Wk (.own ez t b u c rows) (.sl nn ez rows):=fun _ _ h=>h.afv nn
theorem Wk.sl{ez:Nat}{rows:List (List AV)}:Wk (.sl true ez rows) (.sl false ez rows):=fun _ _ h=>h.aik
theorem Wk.nil{ez:Nat}:Wk (.v (.slice none 0 0)) (.sl false ez []):=fun _ _ h=>by rw[h.ay];exact .nil _ ez none (fun h=>nomatch h)
theorem Wk.lp{t t' b o:Nat}:Wk (.lp t b o) (.lp t' b o):=fun _ _ h=>by rw[h.oH];exact .lp _ _ _
theorem Wk.raw{t' b o:Nat}:Wk (.v (.pointer (some ⟨b,o,none⟩))) (.lp t' b o):=fun _ _ h=>by rw[h.ay];exact .lp _ _ _
theorem Wk.any(x:AV):Wk x .any:=fun _ v _=> .any v
theorem Wk.D5{x y:AV}(h:x=y):Wk x y:=h ▸ Wk.refl x
inductive ct:List AV→List AV→Prop
 |nil:ct [] []
 |cons {x y:AV} {xs ys:List AV} (h:Wk x y) (t:ct xs ys):ct (x::xs) (y::ys)
theorem ct.refl:∀ (l:List AV),ct l l
 |[]=> .nil
 |x::l=> .cons (Wk.refl x) (ct.refl l)
theorem ct.sound{M:Mem}{xs ys:List AV}(h:ct xs ys):∀ {vs:List Value},RL M xs vs→RL M ys vs:=by
 induction h with
 |nil=>grind
 |cons hx _ ih=>
  intro vs h
  obtain⟨v,vs',rfl,h1,h2⟩:=h.aX
  exact RL.cons (hx _ _ h1) (ih h2)
theorem ct.append{a b c d:List AV}(h:ct a b)(k:ct c d):ct (a++c) (b++d):=by
 induction h with
 |nil=>exact k
 |cons hx _ ih=>exact .cons hx ih
theorem Wk.agg{xs ys:List AV}(h:ct xs ys):Wk (.agg xs) (.agg ys):=fun _ _ k=>by
 obtain⟨cs,rfl,hl⟩:=k.oG
 exact R.oF (h.sound hl)
theorem Wk.bo{xs ys:List AV}(h:ct xs ys):Wk (.bo xs) (.bo ys):=fun _ _ k=>by
 obtain⟨cs,rfl,hl⟩:=k.QX
 exact R.td (h.sound hl)
theorem Wk.trans{x y z:AV}(h:Wk x y)(k:Wk y z):Wk x z:=fun M v hx=>k M v (h M v hx)
theorem Spec.wk{P:Program}[Glob P]{f:FuncId}{as bs:List AV}{σ:Store}{Q:gP→Store→Prop}(h:Spec P f bs σ Q)(hw:ct as bs):Spec P f as σ Q:=
 fun M w0 w cs hI hl=>h M w0 w cs hI (hw.sound hl)
theorem Pure.wk{P:Program}[Glob P]{f:FuncId}{as bs:List AV}{r:AV}(h:Pure P f bs r)(hw:ct as bs):Pure P f as r:=⟨fun σ=>(h.sp σ).wk hw⟩
theorem Spec.mono{P:Program}[Glob P]{f:FuncId}{as:List AV}{σ:Store}{Q Q':gP→Store→Prop}(h:Spec P f as σ Q)(hq:∀ r σ',Q r σ'→Q' r σ'):Spec P f as σ Q':=
 fun M w0 w cs hI hl=>(h M w0 w cs hI hl).mono fun _ _ ⟨M',r,σ',a,b,c,d⟩=>⟨M',r,σ',a,b,c,hq _ _ d⟩
def fi:Nat→List AV→ag
 |_,[]=>[]
 |k,x::l=>(k,x)::fi (k+1) l
def lq(res:List RC)(Q:gP→Store→Prop):Exit→ag→Store→Prop
 | .normal,rg,σ| .ret,rg,σ=>∃ x,cS rg σ res=some x∧Q (.ret x) σ
 | .panic ch,_,σ=>Q (.jW ch) σ
 |_,_,_=>False
section
variable {P:Program}[Glob P]{M:Mem}{w0:Base}{w:World}{σ:Store}{rg:ag}{a:Act}
theorem FO:∀ (as:List AV) (vs:List Value) (k:Nat) (tmps:Array Value),RL M as vs→(∀ i v,vs[i]? =some v→tmps[k+i]? =some v)→∀ i,R M (lk (fi k as) i) (tmps.getD i undef)
 |[],vs,k,tmps,_,_,i=> .any _
 |x::as,vs,k,tmps,h,ht,i=>by
  obtain⟨v,vs',rfl,hx,c9⟩:=h.aX
  simp only[fi,lk]
  cases hb:Nat.beq k i with
  |true=>
   have:=ht 0 v rfl
   simp_all
  |false=>exact FO as vs' (k+1) tmps c9 (fun j u hu=>by have:=ht (j+1) u (by grind);grind) i
theorem agd{r:RC}{rv:ResultVar}{x:AV}(hc:Cj P rv=some r)(hx:nu rg σ r=some x)(hI:Inv P M w0 σ w)(hR:bQ M rg a):
  ∃ v,(yo a.tmps rv).run P w= .ok v w∧R M x v:=by
 cases rv with
 |tmp t=>
  simp only[Cj,ZY]at hc
  subst hc
  simp only[nu,ZY]at hx
  subst hx
  exact⟨_,rfl,hR t⟩
 |cell t ty=>
  obtain⟨⟨g,n⟩,hg,rfl⟩:=Z9.1 hc
  simp only[nu]at hx
  have ht:=hR t
  split at hx
  ·rename_i tg b o he
   rw[he]at ht
   have hv:=ht.oH
   split at hx
   ·rename_i b' l hb
    split at hx
    case isFalse=>cases hx
    rename_i zV
    subst zV
    have hcell:∀ i y,(l.drop o)[i]? =some y→∃ v,w.cell? ⟨b,o+i,none⟩=some v∧R M y v:=fun i y e=>by
     rw[Yz]at e
     exact hI.cell hb e
    obtain⟨v,y,hr,fH,rfl⟩:=Eu (P:=P) (σ:=σ) (K:=fun y _=>y=x) hg (l.drop o) hcell (by
     grind)
    refine⟨v,?_,fH⟩
    simp only[yo,hv]
    simpa[Instr.loadAt,Instr.sureAddr,asAddr]using hr
   grind
  grind
theorem J6:∀ (Bg:List ResultVar) (rs:List RC) (xs:List AV),ql P Bg=some rs→mw rg σ rs=some xs→Inv P M w0 σ w→bQ M rg a→
  ∃ vs,(Bg.mapM (yo a.tmps):Sem (List Value)).run P w= .ok vs w∧RL M xs vs
 |[],rs,xs,hc,hx,_,_=>by
  simp only[ql,ZY]at hc
  subst hc
  simp only[mw,ZY]at hx
  subst hx
  exact⟨[],rfl,RL.nil⟩
 |rv::Bg,rs,xs,hc,hx,hI,hR=>by
  obtain⟨r,tA,rfl,hr,hrs⟩:∃ r tA,rs=r::tA∧Cj P rv=some r∧ql P Bg=some tA:=by
   cases rv with
   |tmp t=>
    obtain⟨tA,h1,rfl⟩:=Z9.1 hc
    exact⟨_,tA,rfl,rfl,h1⟩
   |cell t ty=>
    simp only[ql]at hc
    split at hc
    ·rename_i g n hg
     obtain⟨tA,h1,rfl⟩:=Z9.1 hc
     exact⟨_,tA,rfl,by simp[Cj,hg],h1⟩
    grind
  simp only[mw]at hx
  split at hx
  ·rename_i x ju
   obtain⟨xs',h2,rfl⟩:=Z9.1 hx
   obtain⟨v,hv,fH⟩:=agd hr ju hI hR
   obtain⟨vs,vn,hRL⟩:=J6 Bg tA xs' hrs h2 hI hR
   refine⟨v::vs,?_,RL.cons fH hRL⟩
   simp_all
  grind
theorem Spec.intro[gO P]{f:FuncId}{fn:Func}{fc:FC}{as:List AV}{Q:gP→Store→Prop}(hf:P.funcs[f]? =some fn)(hc:j6 P fn=some fc)(hlen:as.length≤fc.N)(h:SW P fc.N fc.code (lq fc.res Q) (fi 0 as) σ):Spec P f as σ Q:=by
 intro M w0 w cs hI hl
 unfold j6 at hc
 split at hc
 ·rename_i c hb
  split at hc
  ·rename_i s r hs hr
   cases hc
   have hle:cs.length≤fn.ntmps:=by rw[← hl.1];grind
   refine calls_of_wp hf hb (wp_mono (o7 (h c hs M w0 _ w hI ?_ ?_ gO.h.symm)) ?_)
   ·refine FO as cs 0 _ hl (fun i v hv=> ?_)
    grind
   ·grind
   ·rintro e a' w' ⟨M',ak,σ',hM,bp,nQ,hN,hD,hq⟩
    rw[gO.h]at hD
    have fin:∀ x,cS ak σ' r=some x→Q (.ret x) σ'→a'.defers=[]∧∃ v,(results fn a'.tmps).run P w'= .ok v w'∧∃ M' r Tt,M.le M'∧Inv P M' w0 Tt w'∧iH M' r (.returned v)∧Q r Tt:=by
     intro x hx hQ
     unfold cS at hx
     have cP:∀ xs,mw ak σ' r=some xs→∃ vs,(fn.results.mapM (yo a'.tmps):Sem (Array Value)).run P w'= .ok vs.toArray w'∧RL M' xs vs:=by
      intro xs c9
      obtain⟨vs,h1,h2⟩:=J6 fn.results.toList r xs hr c9 bp nQ
      exact⟨vs,by rw[Array.mapM_eq_mapM_toList,Sem.run_map,h1];rfl,h2⟩
     split at hx
     ·rename_i y hy
      cases hx
      obtain⟨vs,h1,h2⟩:=cP _ hy
      obtain⟨v,vs',rfl,h3,h4⟩:=h2.aX
      obtain rfl:=h4.pX
      refine⟨hD,v,?_,M',.ret x,σ',hM,bp,h3,hQ⟩
      rw[Em,Sem.run_bind,h1]
      simp
     ·rename_i xs aE hy
      cases hx
      obtain⟨vs,h1,h2⟩:=cP _ hy
      refine⟨hD,.tuple vs.toArray,?_,M',.ret (.bo xs),σ',hM,bp,R.td h2,hQ⟩
      rw[Em,Sem.run_bind,h1]
      simp only[Result.andThen_ok,Sem.run_pure]
      rw[dif_neg]
      intro bg
      have sG:xs.length=1:=by rw[h2.1];simpa using bg
      obtain⟨y,rfl⟩:=List.length_eq_one_iff.1 sG
      grind
     grind
    cases e with
    |normal=>obtain⟨x,hx,hQ⟩:=hq;exact fin x hx hQ
    |ret=>obtain⟨x,hx,hQ⟩:=hq;exact fin x hx hQ
    |panic ch=>exact⟨hD,M',.jW ch,σ',hM,bp,rfl,hq⟩
    |_=>exact hq.elim
  grind
 grind
def mr(res:List RC)(r:AV)(σ:Store):Exit→ag→Store→Prop
 | .normal,rg,σ'| .ret,rg,σ'=>∃ x,cS rg σ' res=some x∧Wk x r∧Sub σ σ'
 |_,_,_=>False
theorem Spec.weak{f:FuncId}{as:List AV}{Q Q':gP→Store→Prop}(h:Spec P f as σ Q)(hq:∀ r σ',Q r σ'→∃ r2 aJ,Q' r2 aJ∧Sub aJ σ'∧(match r,r2 with| .ret x,.ret y=>Wk x y| .jW c,.jW c'=>c=c'|_,_=>False)):Spec P f as σ Q':=by
 intro M w0 w cs hI hl
 refine(h M w0 w cs hI hl).mono fun e w' ⟨M',r,σ',a,b,c,d⟩=> ?_
 obtain⟨r2,aJ,h1,h2,h3⟩:=hq r σ' d
 refine⟨M',r2,aJ,a,b.sub h2,?_,h1⟩
 cases r with
 |ret x=>
  cases r2 with
  |ret y=>cases e<;>first|exact h3 _ _ c|exact c
  |jW c'=>grind
 |jW ch=>
  grind
theorem Pure.intro[gO P]{f:FuncId}{fn:Func}{fc:FC}{as:List AV}{r:AV}(hf:P.funcs[f]? =some fn)(hc:j6 P fn=some fc)(hlen:as.length≤fc.N)(h:∀ σ,SW P fc.N fc.code (mr fc.res r σ) (fi 0 as) σ):Pure P f as r:=by
 refine⟨fun σ=> ?_⟩
 have:=Spec.intro (Q:=fun r' σ'=>∃ x,r'= .ret x∧Wk x r∧Sub σ σ') hf hc hlen ((h σ).mono (fun e rg σ' hq=>by
  cases e with
  |normal=>obtain⟨x,h1,h2,h3⟩:=hq;exact⟨x,h1,x,rfl,h2,h3⟩
  |ret=>obtain⟨x,h1,h2,h3⟩:=hq;exact⟨x,h1,x,rfl,h2,h3⟩
  |_=>exact hq.elim))
 refine this.weak ?_
 grind
end
end Go.Sx
