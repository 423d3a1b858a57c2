/-
  The layer Sx, ninth part: regions, code, functions.
-/
import Derived.Test.YtcccbdelfhgmlaaGreatDoorSxSound
import Derived.Scope
set_option linter.unusedVariables false
set_option linter.unusedSimpArgs false
set_option linter.unusedSectionVars false
namespace Go.Sx
open Go.RowKit
structure CI where
 d:Option Nat
 op:aw
 g:Option (Nat×Bool)
structure CD where
 ix:Nat
 c:CI
 cf:List Nat
inductive SC where
 |skip
 |cE (l:List CI)
 |dV (l:List CI)
 |dC (ah:List Nat) (l:List CD)
 |seq (a b:SC)
 |cond (c:Operand) (t e:SC)
 |block (id:Nat) (b:SC)
 |loop (b:SC)
 |exit (id:Nat)
 |ret
 |scope (b:SC)
 |label (l:Nat)
 |goto (l:Nat)
def qM(P:Program)[Glob P](N:Nat)(ops:Array Oper)(o:Oper):Option CI:=
 match Dp P o,o.dst with
 |some mo,some t=>if t<N then
   match o.guard with
   |none=>some ⟨some t,mo,none⟩
   |some (j,want)=>match(ops[j]?).bind (·.dst)with
    |some u=>some ⟨some t,mo,some (u,want)⟩
    |none=>none
  else none
 |some mo,none=>
   match o.guard with
   |none=>some ⟨none,mo,none⟩
   |some (j,want)=>match(ops[j]?).bind (·.dst)with
    |some u=>some ⟨none,mo,some (u,want)⟩
    |none=>none
 |none,_=>none
def iA(P:Program)[Glob P](N:Nat)(ops:Array Oper):List Oper→Option (List CI)
 |[]=>some []
 |o::l=>match qM P N ops o with
  |some c=>(iA P N ops l).map (c::·)
  |none=>none
def aw.opers:aw→List Operand
 | .mv x| .box _ x| .load _ _ x| .kZ x| .un _ x| .mO _ x| .qN x| .nA _ x| .jI _ x| .field _ _ _ x| .extract x _| .len _ x| .panic x=>[x]
 | .pick c a b=>[c,a,b]
 | .alloc _ _=>[]
 | .build _ ps=>ps.map (·.2.2)
 | .bM _ _ ps=>ps
 | .store _ x y| .bin _ x y| .iX _ _ x y| .eqs _ _ x y| .gE _ x y| .jt _ _ x y| .idxs x y| .append _ _ _ _ x y| .max2 x y| .min2 x y=>[x,y]
 | .gG _ a b=>a++b
 | .slice _ x lo hi=>x::(lo.toList++hi.toList)
 | .call _ as=>as
 | .dY f as=>f::as
 | .cH _ _ _ as| .exts _ _ _ as=>as
def tmpsOf:List Operand→List Nat
 |[]=>[]
 | .tmp t::l=>t::tmpsOf l
 |_::l=>tmpsOf l
def CI.reads(c:CI):List Nat:=tmpsOf c.op.opers++(match c.g with|some (u,_)=>[u]|none=>[])
def posOf(t:Nat):List (Option Nat)→Nat→Option Nat
 |[],_=>none
 |x::l,k=>if x=some t then some k else posOf t l (k+1)
theorem Kx{t j:Nat}:∀ (l:List (Option Nat)) (k:Nat),posOf t l k=some j→∃ i,j=k+i∧l[i]? =some (some t)
 |[],k,h=>by cases h
 |x::l,k,h=>by
  simp only[posOf]at h
  split at h
  ·simp_all
  ·obtain⟨i,h1,h2⟩:=Kx l (k+1) h
   exact⟨i+1,by omega,by grind⟩
theorem Kw{t:Nat}:∀ (l:List (Option Nat)) (k:Nat),posOf t l k=none→some t∉l
 |[],k,h=>by simp
 |x::l,k,h=>by
  simp only[posOf]at h
  split at h
  ·cases h
  ·have:=Kw l (k+1) h
   grind
def aw.cls:aw→Nat
 | .load .. =>1
 | .alloc .. | .box .. =>2
 | .store .. =>3
 | .append .. | .exts .. =>4
 | .panic .. =>5
 |_=>0
def qO(ops:Array Oper)(l:List CI):Bool:=
 (l.map (·.d)).Nodup && l.all (fun c=>c.d.isSome && (Nat.ble c.op.cls 1 || (Nat.beq c.op.cls 4 && c.g.isNone))) &&
 (l.zip ops.toList).zipIdx.all fun((c,o),i)=>
  o.after.all (fun e=> !Region.binds .any e || decide (e.on<i)) &&
  c.reads.all fun t=>match posOf t (l.map (·.d)) 0 with
   |some j=>o.after.any fun e=>Region.binds .any e && e.on == j
   |none=>true
def vV:List CI→Nat→Option Nat
 |[],_=>none
 |c::l,k=>bif Nat.beq c.op.cls 4 then some k else vV l (k+1)
theorem Kv{k:Nat}:∀ (l:List CI) (m:Nat),vV l m=some k→∃ i,∃ h:i<l.length,k=m+i∧l[i].op.cls=4∧∀ j,j<i→(hj:j<l.length)→l[j].op.cls≠4
 |[],m,h=>by cases h
 |c::l,m,h=>by
  simp only[vV]at h
  cases e:Nat.beq c.op.cls 4 with
  |true=>simp_all
  |false=>
   rw[e]at h
   obtain⟨i,h1,h2,h3,h4⟩:=Kv l (m+1) h
   refine⟨i+1,by grind,by omega,by grind,fun j hj hl=> ?_⟩
   cases j with
   |zero=>intro e2;simp_all
   |succ j=>grind
def qP(ops:Array Oper)(l:List CI):Bool:=match vV l 0 with
 |none=>false
 |some k=>
 (l.map (·.d)).Nodup && l.all (fun c=>c.d.isSome && (Nat.ble c.op.cls 1 || (Nat.beq c.op.cls 4 && c.g.isNone))) &&
 (l.zip ops.toList).zipIdx.all fun((c,o),i)=>
  o.after.all (fun e=> !Region.binds .any e || decide (e.on<i)) &&
  c.reads.all fun t=>match posOf t (l.map (·.d)) 0 with
   |some j=>(o.after.any fun e=>Region.binds .any e && e.on == j) || (Nat.ble i k && Nat.blt k j)
   |none=>true
def gz(ops:Array Oper)(i j:Nat):Bool:=match ops[i]? with
 |some o=>o.after.any fun e=>Region.binds .any e && e.on == j
 |none=>false
def R9(ops:Array Oper):List CI→Nat→List Nat→List Nat
 |[],_,acc=>acc
 |c::l,i,acc=>R9 ops l (i+1) (bif Nat.ble 2 c.op.cls || acc.any (gz ops i)then i::acc else acc)
def Ts:aw→Option Nat
 | .store _ (.tmp s) _=>some s
 |_=>none
def isApp:aw→Bool
 | .append .. =>true
 |_=>false
def Aw(l:List CI):List Nat:=l.filterMap fun c=>bif Nat.beq c.op.cls 2 || isApp c.op then c.d else none
def Hg(s:Nat):List CI→Option aw
 |[]=>none
 |c::l=>match c.d with
  |some d=>bif Nat.beq d s then some c.op else Hg s l
  |none=>Hg s l
def rootOf(l:List CI):Nat→Nat→Option Nat
 |0,_=>none
 |n+1,s=>match Hg s l with
  |none=>some s
  |some (.alloc ..)|some (.box ..)=>some s
  |some (.jI _ (.tmp s'))|some (.kZ (.tmp s'))|some (.jt _ _ (.tmp s') _)|some (.gE _ (.tmp s') _)|some (.mv (.tmp s'))=>rootOf l n s'
  |_=>none
def xq(ops:Array Oper)(l0:List CI)(i:Nat):List CI→Nat→List Nat
 |[],_=>[]
 |c::l,j=>match Ts c.op with
  |some s=>bif gz ops i j || gz ops j i then xq ops l0 i l (j+1)else match rootOf l0 l0.length s with
   |some r=>bif (Aw l0).elem r then xq ops l0 i l (j+1)else r::xq ops l0 i l (j+1)
   |none=>xq ops l0 i l (j+1)
  |none=>xq ops l0 i l (j+1)
def JQ:aw→Bool
 | .call .. =>true
 |_=>false
def GY(ops:Array Oper)(i:Nat):List CI→Nat→List Nat
 |[],_=>[]
 |c::l,j=>bif JQ c.op && gz ops i j then c.d.toList++GY ops i l (j+1)else GY ops i l (j+1)
def Sy(ops:Array Oper)(l:List CI)(i:Nat):Option CD:=
 match l[i]? with
 |some c=>some ⟨i,c,bif Nat.beq c.op.cls 1 then xq ops l i l 0 else match Ts c.op with
  |some s=>(rootOf l l.length s).toList
  |none=>bif Nat.beq c.op.cls 0 then GY ops i l 0 else[]⟩
 |none=>none
def ER(d:Option Nat)(x:CD):Bool:=match d with
 |some d=> !x.c.reads.elem d && !x.cf.elem d
 |none=>true
def j2(ah:List Nat)(a c:CD):Bool:=
 ER a.c.d c && ER c.c.d a && (a.c.d.isNone || decide (a.c.d≠c.c.d)) &&
 match a.c.op.cls,c.c.op.cls with
 |0,_=>true
 |1,0|1,1=>true
 |1,2=>(match c.c.d with|some d=>ah.elem d|none=>false)
 |1,3=>(match c.cf with|[s]=>a.cf.elem s || ah.elem s|_=>false)
 |1,4=>(match c.c.d with|some d=>ah.elem d|none=>false)
 |2,2=>true
 |_,_=>false
def A9(ops:Array Oper):Nat→Nat→Nat→Bool
 |0,i,j=>gz ops i j
 |n+1,i,j=>gz ops i j || (List.range ops.size).any fun b=>gz ops i b && A9 ops n b j
def yK(ops:Array Oper)(ah:List Nat):List CD→Bool
 |[]=>true
 |a::l=> !gz ops a.ix a.ix && l.all (fun c=> !gz ops a.ix c.ix && (gz ops c.ix a.ix || j2 ah a c || (Nat.beq c.c.op.cls 4 && A9 ops 2 c.ix a.ix))) && yK ops ah l
def gI(x:CD):Bool:=(Nat.ble x.c.op.cls 3 || isApp x.c.op) && (Nat.ble x.c.op.cls 1 || x.c.g.isNone) && (!Nat.beq x.c.op.cls 2 || x.c.d.isSome)
def J7(l:List CI):Bool:=Nat.ble 2 (l.filter fun c=>Nat.beq c.op.cls 4).length
def EG(ops:Array Oper)(ah:List Nat)(ds:List CD):Bool:=
 decide ((ds.map (·.ix)).Nodup) && Nat.ble ds.length ops.size && (List.range ops.size).all (fun i=>ds.any fun x=>Nat.beq x.ix i) && ds.all gI && ops.all (fun o=>o.after.all fun e=> !Region.binds .any e || decide (e.on<ops.size)) && yK ops ah ds
def OD(ops:Array Oper):List CI→Nat→List Nat→List Nat
 |[],_,acc=>acc
 |c::l,i,acc=>OD ops l (i+1) (bif JQ c.op || acc.any (gz ops i)then i::acc else acc)
def BX(ops:Array Oper)(l:List CI):List CD:=
 let late:=R9 ops l 0 []
 let dep:=bif Nat.beq (l.filter fun c=>JQ c.op).length 1 then OD ops l 0 []else[]
 ((List.range l.length).filter (fun i=> !late.elem i && !dep.elem i)++(List.range l.length).filter (fun i=> !late.elem i && dep.elem i)++(List.range l.length).filter (fun i=>late.elem i)).filterMap (Sy ops l)
theorem Sw{ops:Array Oper}{l:List CI}{x:CD}(h:x∈BX ops l):l[x.ix]? =some x.c:=by
 obtain⟨i,_,hi⟩:=List.mem_filterMap.1 h
 unfold Sy at hi
 split at hi
 ·grind
 grind
def tN(ops:Array Oper):Nat:=bif tJ ops (ops.size-2)then 2 else 1
def iO(ops:Array Oper):Array Oper:=ops.extract 0 (ops.size-tN ops)
def nG(ops:Array Oper):Array Oper:=ops.extract (ops.size-tN ops) ops.size
def K9(ops:Array Oper):Bool:=Nat.ble (tN ops) ops.size && xG ops && xG (iO ops) && tJ ops (ops.size-tN ops) && (iO ops).all (fun o=>match o.guard with|some (j,_)=>Nat.blt j (ops.size-tN ops)|none=>true) && (nG ops).all (fun o=>o.guard.isNone)
def On(P:Program)[Glob P](N:Nat)(ops:Array Oper):Option SC:=
 match iA P N (iO ops) (iO ops).toList,iA P N (nG ops) (nG ops).toList with
 |some l1,some l2=>if K9 ops=true∧((qO (iO ops) l1=true∨qP (iO ops) l1=true)∧J7 l1=false)∧P.follows .mixedOrders=true then some (.seq (.dV l1) (.cE l2))else none
 |_,_=>none
def cB(P:Program)[Glob P](N:Nat):Code→Option SC
 | .skip=>some .skip
 | .region _ ops false=>(iA P N ops ops.toList).map .cE
 | .region _ ops true=>match iA P N ops ops.toList with
  |some l=>if J7 l=true∧EG ops (Aw l) (BX ops l)∧P.follows .mixedOrders=true then some (.dC (Aw l) (BX ops l))
    else if(qO ops l=true∨qP ops l=true)∧P.follows .mixedOrders=true then some (.dV l)
    else if EG ops (Aw l) (BX ops l)∧P.follows .mixedOrders=true then some (.dC (Aw l) (BX ops l))else On P N ops
  |none=>none
 | .seq a b=>match cB P N a,cB P N b with
  |some a,some b=>some (.seq a b)
  |_,_=>none
 | .cond c t e=>match cB P N t,cB P N e with
  |some t,some e=>some (.cond c t e)
  |_,_=>none
 | .block id b=>(cB P N b).map (.block id)
 | .loop b=>(cB P N b).map .loop
 | .exit id=>some (.exit id)
 | .ret=>some .ret
 | .scope b=>(cB P N b).map .scope
 | .label l=>some (.label l)
 | .goto l=>some (.goto l)
 |_=>none
def iB(P:Program)[Glob P](M:Mem)(w0:Base)(N:Nat)(Q:Exit→ag→Store→Prop):Exit→Act→World→Prop:=fun e a w=>
 ∃ M' rg σ,M.le M'∧Inv P M' w0 σ w∧bQ M' rg a∧a.tmps.size=N∧a.defers=Glob.df P∧Q e rg σ
def sM(P:Program)(c:Code)(Q:Exit→Act→World→Prop)(a:Act)(w:World):Prop:=match c with
 | .region _ ops true=>P.follows .mixedOrders=true∧∀ t,wpOps P ops Q (Region.linearise .any ops t) a {w with drawn:=w.drawn+1}
 | .region _ ops false=>wpOps P ops Q (List.range ops.size) a w
 |c=>c.wp P Q a w
theorem po{P:Program}{c:Code}{Q:Exit→Act→World→Prop}{a:Act}{w:World}(h:sM P c Q a w):c.wp P Q a w:=by
 unfold sM at h
 split at h
 ·refine wp_region_draw fun t=> ?_
  simp only[Region.schedule,h.1,Bool.true_or,Y4]
  grind
 ·exact wp_region h
 grind
theorem G8{P:Program}{id:Nat}{ops:Array Oper}{Q:Exit→Act→World→Prop}{a:Act}{w:World}(hm:P.follows .mixedOrders=true)(h:wpAny P .any ops Q ops.size (Array.replicate ops.size false) a {w with drawn:=w.drawn+1}):sM P (.region id ops true) Q a w:=
 ⟨hm,fun t=>wpAny_sound ops.size t _ a _ h⟩
def SW(P:Program)[Glob P](N:Nat)(s:SC)(Q:Exit→ag→Store→Prop)(rg:ag)(σ:Store):Prop:=
 ∀ c,cB P N c=some s→∀ (M:Mem) (w0:Base) (a:Act) (w:World),Inv P M w0 σ w→bQ M rg a→a.tmps.size=N→a.defers=Glob.df P→sM P c (iB P M w0 N Q) a w
def dO(P:Program)[Glob P](cfg:Nat→Nat)(c:CI)(K:AV→Store→Prop)(E:List PanicEntry→Store→Prop)(rg:ag)(σ:Store):Prop:=
 match c.g with
 |none=>aj P cfg c.d rg σ K E c.op
 |some (t,want)=>match lk rg t with
  | .v (.bool b)=>(b=want→aj P cfg c.d rg σ K E c.op)∧(b= !want→K (.v undef) σ)
  | .v (.tuple _)=>K (.v undef) σ
  |_=>False
def Gd(b want:Bool)(X Y:Prop):Prop:=(b=want→X)∧(b= !want→Y)
theorem Gd.l{b want:Bool}{X Y:Prop}(h:Gd b want X Y):b=want→X:=h.1
theorem Gd.r{b want:Bool}{X Y:Prop}(h:Gd b want X Y):b= !want→Y:=h.2
def qp(P:Program)[Glob P](cfg:Nat→Nat):List CI→(K:ag→Store→Prop)→(E:List PanicEntry→Store→Prop)→ag→Store→Prop
 |[],K,_,rg,σ=>K rg σ
 |c::l,K,E,rg,σ=>match c.g with
  |none=>aj P cfg c.d rg σ (fun x σ'=>qp P cfg l K E (cm c.d x rg) σ') E c.op
  |some (t,want)=>match lk rg t with
   | .v (.bool b)=>Gd b want (aj P cfg c.d ((t,.v (.bool want))::rg) σ (fun x σ'=>qp P cfg l K E (cm c.d x ((t,.v (.bool want))::rg)) σ') E c.op)
     (qp P cfg l K E (cm c.d (.v undef) ((t,.v (.bool !want))::rg)) σ)
   | .v (.tuple _)=>qp P cfg l K E (cm c.d (.v undef) rg) σ
   |_=>False
theorem EB{rg:ag}{t:Nat}{x:AV}(h:lk rg t=x)(i:Nat):lk ((t,x)::rg) i=lk rg i:=by
 simp only[lk]
 cases hb:Nat.beq t i with
 |true=>simp_all
 |false=>rfl
theorem axJ{P:Program}[Glob P]{cfg:Nat→Nat}{c:CI}{l:List CI}{K:ag→Store→Prop}{E:List PanicEntry→Store→Prop}{rg:ag}{σ:Store}(h:qp P cfg (c::l) K E rg σ):
  ∃ ao,(∀ i,lk ao i=lk rg i)∧dO P cfg c (fun x σ'=>qp P cfg l K E (cm c.d x ao) σ') E ao σ:=by
 simp only[qp]at h
 split at h
 ·exact⟨rg,fun _=>rfl,by unfold dO;grind⟩
 ·rename_i t want hg
  split at h
  ·rename_i b hb
   by_cases s7:b=want
   ·subst s7
    have e:lk ((t,AV.v (.bool b))::rg) t= .v (.bool b):=by simp[lk,YB]
    refine⟨_,EB hb,?_⟩
    unfold dO
    rw[hg]
    simp only[e]
    exact⟨fun _=>h.l rfl,fun h'=>by grind⟩
   ·have iG:b= !want:=by cases b<;>cases want<;>simp_all
    subst iG
    have e:lk ((t,AV.v (.bool !want))::rg) t= .v (.bool !want):=by simp[lk,YB]
    refine⟨_,EB hb,?_⟩
    unfold dO
    rw[hg]
    simp only[e]
    exact⟨fun h'=>absurd h' s7,fun _=>h.r rfl⟩
  ·exact⟨rg,fun _=>rfl,by unfold dO;grind⟩
  grind
section
variable {P:Program}[Glob P]{M:Mem}{w0:Base}{w:World}{σ:Store}{rg:ag}{a:Act}{cfg:Nat→Nat}{N:Nat}
theorem uY{ops:Array Oper}{o:Oper}{c:CI}(hc:qM P N ops o=some c){K:AV→Store→Prop}{E:List PanicEntry→Store→Prop}(h:dO P cfg c K E rg σ)(hI:Inv P M w0 σ w)(hR:bQ M rg a)
  {next:Act→World→Prop} {Q:Exit→Act→World→Prop} (hg:zZ P M w0 w K E o a next Q):
  if Region.wanted o (yielded ops a.tmps)then o.wp P a w next Q∨(o.asks P a w∧LetsOut Q)else next (a.put o.dst undef) w:=by
 obtain⟨mo,aeQ,hd,bP,s9⟩:∃ mo,Dp P o=some mo∧c.d=o.dst∧c.op=mo∧((o.guard=none∧c.g=none)∨∃ j want u,o.guard=some (j,want)∧(ops[j]?).bind (·.dst)=some u∧c.g=some (u,want)):=by
  unfold qM at hc
  split at hc
  ·grind
  ·grind
  grind
 have run:aj P cfg c.d rg σ K E c.op→o.wp P a w next Q:=fun h=>acp (cfg:=cfg) (d:=c.d) aeQ (by grind) hI hR hg
 have Us:K (.v undef) σ→next (a.put o.dst undef) w:=fun h=>hg.val M _ σ undef w (Mem.le.refl _) hI (.v _) h
 unfold dO at h
 rcases s9 with⟨h1,h2⟩|⟨j,want,u,h1,h2,h3⟩
 ·rw[h2]at h
  simp only[Region.wanted,h1,Y4]
  grind
 ·rw[h3]at h
  simp only at h
  have hy:yielded ops a.tmps j=match a.tmps[u]? with
   |some (.bool b)=>some b
   |_=>none:=by unfold yielded;grind
  have hu:=hR u
  split at h
  ·rename_i b hb
   rw[hb]at hu
   have hv:=hu.ay
   have ht:a.tmps[u]? =some (.bool b):=by
    rw[Z2]at hv
    cases he:a.tmps[u]? with
    |none=>rw[he]at hv;simp[undef]at hv
    |some y=>rw[he]at hv;simp at hv;rw[hv]
   have JK:yielded ops a.tmps j=some b:=by rw[hy,ht]
   simp only[Region.wanted,h1,JK]
   by_cases s7:b=want
   ·subst s7
    simp only[beq_self_eq_true,Y4]
    exact .inl (run (h.1 rfl))
   ·have:(some b == some want)=false:=by simp[s7]
    simp only[this,ZM,Zf]
    exact Us (h.2 (by cases b<;>cases want<;>simp_all))
  ·rename_i vs hb
   rw[hb]at hu
   have hv:=hu.ay
   have JK:yielded ops a.tmps j=none:=by
    rw[hy]
    rw[Z2]at hv
    cases he:a.tmps[u]? with
    |none=>rfl
    |some y=>rw[he]at hv;simp at hv;rw[hv]
   simp only[Region.wanted,h1,JK]
   have:((none:Option Bool) == some want)=false:=rfl
   simp only[this,ZM,Zf]
   exact Us h
  grind
theorem AD{ops:Array Oper}{o:Oper}{c:CI}(hc:qM P N ops o=some c):c.d=o.dst∧∀ t,c.d=some t→t<N:=by
 unfold qM at hc
 split at hc
 ·grind
 ·grind
 grind
theorem wB(ops:Array Oper){Q:Exit→ag→Store→Prop}{K:ag→Store→Prop}(hK:∀ rg σ,K rg σ→Q .normal rg σ):
  ∀ (os:List Oper) (k:Nat) (l:List CI),iA P N ops os=some l→(∀ i,i<os.length→ops[k+i]? =os[i]?)→
  ∀ (M:Mem) (w0:Base) (w:World) (a:Act) (rg:ag) (σ:Store),qp P cfg l K (fun ch σ'=>Q (.panic ch) [] σ') rg σ→Inv P M w0 σ w→bQ M rg a→a.tmps.size=N→a.defers=Glob.df P→
   wpOps P ops (iB P M w0 N Q) (List.range' k os.length) a w
 |[],k,l,hl,_,M,w0,w,a,rg,σ,h,hI,hR,hN,hD=>by
  simp only[iA,Z1]at hl
  subst hl
  exact⟨M,rg,σ,Mem.le.refl _,hI,hR,hN,hD,hK rg σ h⟩
 |o::os,k,l,hl,ho,M,w0,w,a,rg,σ,h,hI,hR,hN,hD=>by
  simp only[iA]at hl
  split at hl
  ·rename_i c hc
   obtain⟨l',gg,rfl⟩:=ZQ.1 hl
   have Jg:ops[k]? =some o:=by simpa using ho 0 (by simp)
   obtain⟨ao,vz,h⟩:=axJ h
   replace hR:bQ M ao a:=fun i=>by rw[vz];exact hR i
   obtain⟨j6,ax⟩:=AD hc
   simp only[Z6,List.range'_succ,wpOps,Jg]
   refine uY hc h hI hR ⟨fun M' x σ' v w' hM aP hx hk=> ?_,fun M' ch σ' w' hM aP hk=> ?_⟩
   ·have ih:=wB ops hK os (k+1) l' gg (fun i hi=>by have:=ho (i+1) (by simpa using hi);rw[show k+1+i=k+(i+1)from by omega];simpa using this) M' w0 w' (a.put o.dst v) (cm c.d x ao) σ' hk aP
     (by rw[j6];exact(hR.mono hM).put o.dst (fun t ht=>by rw[hN];exact ax t (j6.trans ht)) hx) (by rw[Act.size_put];exact hN) (by rw[Act.AG];exact hD)
    refine rX ?_ _ _ _ ih
    rintro e a2 w2 ⟨M2,cq,az,h1,h2⟩
    exact⟨M2,cq,az,hM.trans h1,h2⟩
   ·exact⟨M',[],σ',hM,aP,fun i=> .any _,hN,hD,hk⟩
  ·cases hl
where
 rX {ops:Array Oper} {Q Q':Exit→Act→World→Prop} (h:∀ e a w,Q e a w→Q' e a w):∀ (is:List Nat) (a:Act) (w:World),wpOps P ops Q is a w→wpOps P ops Q' is a w
 |[],a,w,hq=>h _ _ _ hq
 |i::is,a,w,hq=>by
  rw[wpOps_cons]at hq ⊢
  unfold wpOp at hq ⊢
  split
  ·rename_i e;rw[e]at hq;exact rX h is a w hq
  ·rename_i o e
   rw[e]at hq
   simp only at hq
   split
   ·rename_i hw
    rw[Z8 hw]at hq
    refine hq.imp (fun hh=> ?_) (fun⟨x,y⟩=>⟨x,y.elim fun a h'=>h'.elim fun w xH=>⟨a,w,h _ _ _ xH⟩⟩)
    have h1:=Oper.wp_mono (K':=wpOps P ops Q' is) (fun a w=>rX h is a w) hh
    unfold Oper.wp at h1 ⊢
    generalize (execOp a.eval o).run P w=r at h1
    cases r with
    |ok n w'=>
     cases n<;>simp only[Oper.upon]at h1 ⊢<;>first
      |exact h1
      |exact Calls.mono h1 (fun e FV he=>by cases e<;>first|exact he|exact h _ _ _ he|exact he.elim fun a h'=>h'.elim fun w xH=>⟨a,w,h _ _ _ xH⟩)
    |halt x w'=>cases x<;>simp only[Oper.upon]at h1 ⊢<;>first|exact h1|exact h _ _ _ h1
   ·rename_i hw
    rw[Z9 hw]at hq
    exact rX h is _ _ hq
theorem G9{c:Code}{Q Q':Exit→Act→World→Prop}(h:sM P c Q a w)(hq:∀ e a w,Q e a w→Q' e a w):sM P c Q' a w:=by
 unfold sM at h ⊢
 split
 ·exact⟨h.1,fun t=>wB.rX hq _ _ _ (h.2 t)⟩
 ·exact wB.rX hq _ _ _ h
 ·have h':c.wp P Q a w:=by
   grind
  exact wp_mono h' hq
theorem LA{ops ops':Array Oper}{Q:Exit→Act→World→Prop}(f:Nat→Nat)(L2:List Nat):∀ (L:List Nat),(∀ i∈L,ops'[i]? =ops[f i]?∧∀ o,ops'[i]? =some o→∀ tmps,Region.wanted o (yielded ops' tmps)=Region.wanted o (yielded ops tmps))→∀ (a:Act) (w:World),
  wpOps P ops' (Exit.then (wpOps P ops Q L2) Q) L a w→wpOps P ops Q (L.map f++L2) a w
 |[],_,a,w,h=>h
 |i::L,hL,a,w,h=>by
  have ih:=LA (ops:=ops) (ops':=ops') (Q:=Q) f L2 L (fun j hj=>hL j (ZU _ hj))
  obtain⟨h1,h2⟩:=hL i ZJ
  rw[Zu,ZC,wpOps_cons]
  rw[wpOps_cons]at h
  unfold wpOp at h ⊢
  rw[← h1]
  split
  ·grind
  ·rename_i o e
   rw[e]at h
   simp only at h
   rw[← h2 o e]
   split
   ·rename_i hw
    rw[Z8 hw]at h
    refine h.imp (fun hh=> ?_) (fun⟨x,y⟩=>⟨x,y⟩)
    have h3:=Oper.wp_mono (K':=wpOps P ops Q (L.map f++L2)) (fun a w=>ih a w) hh
    generalize (execOp a.eval o).run P w=r at h3
    cases r with
    |ok n w'=>
     assumption
    |halt x w'=>assumption
   grind
theorem axZ{o:Oper}{ops ops':Array Oper}(h:∀ j want,o.guard=some (j,want)→ops'[j]? =ops[j]?)(tmps:Array Value):Region.wanted o (yielded ops' tmps)=Region.wanted o (yielded ops tmps):=by
 unfold Region.wanted
 cases hg:o.guard with
 |none=>rfl
 |some g=>
  obtain⟨j,want⟩:=g
  simp only[yielded,h j want hg]
theorem G4{M M':Mem}(h:M.le M'){Q:Exit→ag→Store→Prop}{e:Exit}{a:Act}{w:World}:iB P M' w0 N Q e a w→iB P M w0 N Q e a w:=
 fun⟨M2,cq,az,h1,h2⟩=>⟨M2,cq,az,h.trans h1,h2⟩
theorem SW.mono{s:SC}{Q Q':Exit→ag→Store→Prop}(h:SW P N s Q rg σ)(hq:∀ e rg σ,Q e rg σ→Q' e rg σ):SW P N s Q' rg σ:=
 fun c hc M w0 a w hI hR hN hD=>G9 (h c hc M w0 a w hI hR hN hD) fun _ _ _ ⟨M2,cq,az,h1,h2,h3,h4,h5,h6⟩=>⟨M2,cq,az,h1,h2,h3,h4,h5,hq _ _ _ h6⟩
theorem SW.fG(l:List Nat){s:SC}{Q:Exit→ag→Store→Prop}(h:SW P N s Q (fG l rg) σ):SW P N s Q rg σ:=
 fun c hc M w0 a w hI hR hN hD=>h c hc M w0 a w hI (hR.fG l) hN hD
def nH(K:ag→Store→Prop)(Q:Exit→ag→Store→Prop):Exit→ag→Store→Prop
 | .normal,rg,σ=>K rg σ
 |e,rg,σ=>Q e rg σ
def qH(id:Nat)(Q:Exit→ag→Store→Prop):Exit→ag→Store→Prop
 | .exit pV,rg,σ=>if pV=id then Q .normal rg σ else Q (.exit pV) rg σ
 |e,rg,σ=>Q e rg σ
def nN(P:Program)[Glob P](N:Nat)(c:Code):SC→Prop
 | .skip=>c= .skip
 | .cE l=>∃ id ops,c= .region id ops false∧iA P N ops ops.toList=some l
 | .dV l=>∃ id ops,c= .region id ops true∧iA P N ops ops.toList=some l∧(qO ops l=true∨qP ops l=true)∧P.follows .mixedOrders=true
 | .dC ah ds=>∃ id ops l,c= .region id ops true∧iA P N ops ops.toList=some l∧(∀ x∈ds,l[x.ix]? =some x.c)∧EG ops ah ds=true∧P.follows .mixedOrders=true
 | .seq a b=>(∃ ca cb,c= .seq ca cb∧cB P N ca=some a∧cB P N cb=some b)∨
   ∃ id ops l1 l2,c= .region id ops true∧a= .dV l1∧b= .cE l2∧iA P N (iO ops) (iO ops).toList=some l1∧iA P N (nG ops) (nG ops).toList=some l2∧K9 ops=true∧((qO (iO ops) l1=true∨qP (iO ops) l1=true)∧J7 l1=false)∧P.follows .mixedOrders=true
 | .cond x a b=>∃ ca cb,c= .cond x ca cb∧cB P N ca=some a∧cB P N cb=some b
 | .block id b=>∃ cb,c= .block id cb∧cB P N cb=some b
 | .loop b=>∃ cb,c= .loop cb∧cB P N cb=some b
 | .exit id=>c= .exit id
 | .ret=>c= .ret
 | .scope b=>∃ cb,c= .scope cb∧cB P N cb=some b
 | .label l=>c= .label l
 | .goto l=>c= .goto l
theorem eD{c:Code}{s:SC}(h:cB P N c=some s):nN P N c s:=by
 cases c with
 |skip=>simp only[cB,Z1]at h;subst h;rfl
 |region id ops draw=>
  cases draw with
  |false=>
   simp only[cB]at h
   obtain⟨l,h1,rfl⟩:=ZQ.1 h
   exact⟨id,ops,rfl,h1⟩
  |true=>
   simp only[cB]at h
   split at h
   ·rename_i l hl
    split at h
    ·rename_i hd;cases h;exact⟨id,ops,l,rfl,hl,fun x hx=>Sw hx,hd.2.1,hd.2.2⟩
    split at h
    ·rename_i hd;cases h;exact⟨id,ops,rfl,hl,hd.1,hd.2⟩
    ·split at h
     ·rename_i hd;cases h;exact⟨id,ops,l,rfl,hl,fun x hx=>Sw hx,hd.1,hd.2⟩
     ·unfold On at h
      split at h
      ·rename_i l1 l2 e1 e2
       split at h
       ·rename_i hd;cases h;exact .inr ⟨id,ops,l1,l2,rfl,rfl,rfl,e1,e2,hd.1,hd.2.1,hd.2.2⟩
       grind
      grind
   grind
 |seq a b=>
  simp only[cB]at h
  split at h
  ·rename_i x y h1 h2;cases h;exact .inl ⟨a,b,rfl,h1,h2⟩
  grind
 |cond x a b=>
  simp only[cB]at h
  split at h
  ·rename_i x y h1 h2;cases h;exact⟨a,b,rfl,h1,h2⟩
  grind
 |block id b=>
  simp only[cB]at h
  obtain⟨l,h1,rfl⟩:=ZQ.1 h
  exact⟨b,rfl,h1⟩
 |loop b=>
  simp only[cB]at h
  obtain⟨l,h1,rfl⟩:=ZQ.1 h
  exact⟨b,rfl,h1⟩
 |exit id=>simp only[cB,Z1]at h;subst h;rfl
 |ret=>simp only[cB,Z1]at h;subst h;rfl
 |scope b=>
  simp only[cB]at h
  obtain⟨l,h1,rfl⟩:=ZQ.1 h
  exact⟨b,rfl,h1⟩
 |label l=>simp only[cB,Z1]at h;subst h;rfl
 |goto l=>simp only[cB,Z1]at h;subst h;rfl
 |_=>simp[cB]at h
def mS:SC→Nat→Option SC
 | .seq a b,l=>match mS a l with
  |some r=>some (.seq r b)
  |none=>mS b l
 | .label l',l=>if l' == l then some .skip else none
 |_,_=>none
theorem HK{l:Nat}:∀ (c:Code) (s:SC),cB P N c=some s→match mS s l with
  |some r=>∃ rest,findLabel c l=some rest∧cB P N rest=some r
  |none=>findLabel c l=none
 | .seq ca cb,s,h=>by
  cases s with
  |seq a b=>
   rcases eD h with⟨ca',cb',e,h1,h2⟩|⟨id,ops,l1,l2,e,_⟩
   ·cases e
    have i1:=HK (l:=l) ca a h1
    have i2:=HK (l:=l) cb b h2
    simp only[mS,findLabel]
    cases e1:mS a l with
    |some r=>
     rw[e1]at i1
     obtain⟨rest,g1,g2⟩:=i1
     exact⟨.seq rest cb,by rw[g1],by simp only[cB,g2,h2]⟩
    |none=>
     grind
   grind
  |_=>
   have:=eD h
   simp only[nN]at this
   grind
 | .label l',s,h=>by
  simp only[cB,Z1]at h
  subst h
  simp only[mS,findLabel]
  by_cases e:(l' == l)=true
  ·rw[Z8 e];exact⟨.skip,by grind,rfl⟩
  grind
 | .region id ops draw,s,h=>by
  have:=eD h
  cases s<;>simp only[nN,reduceCtorEq,false_and,X8,X7,and_false]at this<;>simp only[mS,findLabel]
  rename_i a b
  rcases this with⟨_,_,e,_⟩|⟨_,_,l1,l2,e,e1,e2,_⟩
  ·rw[e1,e2];exact trivial
 | .skip,s,h=>by have:=eD h;cases s<;>simp only[nN,reduceCtorEq,false_and,X8,X7,or_self]at this<;>rfl
 | .cond _ _ _,s,h=>by have:=eD h;cases s<;>simp only[nN,reduceCtorEq,false_and,X8,X7,or_self]at this<;>rfl
 | .block _ _,s,h=>by have:=eD h;cases s<;>simp only[nN,reduceCtorEq,false_and,X8,X7,or_self]at this<;>rfl
 | .loop _,s,h=>by have:=eD h;cases s<;>simp only[nN,reduceCtorEq,false_and,X8,X7,or_self]at this<;>rfl
 | .exit _,s,h=>by have:=eD h;cases s<;>simp only[nN,reduceCtorEq,false_and,X8,X7,or_self]at this<;>rfl
 | .ret,s,h=>by have:=eD h;cases s<;>simp only[nN,reduceCtorEq,false_and,X8,X7,or_self]at this<;>rfl
 | .scope _,s,h=>by have:=eD h;cases s<;>simp only[nN,reduceCtorEq,false_and,X8,X7,or_self]at this<;>rfl
 | .goto _,s,h=>by have:=eD h;cases s<;>simp only[nN,reduceCtorEq,false_and,X8,X7,or_self]at this<;>rfl
 | .rangeFunc _ _ _ _,s,h=>by simp[cB]at h
 | .refuse _,s,h=>by simp[cB]at h
theorem WE{l:List CI}{Q:Exit→ag→Store→Prop}(cfg:Nat→Nat)(h:qp P cfg l (Q .normal) (fun ch σ'=>Q (.panic ch) [] σ') rg σ):SW P N (.cE l) Q rg σ:=by
 intro c hc M w0 a w hI hR hN hD
 obtain⟨id,ops,rfl,hl⟩:=eD hc
 show wpOps _ _ _ _ _ _
 have:=wB (P:=P) (N:=N) (cfg:=cfg) ops (Q:=Q) (K:=Q .normal) (fun _ _ h=>h) ops.toList 0 l hl (fun i hi=>by simp) M w0 w a rg σ h hI hR hN hD
 rw[X0]
 grind
theorem Mz{x y:SC}{Q:Exit→ag→Store→Prop}(h:SW P N x (nH (SW P N y Q) Q) rg σ):SW P N (.seq x y) Q rg σ:=by
 intro c hc M w0 a w hI hR hN hD
 rcases eD hc with⟨ca,cb,rfl,h1,h2⟩|⟨id,ops,l1,l2,rfl,rfl,rfl,e1,e2,hT,hd,s8⟩
 ·refine wp_seq (wp_mono (po (h ca h1 M w0 a w hI hR hN hD)) ?_)
  rintro e a2 w2 ⟨M2,cq,az,g1,g2,g3,g4,g5,g6⟩
  cases e with
  |normal=>
   refine wp_mono (po (g6 cb h2 M2 w0 a2 w2 g2 g3 g4 g5)) ?_
   intro e a3 w3 hh
   exact G4 g1 hh
  |_=>exact⟨M2,cq,az,g1,g2,g3,g4,g5,g6⟩
 ·unfold K9 at hT
  simp only[Z0]at hT
  obtain⟨⟨⟨⟨⟨dt,hf⟩,hfp⟩,hl⟩,hgp⟩,hgs⟩:=hT
  have dt:=Z7 dt
  have ak:(iO ops).size=ops.size-tN ops:=by unfold iO;grind
  have iJ:(nG ops).size=tN ops:=by unfold nG;grind
  have pM:∀ i,i<ops.size-tN ops→(iO ops)[i]? =ops[i]? :=fun i hi=>by
   unfold iO;grind
  have fy:cB P N (.region id (iO ops) true)=some (.dV l1):=by
   simp only[cB,e1]
   grind
  have jL:cB P N (.region id (nG ops) false)=some (.cE l2):=by simp only[cB,e2];rfl
  refine⟨s8,fun t=> ?_⟩
  have eY:=(h _ fy M w0 a w hI hR hN hD).2 t
  rw[Se _ hfp,ak]at eY
  have e0:Region.linearise .any ops t=jd (iO ops) (ops.size-tN ops) t (fun i=> !Nat.blt i (ops.size-tN ops))++List.range' (ops.size-tN ops) (ops.size-(ops.size-tN ops)):=by
   rw[Se _ hf]
   have:=ahn hf hl ak (fun i h h' xH=>by
    have:=pM i h
    rw[ZL xH,ZL h']at this
    exact Y2 this) (ops.size-tN ops) t (fun i=> !Nat.blt i (ops.size-tN ops)) (fun i=> !Nat.blt i ops.size) (Zk (XE _ _) (by simp)) (fun i=>by
     by_cases hi:i<ops.size-tN ops
     ·have a1:Nat.blt i (ops.size-tN ops)=true:=by rw[Yd];exact hi
      have a2:Nat.blt i ops.size=true:=by rw[Yd];omega
      rw[Z8 hi,a1,a2]
     ·rw[Z9 hi])
   rwa [show ops.size-tN ops+(ops.size-(ops.size-tN ops))=ops.size by omega]at this
  rw[e0]
  have hL:∀ i∈jd (iO ops) (ops.size-tN ops) t (fun i=> !Nat.blt i (ops.size-tN ops)),i<ops.size-tN ops:=fun i hi=>by
   rw[← ak];exact Tl _ _ _ _ hi
  have key:=LA (P:=P) (ops:=ops) (ops':=iO ops) (Q:=iB P M w0 N Q) (fun i=>i) (List.range' (ops.size-tN ops) (ops.size-(ops.size-tN ops))) (jd (iO ops) (ops.size-tN ops) t (fun i=> !Nat.blt i (ops.size-tN ops))) (fun i hi=>⟨pM i (hL i hi),fun o ho tmps=>axZ (fun j want hg=>pM j (by
   have hm:=XD ho
   have:=ZE.1 hgp o hm
   rw[hg]at this
   simpa only[Yd]using this)) tmps⟩) a _ (wB.rX ?_ _ _ _ eY)
  ·rw[List.map_id'']at key
   ·exact key
   ·exact fun _=>rfl
  ·rintro e a2 w2 ⟨M2,cq,az,g1,g2,g3,g4,g5,g6⟩
   cases e with
   |normal=>
    have tu:wpOps P (nG ops) (iB P M2 w0 N Q) (List.range (nG ops).size) a2 w2:=g6 _ jL M2 w0 a2 w2 g2 g3 g4 g5
    rw[iJ]at tu
    have R2:=LA (P:=P) (ops:=ops) (ops':=nG ops) (Q:=iB P M w0 N Q) (fun i=>ops.size-tN ops+i) [] (List.range (tN ops)) (fun i hi=>⟨by
     have:=Y6.1 hi
     unfold nG;rw[Array.getElem?_extract,Z8 (by omega)],fun o ho tmps=>by
     have hm:=XD ho
     have:=ZE.1 hgs o hm
     simp only[Option.isNone_iff_eq_none]at this
     simp[Region.wanted,this]⟩) a2 w2 (wB.rX (fun e a3 w3 hh=>by cases e<;>exact G4 g1 hh) _ _ _ tu)
    rw[Zg]at R2
    rw[show ops.size-(ops.size-tN ops)=tN ops by omega]
    show wpOps P ops _ _ a2 w2
    have e3:(List.range (tN ops)).map (fun i=>ops.size-tN ops+i)=List.range' (ops.size-tN ops) (tN ops):=by rw[List.range'_eq_map_range]
    rw[← e3];exact R2
   |_=>exact⟨M2,cq,az,g1,g2,g3,g4,g5,g6⟩
theorem MA{Q:Exit→ag→Store→Prop}(h:Q .normal rg σ):SW P N .skip Q rg σ:=by
 intro c hc M w0 a w hI hR hN hD
 obtain rfl:=eD hc
 exact wp_skip ⟨M,rg,σ,Mem.le.refl _,hI,hR,hN,hD,h⟩
theorem My{Q:Exit→ag→Store→Prop}(h:Q .ret rg σ):SW P N .ret Q rg σ:=by
 intro c hc M w0 a w hI hR hN hD
 obtain rfl:=eD hc
 exact wp_ret ⟨M,rg,σ,Mem.le.refl _,hI,hR,hN,hD,h⟩
theorem Ms{id:Nat}{Q:Exit→ag→Store→Prop}(h:Q (.exit id) rg σ):SW P N (.exit id) Q rg σ:=by
 intro c hc M w0 a w hI hR hN hD
 obtain rfl:=eD hc
 exact wp_exit ⟨M,rg,σ,Mem.le.refl _,hI,hR,hN,hD,h⟩
theorem Mr{x:Operand}{s t:SC}{Q:Exit→ag→Store→Prop}{b:Bool}(hx:ev rg x= .v (.bool b))(h1:b=true→SW P N s Q rg σ)(h2:b=false→SW P N t Q rg σ):SW P N (.cond x s t) Q rg σ:=by
 intro c hc M w0 a w hI hR hN hD
 obtain⟨ca,cb,rfl,g1,g2⟩:=eD hc
 have he:=hR.ev x
 rw[hx]at he
 exact wp_cond_split he.ay (fun hb=>po (h1 hb _ g1 M w0 a w hI hR hN hD)) (fun hb=>po (h2 hb _ g2 M w0 a w hI hR hN hD))
theorem Mq{id:Nat}{s:SC}{Q:Exit→ag→Store→Prop}(h:SW P N s (qH id Q) rg σ):SW P N (.block id s) Q rg σ:=by
 intro c hc M w0 a w hI hR hN hD
 obtain⟨cb,rfl,h1⟩:=eD hc
 refine wp_block (wp_mono (po (h _ h1 M w0 a w hI hR hN hD)) ?_)
 rintro e a2 w2 ⟨M2,cq,az,g1,g2,g3,g4,g5,g6⟩
 cases e with
 |exit pV=>
  simp only[qH]at g6
  simp only[Exit.inBlock]
  split
  ·rename_i e;rw[Z8 e]at g6;exact⟨M2,cq,az,g1,g2,g3,g4,g5,g6⟩
  ·rename_i e;rw[Z9 e]at g6;exact⟨M2,cq,az,g1,g2,g3,g4,g5,g6⟩
 |_=>exact⟨M2,cq,az,g1,g2,g3,g4,g5,g6⟩
theorem Mv{s:SC}{Q:Exit→ag→Store→Prop}(I:Nat→ag→Store→Prop)(n:Nat)(h0:I n rg σ)(h:∀ n rg σ,I n rg σ→SW P N s (nH (fun ao σ'=>∃ n',n'<n∧I n' ao σ') Q) rg σ):SW P N (.loop s) Q rg σ:=by
 intro c hc M w0 a w hI hR hN hD
 obtain⟨cb,rfl,ri⟩:=eD hc
 have key:∀ (m:Nat) (a:Act) (w:World),(∃ M2 cq az,M.le M2∧Inv P M2 w0 az w∧bQ M2 cq a∧a.tmps.size=N∧a.defers=Glob.df P∧I m cq az)→
   ∀ (b:Frame) (k:List Item) (cs:List Frame),∃ e a' w',iB P M w0 N Q e a' w'∧Arrives P (lone (b.at a (.code cb:: .inLoop cb::k)) cs w) b k cs e a' w':=by
  intro m
  induction m using Nat.strongRecOn with
  |_ m ih=>
   rintro a w ⟨M2,cq,az,g1,g2,g3,g4,g5,g6⟩ b k cs
   obtain⟨e,a',w',hq,gy⟩:=po (h m cq az g6 cb ri M2 w0 a w g2 g3 g4 g5) b (.inLoop cb::k) cs
   obtain⟨M3,eJ,dS,k1,k2,k3,k4,k5,k6⟩:=hq
   cases e with
   |normal=>
    obtain⟨m',ax,hIm⟩:=k6
    obtain⟨e2,a2,w2,eG,A8⟩:=ih m' ax a' w' ⟨M3,eJ,dS,g1.trans k1,k2,k3,k4,k5,hIm⟩ b k cs
    exact⟨e2,a2,w2,eG,.of_steps (Steps.trans gy (.one step_inLoop)) A8⟩
   |exit id=>exact⟨_,a',w',⟨M3,eJ,dS,g1.trans k1,k2,k3,k4,k5,k6⟩,.pass (x:= .inLoop cb) rfl (fun _ _=> .inl (by simp)) gy⟩
   |goto l=>exact⟨_,a',w',⟨M3,eJ,dS,g1.trans k1,k2,k3,k4,k5,k6⟩,.pass (x:= .inLoop cb) rfl (fun _ _=> .inl (by simp)) gy⟩
   |ret=>exact⟨_,a',w',⟨M3,eJ,dS,g1.trans k1,k2,k3,k4,k5,k6⟩,.pass (x:= .inLoop cb) rfl (fun _ _=> .inl (by simp)) gy⟩
   |panic ch=>exact⟨_,a',w',⟨M3,eJ,dS,g1.trans k1,k2,k3,k4,k5,k6⟩,.pass (x:= .inLoop cb) rfl (fun _ _=> .inl (by simp)) gy⟩
   |outgrown=>exact⟨_,a',w',⟨M3,eJ,dS,g1.trans k1,k2,k3,k4,k5,k6⟩,.pass (x:= .inLoop cb) rfl (fun _ _=> .inl (by simp)) gy⟩
 intro b k cs
 obtain⟨e,a',w',hq,gy⟩:=key n a w ⟨M,rg,σ,Mem.le.refl _,hI,hR,hN,hD,h0⟩ b k cs
 exact⟨e,a',w',hq,.of_steps (.one step_loop) gy⟩
theorem Mu{l:Nat}{Q:Exit→ag→Store→Prop}(h:Q .normal rg σ):SW P N (.label l) Q rg σ:=by
 intro c hc M w0 a w hI hR hN hD
 obtain rfl:=eD hc
 exact wp_label ⟨M,rg,σ,Mem.le.refl _,hI,hR,hN,hD,h⟩
theorem Mt{l:Nat}{Q:Exit→ag→Store→Prop}(h:Q (.goto l) rg σ):SW P N (.goto l) Q rg σ:=by
 intro c hc M w0 a w hI hR hN hD
 obtain rfl:=eD hc
 exact wp_goto ⟨M,rg,σ,Mem.le.refl _,hI,hR,hN,hD,h⟩
def tH(J:Nat→ag→Store→Prop)(Q:Exit→ag→Store→Prop):Exit→ag→Store→Prop
 | .goto l,rg,σ=>J l rg σ
 |e,rg,σ=>Q e rg σ
theorem WH{s:SC}{Q:Exit→ag→Store→Prop}(J:Nat→Nat→ag→Store→Prop)(h0:SW P N s (tH (fun l rg σ=>∃ n,J l n rg σ) Q) rg σ)
  (h:∀ l n rg σ,J l n rg σ→∃ r,mS s l=some r∧SW P N r (tH (fun l' ao σ'=>∃ n',n'<n∧J l' n' ao σ') Q) rg σ):SW P N (.scope s) Q rg σ:=by
 intro c hc M w0 a w hI hR hN hD
 obtain⟨cb,rfl,ri⟩:=eD hc
 have key:∀ (m l:Nat) (a:Act) (w:World),(∃ M2 cq az,M.le M2∧Inv P M2 w0 az w∧bQ M2 cq a∧a.tmps.size=N∧a.defers=Glob.df P∧J l m cq az)→
   ∃ rest,findLabel cb l=some rest∧∀ (b:Frame) (k:List Item) (cs:List Frame),∃ e a' w',iB P M w0 N Q e a' w'∧Arrives P (lone (b.at a (.code rest:: .inScope cb::k)) cs w) b k cs e a' w':=by
  intro m
  induction m using Nat.strongRecOn with
  |_ m ih=>
   rintro l a w ⟨M2,cq,az,g1,g2,g3,g4,g5,g6⟩
   obtain⟨r,hr,hsw⟩:=h l m cq az g6
   have hf:=HK (P:=P) (N:=N) (l:=l) cb s ri
   rw[hr]at hf
   obtain⟨rest,oy,eS⟩:=hf
   refine⟨rest,oy,fun b k cs=> ?_⟩
   obtain⟨e,a',w',hq,gy⟩:=po (hsw rest eS M2 w0 a w g2 g3 g4 g5) b (.inScope cb::k) cs
   obtain⟨M3,eJ,dS,k1,k2,k3,k4,k5,k6⟩:=hq
   cases e with
   |normal=>exact⟨.normal,a',w',⟨M3,eJ,dS,g1.trans k1,k2,k3,k4,k5,k6⟩,Steps.trans gy (.one step_inScope)⟩
   |exit id=>exact⟨.exit id,a',w',⟨M3,eJ,dS,g1.trans k1,k2,k3,k4,k5,k6⟩,fun k' hk=>gy k' (by assumption)⟩
   |goto l'=>
    obtain⟨m',ax,hJ⟩:=k6
    obtain⟨KH,Jr,ml⟩:=ih m' ax l' a' w' ⟨M3,eJ,dS,g1.trans k1,k2,k3,k4,k5,hJ⟩
    obtain⟨e2,a2,w2,eG,A8⟩:=ml b k cs
    have hg:gotoIn l' (.inScope cb::k)=some (.code KH:: .inScope cb::k):=by simp[gotoIn,Jr]
    exact⟨e2,a2,w2,eG,.of_steps (gy _ hg) A8⟩
   |ret=>exact⟨_,a',w',⟨M3,eJ,dS,g1.trans k1,k2,k3,k4,k5,k6⟩,gy⟩
   |panic ch=>exact⟨_,a',w',⟨M3,eJ,dS,g1.trans k1,k2,k3,k4,k5,k6⟩,gy⟩
   |outgrown=>exact⟨_,a',w',⟨M3,eJ,dS,g1.trans k1,k2,k3,k4,k5,k6⟩,gy⟩
 intro b k cs
 obtain⟨e,a',w',hq,gy⟩:=po (h0 cb ri M w0 a w hI hR hN hD) b (.inScope cb::k) cs
 obtain⟨M3,eJ,dS,k1,k2,k3,k4,k5,k6⟩:=hq
 cases e with
 |normal=>exact⟨.normal,a',w',⟨M3,eJ,dS,k1,k2,k3,k4,k5,k6⟩,.head step_scope (Steps.trans gy (.one step_inScope))⟩
 |exit id=>exact⟨.exit id,a',w',⟨M3,eJ,dS,k1,k2,k3,k4,k5,k6⟩,fun k' hk=> .head step_scope (gy k' (by assumption))⟩
 |goto l'=>
  obtain⟨m,hJ⟩:=k6
  obtain⟨KH,Jr,ml⟩:=key m l' a' w' ⟨M3,eJ,dS,k1,k2,k3,k4,k5,hJ⟩
  obtain⟨e2,a2,w2,eG,A8⟩:=ml b k cs
  have hg:gotoIn l' (.inScope cb::k)=some (.code KH:: .inScope cb::k):=by simp[gotoIn,Jr]
  exact⟨e2,a2,w2,eG,.of_steps (.head step_scope (gy _ hg)) A8⟩
 |ret=>exact⟨_,a',w',⟨M3,eJ,dS,k1,k2,k3,k4,k5,k6⟩,.of_steps (.one step_scope) gy⟩
 |panic ch=>exact⟨_,a',w',⟨M3,eJ,dS,k1,k2,k3,k4,k5,k6⟩,.of_steps (.one step_scope) gy⟩
 |outgrown=>exact⟨_,a',w',⟨M3,eJ,dS,k1,k2,k3,k4,k5,k6⟩,.of_steps (.one step_scope) gy⟩
end
inductive RC where
 |tmp (t:Nat)
 |cell (t:Nat) (agg:Bool) (n:Nat)
structure FC where
 N:Nat
 code:SC
 res:List RC
def AE(P:Program)[Glob P]:ResultVar→Option RC
 | .tmp t=>some (.tmp t)
 | .cell t ty=>(eV P ty).map fun(g,n)=> .cell t g n
def yZ(tmps:Array Value):ResultVar→Sem Value
 | .tmp t=>pure (tmps.getD t undef)
 | .cell b t=>do loadVar t (← asAddr (tmps.getD b undef))
theorem TX(fn:Func)(tmps:Array Value):results fn tmps=(do let vs ← fn.results.mapM (yZ tmps);pure (if h:vs.size=1 then vs[0]else .tuple vs)):=by
 unfold results
 have:(fun(x:ResultVar)=>match x with
  | .tmp t=>(pure (tmps.getD t undef):Sem Value)
  | .cell a t=>do loadVar t (← asAddr (tmps.getD a undef)))=yZ tmps:=by
  funext x;cases x<;>rfl
 rw[← this]
 congr 2
def sL(P:Program)[Glob P]:List ResultVar→Option (List RC)
 |[]=>some []
 | .tmp t::l=>(sL P l).map (.tmp t::·)
 | .cell t ty::l=>match eV P ty with
  |some (g,n)=>(sL P l).map (.cell t g n::·)
  |none=>none
def cK(P:Program)[Glob P](fn:Func):Option FC:=
 match fn.body with
 |some c=>match cB P fn.ntmps c,sL P fn.results.toList with
  |some s,some r=>some ⟨fn.ntmps,s,r⟩
  |_,_=>none
 |none=>none
def vX(rg:ag)(σ:Store):RC→Option AV
 | .tmp t=>some (lk rg t)
 | .cell t g n=>match lk rg t with
  | .lp tg b o=>match aR σ tg with
   |some (b',.cells l)=>if b=b' then(if g then(if o+n≤l.length then some (.agg ((l.drop o).take n))else none)else l[o]?)else none
   |_=>none
  |_=>none
def ua(rg:ag)(σ:Store):List RC→Option (List AV)
 |[]=>some []
 |r::l=>match vX rg σ r with
  |some x=>(ua rg σ l).map (x::·)
  |none=>none
def yW(rg:ag)(σ:Store)(l:List RC):Option AV:=
 match ua rg σ l with
 |some [x]=>some x
 |some xs=>some (.aT xs)
 |none=>none
def Sub(σ σ':Store):Prop:=(σ.map (·.2)).Sublist (σ'.map (·.2))
theorem Sub.refl(σ:Store):Sub σ σ:=List.Sublist.refl _
theorem Sub.trans{a b c:Store}(h:Sub a b)(k:Sub b c):Sub a c:=List.Sublist.trans h k
theorem Sub.cons{σ σ':Store}{t b:Nat}{x:cG}(h:Sub σ σ'):Sub σ ((t,b,x)::σ'):=List.Sublist.cons _ h
theorem Sub.same{σ σ':Store}{t t' b:Nat}{x:cG}(h:Sub σ σ'):Sub ((t,b,x)::σ) ((t',b,x)::σ'):=List.Sublist.cons_cons _ h
theorem Inv.sub{P:Program}[Glob P]{M:Mem}{w0:Base}{w:World}{σ σ':Store}(hI:Inv P M w0 σ' w)(h:Sub σ σ'):Inv P M w0 σ w:=by
 refine⟨hI.os,hI.tape,hI.output,hI.size,hI.old,hI.dA,fun e he=> ?_,?_,hI.gl,hI.gw,hI.bm⟩
 ·have hm:e.2∈σ'.map (·.2):=h.subset (Yq he)
  obtain⟨e',x5,h2⟩:=YX.1 hm
  have:=hI.st e' x5
  rw[← h2]
  exact this
 ·have h2:=h.map (·.1)
  simp only[Yf]at h2
  exact hI.nd.sublist h2
def Wk(x y:AV):Prop:=∀ M v,R M x v→R M y v
theorem Wk.refl(x:AV):Wk x x:=fun _ _ h=>h
theorem Wk.own{ez t b u c:Nat}{rows:List (List AV)}(nn:Bool):Wk (.own ez t b u c rows) (.sl nn ez rows):=fun _ _ h=>h.ahb nn
theorem Wk.sl{ez:Nat}{rows:List (List AV)}:Wk (.sl true ez rows) (.sl false ez rows):=fun _ _ h=>h.awr
theorem Wk.nil{ez:Nat}:Wk (.v (.slice none 0 0)) (.sl false ez []):=fun _ _ h=>by rw[h.ay];exact .nil _ ez none (fun h=>nomatch h)
theorem Wk.lp{t t' b o:Nat}:Wk (.lp t b o) (.lp t' b o):=fun _ _ h=>by rw[h.oJ];exact .lp _ _ _
theorem Wk.raw{t' b o:Nat}:Wk (.v (.pointer (some ⟨b,o,none⟩))) (.lp t' b o):=fun _ _ h=>by rw[h.ay];exact .lp _ _ _
theorem Wk.any(x:AV):Wk x .any:=fun _ v _=> .any v
theorem Wk.oK{x y:AV}(h:x=y):Wk x y:=h ▸ Wk.refl x
inductive dc:List AV→List AV→Prop
 |nil:dc [] []
 |cons {x y:AV} {xs ys:List AV} (h:Wk x y) (t:dc xs ys):dc (x::xs) (y::ys)
theorem dc.refl:∀ (l:List AV),dc l l
 |[]=> .nil
 |x::l=> .cons (Wk.refl x) (dc.refl l)
theorem dc.sound{M:Mem}{xs ys:List AV}(h:dc xs ys):∀ {vs:List Value},RL M xs vs→RL M ys vs:=by
 induction h with
 |nil=>exact fun h=>h
 |cons hx _ ih=>
  intro vs h
  obtain⟨v,jh,rfl,h1,h2⟩:=h.bS
  exact RL.cons (hx _ _ h1) (ih h2)
theorem dc.append{a b c d:List AV}(h:dc a b)(k:dc c d):dc (a++c) (b++d):=by
 induction h with
 |nil=>exact k
 |cons hx _ ih=>exact .cons hx ih
theorem Wk.agg{xs ys:List AV}(h:dc xs ys):Wk (.agg xs) (.agg ys):=fun _ _ k=>by
 obtain⟨cs,rfl,hl⟩:=k.qd
 exact R.tM (h.sound hl)
theorem Wk.aT{xs ys:List AV}(h:dc xs ys):Wk (.aT xs) (.aT ys):=fun _ _ k=>by
 obtain⟨cs,rfl,hl⟩:=k.EU
 exact R.EI (h.sound hl)
theorem Wk.trans{x y z:AV}(h:Wk x y)(k:Wk y z):Wk x z:=fun M v hx=>k M v (h M v hx)
theorem Spec.wk{P:Program}[Glob P]{f:FuncId}{as bs:List AV}{σ:Store}{Q:dH→Store→Prop}(h:Spec P f bs σ Q)(hw:dc as bs):Spec P f as σ Q:=
 fun M w0 w cs hI hl=>h M w0 w cs hI (hw.sound hl)
theorem Pure.wk{P:Program}[Glob P]{f:FuncId}{as bs:List AV}{r:AV}(h:Pure P f bs r)(hw:dc as bs):Pure P f as r:=⟨fun σ=>(h.sp σ).wk hw⟩
theorem Spec.mono{P:Program}[Glob P]{f:FuncId}{as:List AV}{σ:Store}{Q Q':dH→Store→Prop}(h:Spec P f as σ Q)(hq:∀ r σ',Q r σ'→Q' r σ'):Spec P f as σ Q':=
 fun M w0 w cs hI hl=>(h M w0 w cs hI hl).mono fun _ _ ⟨M',r,σ',a,b,c,d⟩=>⟨M',r,σ',a,b,c,hq _ _ d⟩
def jZ:Nat→List AV→ag
 |_,[]=>[]
 |k,x::l=>(k,x)::jZ (k+1) l
def mD(res:List RC)(Q:dH→Store→Prop):Exit→ag→Store→Prop
 | .normal,rg,σ| .ret,rg,σ=>∃ x,yW rg σ res=some x∧Q (.ret x) σ
 | .panic ch,_,σ=>Q (.dn ch) σ
 |_,_,_=>False
section
variable {P:Program}[Glob P]{M:Mem}{w0:Base}{w:World}{σ:Store}{rg:ag}{a:Act}
theorem GN:∀ (as:List AV) (vs:List Value) (k:Nat) (tmps:Array Value),RL M as vs→(∀ i v,vs[i]? =some v→tmps[k+i]? =some v)→∀ i,R M (lk (jZ k as) i) (tmps.getD i undef)
 |[],vs,k,tmps,_,_,i=> .any _
 |x::as,vs,k,tmps,h,ht,i=>by
  obtain⟨v,jh,rfl,hx,fK⟩:=h.bS
  simp only[jZ,lk]
  cases hb:Nat.beq k i with
  |true=>
   have e:=ZB hb
   subst e
   have:=ht 0 v rfl
   simp only[YP]at this
   rw[Z2,this]
   exact hx
  |false=>exact GN as jh (k+1) tmps fK (fun j u hu=>by have:=ht (j+1) u (by simpa using hu);rwa [show k+1+j=k+(j+1)from by omega]) i
theorem ah2{r:RC}{rv:ResultVar}{x:AV}(hc:AE P rv=some r)(hx:vX rg σ r=some x)(hI:Inv P M w0 σ w)(hR:bQ M rg a):
  ∃ v,(yZ a.tmps rv).run P w= .ok v w∧R M x v:=by
 cases rv with
 |tmp t=>
  simp only[AE,Z1]at hc
  subst hc
  simp only[vX,Z1]at hx
  subst hx
  exact⟨_,rfl,hR t⟩
 |cell t ty=>
  simp only[AE]at hc
  obtain⟨⟨g,n⟩,hg,rfl⟩:=ZQ.1 hc
  simp only[vX]at hx
  have ht:=hR t
  split at hx
  ·rename_i tg b o he
   rw[he]at ht
   have hv:=ht.oJ
   split at hx
   ·rename_i b' l hb
    split at hx
    case isFalse=>cases hx
    rename_i Ba
    subst Ba
    have hcell:∀ i y,(l.drop o)[i]? =some y→∃ v,w.cell? ⟨b,o+i,none⟩=some v∧R M y v:=fun i y e=>by
     rw[XK]at e
     exact hI.cell hb e
    obtain⟨v,y,hr,Iu,rfl⟩:=Fp (P:=P) (σ:=σ) (K:=fun y _=>y=x) hg (l.drop o) hcell (by
     cases g with
     |true=>
      simp only[Y4]at hx ⊢
      split at hx
      ·rename_i ax;simp only[Z1]at hx;exact⟨by simp;omega,hx⟩
      ·cases hx
     |false=>
      simp only[ZM,Zf]at hx ⊢
      rw[XK,YP,hx])
    refine⟨v,?_,Iu⟩
    simp only[yZ,hv]
    simpa[Instr.loadAt,Instr.sureAddr,asAddr]using hr
   ·cases hx
  ·cases hx
theorem TY:∀ (Cp:List ResultVar) (rs:List RC) (xs:List AV),sL P Cp=some rs→ua rg σ rs=some xs→Inv P M w0 σ w→bQ M rg a→
  ∃ vs,(Cp.mapM (yZ a.tmps):Sem (List Value)).run P w= .ok vs w∧RL M xs vs
 |[],rs,xs,hc,hx,_,_=>by
  simp only[sL,Z1]at hc
  subst hc
  simp only[ua,Z1]at hx
  subst hx
  exact⟨[],rfl,RL.nil⟩
 |rv::Cp,rs,xs,hc,hx,hI,hR=>by
  obtain⟨r,uc,rfl,hr,hrs⟩:∃ r uc,rs=r::uc∧AE P rv=some r∧sL P Cp=some uc:=by
   cases rv with
   |tmp t=>
    simp only[sL]at hc
    obtain⟨uc,h1,rfl⟩:=ZQ.1 hc
    exact⟨_,uc,rfl,rfl,h1⟩
   |cell t ty=>
    simp only[sL]at hc
    split at hc
    ·rename_i g n hg
     obtain⟨uc,h1,rfl⟩:=ZQ.1 hc
     exact⟨_,uc,rfl,by simp[AE,hg],h1⟩
    ·cases hc
  simp only[ua]at hx
  split at hx
  ·rename_i x vF
   obtain⟨xs',h2,rfl⟩:=ZQ.1 hx
   obtain⟨v,hv,Iu⟩:=ah2 hr vF hI hR
   obtain⟨vs,pR,hRL⟩:=TY Cp uc xs' hrs h2 hI hR
   refine⟨v::vs,?_,RL.cons Iu hRL⟩
   rw[List.mapM_cons,Sem.run_bind,hv]
   simp only[Result.andThen_ok,Sem.run_bind,pR,Sem.run_pure]
  ·cases hx
theorem Spec.intro[kG P]{f:FuncId}{fn:Func}{fc:FC}{as:List AV}{Q:dH→Store→Prop}(hf:P.funcs[f]? =some fn)(hc:cK P fn=some fc)(hlen:as.length≤fc.N)(h:SW P fc.N fc.code (mD fc.res Q) (jZ 0 as) σ):Spec P f as σ Q:=by
 intro M w0 w cs hI hl
 unfold cK at hc
 split at hc
 ·rename_i c hb
  split at hc
  ·rename_i s r hs hr
   cases hc
   have hle:cs.length≤fn.ntmps:=by rw[← hl.1];exact hlen
   refine calls_of_wp hf hb (wp_mono (po (h c hs M w0 _ w hI ?_ ?_ kG.h.symm)) ?_)
   ·refine GN as cs 0 _ hl (fun i v hv=> ?_)
    have hi:i<cs.length:=(ZP.1 hv).1
    rw[Zc,XY (by simpa using hi)]
    simpa using hv
   ·simp;omega
   ·rintro e a' w' ⟨M',ao,σ',hM,aP,qS,hN,hD,hq⟩
    rw[kG.h]at hD
    have fin:∀ x,yW ao σ' r=some x→Q (.ret x) σ'→a'.defers=[]∧∃ v,(results fn a'.tmps).run P w'= .ok v w'∧∃ M' r V4,M.le M'∧Inv P M' w0 V4 w'∧uJ M' r (.returned v)∧Q r V4:=by
     intro x hx hQ
     unfold yW at hx
     have eY:∀ xs,ua ao σ' r=some xs→∃ vs,(fn.results.mapM (yZ a'.tmps):Sem (Array Value)).run P w'= .ok vs.toArray w'∧RL M' xs vs:=by
      intro xs fK
      obtain⟨vs,h1,h2⟩:=TY fn.results.toList r xs hr fK aP qS
      exact⟨vs,by rw[Array.mapM_eq_mapM_toList,Sem.run_map,h1];rfl,h2⟩
     split at hx
     ·rename_i y hy
      cases hx
      obtain⟨vs,h1,h2⟩:=eY _ hy
      obtain⟨v,jh,rfl,h3,h4⟩:=h2.bS
      obtain rfl:=h4.rR
      refine⟨hD,v,?_,M',.ret x,σ',hM,aP,h3,hQ⟩
      rw[TX,Sem.run_bind,h1]
      simp
     ·rename_i xs aJ hy
      cases hx
      obtain⟨vs,h1,h2⟩:=eY _ hy
      refine⟨hD,.tuple vs.toArray,?_,M',.ret (.aT xs),σ',hM,aP,R.EI h2,hQ⟩
      rw[TX,Sem.run_bind,h1]
      simp only[Result.andThen_ok,Sem.run_pure]
      rw[dif_neg]
      intro aQ
      have nc:xs.length=1:=by rw[h2.1];simpa using aQ
      obtain⟨y,rfl⟩:=List.length_eq_one_iff.1 nc
      exact aJ y rfl
     ·cases hx
    cases e with
    |normal=>obtain⟨x,hx,hQ⟩:=hq;exact fin x hx hQ
    |ret=>obtain⟨x,hx,hQ⟩:=hq;exact fin x hx hQ
    |panic ch=>exact⟨hD,M',.dn ch,σ',hM,aP,rfl,hq⟩
    |_=>exact hq.elim
  ·cases hc
 ·cases hc
def nE(res:List RC)(r:AV)(σ:Store):Exit→ag→Store→Prop
 | .normal,rg,σ'| .ret,rg,σ'=>∃ x,yW rg σ' res=some x∧Wk x r∧Sub σ σ'
 |_,_,_=>False
theorem Spec.weak{f:FuncId}{as:List AV}{Q Q':dH→Store→Prop}(h:Spec P f as σ Q)(hq:∀ r σ',Q r σ'→∃ r2 az,Q' r2 az∧Sub az σ'∧(match r,r2 with| .ret x,.ret y=>Wk x y| .dn c,.dn c'=>c=c'|_,_=>False)):Spec P f as σ Q':=by
 intro M w0 w cs hI hl
 refine(h M w0 w cs hI hl).mono fun e w' ⟨M',r,σ',a,b,c,d⟩=> ?_
 obtain⟨r2,az,h1,h2,h3⟩:=hq r σ' d
 refine⟨M',r2,az,a,b.sub h2,?_,h1⟩
 cases r with
 |ret x=>
  cases r2 with
  |ret y=>cases e<;>first|exact h3 _ _ c|exact c
  |dn c'=>exact h3.elim
 |dn ch=>
  cases r2 with
  |ret y=>exact h3.elim
  |dn c'=>have:ch=c':=h3;subst this;exact c
theorem Pure.intro[kG P]{f:FuncId}{fn:Func}{fc:FC}{as:List AV}{r:AV}(hf:P.funcs[f]? =some fn)(hc:cK P fn=some fc)(hlen:as.length≤fc.N)(h:∀ σ,SW P fc.N fc.code (nE fc.res r σ) (jZ 0 as) σ):Pure P f as r:=by
 refine⟨fun σ=> ?_⟩
 have:=Spec.intro (Q:=fun r' σ'=>∃ x,r'= .ret x∧Wk x r∧Sub σ σ') hf hc hlen ((h σ).mono (fun e rg σ' hq=>by
  cases e with
  |normal=>obtain⟨x,h1,h2,h3⟩:=hq;exact⟨x,h1,x,rfl,h2,h3⟩
  |ret=>obtain⟨x,h1,h2,h3⟩:=hq;exact⟨x,h1,x,rfl,h2,h3⟩
  |_=>exact hq.elim))
 refine this.weak ?_
 rintro r' σ' ⟨x,rfl,h2,h3⟩
 exact⟨.ret r,σ,⟨rfl,rfl⟩,h3,h2⟩
end
end Go.Sx
