/-
  The layer Sx, ninth part: regions, code, functions.
-/
import Derived.Test.YtajimcniogfpcaaGreatDoorSxSound
import Derived.Scope
set_option linter.unusedVariables false
set_option linter.unusedSimpArgs false
set_option linter.unusedSectionVars false
namespace Go.Sx
open Go.RowKit
structure CI where
 d:Option Nat
 op:aw
 g:Option (Nat×Bool)
structure CD where
 ix:Nat
 c:CI
 cf:List Nat
inductive SC where
 |skip
 |ck (l:List CI)
 |dF (l:List CI)
 |eE (ah:List Nat) (l:List CD)
 |seq (a b:SC)
 |cond (c:Operand) (t e:SC)
 |block (id:Nat) (b:SC)
 |loop (b:SC)
 |exit (id:Nat)
 |ret
 |scope (b:SC)
 |label (l:Nat)
 |goto (l:Nat)
def rC(P:Program)[Glob P](N:Nat)(ops:Array Oper)(o:Oper):Option CI:=
 match D4 P o,o.dst with
 |some iK,some t=>if t<N then
   match o.guard with
   |none=>some ⟨some t,iK,none⟩
   |some (j,want)=>match(ops[j]?).bind (·.dst)with
    |some u=>some ⟨some t,iK,some (u,want)⟩
    |none=>none
  else none
 |some iK,none=>
   match o.guard with
   |none=>some ⟨none,iK,none⟩
   |some (j,want)=>match(ops[j]?).bind (·.dst)with
    |some u=>some ⟨none,iK,some (u,want)⟩
    |none=>none
 |none,_=>none
def jb(P:Program)[Glob P](N:Nat)(ops:Array Oper):List Oper→Option (List CI)
 |[]=>some []
 |o::l=>match rC P N ops o with
  |some c=>(jb P N ops l).map (c::·)
  |none=>none
def aw.opers:aw→List Operand
 | .mv x| .box _ x| .load _ _ x| .nk x| .un _ x| .mI _ x| .nF x| .oe _ x| .dk _ x| .field _ _ _ x| .extract x _| .len _ x| .panic x=>[x]
 | .pick c a b=>[c,a,b]
 | .alloc _ _=>[]
 | .build _ ps=>ps.map (·.2.2)
 | .dZ _ _ ps=>ps
 | .store _ x y| .bin _ x y| .jR _ _ x y| .eqs _ _ x y| .iz _ x y| .mY _ _ x y| .idxs x y| .append _ _ _ _ x y| .max2 x y| .min2 x y=>[x,y]
 | .od _ a b=>a++b
 | .slice _ x lo hi=>x::(lo.toList++hi.toList)
 | .call _ as=>as
 | .fR f as=>f::as
 | .cQ _ _ _ as| .exts _ _ _ as=>as
def tmpsOf:List Operand→List Nat
 |[]=>[]
 | .tmp t::l=>t::tmpsOf l
 |_::l=>tmpsOf l
def CI.reads(c:CI):List Nat:=tmpsOf c.op.opers++(match c.g with|some (u,_)=>[u]|none=>[])
def posOf(t:Nat):List (Option Nat)→Nat→Option Nat
 |[],_=>none
 |x::l,k=>if x=some t then some k else posOf t l (k+1)
theorem LV{t j:Nat}:∀ (l:List (Option Nat)) (k:Nat),posOf t l k=some j→∃ i,j=k+i∧l[i]? =some (some t)
 |[],k,h=>by cases h
 |x::l,k,h=>by
  simp only[posOf]at h
  split at h
  ·simp_all
  ·obtain⟨i,h1,h2⟩:=LV l (k+1) h
   exact⟨i+1,by omega,by grind⟩
theorem LU{t:Nat}:∀ (l:List (Option Nat)) (k:Nat),posOf t l k=none→some t∉l
 |[],k,h=>by simp
 |x::l,k,h=>by
  simp only[posOf]at h
  split at h
  ·cases h
  ·have:=LU l (k+1) h
   grind
def aw.cls:aw→Nat
 | .load .. =>1
 | .alloc .. | .box .. =>2
 | .store .. =>3
 | .append .. | .exts .. =>4
 | .panic .. =>5
 |_=>0
def rD(ops:Array Oper)(l:List CI):Bool:=
 (l.map (·.d)).Nodup && l.all (fun c=>c.d.isSome && (Nat.ble c.op.cls 1 || (Nat.beq c.op.cls 4 && c.g.isNone))) &&
 (l.zip ops.toList).zipIdx.all fun((c,o),i)=>
  o.after.toList.all (fun e=> !Region.binds .any e || decide (e.on<i)) &&
  c.reads.all fun t=>match posOf t (l.map (·.d)) 0 with
   |some j=>o.after.toList.any fun e=>Region.binds .any e && e.on == j
   |none=>true
def pC:List CI→Nat→Option Nat
 |[],_=>none
 |c::l,k=>bif Nat.beq c.op.cls 4 then some k else pC l (k+1)
theorem LS{k:Nat}:∀ (l:List CI) (m:Nat),pC l m=some k→∃ i,∃ h:i<l.length,k=m+i∧l[i].op.cls=4∧∀ j,j<i→(hj:j<l.length)→l[j].op.cls≠4
 |[],m,h=>by cases h
 |c::l,m,h=>by
  simp only[pC]at h
  cases e:Nat.beq c.op.cls 4 with
  |true=>simp_all
  |false=>
   rw[e]at h
   obtain⟨i,h1,h2,h3,h4⟩:=LS l (m+1) h
   refine⟨i+1,by grind,by omega,by grind,fun j hj hl=> ?_⟩
   cases j with
   |zero=>intro e2;simp_all
   |succ j=>grind
def rE(ops:Array Oper)(l:List CI):Bool:=match pC l 0 with
 |none=>false
 |some k=>
 (l.map (·.d)).Nodup && l.all (fun c=>c.d.isSome && (Nat.ble c.op.cls 1 || (Nat.beq c.op.cls 4 && c.g.isNone))) &&
 (l.zip ops.toList).zipIdx.all fun((c,o),i)=>
  o.after.toList.all (fun e=> !Region.binds .any e || decide (e.on<i)) &&
  c.reads.all fun t=>match posOf t (l.map (·.d)) 0 with
   |some j=>(o.after.toList.any fun e=>Region.binds .any e && e.on == j) || (Nat.ble i k && Nat.blt k j)
   |none=>true
def iq(ops:Array Oper)(i j:Nat):Bool:=match ops[i]? with
 |some o=>o.after.toList.any fun e=>Region.binds .any e && e.on == j
 |none=>false
def SF(ops:Array Oper):List CI→Nat→List Nat→List Nat
 |[],_,acc=>acc
 |c::l,i,acc=>SF ops l (i+1) (bif Nat.ble 2 c.op.cls || acc.any (iq ops i)then i::acc else acc)
def TT:aw→Option Nat
 | .store _ (.tmp s) _=>some s
 |_=>none
def isApp:aw→Bool
 | .append .. =>true
 |_=>false
def Ba(l:List CI):List Nat:=l.filterMap fun c=>bif Nat.beq c.op.cls 2 || isApp c.op then c.d else none
def IQ(s:Nat):List CI→Option aw
 |[]=>none
 |c::l=>match c.d with
  |some d=>bif Nat.beq d s then some c.op else IQ s l
  |none=>IQ s l
def rootOf(l:List CI):Nat→Nat→Option Nat
 |0,_=>none
 |n+1,s=>match IQ s l with
  |none=>some s
  |some (.alloc ..)|some (.box ..)=>some s
  |some (.dk _ (.tmp s'))|some (.nk (.tmp s'))|some (.mY _ _ (.tmp s') _)|some (.iz _ (.tmp s') _)|some (.mv (.tmp s'))=>rootOf l n s'
  |_=>none
def yW(ops:Array Oper)(l0:List CI)(i:Nat):List CI→Nat→List Nat
 |[],_=>[]
 |c::l,j=>match TT c.op with
  |some s=>bif iq ops i j || iq ops j i then yW ops l0 i l (j+1)else match rootOf l0 l0.length s with
   |some r=>bif (Ba l0).elem r then yW ops l0 i l (j+1)else r::yW ops l0 i l (j+1)
   |none=>yW ops l0 i l (j+1)
  |none=>yW ops l0 i l (j+1)
def Lb:aw→Bool
 | .call .. =>true
 |_=>false
def Iu(ops:Array Oper)(i:Nat):List CI→Nat→List Nat
 |[],_=>[]
 |c::l,j=>bif Lb c.op && iq ops i j then c.d.toList++Iu ops i l (j+1)else Iu ops i l (j+1)
def S6(ops:Array Oper)(l:List CI)(i:Nat):Option CD:=
 match l[i]? with
 |some c=>some ⟨i,c,bif Nat.beq c.op.cls 1 then yW ops l i l 0 else match TT c.op with
  |some s=>(rootOf l l.length s).toList
  |none=>bif Nat.beq c.op.cls 0 then Iu ops i l 0 else[]⟩
 |none=>none
def FF(d:Option Nat)(x:CD):Bool:=match d with
 |some d=> !x.c.reads.elem d && !x.cf.elem d
 |none=>true
def jO(ah:List Nat)(a c:CD):Bool:=
 FF a.c.d c && FF c.c.d a && (a.c.d.isNone || decide (a.c.d≠c.c.d)) &&
 match a.c.op.cls,c.c.op.cls with
 |0,_=>true
 |1,0|1,1=>true
 |1,2=>(match c.c.d with|some d=>ah.elem d|none=>false)
 |1,3=>(match c.cf with|[s]=>a.cf.elem s || ah.elem s|_=>false)
 |1,4=>(match c.c.d with|some d=>ah.elem d|none=>false)
 |2,2=>true
 |_,_=>false
def B0(ops:Array Oper):Nat→Nat→Nat→Bool
 |0,i,j=>iq ops i j
 |n+1,i,j=>iq ops i j || (List.range ops.size).any fun b=>iq ops i b && B0 ops n b j
def Aj(ops:Array Oper)(ah:List Nat):List CD→Bool
 |[]=>true
 |a::l=> !iq ops a.ix a.ix && l.all (fun c=> !iq ops a.ix c.ix && (iq ops c.ix a.ix || jO ah a c || (Nat.beq c.c.op.cls 4 && B0 ops 2 c.ix a.ix))) && Aj ops ah l
def fL(x:CD):Bool:=(Nat.ble x.c.op.cls 3 || isApp x.c.op) && (Nat.ble x.c.op.cls 1 || x.c.g.isNone) && (!Nat.beq x.c.op.cls 2 || x.c.d.isSome)
def Ls(l:List CI):Bool:=Nat.ble 2 (l.filter fun c=>Nat.beq c.op.cls 4).length
def Fz(ops:Array Oper)(ah:List Nat)(ds:List CD):Bool:=
 decide ((ds.map (·.ix)).Nodup) && Nat.ble ds.length ops.size && (List.range ops.size).all (fun i=>ds.any fun x=>Nat.beq x.ix i) && ds.all fL && ops.toList.all (fun o=>o.after.toList.all fun e=> !Region.binds .any e || decide (e.on<ops.size)) && Aj ops ah ds
def OH(ops:Array Oper):List CI→Nat→List Nat→List Nat
 |[],_,acc=>acc
 |c::l,i,acc=>OH ops l (i+1) (bif Lb c.op || acc.any (iq ops i)then i::acc else acc)
def Ac(ops:Array Oper)(l:List CI):List CD:=
 let late:=SF ops l 0 []
 let dep:=bif Nat.beq (l.filter fun c=>Lb c.op).length 1 then OH ops l 0 []else[]
 ((List.range l.length).filter (fun i=> !late.elem i && !dep.elem i)++(List.range l.length).filter (fun i=> !late.elem i && dep.elem i)++(List.range l.length).filter (fun i=>late.elem i)).filterMap (S6 ops l)
theorem S5{ops:Array Oper}{l:List CI}{x:CD}(h:x∈Ac ops l):l[x.ix]? =some x.c:=by
 obtain⟨i,_,hi⟩:=List.mem_filterMap.1 h
 unfold S6 at hi
 split at hi
 ·grind
 grind
def tN(ops:Array Oper):Nat:=bif u9 ops (ops.size-2)then 2 else 1
def jn(ops:Array Oper):Array Oper:=(ops.toList.take (ops.size-tN ops)).toArray
def oz(ops:Array Oper):Array Oper:=(ops.toList.drop (ops.size-tN ops)).toArray
def MK(ops:Array Oper):Bool:=Nat.ble (tN ops) ops.size && uo ops && uo (jn ops) && u9 ops (ops.size-tN ops) && (jn ops).toList.all (fun o=>match o.guard with|some (j,_)=>Nat.blt j (ops.size-tN ops)|none=>true) && (oz ops).toList.all (fun o=>o.guard.isNone)
def Ov(P:Program)[Glob P](N:Nat)(ops:Array Oper):Option SC:=
 match jb P N (jn ops) (jn ops).toList,jb P N (oz ops) (oz ops).toList with
 |some l1,some l2=>if MK ops=true∧((rD (jn ops) l1=true∨rE (jn ops) l1=true)∧Ls l1=false)∧P.follows .mixedOrders=true then some (.seq (.dF l1) (.ck l2))else none
 |_,_=>none
def dj(P:Program)[Glob P](N:Nat):Code→Option SC
 | .skip=>some .skip
 | .region _ ops false=>(jb P N ops ops.toList).map .ck
 | .region _ ops true=>match jb P N ops ops.toList with
  |some l=>if Ls l=true∧Fz ops (Ba l) (Ac ops l)∧P.follows .mixedOrders=true then some (.eE (Ba l) (Ac ops l))
    else if(rD ops l=true∨rE ops l=true)∧P.follows .mixedOrders=true then some (.dF l)
    else if Fz ops (Ba l) (Ac ops l)∧P.follows .mixedOrders=true then some (.eE (Ba l) (Ac ops l))else Ov P N ops
  |none=>none
 | .seq a b=>match dj P N a,dj P N b with
  |some a,some b=>some (.seq a b)
  |_,_=>none
 | .cond c t e=>match dj P N t,dj P N e with
  |some t,some e=>some (.cond c t e)
  |_,_=>none
 | .block id b=>(dj P N b).map (.block id)
 | .loop b=>(dj P N b).map .loop
 | .exit id=>some (.exit id)
 | .ret=>some .ret
 | .scope b=>(dj P N b).map .scope
 | .label l=>some (.label l)
 | .goto l=>some (.goto l)
 |_=>none
def jQ(P:Program)[Glob P](M:Mem)(w0:Base)(N:Nat)(Q:Exit→af→Store→Prop):Exit→Act→World→Prop:=fun e a w=>
 ∃ M' rg σ,M.le M'∧Inv P M' w0 σ w∧ct M' rg a∧a.tmps.size=N∧a.defers=Glob.df P∧Q e rg σ
def jc(P:Program)(c:Code)(Q:Exit→Act→World→Prop)(a:Act)(w:World):Prop:=match c with
 | .region _ ops true=>P.follows .mixedOrders=true∧∀ t,wpOps P ops Q (Region.linearise .any ops t) a {w with drawn:=w.drawn+1}
 | .region _ ops false=>wpOps P ops Q (List.range ops.size) a w
 |c=>c.wp P Q a w
theorem qd{P:Program}{c:Code}{Q:Exit→Act→World→Prop}{a:Act}{w:World}(h:jc P c Q a w):c.wp P Q a w:=by
 unfold jc at h
 split at h
 ·refine wp_region_draw fun t=> ?_
  simp only[Region.schedule,h.1,Bool.true_or,Y2]
  grind
 ·exact wp_region h
 grind
theorem IL{P:Program}{id:Nat}{ops:Array Oper}{Q:Exit→Act→World→Prop}{a:Act}{w:World}(hm:P.follows .mixedOrders=true)(h:wpAny P .any ops Q ops.size (Array.replicate ops.size false) a {w with drawn:=w.drawn+1}):jc P (.region id ops true) Q a w:=
 ⟨hm,fun t=>wpAny_sound ops.size t _ a _ h⟩
def SW(P:Program)[Glob P](N:Nat)(s:SC)(Q:Exit→af→Store→Prop)(rg:af)(σ:Store):Prop:=
 ∀ c,dj P N c=some s→∀ (M:Mem) (w0:Base) (a:Act) (w:World),Inv P M w0 σ w→ct M rg a→a.tmps.size=N→a.defers=Glob.df P→jc P c (jQ P M w0 N Q) a w
def bY(P:Program)[Glob P](cfg:Nat→Nat)(c:CI)(K:AV→Store→Prop)(E:List PanicEntry→Store→Prop)(rg:af)(σ:Store):Prop:=
 match c.g with
 |none=>al P cfg c.d rg σ K E c.op
 |some (t,want)=>match lk rg t with
  | .v (.bool b)=>(b=want→al P cfg c.d rg σ K E c.op)∧(b= !want→K (.v undef) σ)
  | .v (.tuple _)=>K (.v undef) σ
  |_=>False
def Gd(b want:Bool)(X Y:Prop):Prop:=(b=want→X)∧(b= !want→Y)
theorem Gd.l{b want:Bool}{X Y:Prop}(h:Gd b want X Y):b=want→X:=h.1
theorem Gd.r{b want:Bool}{X Y:Prop}(h:Gd b want X Y):b= !want→Y:=h.2
def fu(P:Program)[Glob P](cfg:Nat→Nat):List CI→(K:af→Store→Prop)→(E:List PanicEntry→Store→Prop)→af→Store→Prop
 |[],K,_,rg,σ=>K rg σ
 |c::l,K,E,rg,σ=>match c.g with
  |none=>al P cfg c.d rg σ (fun x σ'=>fu P cfg l K E (bj c.d x rg) σ') E c.op
  |some (t,want)=>match lk rg t with
   | .v (.bool b)=>Gd b want (al P cfg c.d ((t,.v (.bool want))::rg) σ (fun x σ'=>fu P cfg l K E (bj c.d x ((t,.v (.bool want))::rg)) σ') E c.op)
     (fu P cfg l K E (bj c.d (.v undef) ((t,.v (.bool !want))::rg)) σ)
   | .v (.tuple _)=>fu P cfg l K E (bj c.d (.v undef) rg) σ
   |_=>False
theorem xG{rg:af}{t:Nat}{x:AV}(h:lk rg t=x)(i:Nat):lk ((t,x)::rg) i=lk rg i:=by
 simp only[lk]
 cases hb:Nat.beq t i with
 |true=>simp_all
 |false=>rfl
theorem alF{P:Program}[Glob P]{cfg:Nat→Nat}{c:CI}{l:List CI}{K:af→Store→Prop}{E:List PanicEntry→Store→Prop}{rg:af}{σ:Store}(h:fu P cfg (c::l) K E rg σ):
  ∃ ak,(∀ i,lk ak i=lk rg i)∧bY P cfg c (fun x σ'=>fu P cfg l K E (bj c.d x ak) σ') E ak σ:=by
 simp only[fu]at h
 split at h
 ·exact⟨rg,fun _=>rfl,by unfold bY;grind⟩
 ·rename_i t want hg
  split at h
  ·rename_i b hb
   by_cases mQ:b=want
   ·subst mQ
    have e:lk ((t,AV.v (.bool b))::rg) t= .v (.bool b):=by simp[lk,YL]
    refine⟨_,xG hb,?_⟩
    unfold bY
    rw[hg]
    simp only[e]
    exact⟨fun _=>h.l rfl,fun h'=>by grind⟩
   ·have gT:b= !want:=by cases b<;>cases want<;>simp_all
    subst gT
    have e:lk ((t,AV.v (.bool !want))::rg) t= .v (.bool !want):=by simp[lk,YL]
    refine⟨_,xG hb,?_⟩
    unfold bY
    rw[hg]
    simp only[e]
    exact⟨fun h'=>absurd h' mQ,fun _=>h.r rfl⟩
  ·exact⟨rg,fun _=>rfl,by unfold bY;grind⟩
  grind
section
variable {P:Program}[Glob P]{M:Mem}{w0:Base}{w:World}{σ:Store}{rg:af}{a:Act}{cfg:Nat→Nat}{N:Nat}
theorem wU{ops:Array Oper}{o:Oper}{c:CI}(hc:rC P N ops o=some c){K:AV→Store→Prop}{E:List PanicEntry→Store→Prop}(h:bY P cfg c K E rg σ)(hI:Inv P M w0 σ w)(hR:ct M rg a)
  {next:Act→World→Prop} {Q:Exit→Act→World→Prop} (hg:AX P M w0 w K E o a next Q):
  if Region.wanted o (yielded ops a.tmps)then o.wp P a w next Q∨(o.asks P a w∧LetsOut Q)else next (a.put o.dst undef) w:=by
 obtain⟨iK,aeN,hd,dL,Ce⟩:∃ iK,D4 P o=some iK∧c.d=o.dst∧c.op=iK∧((o.guard=none∧c.g=none)∨∃ j want u,o.guard=some (j,want)∧(ops[j]?).bind (·.dst)=some u∧c.g=some (u,want)):=by
  unfold rC at hc
  split at hc
  ·grind
  ·grind
  grind
 have run:al P cfg c.d rg σ K E c.op→o.wp P a w next Q:=fun h=>acF (cfg:=cfg) (d:=c.d) aeN (by grind) hI hR hg
 have UX:K (.v undef) σ→next (a.put o.dst undef) w:=fun h=>hg.val M _ σ undef w (Mem.le.refl _) hI (.v _) h
 unfold bY at h
 rcases Ce with⟨h1,h2⟩|⟨j,want,u,h1,h2,h3⟩
 ·rw[h2]at h
  simp only[Region.wanted,h1,Y2]
  grind
 ·rw[h3]at h
  simp only at h
  have hy:yielded ops a.tmps j=match a.tmps[u]? with
   |some (.bool b)=>some b
   |_=>none:=by unfold yielded;grind
  have hu:=hR u
  split at h
  ·rename_i b hb
   rw[hb]at hu
   have hv:=hu.ay
   have ht:a.tmps[u]? =some (.bool b):=by
    rw[ZP]at hv
    cases he:a.tmps[u]? with
    |none=>rw[he]at hv;simp[undef]at hv
    |some y=>rw[he]at hv;simp at hv;rw[hv]
   have K0:yielded ops a.tmps j=some b:=by rw[hy,ht]
   simp only[Region.wanted,h1,K0]
   by_cases mQ:b=want
   ·subst mQ
    simp only[beq_self_eq_true,Y2]
    exact .inl (run (h.1 rfl))
   ·have:(some b == some want)=false:=by simp[mQ]
    simp only[this,ZV,Y8]
    exact UX (h.2 (by cases b<;>cases want<;>simp_all))
  ·rename_i vs hb
   rw[hb]at hu
   have hv:=hu.ay
   have K0:yielded ops a.tmps j=none:=by
    rw[hy]
    rw[ZP]at hv
    cases he:a.tmps[u]? with
    |none=>rfl
    |some y=>rw[he]at hv;simp at hv;rw[hv]
   simp only[Region.wanted,h1,K0]
   have:((none:Option Bool) == some want)=false:=rfl
   simp only[this,ZV,Y8]
   exact UX h
  grind
theorem Bn{ops:Array Oper}{o:Oper}{c:CI}(hc:rC P N ops o=some c):c.d=o.dst∧∀ t,c.d=some t→t<N:=by
 unfold rC at hc
 split at hc
 ·grind
 ·grind
 grind
theorem yt(ops:Array Oper){Q:Exit→af→Store→Prop}{K:af→Store→Prop}(hK:∀ rg σ,K rg σ→Q .normal rg σ):
  ∀ (os:List Oper) (k:Nat) (l:List CI),jb P N ops os=some l→(∀ i,i<os.length→ops[k+i]? =os[i]?)→
  ∀ (M:Mem) (w0:Base) (w:World) (a:Act) (rg:af) (σ:Store),fu P cfg l K (fun ch σ'=>Q (.panic ch) [] σ') rg σ→Inv P M w0 σ w→ct M rg a→a.tmps.size=N→a.defers=Glob.df P→
   wpOps P ops (jQ P M w0 N Q) (List.range' k os.length) a w
 |[],k,l,hl,_,M,w0,w,a,rg,σ,h,hI,hR,hN,hD=>by
  simp only[jb,Z1]at hl
  subst hl
  exact⟨M,rg,σ,Mem.le.refl _,hI,hR,hN,hD,hK rg σ h⟩
 |o::os,k,l,hl,ho,M,w0,w,a,rg,σ,h,hI,hR,hN,hD=>by
  simp only[jb]at hl
  split at hl
  ·rename_i c hc
   obtain⟨l',fJ,rfl⟩:=Z7.1 hl
   have Kv:ops[k]? =some o:=by simpa using ho 0 (by simp)
   obtain⟨ak,xn,h⟩:=alF h
   replace hR:ct M ak a:=fun i=>by rw[xn];exact hR i
   obtain⟨kG,ar⟩:=Bn hc
   simp only[Z8,List.range'_succ,wpOps,Kv]
   refine wU hc h hI hR ⟨fun M' x σ' v w' hM bw hx hk=> ?_,fun M' ch σ' w' hM bw hk=> ?_⟩
   ·have ih:=yt ops hK os (k+1) l' fJ (fun i hi=>by have:=ho (i+1) (by simpa using hi);rw[show k+1+i=k+(i+1)from by omega];simpa using this) M' w0 w' (a.put o.dst v) (bj c.d x ak) σ' hk bw
     (by rw[kG];exact(hR.mono hM).put o.dst (fun t ht=>by rw[hN];exact ar t (kG.trans ht)) hx) (by rw[Act.size_put];exact hN) (by rw[Act.Bt];exact hD)
    refine tq ?_ _ _ _ ih
    rintro e a2 w2 ⟨M2,bJ,aC,h1,h2⟩
    exact⟨M2,bJ,aC,hM.trans h1,h2⟩
   ·exact⟨M',[],σ',hM,bw,fun i=> .any _,hN,hD,hk⟩
  ·cases hl
 where
 tq {ops:Array Oper} {Q Q':Exit→Act→World→Prop} (h:∀ e a w,Q e a w→Q' e a w):∀ (is:List Nat) (a:Act) (w:World),wpOps P ops Q is a w→wpOps P ops Q' is a w
 |[],a,w,hq=>h _ _ _ hq
 |i::is,a,w,hq=>by
  rw[wpOps_cons]at hq ⊢
  unfold wpOp at hq ⊢
  split
  ·rename_i e;rw[e]at hq;exact tq h is a w hq
  ·rename_i o e
   rw[e]at hq
   simp only at hq
   split
   ·rename_i hw
    rw[ZW hw]at hq
    refine hq.imp (fun hh=> ?_) (fun⟨x,y⟩=>⟨x,y.elim fun a h'=>h'.elim fun w zo=>⟨a,w,h _ _ _ zo⟩⟩)
    have h1:=Oper.wp_mono (K':=wpOps P ops Q' is) (fun a w=>tq h is a w) hh
    unfold Oper.wp at h1 ⊢
    generalize (execOp a.eval o).run P w=r at h1
    cases r with
    |ok n w'=>
     cases n<;>simp only[Oper.upon]at h1 ⊢<;>first
      |exact h1
      |exact Calls.mono h1 (fun e AP he=>by cases e<;>first|exact he|exact h _ _ _ he|exact he.elim fun a h'=>h'.elim fun w zo=>⟨a,w,h _ _ _ zo⟩)
    |halt x w'=>cases x<;>simp only[Oper.upon]at h1 ⊢<;>first|exact h1|exact h _ _ _ h1
   ·rename_i hw
    rw[Z5 hw]at hq
    exact tq h is _ _ hq
theorem Bp{c:Code}{Q Q':Exit→Act→World→Prop}(h:jc P c Q a w)(hq:∀ e a w,Q e a w→Q' e a w):jc P c Q' a w:=by
 unfold jc at h ⊢
 split
 ·exact⟨h.1,fun t=>yt.tq hq _ _ _ (h.2 t)⟩
 ·exact yt.tq hq _ _ _ h
 ·have h':c.wp P Q a w:=by
   grind
  exact wp_mono h' hq
theorem Nh{ops ops':Array Oper}{Q:Exit→Act→World→Prop}(f:Nat→Nat)(L2:List Nat):∀ (L:List Nat),(∀ i∈L,ops'[i]? =ops[f i]?∧∀ o,ops'[i]? =some o→∀ tmps,Region.wanted o (yielded ops' tmps)=Region.wanted o (yielded ops tmps))→∀ (a:Act) (w:World),
  wpOps P ops' (Exit.then (wpOps P ops Q L2) Q) L a w→wpOps P ops Q (L.map f++L2) a w
 |[],_,a,w,h=>h
 |i::L,hL,a,w,h=>by
  have ih:=Nh (ops:=ops) (ops':=ops') (Q:=Q) f L2 L (fun j hj=>hL j (ZO _ hj))
  obtain⟨h1,h2⟩:=hL i ZC
  rw[ZE,ZH,wpOps_cons]
  rw[wpOps_cons]at h
  unfold wpOp at h ⊢
  rw[← h1]
  split
  ·grind
  ·rename_i o e
   rw[e]at h
   simp only at h
   rw[← h2 o e]
   split
   ·rename_i hw
    rw[ZW hw]at h
    refine h.imp (fun hh=> ?_) (fun⟨x,y⟩=>⟨x,y⟩)
    have h3:=Oper.wp_mono (K':=wpOps P ops Q (L.map f++L2)) (fun a w=>ih a w) hh
    generalize (execOp a.eval o).run P w=r at h3
    cases r with
    |ok n w'=>
     assumption
    |halt x w'=>assumption
   grind
theorem alR{o:Oper}{ops ops':Array Oper}(h:∀ j want,o.guard=some (j,want)→ops'[j]? =ops[j]?)(tmps:Array Value):Region.wanted o (yielded ops' tmps)=Region.wanted o (yielded ops tmps):=by
 unfold Region.wanted
 cases hg:o.guard with
 |none=>rfl
 |some g=>
  obtain⟨j,want⟩:=g
  simp only[yielded,h j want hg]
theorem Ow{M M':Mem}(h:M.le M'){Q:Exit→af→Store→Prop}{e:Exit}{a:Act}{w:World}:jQ P M' w0 N Q e a w→jQ P M w0 N Q e a w:=
 fun⟨M2,bJ,aC,h1,h2⟩=>⟨M2,bJ,aC,h.trans h1,h2⟩
theorem SW.mono{s:SC}{Q Q':Exit→af→Store→Prop}(h:SW P N s Q rg σ)(hq:∀ e rg σ,Q e rg σ→Q' e rg σ):SW P N s Q' rg σ:=
 fun c hc M w0 a w hI hR hN hD=>Bp (h c hc M w0 a w hI hR hN hD) fun _ _ _ ⟨M2,bJ,aC,h1,h2,h3,h4,h5,h6⟩=>⟨M2,bJ,aC,h1,h2,h3,h4,h5,hq _ _ _ h6⟩
theorem SW.eR(l:List Nat){s:SC}{Q:Exit→af→Store→Prop}(h:SW P N s Q (eR l rg) σ):SW P N s Q rg σ:=
 fun c hc M w0 a w hI hR hN hD=>h c hc M w0 a w hI (hR.eR l) hN hD
def mr(K:af→Store→Prop)(Q:Exit→af→Store→Prop):Exit→af→Store→Prop
 | .normal,rg,σ=>K rg σ
 |e,rg,σ=>Q e rg σ
def mH(id:Nat)(Q:Exit→af→Store→Prop):Exit→af→Store→Prop
 | .exit qz,rg,σ=>if qz=id then Q .normal rg σ else Q (.exit qz) rg σ
 |e,rg,σ=>Q e rg σ
def oJ(P:Program)[Glob P](N:Nat)(c:Code):SC→Prop
 | .skip=>c= .skip
 | .ck l=>∃ id ops,c= .region id ops false∧jb P N ops ops.toList=some l
 | .dF l=>∃ id ops,c= .region id ops true∧jb P N ops ops.toList=some l∧(rD ops l=true∨rE ops l=true)∧P.follows .mixedOrders=true
 | .eE ah ds=>∃ id ops l,c= .region id ops true∧jb P N ops ops.toList=some l∧(∀ x∈ds,l[x.ix]? =some x.c)∧Fz ops ah ds=true∧P.follows .mixedOrders=true
 | .seq a b=>(∃ ca cb,c= .seq ca cb∧dj P N ca=some a∧dj P N cb=some b)∨
   ∃ id ops l1 l2,c= .region id ops true∧a= .dF l1∧b= .ck l2∧jb P N (jn ops) (jn ops).toList=some l1∧jb P N (oz ops) (oz ops).toList=some l2∧MK ops=true∧((rD (jn ops) l1=true∨rE (jn ops) l1=true)∧Ls l1=false)∧P.follows .mixedOrders=true
 | .cond x a b=>∃ ca cb,c= .cond x ca cb∧dj P N ca=some a∧dj P N cb=some b
 | .block id b=>∃ cb,c= .block id cb∧dj P N cb=some b
 | .loop b=>∃ cb,c= .loop cb∧dj P N cb=some b
 | .exit id=>c= .exit id
 | .ret=>c= .ret
 | .scope b=>∃ cb,c= .scope cb∧dj P N cb=some b
 | .label l=>c= .label l
 | .goto l=>c= .goto l
theorem fU{c:Code}{s:SC}(h:dj P N c=some s):oJ P N c s:=by
 cases c with
 |skip=>simp only[dj,Z1]at h;subst h;rfl
 |region id ops draw=>
  cases draw with
  |false=>
   simp only[dj]at h
   obtain⟨l,h1,rfl⟩:=Z7.1 h
   exact⟨id,ops,rfl,h1⟩
  |true=>
   simp only[dj]at h
   split at h
   ·rename_i l hl
    split at h
    ·rename_i hd;cases h;exact⟨id,ops,l,rfl,hl,fun x hx=>S5 hx,hd.2.1,hd.2.2⟩
    split at h
    ·rename_i hd;cases h;exact⟨id,ops,rfl,hl,hd.1,hd.2⟩
    ·split at h
     ·rename_i hd;cases h;exact⟨id,ops,l,rfl,hl,fun x hx=>S5 hx,hd.1,hd.2⟩
     ·unfold Ov at h
      split at h
      ·rename_i l1 l2 e1 e2
       split at h
       ·rename_i hd;cases h;exact .inr ⟨id,ops,l1,l2,rfl,rfl,rfl,e1,e2,hd.1,hd.2.1,hd.2.2⟩
       grind
      grind
   grind
 |seq a b=>
  simp only[dj]at h
  split at h
  ·rename_i x y h1 h2;cases h;exact .inl ⟨a,b,rfl,h1,h2⟩
  grind
 |cond x a b=>
  simp only[dj]at h
  split at h
  ·rename_i x y h1 h2;cases h;exact⟨a,b,rfl,h1,h2⟩
  grind
 |block id b=>
  simp only[dj]at h
  obtain⟨l,h1,rfl⟩:=Z7.1 h
  exact⟨b,rfl,h1⟩
 |loop b=>
  simp only[dj]at h
  obtain⟨l,h1,rfl⟩:=Z7.1 h
  exact⟨b,rfl,h1⟩
 |exit id=>simp only[dj,Z1]at h;subst h;rfl
 |ret=>simp only[dj,Z1]at h;subst h;rfl
 |scope b=>
  simp only[dj]at h
  obtain⟨l,h1,rfl⟩:=Z7.1 h
  exact⟨b,rfl,h1⟩
 |label l=>simp only[dj,Z1]at h;subst h;rfl
 |goto l=>simp only[dj,Z1]at h;subst h;rfl
 |_=>simp[dj]at h
def mL:SC→Nat→Option SC
 | .seq a b,l=>match mL a l with
  |some r=>some (.seq r b)
  |none=>mL b l
 | .label l',l=>if l' == l then some .skip else none
 |_,_=>none
theorem Jh{l:Nat}:∀ (c:Code) (s:SC),dj P N c=some s→match mL s l with
  |some r=>∃ rest,findLabel c l=some rest∧dj P N rest=some r
  |none=>findLabel c l=none
 | .seq ca cb,s,h=>by
  cases s with
  |seq a b=>
   rcases fU h with⟨ca',cb',e,h1,h2⟩|⟨id,ops,l1,l2,e,_⟩
   ·cases e
    have i1:=Jh (l:=l) ca a h1
    have i2:=Jh (l:=l) cb b h2
    simp only[mL,findLabel]
    cases e1:mL a l with
    |some r=>
     rw[e1]at i1
     obtain⟨rest,g1,g2⟩:=i1
     exact⟨.seq rest cb,by rw[g1],by simp only[dj,g2,h2]⟩
    |none=>
     grind
   grind
  |_=>
   have:=fU h
   simp only[oJ]at this
   grind
 | .label l',s,h=>by
  simp only[dj,Z1]at h
  subst h
  simp only[mL,findLabel]
  by_cases e:(l' == l)=true
  ·rw[ZW e];exact⟨.skip,by grind,rfl⟩
  grind
 | .region id ops draw,s,h=>by
  have:=fU h
  cases s<;>simp only[oJ,reduceCtorEq,Xa,Xy,Xx,and_false]at this<;>simp only[mL,findLabel]
  rename_i a b
  rcases this with⟨_,_,e,_⟩|⟨_,_,l1,l2,e,e1,e2,_⟩
  ·rw[e1,e2];exact trivial
 | .skip,s,h=>by have:=fU h;cases s<;>simp only[oJ,reduceCtorEq,Xa,Xy,Xx,or_self]at this<;>rfl
 | .cond _ _ _,s,h=>by have:=fU h;cases s<;>simp only[oJ,reduceCtorEq,Xa,Xy,Xx,or_self]at this<;>rfl
 | .block _ _,s,h=>by have:=fU h;cases s<;>simp only[oJ,reduceCtorEq,Xa,Xy,Xx,or_self]at this<;>rfl
 | .loop _,s,h=>by have:=fU h;cases s<;>simp only[oJ,reduceCtorEq,Xa,Xy,Xx,or_self]at this<;>rfl
 | .exit _,s,h=>by have:=fU h;cases s<;>simp only[oJ,reduceCtorEq,Xa,Xy,Xx,or_self]at this<;>rfl
 | .ret,s,h=>by have:=fU h;cases s<;>simp only[oJ,reduceCtorEq,Xa,Xy,Xx,or_self]at this<;>rfl
 | .scope _,s,h=>by have:=fU h;cases s<;>simp only[oJ,reduceCtorEq,Xa,Xy,Xx,or_self]at this<;>rfl
 | .goto _,s,h=>by have:=fU h;cases s<;>simp only[oJ,reduceCtorEq,Xa,Xy,Xx,or_self]at this<;>rfl
 | .rangeFunc _ _ _ _,s,h=>by simp[dj]at h
 | .refuse _,s,h=>by simp[dj]at h
theorem HX{l:List CI}{Q:Exit→af→Store→Prop}(cfg:Nat→Nat)(h:fu P cfg l (Q .normal) (fun ch σ'=>Q (.panic ch) [] σ') rg σ):SW P N (.ck l) Q rg σ:=by
 intro c hc M w0 a w hI hR hN hD
 obtain⟨id,ops,rfl,hl⟩:=fU hc
 show wpOps _ _ _ _ _ _
 have:=yt (P:=P) (N:=N) (cfg:=cfg) ops (Q:=Q) (K:=Q .normal) (fun _ _ h=>h) ops.toList 0 l hl (fun i hi=>by simp) M w0 w a rg σ h hI hR hN hD
 rw[Xp]
 grind
theorem A6{x y:SC}{Q:Exit→af→Store→Prop}(h:SW P N x (mr (SW P N y Q) Q) rg σ):SW P N (.seq x y) Q rg σ:=by
 intro c hc M w0 a w hI hR hN hD
 rcases fU hc with⟨ca,cb,rfl,h1,h2⟩|⟨id,ops,l1,l2,rfl,rfl,rfl,e1,e2,hT,hd,uH⟩
 ·refine wp_seq (wp_mono (qd (h ca h1 M w0 a w hI hR hN hD)) ?_)
  rintro e a2 w2 ⟨M2,bJ,aC,g1,g2,g3,g4,g5,g6⟩
  cases e with
  |normal=>
   refine wp_mono (qd (g6 cb h2 M2 w0 a2 w2 g2 g3 g4 g5)) ?_
   intro e a3 w3 hh
   exact Ow g1 hh
  |_=>exact⟨M2,bJ,aC,g1,g2,g3,g4,g5,g6⟩
 ·unfold MK at hT
  simp only[Z6,Yl]at hT
  obtain⟨⟨⟨⟨⟨fW,hf⟩,hfp⟩,hl⟩,hgp⟩,Ci⟩:=hT
  have fW:=ZR fW
  have aq:(jn ops).size=ops.size-tN ops:=by unfold jn;simp only[ZS,ZQ,Zv];omega
  have lY:(oz ops).size=tN ops:=by unfold oz;simp only[ZS,YN,Zv];omega
  have Kz:∀ i,i<ops.size-tN ops→(jn ops)[i]? =ops[i]? :=fun i hi=>by
   unfold jn;simp only[Ya,YU,ZW hi,Za]
  have cq:dj P N (.region id (jn ops) true)=some (.dF l1):=by
   simp only[dj,e1]
   rw[Z5 (fun h=>by rw[hd.2]at h;exact nomatch h.1),ZW ⟨hd.1,uH⟩]
  have c8:dj P N (.region id (oz ops) false)=some (.ck l2):=by simp only[dj,e2];rfl
  refine⟨uH,fun t=> ?_⟩
  have cY:=(h _ cq M w0 a w hI hR hN hD).2 t
  rw[SM _ hfp,aq]at cY
  have e0:Region.linearise .any ops t=jH (jn ops) (ops.size-tN ops) t (fun i=> !Nat.blt i (ops.size-tN ops))++List.range' (ops.size-tN ops) (ops.size-(ops.size-tN ops)):=by
   rw[SM _ hf]
   have:=aiw hf hl aq (fun i h h' zo=>by
    have:=Kz i h
    rw[Zy zo,Zy h']at this
    exact YA this) (ops.size-tN ops) t (fun i=> !Nat.blt i (ops.size-tN ops)) (fun i=> !Nat.blt i ops.size) (ZG (Xt _ _) (by simp)) (fun i=>by
     by_cases hi:i<ops.size-tN ops
     ·have a1:Nat.blt i (ops.size-tN ops)=true:=by rw[YC];exact hi
      have a2:Nat.blt i ops.size=true:=by rw[YC];omega
      rw[ZW hi,a1,a2]
     ·rw[Z5 hi])
   rwa [show ops.size-tN ops+(ops.size-(ops.size-tN ops))=ops.size by omega]at this
  rw[e0]
  have hL:∀ i∈jH (jn ops) (ops.size-tN ops) t (fun i=> !Nat.blt i (ops.size-tN ops)),i<ops.size-tN ops:=fun i hi=>by
   rw[← aq];exact TM _ _ _ _ hi
  have key:=Nh (P:=P) (ops:=ops) (ops':=jn ops) (Q:=jQ P M w0 N Q) (fun i=>i) (List.range' (ops.size-tN ops) (ops.size-(ops.size-tN ops))) (jH (jn ops) (ops.size-tN ops) t (fun i=> !Nat.blt i (ops.size-tN ops))) (fun i hi=>⟨Kz i (hL i hi),fun o ho tmps=>alR (fun j want hg=>Kz j (by
   have hm:=Array.mem_of_getElem? ho
   have:=Zu.1 hgp o hm
   rw[hg]at this
   simpa only[YC]using this)) tmps⟩) a _ (yt.tq ?_ _ _ _ cY)
  ·rw[List.map_id'']at key
   ·exact key
   ·exact fun _=>rfl
  ·rintro e a2 w2 ⟨M2,bJ,aC,g1,g2,g3,g4,g5,g6⟩
   cases e with
   |normal=>
    have uP:wpOps P (oz ops) (jQ P M2 w0 N Q) (List.range (oz ops).size) a2 w2:=g6 _ c8 M2 w0 a2 w2 g2 g3 g4 g5
    rw[lY]at uP
    have St:=Nh (P:=P) (ops:=ops) (ops':=oz ops) (Q:=jQ P M w0 N Q) (fun i=>ops.size-tN ops+i) [] (List.range (tN ops)) (fun i hi=>⟨by
     have:=YT.1 hi
     unfold oz;simp only[Ya,YF,Za],fun o ho tmps=>by
     have hm:=Array.mem_of_getElem? ho
     have:=Zu.1 Ci o hm
     simp only[Option.isNone_iff_eq_none]at this
     simp[Region.wanted,this]⟩) a2 w2 (yt.tq (fun e a3 w3 hh=>by cases e<;>exact Ow g1 hh) _ _ _ uP)
    rw[YX]at St
    rw[show ops.size-(ops.size-tN ops)=tN ops by omega]
    show wpOps P ops _ _ a2 w2
    have e3:(List.range (tN ops)).map (fun i=>ops.size-tN ops+i)=List.range' (ops.size-tN ops) (tN ops):=by rw[List.range'_eq_map_range]
    rw[← e3];exact St
   |_=>exact⟨M2,bJ,aC,g1,g2,g3,g4,g5,g6⟩
theorem H6{Q:Exit→af→Store→Prop}(h:Q .normal rg σ):SW P N .skip Q rg σ:=by
 intro c hc M w0 a w hI hR hN hD
 obtain rfl:=fU hc
 exact wp_skip ⟨M,rg,σ,Mem.le.refl _,hI,hR,hN,hD,h⟩
theorem HY{Q:Exit→af→Store→Prop}(h:Q .ret rg σ):SW P N .ret Q rg σ:=by
 intro c hc M w0 a w hI hR hN hD
 obtain rfl:=fU hc
 exact wp_ret ⟨M,rg,σ,Mem.le.refl _,hI,hR,hN,hD,h⟩
theorem HJ{id:Nat}{Q:Exit→af→Store→Prop}(h:Q (.exit id) rg σ):SW P N (.exit id) Q rg σ:=by
 intro c hc M w0 a w hI hR hN hD
 obtain rfl:=fU hc
 exact wp_exit ⟨M,rg,σ,Mem.le.refl _,hI,hR,hN,hD,h⟩
theorem yI{x:Operand}{s t:SC}{Q:Exit→af→Store→Prop}{b:Bool}(hx:ev rg x= .v (.bool b))(h1:b=true→SW P N s Q rg σ)(h2:b=false→SW P N t Q rg σ):SW P N (.cond x s t) Q rg σ:=by
 intro c hc M w0 a w hI hR hN hD
 obtain⟨ca,cb,rfl,g1,g2⟩:=fU hc
 have he:=hR.ev x
 rw[hx]at he
 exact wp_cond_split he.ay (fun hb=>qd (h1 hb _ g1 M w0 a w hI hR hN hD)) (fun hb=>qd (h2 hb _ g2 M w0 a w hI hR hN hD))
theorem A4{id:Nat}{s:SC}{Q:Exit→af→Store→Prop}(h:SW P N s (mH id Q) rg σ):SW P N (.block id s) Q rg σ:=by
 intro c hc M w0 a w hI hR hN hD
 obtain⟨cb,rfl,h1⟩:=fU hc
 refine wp_block (wp_mono (qd (h _ h1 M w0 a w hI hR hN hD)) ?_)
 rintro e a2 w2 ⟨M2,bJ,aC,g1,g2,g3,g4,g5,g6⟩
 cases e with
 |exit qz=>
  simp only[mH]at g6
  simp only[Exit.inBlock]
  split
  ·rename_i e;rw[ZW e]at g6;exact⟨M2,bJ,aC,g1,g2,g3,g4,g5,g6⟩
  ·rename_i e;rw[Z5 e]at g6;exact⟨M2,bJ,aC,g1,g2,g3,g4,g5,g6⟩
 |_=>exact⟨M2,bJ,aC,g1,g2,g3,g4,g5,g6⟩
theorem HU{s:SC}{Q:Exit→af→Store→Prop}(I:Nat→af→Store→Prop)(n:Nat)(h0:I n rg σ)(h:∀ n rg σ,I n rg σ→SW P N s (mr (fun ak σ'=>∃ n',n'<n∧I n' ak σ') Q) rg σ):SW P N (.loop s) Q rg σ:=by
 intro c hc M w0 a w hI hR hN hD
 obtain⟨cb,rfl,lX⟩:=fU hc
 have key:∀ (m:Nat) (a:Act) (w:World),(∃ M2 bJ aC,M.le M2∧Inv P M2 w0 aC w∧ct M2 bJ a∧a.tmps.size=N∧a.defers=Glob.df P∧I m bJ aC)→
   ∀ (b:Frame) (k:List Item) (cs:List Frame),∃ e a' w',jQ P M w0 N Q e a' w'∧Arrives P (lone (b.at a (.code cb:: .inLoop cb::k)) cs w) b k cs e a' w':=by
  intro m
  induction m using Nat.strongRecOn with
  |_ m ih=>
   rintro a w ⟨M2,bJ,aC,g1,g2,g3,g4,g5,g6⟩ b k cs
   obtain⟨e,a',w',hq,im⟩:=qd (h m bJ aC g6 cb lX M2 w0 a w g2 g3 g4 g5) b (.inLoop cb::k) cs
   obtain⟨M3,eg,dP,k1,k2,k3,k4,k5,k6⟩:=hq
   cases e with
   |normal=>
    obtain⟨m',ar,hIm⟩:=k6
    obtain⟨e2,a2,w2,xm,BZ⟩:=ih m' ar a' w' ⟨M3,eg,dP,g1.trans k1,k2,k3,k4,k5,hIm⟩ b k cs
    exact⟨e2,a2,w2,xm,.of_steps (Steps.trans im (.one step_inLoop)) BZ⟩
   |exit id=>exact⟨_,a',w',⟨M3,eg,dP,g1.trans k1,k2,k3,k4,k5,k6⟩,.pass (x:= .inLoop cb) rfl (fun _ _=> .inl (by simp)) im⟩
   |goto l=>exact⟨_,a',w',⟨M3,eg,dP,g1.trans k1,k2,k3,k4,k5,k6⟩,.pass (x:= .inLoop cb) rfl (fun _ _=> .inl (by simp)) im⟩
   |ret=>exact⟨_,a',w',⟨M3,eg,dP,g1.trans k1,k2,k3,k4,k5,k6⟩,.pass (x:= .inLoop cb) rfl (fun _ _=> .inl (by simp)) im⟩
   |panic ch=>exact⟨_,a',w',⟨M3,eg,dP,g1.trans k1,k2,k3,k4,k5,k6⟩,.pass (x:= .inLoop cb) rfl (fun _ _=> .inl (by simp)) im⟩
   |outgrown=>exact⟨_,a',w',⟨M3,eg,dP,g1.trans k1,k2,k3,k4,k5,k6⟩,.pass (x:= .inLoop cb) rfl (fun _ _=> .inl (by simp)) im⟩
 intro b k cs
 obtain⟨e,a',w',hq,im⟩:=key n a w ⟨M,rg,σ,Mem.le.refl _,hI,hR,hN,hD,h0⟩ b k cs
 exact⟨e,a',w',hq,.of_steps (.one step_loop) im⟩
theorem HT{l:Nat}{Q:Exit→af→Store→Prop}(h:Q .normal rg σ):SW P N (.label l) Q rg σ:=by
 intro c hc M w0 a w hI hR hN hD
 obtain rfl:=fU hc
 exact wp_label ⟨M,rg,σ,Mem.le.refl _,hI,hR,hN,hD,h⟩
theorem HQ{l:Nat}{Q:Exit→af→Store→Prop}(h:Q (.goto l) rg σ):SW P N (.goto l) Q rg σ:=by
 intro c hc M w0 a w hI hR hN hD
 obtain rfl:=fU hc
 exact wp_goto ⟨M,rg,σ,Mem.le.refl _,hI,hR,hN,hD,h⟩
def uZ(J:Nat→af→Store→Prop)(Q:Exit→af→Store→Prop):Exit→af→Store→Prop
 | .goto l,rg,σ=>J l rg σ
 |e,rg,σ=>Q e rg σ
theorem HZ{s:SC}{Q:Exit→af→Store→Prop}(J:Nat→Nat→af→Store→Prop)(h0:SW P N s (uZ (fun l rg σ=>∃ n,J l n rg σ) Q) rg σ)
  (h:∀ l n rg σ,J l n rg σ→∃ r,mL s l=some r∧SW P N r (uZ (fun l' ak σ'=>∃ n',n'<n∧J l' n' ak σ') Q) rg σ):SW P N (.scope s) Q rg σ:=by
 intro c hc M w0 a w hI hR hN hD
 obtain⟨cb,rfl,lX⟩:=fU hc
 have key:∀ (m l:Nat) (a:Act) (w:World),(∃ M2 bJ aC,M.le M2∧Inv P M2 w0 aC w∧ct M2 bJ a∧a.tmps.size=N∧a.defers=Glob.df P∧J l m bJ aC)→
   ∃ rest,findLabel cb l=some rest∧∀ (b:Frame) (k:List Item) (cs:List Frame),∃ e a' w',jQ P M w0 N Q e a' w'∧Arrives P (lone (b.at a (.code rest:: .inScope cb::k)) cs w) b k cs e a' w':=by
  intro m
  induction m using Nat.strongRecOn with
  |_ m ih=>
   rintro l a w ⟨M2,bJ,aC,g1,g2,g3,g4,g5,g6⟩
   obtain⟨r,hr,hsw⟩:=h l m bJ aC g6
   have hf:=Jh (P:=P) (N:=N) (l:=l) cb s lX
   rw[hr]at hf
   obtain⟨rest,kK,xa⟩:=hf
   refine⟨rest,kK,fun b k cs=> ?_⟩
   obtain⟨e,a',w',hq,im⟩:=qd (hsw rest xa M2 w0 a w g2 g3 g4 g5) b (.inScope cb::k) cs
   obtain⟨M3,eg,dP,k1,k2,k3,k4,k5,k6⟩:=hq
   cases e with
   |normal=>exact⟨.normal,a',w',⟨M3,eg,dP,g1.trans k1,k2,k3,k4,k5,k6⟩,Steps.trans im (.one step_inScope)⟩
   |exit id=>exact⟨.exit id,a',w',⟨M3,eg,dP,g1.trans k1,k2,k3,k4,k5,k6⟩,fun k' hk=>im k' (by assumption)⟩
   |goto l'=>
    obtain⟨m',ar,hJ⟩:=k6
    obtain⟨Mc,EZ,lj⟩:=ih m' ar l' a' w' ⟨M3,eg,dP,g1.trans k1,k2,k3,k4,k5,hJ⟩
    obtain⟨e2,a2,w2,xm,BZ⟩:=lj b k cs
    have hg:gotoIn l' (.inScope cb::k)=some (.code Mc:: .inScope cb::k):=by simp[gotoIn,EZ]
    exact⟨e2,a2,w2,xm,.of_steps (im _ hg) BZ⟩
   |ret=>exact⟨_,a',w',⟨M3,eg,dP,g1.trans k1,k2,k3,k4,k5,k6⟩,im⟩
   |panic ch=>exact⟨_,a',w',⟨M3,eg,dP,g1.trans k1,k2,k3,k4,k5,k6⟩,im⟩
   |outgrown=>exact⟨_,a',w',⟨M3,eg,dP,g1.trans k1,k2,k3,k4,k5,k6⟩,im⟩
 intro b k cs
 obtain⟨e,a',w',hq,im⟩:=qd (h0 cb lX M w0 a w hI hR hN hD) b (.inScope cb::k) cs
 obtain⟨M3,eg,dP,k1,k2,k3,k4,k5,k6⟩:=hq
 cases e with
 |normal=>exact⟨.normal,a',w',⟨M3,eg,dP,k1,k2,k3,k4,k5,k6⟩,.head step_scope (Steps.trans im (.one step_inScope))⟩
 |exit id=>exact⟨.exit id,a',w',⟨M3,eg,dP,k1,k2,k3,k4,k5,k6⟩,fun k' hk=> .head step_scope (im k' (by assumption))⟩
 |goto l'=>
  obtain⟨m,hJ⟩:=k6
  obtain⟨Mc,EZ,lj⟩:=key m l' a' w' ⟨M3,eg,dP,k1,k2,k3,k4,k5,hJ⟩
  obtain⟨e2,a2,w2,xm,BZ⟩:=lj b k cs
  have hg:gotoIn l' (.inScope cb::k)=some (.code Mc:: .inScope cb::k):=by simp[gotoIn,EZ]
  exact⟨e2,a2,w2,xm,.of_steps (.head step_scope (im _ hg)) BZ⟩
 |ret=>exact⟨_,a',w',⟨M3,eg,dP,k1,k2,k3,k4,k5,k6⟩,.of_steps (.one step_scope) im⟩
 |panic ch=>exact⟨_,a',w',⟨M3,eg,dP,k1,k2,k3,k4,k5,k6⟩,.of_steps (.one step_scope) im⟩
 |outgrown=>exact⟨_,a',w',⟨M3,eg,dP,k1,k2,k3,k4,k5,k6⟩,.of_steps (.one step_scope) im⟩
end
inductive RC where
 |tmp (t:Nat)
 |cell (t:Nat) (agg:Bool) (n:Nat)
structure FC where
 N:Nat
 code:SC
 res:List RC
def Bo(P:Program)[Glob P]:ResultVar→Option RC
 | .tmp t=>some (.tmp t)
 | .cell t ty=>(gM P ty).map fun(g,n)=> .cell t g n
def yg(tmps:Array Value):ResultVar→Sem Value
 | .tmp t=>pure (tmps.getD t undef)
 | .cell b t=>do loadVar t (← asAddr (tmps.getD b undef))
theorem F8(fn:Func)(tmps:Array Value):results fn tmps=(do let vs ← fn.results.mapM (yg tmps);pure (if h:vs.size=1 then vs[0]else .tuple vs)):=by
 rfl
def qb(P:Program)[Glob P]:List ResultVar→Option (List RC)
 |[]=>some []
 | .tmp t::l=>(qb P l).map (.tmp t::·)
 | .cell t ty::l=>match gM P ty with
  |some (g,n)=>(qb P l).map (.cell t g n::·)
  |none=>none
def jP(P:Program)[Glob P](fn:Func):Option FC:=
 match fn.body with
 |some c=>match dj P fn.ntmps c,qb P fn.results.toList with
  |some s,some r=>some ⟨fn.ntmps,s,r⟩
  |_,_=>none
 |none=>none
def ou(rg:af)(σ:Store):RC→Option AV
 | .tmp t=>some (lk rg t)
 | .cell t g n=>match lk rg t with
  | .lp tg b o=>match aM σ tg with
   |some (b',.cells l)=>if b=b' then(if g then(if o+n≤l.length then some (.agg ((l.drop o).take n))else none)else l[o]?)else none
   |_=>none
  |_=>none
def nw(rg:af)(σ:Store):List RC→Option (List AV)
 |[]=>some []
 |r::l=>match ou rg σ r with
  |some x=>(nw rg σ l).map (x::·)
  |none=>none
def db(rg:af)(σ:Store)(l:List RC):Option AV:=
 match nw rg σ l with
 |some [x]=>some x
 |some xs=>some (.aP xs)
 |none=>none
def Sub(σ σ':Store):Prop:=(σ.map (·.2)).Sublist (σ'.map (·.2))
theorem Sub.refl(σ:Store):Sub σ σ:=List.Sublist.refl _
theorem Sub.trans{a b c:Store}(h:Sub a b)(k:Sub b c):Sub a c:=List.Sublist.trans h k
theorem Sub.cons{σ σ':Store}{t b:Nat}{x:aR}(h:Sub σ σ'):Sub σ ((t,b,x)::σ'):=List.Sublist.cons _ h
theorem Sub.same{σ σ':Store}{t t' b:Nat}{x:aR}(h:Sub σ σ'):Sub ((t,b,x)::σ) ((t',b,x)::σ'):=List.Sublist.cons_cons _ h
theorem Inv.sub{P:Program}[Glob P]{M:Mem}{w0:Base}{w:World}{σ σ':Store}(hI:Inv P M w0 σ' w)(h:Sub σ σ'):Inv P M w0 σ w:=by
 refine⟨hI.os,hI.tape,hI.output,hI.size,hI.old,hI.cH,fun e he=> ?_,?_,hI.gl,hI.gw,hI.bm⟩
 ·have hm:e.2∈σ'.map (·.2):=h.subset (YE he)
  obtain⟨e',jA,h2⟩:=Y9.1 hm
  have:=hI.st e' jA
  grind
 ·have h2:=h.map (·.1)
  simp at h2
  exact hI.nd.sublist h2
def Wk(x y:AV):Prop:=∀ M v,R M x v→R M y v
theorem Wk.refl(x:AV):Wk x x:=fun _ _ h=>h
theorem Wk.own{ez t b u c:Nat}{rows:List (List AV)}(nn:Bool):Wk (.own ez t b u c rows) (.sl nn ez rows):=fun _ _ h=>h.air nn
theorem Wk.sl{ez:Nat}{rows:List (List AV)}:Wk (.sl true ez rows) (.sl false ez rows):=fun _ _ h=>h.akn
theorem Wk.nil{ez:Nat}:Wk (.v (.slice none 0 0)) (.sl false ez []):=fun _ _ h=>by rw[h.ay];exact .nil _ ez none (fun h=>nomatch h)
theorem Wk.lp{t t' b o:Nat}:Wk (.lp t b o) (.lp t' b o):=fun _ _ h=>by rw[h.pB];exact .lp _ _ _
theorem Wk.raw{t' b o:Nat}:Wk (.v (.pointer (some ⟨b,o,none⟩))) (.lp t' b o):=fun _ _ h=>by rw[h.ay];exact .lp _ _ _
theorem Wk.any(x:AV):Wk x .any:=fun _ v _=> .any v
theorem Wk.FM{x y:AV}(h:x=y):Wk x y:=h ▸ Wk.refl x
inductive bC:List AV→List AV→Prop
 |nil:bC [] []
 |cons {x y:AV} {xs ys:List AV} (h:Wk x y) (t:bC xs ys):bC (x::xs) (y::ys)
theorem bC.refl:∀ (l:List AV),bC l l
 |[]=> .nil
 |x::l=> .cons (Wk.refl x) (bC.refl l)
theorem bC.sound{M:Mem}{xs ys:List AV}(h:bC xs ys):∀ {vs:List Value},RL M xs vs→RL M ys vs:=by
 induction h with
 |nil=>grind
 |cons hx _ ih=>
  intro vs h
  obtain⟨v,vs',rfl,h1,h2⟩:=h.bg
  exact RL.cons (hx _ _ h1) (ih h2)
theorem bC.append{a b c d:List AV}(h:bC a b)(k:bC c d):bC (a++c) (b++d):=by
 induction h with
 |nil=>exact k
 |cons hx _ ih=>exact .cons hx ih
theorem Wk.agg{xs ys:List AV}(h:bC xs ys):Wk (.agg xs) (.agg ys):=fun _ _ k=>by
 obtain⟨cs,rfl,hl⟩:=k.np
 exact R.su (h.sound hl)
theorem Wk.aP{xs ys:List AV}(h:bC xs ys):Wk (.aP xs) (.aP ys):=fun _ _ k=>by
 obtain⟨cs,rfl,hl⟩:=k.Tt
 exact R.vh (h.sound hl)
theorem Wk.trans{x y z:AV}(h:Wk x y)(k:Wk y z):Wk x z:=fun M v hx=>k M v (h M v hx)
theorem Spec.wk{P:Program}[Glob P]{f:FuncId}{as bs:List AV}{σ:Store}{Q:eQ→Store→Prop}(h:Spec P f bs σ Q)(hw:bC as bs):Spec P f as σ Q:=
 fun M w0 w cs hI hl=>h M w0 w cs hI (hw.sound hl)
theorem Pure.wk{P:Program}[Glob P]{f:FuncId}{as bs:List AV}{r:AV}(h:Pure P f bs r)(hw:bC as bs):Pure P f as r:=⟨fun σ=>(h.sp σ).wk hw⟩
theorem Spec.mono{P:Program}[Glob P]{f:FuncId}{as:List AV}{σ:Store}{Q Q':eQ→Store→Prop}(h:Spec P f as σ Q)(hq:∀ r σ',Q r σ'→Q' r σ'):Spec P f as σ Q':=
 fun M w0 w cs hI hl=>(h M w0 w cs hI hl).mono fun _ _ ⟨M',r,σ',a,b,c,d⟩=>⟨M',r,σ',a,b,c,hq _ _ d⟩
def fF:Nat→List AV→af
 |_,[]=>[]
 |k,x::l=>(k,x)::fF (k+1) l
def j8(res:List RC)(Q:eQ→Store→Prop):Exit→af→Store→Prop
 | .normal,rg,σ| .ret,rg,σ=>∃ x,db rg σ res=some x∧Q (.ret x) σ
 | .panic ch,_,σ=>Q (.gL ch) σ
 |_,_,_=>False
section
variable {P:Program}[Glob P]{M:Mem}{w0:Base}{w:World}{σ:Store}{rg:af}{a:Act}
theorem Im:∀ (as:List AV) (vs:List Value) (k:Nat) (tmps:Array Value),RL M as vs→(∀ i v,vs[i]? =some v→tmps[k+i]? =some v)→∀ i,R M (lk (fF k as) i) (tmps.getD i undef)
 |[],vs,k,tmps,_,_,i=> .any _
 |x::as,vs,k,tmps,h,ht,i=>by
  obtain⟨v,vs',rfl,hx,dA⟩:=h.bg
  simp only[fF,lk]
  cases hb:Nat.beq k i with
  |true=>
   have:=ht 0 v rfl
   simp_all
  |false=>exact Im as vs' (k+1) tmps dA (fun j u hu=>by have:=ht (j+1) u (by grind);grind) i
theorem ai1{r:RC}{rv:ResultVar}{x:AV}(hc:Bo P rv=some r)(hx:ou rg σ r=some x)(hI:Inv P M w0 σ w)(hR:ct M rg a):
  ∃ v,(yg a.tmps rv).run P w= .ok v w∧R M x v:=by
 cases rv with
 |tmp t=>
  simp only[Bo,Z1]at hc
  subst hc
  simp only[ou,Z1]at hx
  subst hx
  exact⟨_,rfl,hR t⟩
 |cell t ty=>
  obtain⟨⟨g,n⟩,hg,rfl⟩:=Z7.1 hc
  simp only[ou]at hx
  have ht:=hR t
  split at hx
  ·rename_i tg b o he
   rw[he]at ht
   have hv:=ht.pB
   split at hx
   ·rename_i b' l hb
    split at hx
    case isFalse=>cases hx
    rename_i B4
    subst B4
    have hcell:∀ i y,(l.drop o)[i]? =some y→∃ v,w.cell? ⟨b,o+i,none⟩=some v∧R M y v:=fun i y e=>by
     rw[YF]at e
     exact hI.cell hb e
    obtain⟨v,y,hr,gF,rfl⟩:=Gh (P:=P) (σ:=σ) (K:=fun y _=>y=x) hg (l.drop o) hcell (by
     grind)
    refine⟨v,?_,gF⟩
    simp only[yg,hv]
    simpa[Instr.loadAt,Instr.sureAddr,asAddr]using hr
   grind
  grind
theorem Md:∀ (C5:List ResultVar) (rs:List RC) (xs:List AV),qb P C5=some rs→nw rg σ rs=some xs→Inv P M w0 σ w→ct M rg a→
  ∃ vs,(C5.mapM (yg a.tmps):Sem (List Value)).run P w= .ok vs w∧RL M xs vs
 |[],rs,xs,hc,hx,_,_=>by
  simp only[qb,Z1]at hc
  subst hc
  simp only[nw,Z1]at hx
  subst hx
  exact⟨[],rfl,RL.nil⟩
 |rv::C5,rs,xs,hc,hx,hI,hR=>by
  obtain⟨r,vB,rfl,hr,hrs⟩:∃ r vB,rs=r::vB∧Bo P rv=some r∧qb P C5=some vB:=by
   cases rv with
   |tmp t=>
    obtain⟨vB,h1,rfl⟩:=Z7.1 hc
    exact⟨_,vB,rfl,rfl,h1⟩
   |cell t ty=>
    simp only[qb]at hc
    split at hc
    ·rename_i g n hg
     obtain⟨vB,h1,rfl⟩:=Z7.1 hc
     exact⟨_,vB,rfl,by simp[Bo,hg],h1⟩
    grind
  simp only[nw]at hx
  split at hx
  ·rename_i x me
   obtain⟨xs',h2,rfl⟩:=Z7.1 hx
   obtain⟨v,hv,gF⟩:=ai1 hr me hI hR
   obtain⟨vs,uV,hRL⟩:=Md C5 vB xs' hrs h2 hI hR
   refine⟨v::vs,?_,RL.cons gF hRL⟩
   simp_all
  grind
theorem Spec.intro[ie P]{f:FuncId}{fn:Func}{fc:FC}{as:List AV}{Q:eQ→Store→Prop}(hf:P.funcs[f]? =some fn)(hc:jP P fn=some fc)(hlen:as.length≤fc.N)(h:SW P fc.N fc.code (j8 fc.res Q) (fF 0 as) σ):Spec P f as σ Q:=by
 intro M w0 w cs hI hl
 unfold jP at hc
 split at hc
 ·rename_i c hb
  split at hc
  ·rename_i s r hs hr
   cases hc
   have hle:cs.length≤fn.ntmps:=by rw[← hl.1];grind
   refine calls_of_wp hf hb (wp_mono (qd (h c hs M w0 _ w hI ?_ ?_ ie.h.symm)) ?_)
   ·refine Im as cs 0 _ hl (fun i v hv=> ?_)
    grind
   ·grind
   ·rintro e a' w' ⟨M',ak,σ',hM,bw,oW,hN,hD,hq⟩
    rw[ie.h]at hD
    have fin:∀ x,db ak σ' r=some x→Q (.ret x) σ'→a'.defers=[]∧∃ v,(results fn a'.tmps).run P w'= .ok v w'∧∃ M' r Wl,M.le M'∧Inv P M' w0 Wl w'∧kq M' r (.returned v)∧Q r Wl:=by
     intro x hx hQ
     unfold db at hx
     have cY:∀ xs,nw ak σ' r=some xs→∃ vs,(fn.results.mapM (yg a'.tmps):Sem (Array Value)).run P w'= .ok vs.toArray w'∧RL M' xs vs:=by
      intro xs dA
      obtain⟨vs,h1,h2⟩:=Md fn.results.toList r xs hr dA bw oW
      exact⟨vs,by rw[Array.mapM_eq_mapM_toList,Sem.run_map,h1];rfl,h2⟩
     split at hx
     ·rename_i y hy
      cases hx
      obtain⟨vs,h1,h2⟩:=cY _ hy
      obtain⟨v,vs',rfl,h3,h4⟩:=h2.bg
      obtain rfl:=h4.qU
      refine⟨hD,v,?_,M',.ret x,σ',hM,bw,h3,hQ⟩
      rw[F8,Sem.run_bind,h1]
      simp
     ·rename_i xs aH hy
      cases hx
      obtain⟨vs,h1,h2⟩:=cY _ hy
      refine⟨hD,.tuple vs.toArray,?_,M',.ret (.aP xs),σ',hM,bw,R.vh h2,hQ⟩
      rw[F8,Sem.run_bind,h1]
      simp only[Result.andThen_ok,Sem.run_pure]
      rw[dif_neg]
      intro aY
      have qn:xs.length=1:=by rw[h2.1];simpa using aY
      obtain⟨y,rfl⟩:=List.length_eq_one_iff.1 qn
      grind
     grind
    cases e with
    |normal=>obtain⟨x,hx,hQ⟩:=hq;exact fin x hx hQ
    |ret=>obtain⟨x,hx,hQ⟩:=hq;exact fin x hx hQ
    |panic ch=>exact⟨hD,M',.gL ch,σ',hM,bw,rfl,hq⟩
    |_=>exact hq.elim
  grind
 grind
def kO(res:List RC)(r:AV)(σ:Store):Exit→af→Store→Prop
 | .normal,rg,σ'| .ret,rg,σ'=>∃ x,db rg σ' res=some x∧Wk x r∧Sub σ σ'
 |_,_,_=>False
theorem Spec.weak{f:FuncId}{as:List AV}{Q Q':eQ→Store→Prop}(h:Spec P f as σ Q)(hq:∀ r σ',Q r σ'→∃ r2 aC,Q' r2 aC∧Sub aC σ'∧(match r,r2 with| .ret x,.ret y=>Wk x y| .gL c,.gL c'=>c=c'|_,_=>False)):Spec P f as σ Q':=by
 intro M w0 w cs hI hl
 refine(h M w0 w cs hI hl).mono fun e w' ⟨M',r,σ',a,b,c,d⟩=> ?_
 obtain⟨r2,aC,h1,h2,h3⟩:=hq r σ' d
 refine⟨M',r2,aC,a,b.sub h2,?_,h1⟩
 cases r with
 |ret x=>
  cases r2 with
  |ret y=>cases e<;>first|exact h3 _ _ c|exact c
  |gL c'=>grind
 |gL ch=>
  grind
theorem Pure.intro[ie P]{f:FuncId}{fn:Func}{fc:FC}{as:List AV}{r:AV}(hf:P.funcs[f]? =some fn)(hc:jP P fn=some fc)(hlen:as.length≤fc.N)(h:∀ σ,SW P fc.N fc.code (kO fc.res r σ) (fF 0 as) σ):Pure P f as r:=by
 refine⟨fun σ=> ?_⟩
 have:=Spec.intro (Q:=fun r' σ'=>∃ x,r'= .ret x∧Wk x r∧Sub σ σ') hf hc hlen ((h σ).mono (fun e rg σ' hq=>by
  cases e with
  |normal=>obtain⟨x,h1,h2,h3⟩:=hq;exact⟨x,h1,x,rfl,h2,h3⟩
  |ret=>obtain⟨x,h1,h2,h3⟩:=hq;exact⟨x,h1,x,rfl,h2,h3⟩
  |_=>exact hq.elim))
 refine this.weak ?_
 grind
end
end Go.Sx
