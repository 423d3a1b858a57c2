/-
  The layer Sx, ninth part: regions, code, functions.
-/
import Derived.Test.YtbihckigennlhaaGreatDoorSxSound
import Derived.Scope
set_option linter.unusedVariables false
set_option linter.unusedSimpArgs false
set_option linter.unusedSectionVars false
namespace Go.Sx
open Go.RowKit
structure CI where
 d:Option Nat
 op:aw
 g:Option (Nat×Bool)
structure CD where
 ix:Nat
 c:CI
 cf:List Nat
inductive SC where
 |skip
 |cj (l:List CI)
 |azZ (l:List CI)
 |dr (ah:List Nat) (l:List CD)
 |seq (a b:SC)
 |cond (c:Operand) (t e:SC)
 |block (id:Nat) (b:SC)
 |loop (b:SC)
 |exit (id:Nat)
 |ret
 |scope (b:SC)
 |label (l:Nat)
 |goto (l:Nat)
def oT(P:Program)[Glob P](N:Nat)(ops:Array Oper)(o:Oper):Option CI:=
 match AA P o,o.dst with
 |some gg,some t=>if t<N then
   match o.guard with
   |none=>some ⟨some t,gg,none⟩
   |some (j,want)=>match(ops[j]?).bind (·.dst)with
    |some u=>some ⟨some t,gg,some (u,want)⟩
    |none=>none
  else none
 |some gg,none=>
   match o.guard with
   |none=>some ⟨none,gg,none⟩
   |some (j,want)=>match(ops[j]?).bind (·.dst)with
    |some u=>some ⟨none,gg,some (u,want)⟩
    |none=>none
 |none,_=>none
def gE(P:Program)[Glob P](N:Nat)(ops:Array Oper):List Oper→Option (List CI)
 |[]=>some []
 |o::l=>match oT P N ops o with
  |some c=>(gE P N ops l).map (c::·)
  |none=>none
def aw.opers:aw→List Operand
 | .mv x| .box _ x| .load _ _ x| .j6 x| .un _ x| .ly _ x| .oU x| .lT _ x| .iS _ x| .field _ _ _ x| .extract x _| .len _ x| .panic x=>[x]
 | .pick c a b=>[c,a,b]
 | .alloc _ _=>[]
 | .build _ ps=>ps.map (·.2.2)
 | .aZ _ _ ps=>ps
 | .store _ x y| .bin _ x y| .gZ _ _ x y| .eqs _ _ x y| .eH _ x y| .iH _ _ x y| .idxs x y| .append _ _ _ _ x y| .max2 x y| .min2 x y=>[x,y]
 | .gi _ a b=>a++b
 | .slice _ x lo hi=>x::(lo.toList++hi.toList)
 | .call _ as=>as
 | .dA f as=>f::as
 | .cp _ _ _ as| .exts _ _ _ as=>as
def tmpsOf:List Operand→List Nat
 |[]=>[]
 | .tmp t::l=>t::tmpsOf l
 |_::l=>tmpsOf l
def CI.reads(c:CI):List Nat:=tmpsOf c.op.opers++(match c.g with|some (u,_)=>[u]|none=>[])
def posOf(t:Nat):List (Option Nat)→Nat→Option Nat
 |[],_=>none
 |x::l,k=>if x=some t then some k else posOf t l (k+1)
theorem F6{t j:Nat}:∀ (l:List (Option Nat)) (k:Nat),posOf t l k=some j→∃ i,j=k+i∧l[i]? =some (some t)
 |[],k,h=>by cases h
 |x::l,k,h=>by
  simp only[posOf]at h
  split at h
  ·simp_all
  ·obtain⟨i,h1,h2⟩:=F6 l (k+1) h
   exact⟨i+1,by omega,by grind⟩
theorem F5{t:Nat}:∀ (l:List (Option Nat)) (k:Nat),posOf t l k=none→some t∉l
 |[],k,h=>by simp
 |x::l,k,h=>by
  simp only[posOf]at h
  split at h
  ·cases h
  ·have:=F5 l (k+1) h
   grind
def aw.cls:aw→Nat
 | .load .. =>1
 | .alloc .. | .box .. =>2
 | .store .. =>3
 | .append .. | .exts .. =>4
 | .panic .. =>5
 |_=>0
def oV(ops:Array Oper)(l:List CI):Bool:=
 (l.map (·.d)).Nodup && l.all (fun c=>c.d.isSome && (Nat.ble c.op.cls 1 || (Nat.beq c.op.cls 4 && c.g.isNone))) &&
 (l.zip ops.toList).zipIdx.all fun((c,o),i)=>
  o.after.all (fun e=> !Region.binds .any e || decide (e.on<i)) &&
  c.reads.all fun t=>match posOf t (l.map (·.d)) 0 with
   |some j=>o.after.any fun e=>Region.binds .any e && e.on == j
   |none=>true
def tJ:List CI→Nat→Option Nat
 |[],_=>none
 |c::l,k=>bif Nat.beq c.op.cls 4 then some k else tJ l (k+1)
theorem F4{k:Nat}:∀ (l:List CI) (m:Nat),tJ l m=some k→∃ i,∃ h:i<l.length,k=m+i∧l[i].op.cls=4∧∀ j,j<i→(hj:j<l.length)→l[j].op.cls≠4
 |[],m,h=>by cases h
 |c::l,m,h=>by
  simp only[tJ]at h
  cases e:Nat.beq c.op.cls 4 with
  |true=>simp_all
  |false=>
   rw[e]at h
   obtain⟨i,h1,h2,h3,h4⟩:=F4 l (m+1) h
   refine⟨i+1,by grind,by omega,by grind,fun j hj hl=> ?_⟩
   cases j with
   |zero=>intro e2;simp_all
   |succ j=>grind
def oW(ops:Array Oper)(l:List CI):Bool:=match tJ l 0 with
 |none=>false
 |some k=>
 (l.map (·.d)).Nodup && l.all (fun c=>c.d.isSome && (Nat.ble c.op.cls 1 || (Nat.beq c.op.cls 4 && c.g.isNone))) &&
 (l.zip ops.toList).zipIdx.all fun((c,o),i)=>
  o.after.all (fun e=> !Region.binds .any e || decide (e.on<i)) &&
  c.reads.all fun t=>match posOf t (l.map (·.d)) 0 with
   |some j=>(o.after.any fun e=>Region.binds .any e && e.on == j) || (Nat.ble i k && Nat.blt k j)
   |none=>true
def fM(ops:Array Oper)(i j:Nat):Bool:=match ops[i]? with
 |some o=>o.after.any fun e=>Region.binds .any e && e.on == j
 |none=>false
def MC(ops:Array Oper):List CI→Nat→List Nat→List Nat
 |[],_,acc=>acc
 |c::l,i,acc=>MC ops l (i+1) (bif Nat.ble 2 c.op.cls || acc.any (fM ops i)then i::acc else acc)
def NU:aw→Option Nat
 | .store _ (.tmp s) _=>some s
 |_=>none
def isApp:aw→Bool
 | .append .. =>true
 |_=>false
def xn(l:List CI):List Nat:=l.filterMap fun c=>bif Nat.beq c.op.cls 2 || isApp c.op then c.d else none
def DD(s:Nat):List CI→Option aw
 |[]=>none
 |c::l=>match c.d with
  |some d=>bif Nat.beq d s then some c.op else DD s l
  |none=>DD s l
def rootOf(l:List CI):Nat→Nat→Option Nat
 |0,_=>none
 |n+1,s=>match DD s l with
  |none=>some s
  |some (.alloc ..)|some (.box ..)=>some s
  |some (.iS _ (.tmp s'))|some (.j6 (.tmp s'))|some (.iH _ _ (.tmp s') _)|some (.eH _ (.tmp s') _)|some (.mv (.tmp s'))=>rootOf l n s'
  |_=>none
def uP(ops:Array Oper)(l0:List CI)(i:Nat):List CI→Nat→List Nat
 |[],_=>[]
 |c::l,j=>match NU c.op with
  |some s=>bif fM ops i j || fM ops j i then uP ops l0 i l (j+1)else match rootOf l0 l0.length s with
   |some r=>bif (xn l0).elem r then uP ops l0 i l (j+1)else r::uP ops l0 i l (j+1)
   |none=>uP ops l0 i l (j+1)
  |none=>uP ops l0 i l (j+1)
def Fj:aw→Bool
 | .call .. =>true
 |_=>false
def Ds(ops:Array Oper)(i:Nat):List CI→Nat→List Nat
 |[],_=>[]
 |c::l,j=>bif Fj c.op && fM ops i j then c.d.toList++Ds ops i l (j+1)else Ds ops i l (j+1)
def M6(ops:Array Oper)(l:List CI)(i:Nat):Option CD:=
 match l[i]? with
 |some c=>some ⟨i,c,bif Nat.beq c.op.cls 1 then uP ops l i l 0 else match NU c.op with
  |some s=>(rootOf l l.length s).toList
  |none=>bif Nat.beq c.op.cls 0 then Ds ops i l 0 else[]⟩
 |none=>none
def BG(d:Option Nat)(x:CD):Bool:=match d with
 |some d=> !x.c.reads.elem d && !x.cf.elem d
 |none=>true
def jy(ah:List Nat)(a c:CD):Bool:=
 BG a.c.d c && BG c.c.d a && (a.c.d.isNone || decide (a.c.d≠c.c.d)) &&
 match a.c.op.cls,c.c.op.cls with
 |0,_=>true
 |1,0|1,1=>true
 |1,2=>(match c.c.d with|some d=>ah.elem d|none=>false)
 |1,3=>(match c.cf with|[s]=>a.cf.elem s || ah.elem s|_=>false)
 |1,4=>(match c.c.d with|some d=>ah.elem d|none=>false)
 |2,2=>true
 |_,_=>false
def xT(ops:Array Oper):Nat→Nat→Nat→Bool
 |0,i,j=>fM ops i j
 |n+1,i,j=>fM ops i j || (List.range ops.size).any fun b=>fM ops i b && xT ops n b j
def vV(ops:Array Oper)(ah:List Nat):List CD→Bool
 |[]=>true
 |a::l=> !fM ops a.ix a.ix && l.all (fun c=> !fM ops a.ix c.ix && (fM ops c.ix a.ix || jy ah a c || (Nat.beq c.c.op.cls 4 && xT ops 2 c.ix a.ix))) && vV ops ah l
def fV(x:CD):Bool:=(Nat.ble x.c.op.cls 3 || isApp x.c.op) && (Nat.ble x.c.op.cls 1 || x.c.g.isNone) && (!Nat.beq x.c.op.cls 2 || x.c.d.isSome)
def FD(l:List CI):Bool:=Nat.ble 2 (l.filter fun c=>Nat.beq c.op.cls 4).length
def BB(ops:Array Oper)(ah:List Nat)(ds:List CD):Bool:=
 decide ((ds.map (·.ix)).Nodup) && Nat.ble ds.length ops.size && (List.range ops.size).all (fun i=>ds.any fun x=>Nat.beq x.ix i) && ds.all fV && ops.all (fun o=>o.after.all fun e=> !Region.binds .any e || decide (e.on<ops.size)) && vV ops ah ds
def JI(ops:Array Oper):List CI→Nat→List Nat→List Nat
 |[],_,acc=>acc
 |c::l,i,acc=>JI ops l (i+1) (bif Fj c.op || acc.any (fM ops i)then i::acc else acc)
def vO(ops:Array Oper)(l:List CI):List CD:=
 let late:=MC ops l 0 []
 let dep:=bif Nat.beq (l.filter fun c=>Fj c.op).length 1 then JI ops l 0 []else[]
 ((List.range l.length).filter (fun i=> !late.elem i && !dep.elem i)++(List.range l.length).filter (fun i=> !late.elem i && dep.elem i)++(List.range l.length).filter (fun i=>late.elem i)).filterMap (M6 ops l)
theorem M5{ops:Array Oper}{l:List CI}{x:CD}(h:x∈vO ops l):l[x.ix]? =some x.c:=by
 obtain⟨i,_,hi⟩:=List.mem_filterMap.1 h
 unfold M6 at hi
 split at hi
 ·grind
 grind
def tN(ops:Array Oper):Nat:=bif qV ops (ops.size-2)then 2 else 1
def gO(ops:Array Oper):Array Oper:=ops.extract 0 (ops.size-tN ops)
def lY(ops:Array Oper):Array Oper:=ops.extract (ops.size-tN ops) ops.size
def GC(ops:Array Oper):Bool:=Nat.ble (tN ops) ops.size && qy ops && qy (gO ops) && qV ops (ops.size-tN ops) && (gO ops).all (fun o=>match o.guard with|some (j,_)=>Nat.blt j (ops.size-tN ops)|none=>true) && (lY ops).all (fun o=>o.guard.isNone)
def Jw(P:Program)[Glob P](N:Nat)(ops:Array Oper):Option SC:=
 match gE P N (gO ops) (gO ops).toList,gE P N (lY ops) (lY ops).toList with
 |some l1,some l2=>if GC ops=true∧((oV (gO ops) l1=true∨oW (gO ops) l1=true)∧FD l1=false)∧P.follows .mixedOrders=true then some (.seq (.azZ l1) (.cj l2))else none
 |_,_=>none
def eB(P:Program)[Glob P](N:Nat):Code→Option SC
 | .skip=>some .skip
 | .region _ ops false=>(gE P N ops ops.toList).map .cj
 | .region _ ops true=>match gE P N ops ops.toList with
  |some l=>if FD l=true∧BB ops (xn l) (vO ops l)∧P.follows .mixedOrders=true then some (.dr (xn l) (vO ops l))
    else if(oV ops l=true∨oW ops l=true)∧P.follows .mixedOrders=true then some (.azZ l)
    else if BB ops (xn l) (vO ops l)∧P.follows .mixedOrders=true then some (.dr (xn l) (vO ops l))else Jw P N ops
  |none=>none
 | .seq a b=>match eB P N a,eB P N b with
  |some a,some b=>some (.seq a b)
  |_,_=>none
 | .cond c t e=>match eB P N t,eB P N e with
  |some t,some e=>some (.cond c t e)
  |_,_=>none
 | .block id b=>(eB P N b).map (.block id)
 | .loop b=>(eB P N b).map .loop
 | .exit id=>some (.exit id)
 | .ret=>some .ret
 | .scope b=>(eB P N b).map .scope
 | .label l=>some (.label l)
 | .goto l=>some (.goto l)
 |_=>none
def gF(P:Program)[Glob P](M:Mem)(w0:Base)(N:Nat)(Q:Exit→ae→Store→Prop):Exit→Act→World→Prop:=fun e a w=>
 ∃ M' rg σ,M.le M'∧Inv P M' w0 σ w∧bE M' rg a∧a.tmps.size=N∧a.defers=Glob.df P∧Q e rg σ
def qo(P:Program)(c:Code)(Q:Exit→Act→World→Prop)(a:Act)(w:World):Prop:=match c with
 | .region _ ops true=>P.follows .mixedOrders=true∧∀ t,wpOps P ops Q (Region.linearise .any ops t) a {w with drawn:=w.drawn+1}
 | .region _ ops false=>wpOps P ops Q (List.range ops.size) a w
 |c=>c.wp P Q a w
theorem nC{P:Program}{c:Code}{Q:Exit→Act→World→Prop}{a:Act}{w:World}(h:qo P c Q a w):c.wp P Q a w:=by
 unfold qo at h
 split at h
 ·refine wp_region_draw fun t=> ?_
  simp only[Region.schedule,h.1,Bool.true_or,Y7]
  grind
 ·exact wp_region h
 grind
theorem Dz{P:Program}{id:Nat}{ops:Array Oper}{Q:Exit→Act→World→Prop}{a:Act}{w:World}(hm:P.follows .mixedOrders=true)(h:wpAny P .any ops Q ops.size (Array.replicate ops.size false) a {w with drawn:=w.drawn+1}):qo P (.region id ops true) Q a w:=
 ⟨hm,fun t=>wpAny_sound ops.size t _ a _ h⟩
def SW(P:Program)[Glob P](N:Nat)(s:SC)(Q:Exit→ae→Store→Prop)(rg:ae)(σ:Store):Prop:=
 ∀ c,eB P N c=some s→∀ (M:Mem) (w0:Base) (a:Act) (w:World),Inv P M w0 σ w→bE M rg a→a.tmps.size=N→a.defers=Glob.df P→qo P c (gF P M w0 N Q) a w
def di(P:Program)[Glob P](cfg:Nat→Nat)(c:CI)(K:AV→Store→Prop)(E:List PanicEntry→Store→Prop)(rg:ae)(σ:Store):Prop:=
 match c.g with
 |none=>aj P cfg c.d rg σ K E c.op
 |some (t,want)=>match lk rg t with
  | .v (.bool b)=>(b=want→aj P cfg c.d rg σ K E c.op)∧(b= !want→K (.v undef) σ)
  | .v (.tuple _)=>K (.v undef) σ
  |_=>False
def Gd(b want:Bool)(X Y:Prop):Prop:=(b=want→X)∧(b= !want→Y)
theorem Gd.l{b want:Bool}{X Y:Prop}(h:Gd b want X Y):b=want→X:=h.1
theorem Gd.r{b want:Bool}{X Y:Prop}(h:Gd b want X Y):b= !want→Y:=h.2
def oE(P:Program)[Glob P](cfg:Nat→Nat):List CI→(K:ae→Store→Prop)→(E:List PanicEntry→Store→Prop)→ae→Store→Prop
 |[],K,_,rg,σ=>K rg σ
 |c::l,K,E,rg,σ=>match c.g with
  |none=>aj P cfg c.d rg σ (fun x σ'=>oE P cfg l K E (bM c.d x rg) σ') E c.op
  |some (t,want)=>match lk rg t with
   | .v (.bool b)=>Gd b want (aj P cfg c.d ((t,.v (.bool want))::rg) σ (fun x σ'=>oE P cfg l K E (bM c.d x ((t,.v (.bool want))::rg)) σ') E c.op)
     (oE P cfg l K E (bM c.d (.v undef) ((t,.v (.bool !want))::rg)) σ)
   | .v (.tuple _)=>oE P cfg l K E (bM c.d (.v undef) rg) σ
   |_=>False
theorem Bz{rg:ae}{t:Nat}{x:AV}(h:lk rg t=x)(i:Nat):lk ((t,x)::rg) i=lk rg i:=by
 simp only[lk]
 cases hb:Nat.beq t i with
 |true=>simp_all
 |false=>rfl
theorem ay5{P:Program}[Glob P]{cfg:Nat→Nat}{c:CI}{l:List CI}{K:ae→Store→Prop}{E:List PanicEntry→Store→Prop}{rg:ae}{σ:Store}(h:oE P cfg (c::l) K E rg σ):
  ∃ rg',(∀ i,lk rg' i=lk rg i)∧di P cfg c (fun x σ'=>oE P cfg l K E (bM c.d x rg') σ') E rg' σ:=by
 simp only[oE]at h
 split at h
 ·exact⟨rg,fun _=>rfl,by unfold di;grind⟩
 ·rename_i t want hg
  split at h
  ·rename_i b hb
   by_cases qD:b=want
   ·subst qD
    have e:lk ((t,AV.v (.bool b))::rg) t= .v (.bool b):=by simp[lk,YJ]
    refine⟨_,Bz hb,?_⟩
    unfold di
    rw[hg]
    simp only[e]
    exact⟨fun _=>h.l rfl,fun h'=>by grind⟩
   ·have gr:b= !want:=by cases b<;>cases want<;>simp_all
    subst gr
    have e:lk ((t,AV.v (.bool !want))::rg) t= .v (.bool !want):=by simp[lk,YJ]
    refine⟨_,Bz hb,?_⟩
    unfold di
    rw[hg]
    simp only[e]
    exact⟨fun h'=>absurd h' qD,fun _=>h.r rfl⟩
  ·exact⟨rg,fun _=>rfl,by unfold di;grind⟩
  grind
section
variable {P:Program}[Glob P]{M:Mem}{w0:Base}{w:World}{σ:Store}{rg:ae}{a:Act}{cfg:Nat→Nat}{N:Nat}
theorem sD{ops:Array Oper}{o:Oper}{c:CI}(hc:oT P N ops o=some c){K:AV→Store→Prop}{E:List PanicEntry→Store→Prop}(h:di P cfg c K E rg σ)(hI:Inv P M w0 σ w)(hR:bE M rg a)
  {next:Act→World→Prop} {Q:Exit→Act→World→Prop} (hg:wY P M w0 w K E o a next Q):
  if Region.wanted o (yielded ops a.tmps)then o.wp P a w next Q∨(o.asks P a w∧LetsOut Q)else next (a.put o.dst undef) w:=by
 obtain⟨gg,aaj,hd,bT,Bb⟩:∃ gg,AA P o=some gg∧c.d=o.dst∧c.op=gg∧((o.guard=none∧c.g=none)∨∃ j want u,o.guard=some (j,want)∧(ops[j]?).bind (·.dst)=some u∧c.g=some (u,want)):=by
  unfold oT at hc
  split at hc
  ·grind
  ·grind
  grind
 have run:aj P cfg c.d rg σ K E c.op→o.wp P a w next Q:=fun h=>UZ (cfg:=cfg) (d:=c.d) aaj (by grind) hI hR hg
 have ON:K (.v undef) σ→next (a.put o.dst undef) w:=fun h=>hg.val M _ σ undef w (Mem.le.refl _) hI (.v _) h
 unfold di at h
 rcases Bb with⟨h1,h2⟩|⟨j,want,u,h1,h2,h3⟩
 ·rw[h2]at h
  simp only[Region.wanted,h1,Y7]
  grind
 ·rw[h3]at h
  simp only at h
  have hy:yielded ops a.tmps j=match a.tmps[u]? with
   |some (.bool b)=>some b
   |_=>none:=by unfold yielded;grind
  have hu:=hR u
  split at h
  ·rename_i b hb
   rw[hb]at hu
   have hv:=hu.az
   have ht:a.tmps[u]? =some (.bool b):=by
    rw[Z2]at hv
    cases he:a.tmps[u]? with
    |none=>rw[he]at hv;simp[undef]at hv
    |some y=>rw[he]at hv;simp at hv;rw[hv]
   have Fe:yielded ops a.tmps j=some b:=by rw[hy,ht]
   simp only[Region.wanted,h1,Fe]
   by_cases qD:b=want
   ·subst qD
    simp only[beq_self_eq_true,Y7]
    exact .inl (run (h.1 rfl))
   ·have:(some b == some want)=false:=by simp[qD]
    simp only[this,ZS,Zt]
    exact ON (h.2 (by cases b<;>cases want<;>simp_all))
  ·rename_i vs hb
   rw[hb]at hu
   have hv:=hu.az
   have Fe:yielded ops a.tmps j=none:=by
    rw[hy]
    rw[Z2]at hv
    cases he:a.tmps[u]? with
    |none=>rfl
    |some y=>rw[he]at hv;simp at hv;rw[hv]
   simp only[Region.wanted,h1,Fe]
   have:((none:Option Bool) == some want)=false:=rfl
   simp only[this,ZS,Zt]
   exact ON h
  grind
theorem xy{ops:Array Oper}{o:Oper}{c:CI}(hc:oT P N ops o=some c):c.d=o.dst∧∀ t,c.d=some t→t<N:=by
 unfold oT at hc
 split at hc
 ·grind
 ·grind
 grind
theorem ue(ops:Array Oper){Q:Exit→ae→Store→Prop}{K:ae→Store→Prop}(hK:∀ rg σ,K rg σ→Q .normal rg σ):
  ∀ (os:List Oper) (k:Nat) (l:List CI),gE P N ops os=some l→(∀ i,i<os.length→ops[k+i]? =os[i]?)→
  ∀ (M:Mem) (w0:Base) (w:World) (a:Act) (rg:ae) (σ:Store),oE P cfg l K (fun ch σ'=>Q (.panic ch) [] σ') rg σ→Inv P M w0 σ w→bE M rg a→a.tmps.size=N→a.defers=Glob.df P→
   wpOps P ops (gF P M w0 N Q) (List.range' k os.length) a w
 |[],k,l,hl,_,M,w0,w,a,rg,σ,h,hI,hR,hN,hD=>by
  simp only[gE,Z5]at hl
  subst hl
  exact⟨M,rg,σ,Mem.le.refl _,hI,hR,hN,hD,hK rg σ h⟩
 |o::os,k,l,hl,ho,M,w0,w,a,rg,σ,h,hI,hR,hN,hD=>by
  simp only[gE]at hl
  split at hl
  ·rename_i c hc
   obtain⟨l',gd,rfl⟩:=ZR.1 hl
   have EN:ops[k]? =some o:=by simpa using ho 0 (by simp)
   obtain⟨rg',yk,h⟩:=ay5 h
   replace hR:bE M rg' a:=fun i=>by rw[yk];exact hR i
   obtain⟨iZ,aH⟩:=xy hc
   simp only[Z9,List.range'_succ,wpOps,EN]
   refine sD hc h hI hR ⟨fun M' x σ' v w' hM hI' hx hk=> ?_,fun M' ch σ' w' hM hI' hk=> ?_⟩
   ·have ih:=ue ops hK os (k+1) l' gd (fun i hi=>by have:=ho (i+1) (by simpa using hi);rw[show k+1+i=k+(i+1)from by omega];simpa using this) M' w0 w' (a.put o.dst v) (bM c.d x rg') σ' hk hI'
     (by rw[iZ];exact(hR.mono hM).put o.dst (fun t ht=>by rw[hN];exact aH t (iZ.trans ht)) hx) (by rw[Act.size_put];exact hN) (by rw[Act.xB];exact hD)
    refine pX ?_ _ _ _ ih
    rintro e a2 w2 ⟨M2,bP,σ2,h1,h2⟩
    exact⟨M2,bP,σ2,hM.trans h1,h2⟩
   ·exact⟨M',[],σ',hM,hI',fun i=> .any _,hN,hD,hk⟩
  ·cases hl
where
 pX {ops:Array Oper} {Q Q':Exit→Act→World→Prop} (h:∀ e a w,Q e a w→Q' e a w):∀ (is:List Nat) (a:Act) (w:World),wpOps P ops Q is a w→wpOps P ops Q' is a w
 |[],a,w,hq=>h _ _ _ hq
 |i::is,a,w,hq=>by
  rw[wpOps_cons]at hq ⊢
  unfold wpOp at hq ⊢
  split
  ·rename_i e;rw[e]at hq;exact pX h is a w hq
  ·rename_i o e
   rw[e]at hq
   simp only at hq
   split
   ·rename_i hw
    rw[if_pos hw]at hq
    refine hq.imp (fun hh=> ?_) (fun⟨x,y⟩=>⟨x,y.elim fun a h'=>h'.elim fun w uZ=>⟨a,w,h _ _ _ uZ⟩⟩)
    have h1:=Oper.wp_mono (K':=wpOps P ops Q' is) (fun a w=>pX h is a w) hh
    unfold Oper.wp at h1 ⊢
    generalize (execOp a.eval o).run P w=r at h1
    cases r with
    |ok n w'=>
     cases n<;>simp only[Oper.upon]at h1 ⊢<;>first
      |exact h1
      |exact Calls.mono h1 (fun e zR he=>by cases e<;>first|exact he|exact h _ _ _ he|exact he.elim fun a h'=>h'.elim fun w uZ=>⟨a,w,h _ _ _ uZ⟩)
    |halt x w'=>cases x<;>simp only[Oper.upon]at h1 ⊢<;>first|exact h1|exact h _ _ _ h1
   ·rename_i hw
    rw[if_neg hw]at hq
    exact pX h is _ _ hq
theorem DA{c:Code}{Q Q':Exit→Act→World→Prop}(h:qo P c Q a w)(hq:∀ e a w,Q e a w→Q' e a w):qo P c Q' a w:=by
 unfold qo at h ⊢
 split
 ·exact⟨h.1,fun t=>ue.pX hq _ _ _ (h.2 t)⟩
 ·exact ue.pX hq _ _ _ h
 ·have h':c.wp P Q a w:=by
   grind
  exact wp_mono h' hq
theorem Hb{ops ops':Array Oper}{Q:Exit→Act→World→Prop}(f:Nat→Nat)(L2:List Nat):∀ (L:List Nat),(∀ i∈L,ops'[i]? =ops[f i]?∧∀ o,ops'[i]? =some o→∀ tmps,Region.wanted o (yielded ops' tmps)=Region.wanted o (yielded ops tmps))→∀ (a:Act) (w:World),
  wpOps P ops' (Exit.then (wpOps P ops Q L2) Q) L a w→wpOps P ops Q (L.map f++L2) a w
 |[],_,a,w,h=>h
 |i::L,hL,a,w,h=>by
  have ih:=Hb (ops:=ops) (ops':=ops') (Q:=Q) f L2 L (fun j hj=>hL j (ZX _ hj))
  obtain⟨h1,h2⟩:=hL i ZU
  rw[ZH,ZD,wpOps_cons]
  rw[wpOps_cons]at h
  unfold wpOp at h ⊢
  rw[← h1]
  split
  ·grind
  ·rename_i o e
   rw[e]at h
   simp only at h
   rw[← h2 o e]
   split
   ·rename_i hw
    rw[if_pos hw]at h
    refine h.imp (fun hh=> ?_) (fun⟨x,y⟩=>⟨x,y⟩)
    have h3:=Oper.wp_mono (K':=wpOps P ops Q (L.map f++L2)) (fun a w=>ih a w) hh
    generalize (execOp a.eval o).run P w=r at h3
    cases r with
    |ok n w'=>
     assumption
    |halt x w'=>assumption
   grind
theorem azl{o:Oper}{ops ops':Array Oper}(h:∀ j want,o.guard=some (j,want)→ops'[j]? =ops[j]?)(tmps:Array Value):Region.wanted o (yielded ops' tmps)=Region.wanted o (yielded ops tmps):=by
 unfold Region.wanted
 cases hg:o.guard with
 |none=>rfl
 |some g=>
  obtain⟨j,want⟩:=g
  simp only[yielded,h j want hg]
theorem Dx{M M':Mem}(h:M.le M'){Q:Exit→ae→Store→Prop}{e:Exit}{a:Act}{w:World}:gF P M' w0 N Q e a w→gF P M w0 N Q e a w:=
 fun⟨M2,bP,σ2,h1,h2⟩=>⟨M2,bP,σ2,h.trans h1,h2⟩
theorem SW.mono{s:SC}{Q Q':Exit→ae→Store→Prop}(h:SW P N s Q rg σ)(hq:∀ e rg σ,Q e rg σ→Q' e rg σ):SW P N s Q' rg σ:=
 fun c hc M w0 a w hI hR hN hD=>DA (h c hc M w0 a w hI hR hN hD) fun _ _ _ ⟨M2,bP,σ2,h1,h2,h3,h4,h5,h6⟩=>⟨M2,bP,σ2,h1,h2,h3,h4,h5,hq _ _ _ h6⟩
theorem SW.eY(l:List Nat){s:SC}{Q:Exit→ae→Store→Prop}(h:SW P N s Q (eY l rg) σ):SW P N s Q rg σ:=
 fun c hc M w0 a w hI hR hN hD=>h c hc M w0 a w hI (hR.eY l) hN hD
def l7(K:ae→Store→Prop)(Q:Exit→ae→Store→Prop):Exit→ae→Store→Prop
 | .normal,rg,σ=>K rg σ
 |e,rg,σ=>Q e rg σ
def oQ(id:Nat)(Q:Exit→ae→Store→Prop):Exit→ae→Store→Prop
 | .exit od,rg,σ=>if od=id then Q .normal rg σ else Q (.exit od) rg σ
 |e,rg,σ=>Q e rg σ
def mh(P:Program)[Glob P](N:Nat)(c:Code):SC→Prop
 | .skip=>c= .skip
 | .cj l=>∃ id ops,c= .region id ops false∧gE P N ops ops.toList=some l
 | .azZ l=>∃ id ops,c= .region id ops true∧gE P N ops ops.toList=some l∧(oV ops l=true∨oW ops l=true)∧P.follows .mixedOrders=true
 | .dr ah ds=>∃ id ops l,c= .region id ops true∧gE P N ops ops.toList=some l∧(∀ x∈ds,l[x.ix]? =some x.c)∧BB ops ah ds=true∧P.follows .mixedOrders=true
 | .seq a b=>(∃ ca cb,c= .seq ca cb∧eB P N ca=some a∧eB P N cb=some b)∨
   ∃ id ops l1 l2,c= .region id ops true∧a= .azZ l1∧b= .cj l2∧gE P N (gO ops) (gO ops).toList=some l1∧gE P N (lY ops) (lY ops).toList=some l2∧GC ops=true∧((oV (gO ops) l1=true∨oW (gO ops) l1=true)∧FD l1=false)∧P.follows .mixedOrders=true
 | .cond x a b=>∃ ca cb,c= .cond x ca cb∧eB P N ca=some a∧eB P N cb=some b
 | .block id b=>∃ cb,c= .block id cb∧eB P N cb=some b
 | .loop b=>∃ cb,c= .loop cb∧eB P N cb=some b
 | .exit id=>c= .exit id
 | .ret=>c= .ret
 | .scope b=>∃ cb,c= .scope cb∧eB P N cb=some b
 | .label l=>c= .label l
 | .goto l=>c= .goto l
theorem dO{c:Code}{s:SC}(h:eB P N c=some s):mh P N c s:=by
 cases c with
 |skip=>simp only[eB,Z5]at h;subst h;rfl
 |region id ops draw=>
  cases draw with
  |false=>
   simp only[eB]at h
   obtain⟨l,h1,rfl⟩:=ZR.1 h
   exact⟨id,ops,rfl,h1⟩
  |true=>
   simp only[eB]at h
   split at h
   ·rename_i l hl
    split at h
    ·rename_i hd;cases h;exact⟨id,ops,l,rfl,hl,fun x hx=>M5 hx,hd.2.1,hd.2.2⟩
    split at h
    ·rename_i hd;cases h;exact⟨id,ops,rfl,hl,hd.1,hd.2⟩
    ·split at h
     ·rename_i hd;cases h;exact⟨id,ops,l,rfl,hl,fun x hx=>M5 hx,hd.1,hd.2⟩
     ·unfold Jw at h
      split at h
      ·rename_i l1 l2 e1 e2
       split at h
       ·rename_i hd;cases h;exact .inr ⟨id,ops,l1,l2,rfl,rfl,rfl,e1,e2,hd.1,hd.2.1,hd.2.2⟩
       grind
      grind
   grind
 |seq a b=>
  simp only[eB]at h
  split at h
  ·rename_i x y h1 h2;cases h;exact .inl ⟨a,b,rfl,h1,h2⟩
  grind
 |cond x a b=>
  simp only[eB]at h
  split at h
  ·rename_i x y h1 h2;cases h;exact⟨a,b,rfl,h1,h2⟩
  grind
 |block id b=>
  simp only[eB]at h
  obtain⟨l,h1,rfl⟩:=ZR.1 h
  exact⟨b,rfl,h1⟩
 |loop b=>
  simp only[eB]at h
  obtain⟨l,h1,rfl⟩:=ZR.1 h
  exact⟨b,rfl,h1⟩
 |exit id=>simp only[eB,Z5]at h;subst h;rfl
 |ret=>simp only[eB,Z5]at h;subst h;rfl
 |scope b=>
  simp only[eB]at h
  obtain⟨l,h1,rfl⟩:=ZR.1 h
  exact⟨b,rfl,h1⟩
 |label l=>simp only[eB,Z5]at h;subst h;rfl
 |goto l=>simp only[eB,Z5]at h;subst h;rfl
 |_=>simp[eB]at h
def lC:SC→Nat→Option SC
 | .seq a b,l=>match lC a l with
  |some r=>some (.seq r b)
  |none=>lC b l
 | .label l',l=>if l' == l then some .skip else none
 |_,_=>none
theorem DR{l:Nat}:∀ (c:Code) (s:SC),eB P N c=some s→match lC s l with
  |some r=>∃ rest,findLabel c l=some rest∧eB P N rest=some r
  |none=>findLabel c l=none
 | .seq ca cb,s,h=>by
  cases s with
  |seq a b=>
   rcases dO h with⟨ca',cb',e,h1,h2⟩|⟨id,ops,l1,l2,e,_⟩
   ·cases e
    have i1:=DR (l:=l) ca a h1
    have i2:=DR (l:=l) cb b h2
    simp only[lC,findLabel]
    cases e1:lC a l with
    |some r=>
     rw[e1]at i1
     obtain⟨rest,g1,g2⟩:=i1
     exact⟨.seq rest cb,by rw[g1],by simp only[eB,g2,h2]⟩
    |none=>
     grind
   grind
  |_=>
   have:=dO h
   simp only[mh]at this
   grind
 | .label l',s,h=>by
  simp only[eB,Z5]at h
  subst h
  simp only[lC,findLabel]
  by_cases e:(l' == l)=true
  ·rw[if_pos e];exact⟨.skip,by grind,rfl⟩
  grind
 | .region id ops draw,s,h=>by
  have:=dO h
  cases s<;>simp only[mh,reduceCtorEq,false_and,Yf,Ye,and_false]at this<;>simp only[lC,findLabel]
  rename_i a b
  rcases this with⟨_,_,e,_⟩|⟨_,_,l1,l2,e,e1,e2,_⟩
  ·rw[e1,e2];exact trivial
 | .skip,s,h=>by have:=dO h;cases s<;>simp only[mh,reduceCtorEq,false_and,Yf,Ye,or_self]at this<;>rfl
 | .cond _ _ _,s,h=>by have:=dO h;cases s<;>simp only[mh,reduceCtorEq,false_and,Yf,Ye,or_self]at this<;>rfl
 | .block _ _,s,h=>by have:=dO h;cases s<;>simp only[mh,reduceCtorEq,false_and,Yf,Ye,or_self]at this<;>rfl
 | .loop _,s,h=>by have:=dO h;cases s<;>simp only[mh,reduceCtorEq,false_and,Yf,Ye,or_self]at this<;>rfl
 | .exit _,s,h=>by have:=dO h;cases s<;>simp only[mh,reduceCtorEq,false_and,Yf,Ye,or_self]at this<;>rfl
 | .ret,s,h=>by have:=dO h;cases s<;>simp only[mh,reduceCtorEq,false_and,Yf,Ye,or_self]at this<;>rfl
 | .scope _,s,h=>by have:=dO h;cases s<;>simp only[mh,reduceCtorEq,false_and,Yf,Ye,or_self]at this<;>rfl
 | .goto _,s,h=>by have:=dO h;cases s<;>simp only[mh,reduceCtorEq,false_and,Yf,Ye,or_self]at this<;>rfl
 | .rangeFunc _ _ _ _,s,h=>by simp[eB]at h
 | .refuse _,s,h=>by simp[eB]at h
theorem QE{l:List CI}{Q:Exit→ae→Store→Prop}(cfg:Nat→Nat)(h:oE P cfg l (Q .normal) (fun ch σ'=>Q (.panic ch) [] σ') rg σ):SW P N (.cj l) Q rg σ:=by
 intro c hc M w0 a w hI hR hN hD
 obtain⟨id,ops,rfl,hl⟩:=dO hc
 show wpOps _ _ _ _ _ _
 have:=ue (P:=P) (N:=N) (cfg:=cfg) ops (Q:=Q) (K:=Q .normal) (fun _ _ h=>h) ops.toList 0 l hl (fun i hi=>by simp) M w0 w a rg σ h hI hR hN hD
 rw[X5]
 grind
theorem H4{x y:SC}{Q:Exit→ae→Store→Prop}(h:SW P N x (l7 (SW P N y Q) Q) rg σ):SW P N (.seq x y) Q rg σ:=by
 intro c hc M w0 a w hI hR hN hD
 rcases dO hc with⟨ca,cb,rfl,h1,h2⟩|⟨id,ops,l1,l2,rfl,rfl,rfl,e1,e2,hT,hd,o4⟩
 ·refine wp_seq (wp_mono (nC (h ca h1 M w0 a w hI hR hN hD)) ?_)
  rintro e a2 w2 ⟨M2,bP,σ2,g1,g2,g3,g4,g5,g6⟩
  cases e with
  |normal=>
   refine wp_mono (nC (g6 cb h2 M2 w0 a2 w2 g2 g3 g4 g5)) ?_
   intro e a3 w3 hh
   exact Dx g1 hh
  |_=>exact⟨M2,bP,σ2,g1,g2,g3,g4,g5,g6⟩
 ·unfold GC at hT
  simp only[Z0]at hT
  obtain⟨⟨⟨⟨⟨j1,hf⟩,hfp⟩,hl⟩,hgp⟩,x6⟩:=hT
  have j1:=Z8 j1
  have al:(gO ops).size=ops.size-tN ops:=by unfold gO;grind
  have Bj:(lY ops).size=tN ops:=by unfold lY;grind
  have nV:∀ i,i<ops.size-tN ops→(gO ops)[i]? =ops[i]? :=fun i hi=>by
   unfold gO;grind
  have ia:eB P N (.region id (gO ops) true)=some (.azZ l1):=by
   simp only[eB,e1]
   grind
  have sP:eB P N (.region id (lY ops) false)=some (.cj l2):=by simp only[eB,e2];rfl
  refine⟨o4,fun t=> ?_⟩
  have fO:=(h _ ia M w0 a w hI hR hN hD).2 t
  rw[ML _ hfp,al]at fO
  have e0:Region.linearise .any ops t=ig (gO ops) (ops.size-tN ops) t (fun i=> !Nat.blt i (ops.size-tN ops))++List.range' (ops.size-tN ops) (ops.size-(ops.size-tN ops)):=by
   rw[ML _ hf]
   have:=adt hf hl al (fun i h h' uZ=>by
    have:=nV i h
    rw[ZQ uZ,ZQ h']at this
    exact Zf this) (ops.size-tN ops) t (fun i=> !Nat.blt i (ops.size-tN ops)) (fun i=> !Nat.blt i ops.size) (YG (XO _ _) (by simp)) (fun i=>by
     by_cases hi:i<ops.size-tN ops
     ·have a1:Nat.blt i (ops.size-tN ops)=true:=by rw[YM];exact hi
      have a2:Nat.blt i ops.size=true:=by rw[YM];omega
      rw[if_pos hi,a1,a2]
     ·rw[if_neg hi])
   rwa [show ops.size-tN ops+(ops.size-(ops.size-tN ops))=ops.size by omega]at this
  rw[e0]
  have hL:∀ i∈ig (gO ops) (ops.size-tN ops) t (fun i=> !Nat.blt i (ops.size-tN ops)),i<ops.size-tN ops:=fun i hi=>by
   rw[← al];exact NL _ _ _ _ hi
  have key:=Hb (P:=P) (ops:=ops) (ops':=gO ops) (Q:=gF P M w0 N Q) (fun i=>i) (List.range' (ops.size-tN ops) (ops.size-(ops.size-tN ops))) (ig (gO ops) (ops.size-tN ops) t (fun i=> !Nat.blt i (ops.size-tN ops))) (fun i hi=>⟨nV i (hL i hi),fun o ho tmps=>azl (fun j want hg=>nV j (by
   have hm:=XM ho
   have:=ZM.1 hgp o hm
   rw[hg]at this
   simpa only[YM]using this)) tmps⟩) a _ (ue.pX ?_ _ _ _ fO)
  ·rw[List.map_id'']at key
   ·exact key
   ·exact fun _=>rfl
  ·rintro e a2 w2 ⟨M2,bP,σ2,g1,g2,g3,g4,g5,g6⟩
   cases e with
   |normal=>
    have qM:wpOps P (lY ops) (gF P M2 w0 N Q) (List.range (lY ops).size) a2 w2:=g6 _ sP M2 w0 a2 w2 g2 g3 g4 g5
    rw[Bj]at qM
    have Mx:=Hb (P:=P) (ops:=ops) (ops':=lY ops) (Q:=gF P M w0 N Q) (fun i=>ops.size-tN ops+i) [] (List.range (tN ops)) (fun i hi=>⟨by
     have:=Y5.1 hi
     unfold lY;rw[Array.getElem?_extract,if_pos (by omega)],fun o ho tmps=>by
     have hm:=XM ho
     have:=ZM.1 x6 o hm
     simp only[Option.isNone_iff_eq_none]at this
     simp[Region.wanted,this]⟩) a2 w2 (ue.pX (fun e a3 w3 hh=>by cases e<;>exact Dx g1 hh) _ _ _ qM)
    rw[Zn]at Mx
    rw[show ops.size-(ops.size-tN ops)=tN ops by omega]
    show wpOps P ops _ _ a2 w2
    have e3:(List.range (tN ops)).map (fun i=>ops.size-tN ops+i)=List.range' (ops.size-tN ops) (tN ops):=by rw[List.range'_eq_map_range]
    rw[← e3];exact Mx
   |_=>exact⟨M2,bP,σ2,g1,g2,g3,g4,g5,g6⟩
theorem H5{Q:Exit→ae→Store→Prop}(h:Q .normal rg σ):SW P N .skip Q rg σ:=by
 intro c hc M w0 a w hI hR hN hD
 obtain rfl:=dO hc
 exact wp_skip ⟨M,rg,σ,Mem.le.refl _,hI,hR,hN,hD,h⟩
theorem H3{Q:Exit→ae→Store→Prop}(h:Q .ret rg σ):SW P N .ret Q rg σ:=by
 intro c hc M w0 a w hI hR hN hD
 obtain rfl:=dO hc
 exact wp_ret ⟨M,rg,σ,Mem.le.refl _,hI,hR,hN,hD,h⟩
theorem HV{id:Nat}{Q:Exit→ae→Store→Prop}(h:Q (.exit id) rg σ):SW P N (.exit id) Q rg σ:=by
 intro c hc M w0 a w hI hR hN hD
 obtain rfl:=dO hc
 exact wp_exit ⟨M,rg,σ,Mem.le.refl _,hI,hR,hN,hD,h⟩
theorem HU{x:Operand}{s t:SC}{Q:Exit→ae→Store→Prop}{b:Bool}(hx:ev rg x= .v (.bool b))(h1:b=true→SW P N s Q rg σ)(h2:b=false→SW P N t Q rg σ):SW P N (.cond x s t) Q rg σ:=by
 intro c hc M w0 a w hI hR hN hD
 obtain⟨ca,cb,rfl,g1,g2⟩:=dO hc
 have he:=hR.ev x
 rw[hx]at he
 exact wp_cond_split he.az (fun hb=>nC (h1 hb _ g1 M w0 a w hI hR hN hD)) (fun hb=>nC (h2 hb _ g2 M w0 a w hI hR hN hD))
theorem HT{id:Nat}{s:SC}{Q:Exit→ae→Store→Prop}(h:SW P N s (oQ id Q) rg σ):SW P N (.block id s) Q rg σ:=by
 intro c hc M w0 a w hI hR hN hD
 obtain⟨cb,rfl,h1⟩:=dO hc
 refine wp_block (wp_mono (nC (h _ h1 M w0 a w hI hR hN hD)) ?_)
 rintro e a2 w2 ⟨M2,bP,σ2,g1,g2,g3,g4,g5,g6⟩
 cases e with
 |exit od=>
  simp only[oQ]at g6
  simp only[Exit.inBlock]
  split
  ·rename_i e;rw[if_pos e]at g6;exact⟨M2,bP,σ2,g1,g2,g3,g4,g5,g6⟩
  ·rename_i e;rw[if_neg e]at g6;exact⟨M2,bP,σ2,g1,g2,g3,g4,g5,g6⟩
 |_=>exact⟨M2,bP,σ2,g1,g2,g3,g4,g5,g6⟩
theorem HZ{s:SC}{Q:Exit→ae→Store→Prop}(I:Nat→ae→Store→Prop)(n:Nat)(h0:I n rg σ)(h:∀ n rg σ,I n rg σ→SW P N s (l7 (fun rg' σ'=>∃ n',n'<n∧I n' rg' σ') Q) rg σ):SW P N (.loop s) Q rg σ:=by
 intro c hc M w0 a w hI hR hN hD
 obtain⟨cb,rfl,ym⟩:=dO hc
 have key:∀ (m:Nat) (a:Act) (w:World),(∃ M2 bP σ2,M.le M2∧Inv P M2 w0 σ2 w∧bE M2 bP a∧a.tmps.size=N∧a.defers=Glob.df P∧I m bP σ2)→
   ∀ (b:Frame) (k:List Item) (cs:List Frame),∃ e a' w',gF P M w0 N Q e a' w'∧Arrives P (lone (b.at a (.code cb:: .inLoop cb::k)) cs w) b k cs e a' w':=by
  intro m
  induction m using Nat.strongRecOn with
  |_ m ih=>
   rintro a w ⟨M2,bP,σ2,g1,g2,g3,g4,g5,g6⟩ b k cs
   obtain⟨e,a',w',hq,fL⟩:=nC (h m bP σ2 g6 cb ym M2 w0 a w g2 g3 g4 g5) b (.inLoop cb::k) cs
   obtain⟨M3,dT,dv,k1,k2,k3,k4,k5,k6⟩:=hq
   cases e with
   |normal=>
    obtain⟨m',aH,Xc⟩:=k6
    obtain⟨e2,a2,w2,dQ,xS⟩:=ih m' aH a' w' ⟨M3,dT,dv,g1.trans k1,k2,k3,k4,k5,Xc⟩ b k cs
    exact⟨e2,a2,w2,dQ,.of_steps (Steps.trans fL (.one step_inLoop)) xS⟩
   |exit id=>exact⟨_,a',w',⟨M3,dT,dv,g1.trans k1,k2,k3,k4,k5,k6⟩,.pass (x:= .inLoop cb) rfl (fun _ _=> .inl (by simp)) fL⟩
   |goto l=>exact⟨_,a',w',⟨M3,dT,dv,g1.trans k1,k2,k3,k4,k5,k6⟩,.pass (x:= .inLoop cb) rfl (fun _ _=> .inl (by simp)) fL⟩
   |ret=>exact⟨_,a',w',⟨M3,dT,dv,g1.trans k1,k2,k3,k4,k5,k6⟩,.pass (x:= .inLoop cb) rfl (fun _ _=> .inl (by simp)) fL⟩
   |panic ch=>exact⟨_,a',w',⟨M3,dT,dv,g1.trans k1,k2,k3,k4,k5,k6⟩,.pass (x:= .inLoop cb) rfl (fun _ _=> .inl (by simp)) fL⟩
   |outgrown=>exact⟨_,a',w',⟨M3,dT,dv,g1.trans k1,k2,k3,k4,k5,k6⟩,.pass (x:= .inLoop cb) rfl (fun _ _=> .inl (by simp)) fL⟩
 intro b k cs
 obtain⟨e,a',w',hq,fL⟩:=key n a w ⟨M,rg,σ,Mem.le.refl _,hI,hR,hN,hD,h0⟩ b k cs
 exact⟨e,a',w',hq,.of_steps (.one step_loop) fL⟩
theorem HX{l:Nat}{Q:Exit→ae→Store→Prop}(h:Q .normal rg σ):SW P N (.label l) Q rg σ:=by
 intro c hc M w0 a w hI hR hN hD
 obtain rfl:=dO hc
 exact wp_label ⟨M,rg,σ,Mem.le.refl _,hI,hR,hN,hD,h⟩
theorem HW{l:Nat}{Q:Exit→ae→Store→Prop}(h:Q (.goto l) rg σ):SW P N (.goto l) Q rg σ:=by
 intro c hc M w0 a w hI hR hN hD
 obtain rfl:=dO hc
 exact wp_goto ⟨M,rg,σ,Mem.le.refl _,hI,hR,hN,hD,h⟩
def qT(J:Nat→ae→Store→Prop)(Q:Exit→ae→Store→Prop):Exit→ae→Store→Prop
 | .goto l,rg,σ=>J l rg σ
 |e,rg,σ=>Q e rg σ
theorem QG{s:SC}{Q:Exit→ae→Store→Prop}(J:Nat→Nat→ae→Store→Prop)(h0:SW P N s (qT (fun l rg σ=>∃ n,J l n rg σ) Q) rg σ)
  (h:∀ l n rg σ,J l n rg σ→∃ r,lC s l=some r∧SW P N r (qT (fun l' rg' σ'=>∃ n',n'<n∧J l' n' rg' σ') Q) rg σ):SW P N (.scope s) Q rg σ:=by
 intro c hc M w0 a w hI hR hN hD
 obtain⟨cb,rfl,ym⟩:=dO hc
 have key:∀ (m l:Nat) (a:Act) (w:World),(∃ M2 bP σ2,M.le M2∧Inv P M2 w0 σ2 w∧bE M2 bP a∧a.tmps.size=N∧a.defers=Glob.df P∧J l m bP σ2)→
   ∃ rest,findLabel cb l=some rest∧∀ (b:Frame) (k:List Item) (cs:List Frame),∃ e a' w',gF P M w0 N Q e a' w'∧Arrives P (lone (b.at a (.code rest:: .inScope cb::k)) cs w) b k cs e a' w':=by
  intro m
  induction m using Nat.strongRecOn with
  |_ m ih=>
   rintro l a w ⟨M2,bP,σ2,g1,g2,g3,g4,g5,g6⟩
   obtain⟨r,hr,hsw⟩:=h l m bP σ2 g6
   have hf:=DR (P:=P) (N:=N) (l:=l) cb s ym
   rw[hr]at hf
   obtain⟨rest,kE,fy⟩:=hf
   refine⟨rest,kE,fun b k cs=> ?_⟩
   obtain⟨e,a',w',hq,fL⟩:=nC (hsw rest fy M2 w0 a w g2 g3 g4 g5) b (.inScope cb::k) cs
   obtain⟨M3,dT,dv,k1,k2,k3,k4,k5,k6⟩:=hq
   cases e with
   |normal=>exact⟨.normal,a',w',⟨M3,dT,dv,g1.trans k1,k2,k3,k4,k5,k6⟩,Steps.trans fL (.one step_inScope)⟩
   |exit id=>exact⟨.exit id,a',w',⟨M3,dT,dv,g1.trans k1,k2,k3,k4,k5,k6⟩,fun k' hk=>fL k' (by assumption)⟩
   |goto l'=>
    obtain⟨m',aH,hJ⟩:=k6
    obtain⟨Ge,j3,fC⟩:=ih m' aH l' a' w' ⟨M3,dT,dv,g1.trans k1,k2,k3,k4,k5,hJ⟩
    obtain⟨e2,a2,w2,dQ,xS⟩:=fC b k cs
    have hg:gotoIn l' (.inScope cb::k)=some (.code Ge:: .inScope cb::k):=by simp[gotoIn,j3]
    exact⟨e2,a2,w2,dQ,.of_steps (fL _ hg) xS⟩
   |ret=>exact⟨_,a',w',⟨M3,dT,dv,g1.trans k1,k2,k3,k4,k5,k6⟩,fL⟩
   |panic ch=>exact⟨_,a',w',⟨M3,dT,dv,g1.trans k1,k2,k3,k4,k5,k6⟩,fL⟩
   |outgrown=>exact⟨_,a',w',⟨M3,dT,dv,g1.trans k1,k2,k3,k4,k5,k6⟩,fL⟩
 intro b k cs
 obtain⟨e,a',w',hq,fL⟩:=nC (h0 cb ym M w0 a w hI hR hN hD) b (.inScope cb::k) cs
 obtain⟨M3,dT,dv,k1,k2,k3,k4,k5,k6⟩:=hq
 cases e with
 |normal=>exact⟨.normal,a',w',⟨M3,dT,dv,k1,k2,k3,k4,k5,k6⟩,.head step_scope (Steps.trans fL (.one step_inScope))⟩
 |exit id=>exact⟨.exit id,a',w',⟨M3,dT,dv,k1,k2,k3,k4,k5,k6⟩,fun k' hk=> .head step_scope (fL k' (by assumption))⟩
 |goto l'=>
  obtain⟨m,hJ⟩:=k6
  obtain⟨Ge,j3,fC⟩:=key m l' a' w' ⟨M3,dT,dv,k1,k2,k3,k4,k5,hJ⟩
  obtain⟨e2,a2,w2,dQ,xS⟩:=fC b k cs
  have hg:gotoIn l' (.inScope cb::k)=some (.code Ge:: .inScope cb::k):=by simp[gotoIn,j3]
  exact⟨e2,a2,w2,dQ,.of_steps (.head step_scope (fL _ hg)) xS⟩
 |ret=>exact⟨_,a',w',⟨M3,dT,dv,k1,k2,k3,k4,k5,k6⟩,.of_steps (.one step_scope) fL⟩
 |panic ch=>exact⟨_,a',w',⟨M3,dT,dv,k1,k2,k3,k4,k5,k6⟩,.of_steps (.one step_scope) fL⟩
 |outgrown=>exact⟨_,a',w',⟨M3,dT,dv,k1,k2,k3,k4,k5,k6⟩,.of_steps (.one step_scope) fL⟩
end
end Go.Sx
