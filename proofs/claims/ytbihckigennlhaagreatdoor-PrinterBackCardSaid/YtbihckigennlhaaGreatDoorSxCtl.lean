/-
  The layer Sx, ninth part: regions, code, functions.
-/
import Derived.Test.YtbihckigennlhaaGreatDoorSxSound
import Derived.Scope
set_option linter.unusedVariables false
set_option linter.unusedSimpArgs false
set_option linter.unusedSectionVars false
namespace Go.Sx
open Go.RowKit
structure CI where
 d:Option Nat
 op:IOp
 g:Option (Nat×Bool)
structure CD where
 ix:Nat
 c:CI
 cf:List Nat
inductive SC where
 |skip
 |reg (l:List CI)
 |dreg (l:List CI)
 |mreg (als:List Nat) (l:List CD)
 |seq (a b:SC)
 |cond (c:Operand) (t e:SC)
 |block (id:Nat) (b:SC)
 |loop (b:SC)
 |exit (id:Nat)
 |ret
 |scope (b:SC)
 |label (l:Nat)
 |goto (l:Nat)
def compI(P:Program)[Glob P](N:Nat)(ops:Array Oper)(o:Oper):Option CI:=
 match compO P o,o.dst with
 |some iop,some t=>if t<N then
   match o.guard with
   |none=>some ⟨some t,iop,none⟩
   |some (j,want)=>match(ops[j]?).bind (·.dst)with
    |some u=>some ⟨some t,iop,some (u,want)⟩
    |none=>none
  else none
 |some iop,none=>
   match o.guard with
   |none=>some ⟨none,iop,none⟩
   |some (j,want)=>match(ops[j]?).bind (·.dst)with
    |some u=>some ⟨none,iop,some (u,want)⟩
    |none=>none
 |none,_=>none
def compL(P:Program)[Glob P](N:Nat)(ops:Array Oper):List Oper→Option (List CI)
 |[]=>some []
 |o::l=>match compI P N ops o with
  |some c=>(compL P N ops l).map (c::·)
  |none=>none
def IOp.opers:IOp→List Operand
 | .mv x| .box _ x| .load _ _ x| .nilck x| .un _ x| .cvint _ x| .cvstr x| .mkifc _ x| .faddr _ x| .field _ _ _ x| .extract x _| .len _ x| .panic x=>[x]
 | .pick c a b=>[c,a,b]
 | .alloc _ _=>[]
 | .build _ ps=>ps.map (·.2.2)
 | .mksl _ _ ps=>ps
 | .store _ x y| .bin _ x y| .eqb _ _ x y| .eqs _ _ x y| .iaddr _ x y| .iaddrA _ _ x y| .idxs x y| .append _ _ _ _ x y| .max2 x y| .min2 x y=>[x,y]
 | .mkfn _ a b=>a++b
 | .slice _ x lo hi=>x::(lo.toList++hi.toList)
 | .call _ as=>as
 | .callv f as=>f::as
 | .extq _ _ _ as| .exts _ _ _ as=>as
def tmpsOf:List Operand→List Nat
 |[]=>[]
 | .tmp t::l=>t::tmpsOf l
 |_::l=>tmpsOf l
def CI.reads(c:CI):List Nat:=tmpsOf c.op.opers++(match c.g with|some (u,_)=>[u]|none=>[])
def posOf(t:Nat):List (Option Nat)→Nat→Option Nat
 |[],_=>none
 |x::l,k=>if x=some t then some k else posOf t l (k+1)
theorem posOf_some{t j:Nat}:∀ (l:List (Option Nat)) (k:Nat),posOf t l k=some j→∃ i,j=k+i∧l[i]? =some (some t)
 |[],k,h=>by cases h
 |x::l,k,h=>by
  simp only[posOf]at h
  split at h
  ·rename_i e;cases h;exact⟨0,rfl,by simp[e]⟩
  ·obtain⟨i,h1,h2⟩:=posOf_some l (k+1) h
   exact⟨i+1,by omega,by simpa using h2⟩
theorem posOf_none{t:Nat}:∀ (l:List (Option Nat)) (k:Nat),posOf t l k=none→some t∉l
 |[],k,h=>by simp
 |x::l,k,h=>by
  simp only[posOf]at h
  split at h
  ·cases h
  ·rename_i e
   have:=posOf_none l (k+1) h
   intro hm
   rcases List.mem_cons.1 hm with e'|hm
   ·exact e e'.symm
   ·exact this hm
def IOp.cls:IOp→Nat
 | .load .. =>1
 | .alloc .. | .box .. =>2
 | .store .. =>3
 | .append .. | .exts .. =>4
 | .panic .. =>5
 |_=>0
def drawOK(ops:Array Oper)(l:List CI):Bool:=
 (l.map (·.d)).Nodup && l.all (fun c=>c.d.isSome && (Nat.ble c.op.cls 1 || (Nat.beq c.op.cls 4 && c.g.isNone))) &&
 (l.zip ops.toList).zipIdx.all fun((c,o),i)=>
  o.after.all (fun e=> !Region.binds .any e || decide (e.on<i)) &&
  c.reads.all fun t=>match posOf t (l.map (·.d)) 0 with
   |some j=>o.after.any fun e=>Region.binds .any e && e.on == j
   |none=>true
def pos4:List CI→Nat→Option Nat
 |[],_=>none
 |c::l,k=>bif Nat.beq c.op.cls 4 then some k else pos4 l (k+1)
theorem pos4_some{k:Nat}:∀ (l:List CI) (m:Nat),pos4 l m=some k→∃ i,∃ h:i<l.length,k=m+i∧l[i].op.cls=4∧∀ j,j<i→(hj:j<l.length)→l[j].op.cls≠4
 |[],m,h=>by cases h
 |c::l,m,h=>by
  simp only[pos4]at h
  cases e:Nat.beq c.op.cls 4 with
  |true=>rw[e]at h;cases h;exact⟨0,by simp,rfl,Nat.eq_of_beq_eq_true e,fun j hj=>absurd hj (by omega)⟩
  |false=>
   rw[e]at h
   obtain⟨i,h1,h2,h3,h4⟩:=pos4_some l (m+1) h
   refine⟨i+1,by simpa using h1,by omega,by simpa using h3,fun j hj hl=> ?_⟩
   cases j with
   |zero=>intro e2;have e2:c.op.cls=4:=e2;rw[e2]at e;cases e
   |succ j=>simpa using h4 j (by omega) (by simpa using hl)
def drawS(ops:Array Oper)(l:List CI):Bool:=match pos4 l 0 with
 |none=>false
 |some k=>
 (l.map (·.d)).Nodup && l.all (fun c=>c.d.isSome && (Nat.ble c.op.cls 1 || (Nat.beq c.op.cls 4 && c.g.isNone))) &&
 (l.zip ops.toList).zipIdx.all fun((c,o),i)=>
  o.after.all (fun e=> !Region.binds .any e || decide (e.on<i)) &&
  c.reads.all fun t=>match posOf t (l.map (·.d)) 0 with
   |some j=>(o.after.any fun e=>Region.binds .any e && e.on == j) || (Nat.ble i k && Nat.blt k j)
   |none=>true
def hasE(ops:Array Oper)(i j:Nat):Bool:=match ops[i]? with
 |some o=>o.after.any fun e=>Region.binds .any e && e.on == j
 |none=>false
def lateL(ops:Array Oper):List CI→Nat→List Nat→List Nat
 |[],_,acc=>acc
 |c::l,i,acc=>lateL ops l (i+1) (bif Nat.ble 2 c.op.cls || acc.any (hasE ops i)then i::acc else acc)
def ptrSlot:IOp→Option Nat
 | .store _ (.tmp s) _=>some s
 |_=>none
def isApp:IOp→Bool
 | .append .. =>true
 |_=>false
def alsOf(l:List CI):List Nat:=l.filterMap fun c=>bif Nat.beq c.op.cls 2 || isApp c.op then c.d else none
def defOf(s:Nat):List CI→Option IOp
 |[]=>none
 |c::l=>match c.d with
  |some d=>bif Nat.beq d s then some c.op else defOf s l
  |none=>defOf s l
def rootOf(l:List CI):Nat→Nat→Option Nat
 |0,_=>none
 |n+1,s=>match defOf s l with
  |none=>some s
  |some (.alloc ..)|some (.box ..)=>some s
  |some (.faddr _ (.tmp s'))|some (.nilck (.tmp s'))|some (.iaddrA _ _ (.tmp s') _)|some (.iaddr _ (.tmp s') _)|some (.mv (.tmp s'))=>rootOf l n s'
  |_=>none
def cfOf(ops:Array Oper)(l0:List CI)(i:Nat):List CI→Nat→List Nat
 |[],_=>[]
 |c::l,j=>match ptrSlot c.op with
  |some s=>bif hasE ops i j || hasE ops j i then cfOf ops l0 i l (j+1)else match rootOf l0 l0.length s with
   |some r=>bif (alsOf l0).elem r then cfOf ops l0 i l (j+1)else r::cfOf ops l0 i l (j+1)
   |none=>cfOf ops l0 i l (j+1)
  |none=>cfOf ops l0 i l (j+1)
def isCall:IOp→Bool
 | .call .. =>true
 |_=>false
def callE(ops:Array Oper)(i:Nat):List CI→Nat→List Nat
 |[],_=>[]
 |c::l,j=>bif isCall c.op && hasE ops i j then c.d.toList++callE ops i l (j+1)else callE ops i l (j+1)
def mkD(ops:Array Oper)(l:List CI)(i:Nat):Option CD:=
 match l[i]? with
 |some c=>some ⟨i,c,bif Nat.beq c.op.cls 1 then cfOf ops l i l 0 else match ptrSlot c.op with
  |some s=>(rootOf l l.length s).toList
  |none=>bif Nat.beq c.op.cls 0 then callE ops i l 0 else[]⟩
 |none=>none
def noD(d:Option Nat)(x:CD):Bool:=match d with
 |some d=> !x.c.reads.elem d && !x.cf.elem d
 |none=>true
def commD(als:List Nat)(a c:CD):Bool:=
 noD a.c.d c && noD c.c.d a && (a.c.d.isNone || decide (a.c.d≠c.c.d)) &&
 match a.c.op.cls,c.c.op.cls with
 |0,_=>true
 |1,0|1,1=>true
 |1,2=>(match c.c.d with|some d=>als.elem d|none=>false)
 |1,3=>(match c.cf with|[s]=>a.cf.elem s || als.elem s|_=>false)
 |1,4=>(match c.c.d with|some d=>als.elem d|none=>false)
 |2,2=>true
 |_,_=>false
def hasR(ops:Array Oper):Nat→Nat→Nat→Bool
 |0,i,j=>hasE ops i j
 |n+1,i,j=>hasE ops i j || (List.range ops.size).any fun b=>hasE ops i b && hasR ops n b j
def pairOK(ops:Array Oper)(als:List Nat):List CD→Bool
 |[]=>true
 |a::l=> !hasE ops a.ix a.ix && l.all (fun c=> !hasE ops a.ix c.ix && (hasE ops c.ix a.ix || commD als a c || (Nat.beq c.c.op.cls 4 && hasR ops 2 c.ix a.ix))) && pairOK ops als l
def oneOK(x:CD):Bool:=(Nat.ble x.c.op.cls 3 || isApp x.c.op) && (Nat.ble x.c.op.cls 1 || x.c.g.isNone) && (!Nat.beq x.c.op.cls 2 || x.c.d.isSome)
def many4(l:List CI):Bool:=Nat.ble 2 (l.filter fun c=>Nat.beq c.op.cls 4).length
def mixOK(ops:Array Oper)(als:List Nat)(ds:List CD):Bool:=
 decide ((ds.map (·.ix)).Nodup) && Nat.ble ds.length ops.size && (List.range ops.size).all (fun i=>ds.any fun x=>Nat.beq x.ix i) && ds.all oneOK && ops.all (fun o=>o.after.all fun e=> !Region.binds .any e || decide (e.on<ops.size)) && pairOK ops als ds
def depL(ops:Array Oper):List CI→Nat→List Nat→List Nat
 |[],_,acc=>acc
 |c::l,i,acc=>depL ops l (i+1) (bif isCall c.op || acc.any (hasE ops i)then i::acc else acc)
def mixL(ops:Array Oper)(l:List CI):List CD:=
 let late:=lateL ops l 0 []
 let dep:=bif Nat.beq (l.filter fun c=>isCall c.op).length 1 then depL ops l 0 []else[]
 ((List.range l.length).filter (fun i=> !late.elem i && !dep.elem i)++(List.range l.length).filter (fun i=> !late.elem i && dep.elem i)++(List.range l.length).filter (fun i=>late.elem i)).filterMap (mkD ops l)
theorem mixL_get{ops:Array Oper}{l:List CI}{x:CD}(h:x∈mixL ops l):l[x.ix]? =some x.c:=by
 unfold mixL at h
 obtain⟨i,_,hi⟩:=List.mem_filterMap.1 h
 unfold mkD at hi
 split at hi
 ·rename_i c hc;cases hi;exact hc
 ·cases hi
def tN(ops:Array Oper):Nat:=bif lastOK ops (ops.size-2)then 2 else 1
def preO(ops:Array Oper):Array Oper:=ops.extract 0 (ops.size-tN ops)
def sufO(ops:Array Oper):Array Oper:=ops.extract (ops.size-tN ops) ops.size
def tailOK(ops:Array Oper):Bool:=Nat.ble (tN ops) ops.size && fwdOK ops && fwdOK (preO ops) && lastOK ops (ops.size-tN ops) && (preO ops).all (fun o=>match o.guard with|some (j,_)=>Nat.blt j (ops.size-tN ops)|none=>true) && (sufO ops).all (fun o=>o.guard.isNone)
def compT(P:Program)[Glob P](N:Nat)(ops:Array Oper):Option SC:=
 match compL P N (preO ops) (preO ops).toList,compL P N (sufO ops) (sufO ops).toList with
 |some l1,some l2=>if tailOK ops=true∧((drawOK (preO ops) l1=true∨drawS (preO ops) l1=true)∧many4 l1=false)∧P.follows .mixedOrders=true then some (.seq (.dreg l1) (.reg l2))else none
 |_,_=>none
def compC(P:Program)[Glob P](N:Nat):Code→Option SC
 | .skip=>some .skip
 | .region _ ops false=>(compL P N ops ops.toList).map .reg
 | .region _ ops true=>match compL P N ops ops.toList with
  |some l=>if many4 l=true∧mixOK ops (alsOf l) (mixL ops l)∧P.follows .mixedOrders=true then some (.mreg (alsOf l) (mixL ops l))
    else if(drawOK ops l=true∨drawS ops l=true)∧P.follows .mixedOrders=true then some (.dreg l)
    else if mixOK ops (alsOf l) (mixL ops l)∧P.follows .mixedOrders=true then some (.mreg (alsOf l) (mixL ops l))else compT P N ops
  |none=>none
 | .seq a b=>match compC P N a,compC P N b with
  |some a,some b=>some (.seq a b)
  |_,_=>none
 | .cond c t e=>match compC P N t,compC P N e with
  |some t,some e=>some (.cond c t e)
  |_,_=>none
 | .block id b=>(compC P N b).map (.block id)
 | .loop b=>(compC P N b).map .loop
 | .exit id=>some (.exit id)
 | .ret=>some .ret
 | .scope b=>(compC P N b).map .scope
 | .label l=>some (.label l)
 | .goto l=>some (.goto l)
 |_=>none
def conc(P:Program)[Glob P](M:Mem)(w0:Base)(N:Nat)(Q:Exit→Regs→Store→Prop):Exit→Act→World→Prop:=fun e a w=>
 ∃ M' rg σ,M.le M'∧Inv P M' w0 σ w∧RegsOK M' rg a∧a.tmps.size=N∧a.defers=Glob.df P∧Q e rg σ
def cwp(P:Program)(c:Code)(Q:Exit→Act→World→Prop)(a:Act)(w:World):Prop:=match c with
 | .region _ ops true=>P.follows .mixedOrders=true∧∀ t,wpOps P ops Q (Region.linearise .any ops t) a {w with drawn:=w.drawn+1}
 | .region _ ops false=>wpOps P ops Q (List.range ops.size) a w
 |c=>c.wp P Q a w
theorem cwp_wp{P:Program}{c:Code}{Q:Exit→Act→World→Prop}{a:Act}{w:World}(h:cwp P c Q a w):c.wp P Q a w:=by
 unfold cwp at h
 split at h
 ·refine wp_region_draw fun t=> ?_
  simp only[Region.schedule,h.1,Bool.true_or,if_true]
  exact h.2 t
 ·exact wp_region h
 ·exact h
theorem cwp_any{P:Program}{id:Nat}{ops:Array Oper}{Q:Exit→Act→World→Prop}{a:Act}{w:World}(hm:P.follows .mixedOrders=true)(h:wpAny P .any ops Q ops.size (Array.replicate ops.size false) a {w with drawn:=w.drawn+1}):cwp P (.region id ops true) Q a w:=
 ⟨hm,fun t=>wpAny_sound ops.size t _ a _ h⟩
def SW(P:Program)[Glob P](N:Nat)(s:SC)(Q:Exit→Regs→Store→Prop)(rg:Regs)(σ:Store):Prop:=
 ∀ c,compC P N c=some s→∀ (M:Mem) (w0:Base) (a:Act) (w:World),Inv P M w0 σ w→RegsOK M rg a→a.tmps.size=N→a.defers=Glob.df P→cwp P c (conc P M w0 N Q) a w
def vcG(P:Program)[Glob P](cfg:Nat→Nat)(c:CI)(K:AV→Store→Prop)(E:List PanicEntry→Store→Prop)(rg:Regs)(σ:Store):Prop:=
 match c.g with
 |none=>vcO P cfg c.d rg σ K E c.op
 |some (t,want)=>match lk rg t with
  | .v (.bool b)=>(b=want→vcO P cfg c.d rg σ K E c.op)∧(b= !want→K (.v undef) σ)
  | .v (.tuple _)=>K (.v undef) σ
  |_=>False
def Gd(b want:Bool)(X Y:Prop):Prop:=(b=want→X)∧(b= !want→Y)
theorem Gd.l{b want:Bool}{X Y:Prop}(h:Gd b want X Y):b=want→X:=h.1
theorem Gd.r{b want:Bool}{X Y:Prop}(h:Gd b want X Y):b= !want→Y:=h.2
def vcL(P:Program)[Glob P](cfg:Nat→Nat):List CI→(K:Regs→Store→Prop)→(E:List PanicEntry→Store→Prop)→Regs→Store→Prop
 |[],K,_,rg,σ=>K rg σ
 |c::l,K,E,rg,σ=>match c.g with
  |none=>vcO P cfg c.d rg σ (fun x σ'=>vcL P cfg l K E (putR c.d x rg) σ') E c.op
  |some (t,want)=>match lk rg t with
   | .v (.bool b)=>Gd b want (vcO P cfg c.d ((t,.v (.bool want))::rg) σ (fun x σ'=>vcL P cfg l K E (putR c.d x ((t,.v (.bool want))::rg)) σ') E c.op)
     (vcL P cfg l K E (putR c.d (.v undef) ((t,.v (.bool !want))::rg)) σ)
   | .v (.tuple _)=>vcL P cfg l K E (putR c.d (.v undef) rg) σ
   |_=>False
theorem lk_self{rg:Regs}{t:Nat}{x:AV}(h:lk rg t=x)(i:Nat):lk ((t,x)::rg) i=lk rg i:=by
 simp only[lk]
 cases hb:Nat.beq t i with
 |true=>rw[← Nat.eq_of_beq_eq_true hb,h];rfl
 |false=>rfl
theorem vcL_guard{P:Program}[Glob P]{cfg:Nat→Nat}{c:CI}{l:List CI}{K:Regs→Store→Prop}{E:List PanicEntry→Store→Prop}{rg:Regs}{σ:Store}(h:vcL P cfg (c::l) K E rg σ):
  ∃ rg',(∀ i,lk rg' i=lk rg i)∧vcG P cfg c (fun x σ'=>vcL P cfg l K E (putR c.d x rg') σ') E rg' σ:=by
 simp only[vcL]at h
 split at h
 ·rename_i hg
  exact⟨rg,fun _=>rfl,by unfold vcG;rw[hg];exact h⟩
 ·rename_i t want hg
  split at h
  ·rename_i b hb
   by_cases hbw:b=want
   ·subst hbw
    have e:lk ((t,AV.v (.bool b))::rg) t= .v (.bool b):=by simp[lk,Nat.beq_refl]
    refine⟨_,lk_self hb,?_⟩
    unfold vcG
    rw[hg]
    simp only[e]
    exact⟨fun _=>h.l rfl,fun h'=>by cases b<;>simp at h'⟩
   ·have hb':b= !want:=by cases b<;>cases want<;>simp_all
    subst hb'
    have e:lk ((t,AV.v (.bool !want))::rg) t= .v (.bool !want):=by simp[lk,Nat.beq_refl]
    refine⟨_,lk_self hb,?_⟩
    unfold vcG
    rw[hg]
    simp only[e]
    exact⟨fun h'=>absurd h' hbw,fun _=>h.r rfl⟩
  ·rename_i vs hb
   exact⟨rg,fun _=>rfl,by unfold vcG;rw[hg];simp only[hb];exact h⟩
  ·exact h.elim
section
variable {P:Program}[Glob P]{M:Mem}{w0:Base}{w:World}{σ:Store}{rg:Regs}{a:Act}{cfg:Nat→Nat}{N:Nat}
theorem guard_sound{ops:Array Oper}{o:Oper}{c:CI}(hc:compI P N ops o=some c){K:AV→Store→Prop}{E:List PanicEntry→Store→Prop}(h:vcG P cfg c K E rg σ)(hI:Inv P M w0 σ w)(hR:RegsOK M rg a)
  {next:Act→World→Prop} {Q:Exit→Act→World→Prop} (hg:Goes P M w0 w K E o a next Q):
  if Region.wanted o (yielded ops a.tmps)then o.wp P a w next Q∨(o.asks P a w∧LetsOut Q)else next (a.put o.dst undef) w:=by
 obtain⟨iop,hiop,hd,hop,hgd⟩:∃ iop,compO P o=some iop∧c.d=o.dst∧c.op=iop∧((o.guard=none∧c.g=none)∨∃ j want u,o.guard=some (j,want)∧(ops[j]?).bind (·.dst)=some u∧c.g=some (u,want)):=by
  unfold compI at hc
  split at hc
  ·rename_i iop t hi hd
   split at hc
   ·split at hc
    ·rename_i hgn;cases hc;exact⟨iop,hi,hd.symm,rfl,.inl ⟨hgn,rfl⟩⟩
    ·rename_i j want hgs
     split at hc
     ·rename_i u hu;cases hc;exact⟨iop,hi,hd.symm,rfl,.inr ⟨j,want,u,hgs,hu,rfl⟩⟩
     ·cases hc
   ·cases hc
  ·rename_i iop hi hd
   split at hc
   ·rename_i hgn;cases hc;exact⟨iop,hi,hd.symm,rfl,.inl ⟨hgn,rfl⟩⟩
   ·rename_i j want hgs
    split at hc
    ·rename_i u hu;cases hc;exact⟨iop,hi,hd.symm,rfl,.inr ⟨j,want,u,hgs,hu,rfl⟩⟩
    ·cases hc
  ·cases hc
 have run:vcO P cfg c.d rg σ K E c.op→o.wp P a w next Q:=fun h=>compO_sound (cfg:=cfg) (d:=c.d) hiop (by rw[← hop];exact h) hI hR hg
 have skp:K (.v undef) σ→next (a.put o.dst undef) w:=fun h=>hg.val M _ σ undef w (Mem.le.refl _) hI (.v _) h
 unfold vcG at h
 rcases hgd with⟨h1,h2⟩|⟨j,want,u,h1,h2,h3⟩
 ·rw[h2]at h
  simp only[Region.wanted,h1,if_true]
  exact .inl (run h)
 ·rw[h3]at h
  simp only at h
  have hy:yielded ops a.tmps j=match a.tmps[u]? with
   |some (.bool b)=>some b
   |_=>none:=by unfold yielded;rw[h2];rfl
  have hu:=hR u
  split at h
  ·rename_i b hb
   rw[hb]at hu
   have hv:=hu.of_v
   have ht:a.tmps[u]? =some (.bool b):=by
    rw[Array.getD_eq_getD_getElem?]at hv
    cases he:a.tmps[u]? with
    |none=>rw[he]at hv;simp[undef]at hv
    |some y=>rw[he]at hv;simp at hv;rw[hv]
   have hyy:yielded ops a.tmps j=some b:=by rw[hy,ht]
   simp only[Region.wanted,h1,hyy]
   by_cases hbw:b=want
   ·subst hbw
    simp only[beq_self_eq_true,if_true]
    exact .inl (run (h.1 rfl))
   ·have:(some b == some want)=false:=by simp[hbw]
    simp only[this,Bool.false_eq_true,if_false]
    exact skp (h.2 (by cases b<;>cases want<;>simp_all))
  ·rename_i vs hb
   rw[hb]at hu
   have hv:=hu.of_v
   have hyy:yielded ops a.tmps j=none:=by
    rw[hy]
    rw[Array.getD_eq_getD_getElem?]at hv
    cases he:a.tmps[u]? with
    |none=>rfl
    |some y=>rw[he]at hv;simp at hv;rw[hv]
   simp only[Region.wanted,h1,hyy]
   have:((none:Option Bool) == some want)=false:=rfl
   simp only[this,Bool.false_eq_true,if_false]
   exact skp h
  ·exact h.elim
theorem compI_lt{ops:Array Oper}{o:Oper}{c:CI}(hc:compI P N ops o=some c):c.d=o.dst∧∀ t,c.d=some t→t<N:=by
 unfold compI at hc
 split at hc
 ·rename_i iop t hi hd
  split at hc
  ·rename_i hlt
   split at hc
   ·cases hc;exact⟨hd.symm,fun u hu=>by cases hu;exact hlt⟩
   ·split at hc
    ·cases hc;exact⟨hd.symm,fun u hu=>by cases hu;exact hlt⟩
    ·cases hc
  ·cases hc
 ·rename_i iop hi hd
  split at hc
  ·cases hc;exact⟨hd.symm,fun u hu=>by cases hu⟩
  ·split at hc
   ·cases hc;exact⟨hd.symm,fun u hu=>by cases hu⟩
   ·cases hc
 ·cases hc
theorem vcL_sound(ops:Array Oper){Q:Exit→Regs→Store→Prop}{K:Regs→Store→Prop}(hK:∀ rg σ,K rg σ→Q .normal rg σ):
  ∀ (os:List Oper) (k:Nat) (l:List CI),compL P N ops os=some l→(∀ i,i<os.length→ops[k+i]? =os[i]?)→
  ∀ (M:Mem) (w0:Base) (w:World) (a:Act) (rg:Regs) (σ:Store),vcL P cfg l K (fun ch σ'=>Q (.panic ch) [] σ') rg σ→Inv P M w0 σ w→RegsOK M rg a→a.tmps.size=N→a.defers=Glob.df P→
   wpOps P ops (conc P M w0 N Q) (List.range' k os.length) a w
 |[],k,l,hl,_,M,w0,w,a,rg,σ,h,hI,hR,hN,hD=>by
  simp only[compL,Option.some.injEq]at hl
  subst hl
  exact⟨M,rg,σ,Mem.le.refl _,hI,hR,hN,hD,hK rg σ h⟩
 |o::os,k,l,hl,ho,M,w0,w,a,rg,σ,h,hI,hR,hN,hD=>by
  simp only[compL]at hl
  split at hl
  ·rename_i c hc
   obtain⟨l',hl',rfl⟩:=Option.map_eq_some_iff.1 hl
   have ho0:ops[k]? =some o:=by simpa using ho 0 (by simp)
   obtain⟨rg',hrg,h⟩:=vcL_guard h
   replace hR:RegsOK M rg' a:=fun i=>by rw[hrg];exact hR i
   obtain⟨hdst,hlt⟩:=compI_lt hc
   simp only[List.length_cons,List.range'_succ,wpOps,ho0]
   refine guard_sound hc h hI hR ⟨fun M' x σ' v w' hM hI' hx hk=> ?_,fun M' ch σ' w' hM hI' hk=> ?_⟩
   ·have ih:=vcL_sound ops hK os (k+1) l' hl' (fun i hi=>by have:=ho (i+1) (by simpa using hi);rw[show k+1+i=k+(i+1)from by omega];simpa using this) M' w0 w' (a.put o.dst v) (putR c.d x rg') σ' hk hI'
     (by rw[hdst];exact(hR.mono hM).put o.dst (fun t ht=>by rw[hN];exact hlt t (hdst.trans ht)) hx) (by rw[Act.size_put];exact hN) (by rw[Act.defers_put];exact hD)
    refine wpOps_le ?_ _ _ _ ih
    rintro e a2 w2 ⟨M2,rg2,σ2,h1,h2⟩
    exact⟨M2,rg2,σ2,hM.trans h1,h2⟩
   ·exact⟨M',[],σ',hM,hI',fun i=> .any _,hN,hD,hk⟩
  ·cases hl
where
 wpOps_le {ops:Array Oper} {Q Q':Exit→Act→World→Prop} (h:∀ e a w,Q e a w→Q' e a w):∀ (is:List Nat) (a:Act) (w:World),wpOps P ops Q is a w→wpOps P ops Q' is a w
 |[],a,w,hq=>h _ _ _ hq
 |i::is,a,w,hq=>by
  rw[wpOps_cons]at hq ⊢
  unfold wpOp at hq ⊢
  split
  ·rename_i e;rw[e]at hq;exact wpOps_le h is a w hq
  ·rename_i o e
   rw[e]at hq
   simp only at hq
   split
   ·rename_i hw
    rw[if_pos hw]at hq
    refine hq.imp (fun hh=> ?_) (fun⟨x,y⟩=>⟨x,y.elim fun a h'=>h'.elim fun w h''=>⟨a,w,h _ _ _ h''⟩⟩)
    have h1:=Oper.wp_mono (K':=wpOps P ops Q' is) (fun a w=>wpOps_le h is a w) hh
    unfold Oper.wp at h1 ⊢
    generalize (execOp a.eval o).run P w=r at h1
    cases r with
    |ok n w'=>
     cases n<;>simp only[Oper.upon]at h1 ⊢<;>first
      |exact h1
      |exact Calls.mono h1 (fun e w'' he=>by cases e<;>first|exact he|exact h _ _ _ he|exact he.elim fun a h'=>h'.elim fun w h''=>⟨a,w,h _ _ _ h''⟩)
    |halt x w'=>cases x<;>simp only[Oper.upon]at h1 ⊢<;>first|exact h1|exact h _ _ _ h1
   ·rename_i hw
    rw[if_neg hw]at hq
    exact wpOps_le h is _ _ hq
theorem cwp_mono{c:Code}{Q Q':Exit→Act→World→Prop}(h:cwp P c Q a w)(hq:∀ e a w,Q e a w→Q' e a w):cwp P c Q' a w:=by
 unfold cwp at h ⊢
 split
 ·exact⟨h.1,fun t=>vcL_sound.wpOps_le hq _ _ _ (h.2 t)⟩
 ·exact vcL_sound.wpOps_le hq _ _ _ h
 ·rename_i h1 h2
  have h':c.wp P Q a w:=by
   split at h
   ·exact absurd rfl (h1 _ _)
   ·exact absurd rfl (h2 _ _)
   ·exact h
  exact wp_mono h' hq
theorem wpOps_tr{ops ops':Array Oper}{Q:Exit→Act→World→Prop}(f:Nat→Nat)(L2:List Nat):∀ (L:List Nat),(∀ i∈L,ops'[i]? =ops[f i]?∧∀ o,ops'[i]? =some o→∀ tmps,Region.wanted o (yielded ops' tmps)=Region.wanted o (yielded ops tmps))→∀ (a:Act) (w:World),
  wpOps P ops' (Exit.then (wpOps P ops Q L2) Q) L a w→wpOps P ops Q (L.map f++L2) a w
 |[],_,a,w,h=>h
 |i::L,hL,a,w,h=>by
  have ih:=wpOps_tr (ops:=ops) (ops':=ops') (Q:=Q) f L2 L (fun j hj=>hL j (List.mem_cons_of_mem _ hj))
  obtain⟨h1,h2⟩:=hL i List.mem_cons_self
  rw[List.map_cons,List.cons_append,wpOps_cons]
  rw[wpOps_cons]at h
  unfold wpOp at h ⊢
  rw[← h1]
  split
  ·rename_i e;rw[e]at h;exact ih a w h
  ·rename_i o e
   rw[e]at h
   simp only at h
   rw[← h2 o e]
   split
   ·rename_i hw
    rw[if_pos hw]at h
    refine h.imp (fun hh=> ?_) (fun⟨x,y⟩=>⟨x,y⟩)
    have h3:=Oper.wp_mono (K':=wpOps P ops Q (L.map f++L2)) (fun a w=>ih a w) hh
    unfold Oper.wp at h3 ⊢
    generalize (execOp a.eval o).run P w=r at h3
    cases r with
    |ok n w'=>
     cases n<;>simp only[Oper.upon]at h3 ⊢<;>first
      |exact h3
      |exact Calls.mono h3 (fun e w'' he=>by cases e<;>exact he)
    |halt x w'=>cases x<;>simp only[Oper.upon]at h3 ⊢<;>exact h3
   ·rename_i hw
    rw[if_neg hw]at h
    exact ih _ _ h
theorem wanted_congr{o:Oper}{ops ops':Array Oper}(h:∀ j want,o.guard=some (j,want)→ops'[j]? =ops[j]?)(tmps:Array Value):Region.wanted o (yielded ops' tmps)=Region.wanted o (yielded ops tmps):=by
 unfold Region.wanted
 cases hg:o.guard with
 |none=>rfl
 |some g=>
  obtain⟨j,want⟩:=g
  simp only[yielded,h j want hg]
theorem conc_le{M M':Mem}(h:M.le M'){Q:Exit→Regs→Store→Prop}{e:Exit}{a:Act}{w:World}:conc P M' w0 N Q e a w→conc P M w0 N Q e a w:=
 fun⟨M2,rg2,σ2,h1,h2⟩=>⟨M2,rg2,σ2,h.trans h1,h2⟩
theorem SW.mono{s:SC}{Q Q':Exit→Regs→Store→Prop}(h:SW P N s Q rg σ)(hq:∀ e rg σ,Q e rg σ→Q' e rg σ):SW P N s Q' rg σ:=
 fun c hc M w0 a w hI hR hN hD=>cwp_mono (h c hc M w0 a w hI hR hN hD) fun _ _ _ ⟨M2,rg2,σ2,h1,h2,h3,h4,h5,h6⟩=>⟨M2,rg2,σ2,h1,h2,h3,h4,h5,hq _ _ _ h6⟩
theorem SW.filt(l:List Nat){s:SC}{Q:Exit→Regs→Store→Prop}(h:SW P N s Q (filt l rg) σ):SW P N s Q rg σ:=
 fun c hc M w0 a w hI hR hN hD=>h c hc M w0 a w hI (hR.filt l) hN hD
def thenQ(K:Regs→Store→Prop)(Q:Exit→Regs→Store→Prop):Exit→Regs→Store→Prop
 | .normal,rg,σ=>K rg σ
 |e,rg,σ=>Q e rg σ
def blockQ(id:Nat)(Q:Exit→Regs→Store→Prop):Exit→Regs→Store→Prop
 | .exit id',rg,σ=>if id'=id then Q .normal rg σ else Q (.exit id') rg σ
 |e,rg,σ=>Q e rg σ
def Inverse(P:Program)[Glob P](N:Nat)(c:Code):SC→Prop
 | .skip=>c= .skip
 | .reg l=>∃ id ops,c= .region id ops false∧compL P N ops ops.toList=some l
 | .dreg l=>∃ id ops,c= .region id ops true∧compL P N ops ops.toList=some l∧(drawOK ops l=true∨drawS ops l=true)∧P.follows .mixedOrders=true
 | .mreg als ds=>∃ id ops l,c= .region id ops true∧compL P N ops ops.toList=some l∧(∀ x∈ds,l[x.ix]? =some x.c)∧mixOK ops als ds=true∧P.follows .mixedOrders=true
 | .seq a b=>(∃ ca cb,c= .seq ca cb∧compC P N ca=some a∧compC P N cb=some b)∨
   ∃ id ops l1 l2,c= .region id ops true∧a= .dreg l1∧b= .reg l2∧compL P N (preO ops) (preO ops).toList=some l1∧compL P N (sufO ops) (sufO ops).toList=some l2∧tailOK ops=true∧((drawOK (preO ops) l1=true∨drawS (preO ops) l1=true)∧many4 l1=false)∧P.follows .mixedOrders=true
 | .cond x a b=>∃ ca cb,c= .cond x ca cb∧compC P N ca=some a∧compC P N cb=some b
 | .block id b=>∃ cb,c= .block id cb∧compC P N cb=some b
 | .loop b=>∃ cb,c= .loop cb∧compC P N cb=some b
 | .exit id=>c= .exit id
 | .ret=>c= .ret
 | .scope b=>∃ cb,c= .scope cb∧compC P N cb=some b
 | .label l=>c= .label l
 | .goto l=>c= .goto l
theorem compC_inv{c:Code}{s:SC}(h:compC P N c=some s):Inverse P N c s:=by
 cases c with
 |skip=>simp only[compC,Option.some.injEq]at h;subst h;rfl
 |region id ops draw=>
  cases draw with
  |false=>
   simp only[compC]at h
   obtain⟨l,h1,rfl⟩:=Option.map_eq_some_iff.1 h
   exact⟨id,ops,rfl,h1⟩
  |true=>
   simp only[compC]at h
   split at h
   ·rename_i l hl
    split at h
    ·rename_i hd;cases h;exact⟨id,ops,l,rfl,hl,fun x hx=>mixL_get hx,hd.2.1,hd.2.2⟩
    split at h
    ·rename_i hd;cases h;exact⟨id,ops,rfl,hl,hd.1,hd.2⟩
    ·split at h
     ·rename_i hd;cases h;exact⟨id,ops,l,rfl,hl,fun x hx=>mixL_get hx,hd.1,hd.2⟩
     ·unfold compT at h
      split at h
      ·rename_i l1 l2 e1 e2
       split at h
       ·rename_i hd;cases h;exact .inr ⟨id,ops,l1,l2,rfl,rfl,rfl,e1,e2,hd.1,hd.2.1,hd.2.2⟩
       ·cases h
      ·cases h
   ·cases h
 |seq a b=>
  simp only[compC]at h
  split at h
  ·rename_i x y h1 h2;cases h;exact .inl ⟨a,b,rfl,h1,h2⟩
  ·cases h
 |cond x a b=>
  simp only[compC]at h
  split at h
  ·rename_i x y h1 h2;cases h;exact⟨a,b,rfl,h1,h2⟩
  ·cases h
 |block id b=>
  simp only[compC]at h
  obtain⟨l,h1,rfl⟩:=Option.map_eq_some_iff.1 h
  exact⟨b,rfl,h1⟩
 |loop b=>
  simp only[compC]at h
  obtain⟨l,h1,rfl⟩:=Option.map_eq_some_iff.1 h
  exact⟨b,rfl,h1⟩
 |exit id=>simp only[compC,Option.some.injEq]at h;subst h;rfl
 |ret=>simp only[compC,Option.some.injEq]at h;subst h;rfl
 |scope b=>
  simp only[compC]at h
  obtain⟨l,h1,rfl⟩:=Option.map_eq_some_iff.1 h
  exact⟨b,rfl,h1⟩
 |label l=>simp only[compC,Option.some.injEq]at h;subst h;rfl
 |goto l=>simp only[compC,Option.some.injEq]at h;subst h;rfl
 |_=>simp[compC]at h
def findS:SC→Nat→Option SC
 | .seq a b,l=>match findS a l with
  |some r=>some (.seq r b)
  |none=>findS b l
 | .label l',l=>if l' == l then some .skip else none
 |_,_=>none
theorem findS_comp{l:Nat}:∀ (c:Code) (s:SC),compC P N c=some s→match findS s l with
  |some r=>∃ rest,findLabel c l=some rest∧compC P N rest=some r
  |none=>findLabel c l=none
 | .seq ca cb,s,h=>by
  cases s with
  |seq a b=>
   rcases compC_inv h with⟨ca',cb',e,h1,h2⟩|⟨id,ops,l1,l2,e,_⟩
   ·cases e
    have i1:=findS_comp (l:=l) ca a h1
    have i2:=findS_comp (l:=l) cb b h2
    simp only[findS,findLabel]
    cases e1:findS a l with
    |some r=>
     rw[e1]at i1
     obtain⟨rest,g1,g2⟩:=i1
     exact⟨.seq rest cb,by rw[g1],by simp only[compC,g2,h2]⟩
    |none=>
     rw[e1]at i1
     simp only at i1
     simp only[i1]
     exact i2
   ·cases e
  |_=>
   have:=compC_inv h
   simp only[Inverse]at this
   first
    |exact nomatch this
    |(obtain⟨_,e,_⟩:=this;cases e)
    |(obtain⟨_,_,e,_⟩:=this;cases e)
    |(obtain⟨_,_,_,e,_⟩:=this;cases e)
 | .label l',s,h=>by
  simp only[compC,Option.some.injEq]at h
  subst h
  simp only[findS,findLabel]
  by_cases e:(l' == l)=true
  ·rw[if_pos e];exact⟨.skip,by rw[if_pos e],rfl⟩
  ·rw[if_neg e];simp only;rw[if_neg e]
 | .region id ops draw,s,h=>by
  have:=compC_inv h
  cases s<;>simp only[Inverse,reduceCtorEq,false_and,exists_false,exists_const,and_false]at this<;>simp only[findS,findLabel]
  rename_i a b
  rcases this with⟨_,_,e,_⟩|⟨_,_,l1,l2,e,e1,e2,_⟩
  ·rw[e1,e2];exact trivial
 | .skip,s,h=>by have:=compC_inv h;cases s<;>simp only[Inverse,reduceCtorEq,false_and,exists_false,exists_const,or_self]at this<;>rfl
 | .cond _ _ _,s,h=>by have:=compC_inv h;cases s<;>simp only[Inverse,reduceCtorEq,false_and,exists_false,exists_const,or_self]at this<;>rfl
 | .block _ _,s,h=>by have:=compC_inv h;cases s<;>simp only[Inverse,reduceCtorEq,false_and,exists_false,exists_const,or_self]at this<;>rfl
 | .loop _,s,h=>by have:=compC_inv h;cases s<;>simp only[Inverse,reduceCtorEq,false_and,exists_false,exists_const,or_self]at this<;>rfl
 | .exit _,s,h=>by have:=compC_inv h;cases s<;>simp only[Inverse,reduceCtorEq,false_and,exists_false,exists_const,or_self]at this<;>rfl
 | .ret,s,h=>by have:=compC_inv h;cases s<;>simp only[Inverse,reduceCtorEq,false_and,exists_false,exists_const,or_self]at this<;>rfl
 | .scope _,s,h=>by have:=compC_inv h;cases s<;>simp only[Inverse,reduceCtorEq,false_and,exists_false,exists_const,or_self]at this<;>rfl
 | .goto _,s,h=>by have:=compC_inv h;cases s<;>simp only[Inverse,reduceCtorEq,false_and,exists_false,exists_const,or_self]at this<;>rfl
 | .rangeFunc _ _ _ _,s,h=>by simp[compC]at h
 | .refuse _,s,h=>by simp[compC]at h
theorem SW_reg{l:List CI}{Q:Exit→Regs→Store→Prop}(cfg:Nat→Nat)(h:vcL P cfg l (Q .normal) (fun ch σ'=>Q (.panic ch) [] σ') rg σ):SW P N (.reg l) Q rg σ:=by
 intro c hc M w0 a w hI hR hN hD
 obtain⟨id,ops,rfl,hl⟩:=compC_inv hc
 show wpOps _ _ _ _ _ _
 have:=vcL_sound (P:=P) (N:=N) (cfg:=cfg) ops (Q:=Q) (K:=Q .normal) (fun _ _ h=>h) ops.toList 0 l hl (fun i hi=>by simp) M w0 w a rg σ h hI hR hN hD
 rw[List.range_eq_range']
 simpa using this
theorem SW_seq{x y:SC}{Q:Exit→Regs→Store→Prop}(h:SW P N x (thenQ (SW P N y Q) Q) rg σ):SW P N (.seq x y) Q rg σ:=by
 intro c hc M w0 a w hI hR hN hD
 rcases compC_inv hc with⟨ca,cb,rfl,h1,h2⟩|⟨id,ops,l1,l2,rfl,rfl,rfl,e1,e2,hT,hd,hfol⟩
 ·refine wp_seq (wp_mono (cwp_wp (h ca h1 M w0 a w hI hR hN hD)) ?_)
  rintro e a2 w2 ⟨M2,rg2,σ2,g1,g2,g3,g4,g5,g6⟩
  cases e with
  |normal=>
   refine wp_mono (cwp_wp (g6 cb h2 M2 w0 a2 w2 g2 g3 g4 g5)) ?_
   intro e a3 w3 hh
   exact conc_le g1 hh
  |_=>exact⟨M2,rg2,σ2,g1,g2,g3,g4,g5,g6⟩
 ·unfold tailOK at hT
  simp only[Bool.and_eq_true]at hT
  obtain⟨⟨⟨⟨⟨hk2,hf⟩,hfp⟩,hl⟩,hgp⟩,hgs⟩:=hT
  have hk2:=Nat.le_of_ble_eq_true hk2
  have hps:(preO ops).size=ops.size-tN ops:=by unfold preO;rw[Array.size_extract];omega
  have hss:(sufO ops).size=tN ops:=by unfold sufO;rw[Array.size_extract];omega
  have hpe:∀ i,i<ops.size-tN ops→(preO ops)[i]? =ops[i]? :=fun i hi=>by
   unfold preO;rw[Array.getElem?_extract,if_pos (by omega)];simp
  have hc1:compC P N (.region id (preO ops) true)=some (.dreg l1):=by
   simp only[compC,e1]
   rw[if_neg (fun h=>by rw[hd.2]at h;exact nomatch h.1),if_pos ⟨hd.1,hfol⟩]
  have hc2:compC P N (.region id (sufO ops) false)=some (.reg l2):=by simp only[compC,e2];rfl
  refine⟨hfol,fun t=> ?_⟩
  have hrun:=(h _ hc1 M w0 a w hI hR hN hD).2 t
  rw[linearise_pick _ hfp,hps]at hrun
  have e0:Region.linearise .any ops t=pickL (preO ops) (ops.size-tN ops) t (fun i=> !Nat.blt i (ops.size-tN ops))++List.range' (ops.size-tN ops) (ops.size-(ops.size-tN ops)):=by
   rw[linearise_pick _ hf]
   have:=pickL_split hf hl hps (fun i h h' h''=>by
    have:=hpe i h
    rw[Array.getElem?_eq_getElem h'',Array.getElem?_eq_getElem h']at this
    exact Option.some.inj this) (ops.size-tN ops) t (fun i=> !Nat.blt i (ops.size-tN ops)) (fun i=> !Nat.blt i ops.size) (Nat.le_trans (List.length_filter_le _ _) (by simp)) (fun i=>by
     by_cases hi:i<ops.size-tN ops
     ·have a1:Nat.blt i (ops.size-tN ops)=true:=by rw[Nat.blt_eq];exact hi
      have a2:Nat.blt i ops.size=true:=by rw[Nat.blt_eq];omega
      rw[if_pos hi,a1,a2]
     ·rw[if_neg hi])
   rwa [show ops.size-tN ops+(ops.size-(ops.size-tN ops))=ops.size by omega]at this
  rw[e0]
  have hL:∀ i∈pickL (preO ops) (ops.size-tN ops) t (fun i=> !Nat.blt i (ops.size-tN ops)),i<ops.size-tN ops:=fun i hi=>by
   rw[← hps];exact pickL_lt _ _ _ _ hi
  have key:=wpOps_tr (P:=P) (ops:=ops) (ops':=preO ops) (Q:=conc P M w0 N Q) (fun i=>i) (List.range' (ops.size-tN ops) (ops.size-(ops.size-tN ops))) (pickL (preO ops) (ops.size-tN ops) t (fun i=> !Nat.blt i (ops.size-tN ops))) (fun i hi=>⟨hpe i (hL i hi),fun o ho tmps=>wanted_congr (fun j want hg=>hpe j (by
   have hm:=Array.mem_of_getElem? ho
   have:=Array.all_eq_true_iff_forall_mem.1 hgp o hm
   rw[hg]at this
   simpa only[Nat.blt_eq]using this)) tmps⟩) a _ (vcL_sound.wpOps_le ?_ _ _ _ hrun)
  ·rw[List.map_id'']at key
   ·exact key
   ·exact fun _=>rfl
  ·rintro e a2 w2 ⟨M2,rg2,σ2,g1,g2,g3,g4,g5,g6⟩
   cases e with
   |normal=>
    have hrun2:wpOps P (sufO ops) (conc P M2 w0 N Q) (List.range (sufO ops).size) a2 w2:=g6 _ hc2 M2 w0 a2 w2 g2 g3 g4 g5
    rw[hss]at hrun2
    have key2:=wpOps_tr (P:=P) (ops:=ops) (ops':=sufO ops) (Q:=conc P M w0 N Q) (fun i=>ops.size-tN ops+i) [] (List.range (tN ops)) (fun i hi=>⟨by
     have:=List.mem_range.1 hi
     unfold sufO;rw[Array.getElem?_extract,if_pos (by omega)],fun o ho tmps=>by
     have hm:=Array.mem_of_getElem? ho
     have:=Array.all_eq_true_iff_forall_mem.1 hgs o hm
     simp only[Option.isNone_iff_eq_none]at this
     simp[Region.wanted,this]⟩) a2 w2 (vcL_sound.wpOps_le (fun e a3 w3 hh=>by cases e<;>exact conc_le g1 hh) _ _ _ hrun2)
    rw[List.append_nil]at key2
    rw[show ops.size-(ops.size-tN ops)=tN ops by omega]
    show wpOps P ops _ _ a2 w2
    have e3:(List.range (tN ops)).map (fun i=>ops.size-tN ops+i)=List.range' (ops.size-tN ops) (tN ops):=by rw[List.range'_eq_map_range]
    rw[← e3];exact key2
   |_=>exact⟨M2,rg2,σ2,g1,g2,g3,g4,g5,g6⟩
theorem SW_skip{Q:Exit→Regs→Store→Prop}(h:Q .normal rg σ):SW P N .skip Q rg σ:=by
 intro c hc M w0 a w hI hR hN hD
 obtain rfl:=compC_inv hc
 exact wp_skip ⟨M,rg,σ,Mem.le.refl _,hI,hR,hN,hD,h⟩
theorem SW_ret{Q:Exit→Regs→Store→Prop}(h:Q .ret rg σ):SW P N .ret Q rg σ:=by
 intro c hc M w0 a w hI hR hN hD
 obtain rfl:=compC_inv hc
 exact wp_ret ⟨M,rg,σ,Mem.le.refl _,hI,hR,hN,hD,h⟩
theorem SW_exit{id:Nat}{Q:Exit→Regs→Store→Prop}(h:Q (.exit id) rg σ):SW P N (.exit id) Q rg σ:=by
 intro c hc M w0 a w hI hR hN hD
 obtain rfl:=compC_inv hc
 exact wp_exit ⟨M,rg,σ,Mem.le.refl _,hI,hR,hN,hD,h⟩
theorem SW_cond{x:Operand}{s t:SC}{Q:Exit→Regs→Store→Prop}{b:Bool}(hx:ev rg x= .v (.bool b))(h1:b=true→SW P N s Q rg σ)(h2:b=false→SW P N t Q rg σ):SW P N (.cond x s t) Q rg σ:=by
 intro c hc M w0 a w hI hR hN hD
 obtain⟨ca,cb,rfl,g1,g2⟩:=compC_inv hc
 have he:=hR.ev x
 rw[hx]at he
 exact wp_cond_split he.of_v (fun hb=>cwp_wp (h1 hb _ g1 M w0 a w hI hR hN hD)) (fun hb=>cwp_wp (h2 hb _ g2 M w0 a w hI hR hN hD))
theorem SW_block{id:Nat}{s:SC}{Q:Exit→Regs→Store→Prop}(h:SW P N s (blockQ id Q) rg σ):SW P N (.block id s) Q rg σ:=by
 intro c hc M w0 a w hI hR hN hD
 obtain⟨cb,rfl,h1⟩:=compC_inv hc
 refine wp_block (wp_mono (cwp_wp (h _ h1 M w0 a w hI hR hN hD)) ?_)
 rintro e a2 w2 ⟨M2,rg2,σ2,g1,g2,g3,g4,g5,g6⟩
 cases e with
 |exit id'=>
  simp only[blockQ]at g6
  simp only[Exit.inBlock]
  split
  ·rename_i e;rw[if_pos e]at g6;exact⟨M2,rg2,σ2,g1,g2,g3,g4,g5,g6⟩
  ·rename_i e;rw[if_neg e]at g6;exact⟨M2,rg2,σ2,g1,g2,g3,g4,g5,g6⟩
 |_=>exact⟨M2,rg2,σ2,g1,g2,g3,g4,g5,g6⟩
theorem SW_loop{s:SC}{Q:Exit→Regs→Store→Prop}(I:Nat→Regs→Store→Prop)(n:Nat)(h0:I n rg σ)(h:∀ n rg σ,I n rg σ→SW P N s (thenQ (fun rg' σ'=>∃ n',n'<n∧I n' rg' σ') Q) rg σ):SW P N (.loop s) Q rg σ:=by
 intro c hc M w0 a w hI hR hN hD
 obtain⟨cb,rfl,hs'⟩:=compC_inv hc
 have key:∀ (m:Nat) (a:Act) (w:World),(∃ M2 rg2 σ2,M.le M2∧Inv P M2 w0 σ2 w∧RegsOK M2 rg2 a∧a.tmps.size=N∧a.defers=Glob.df P∧I m rg2 σ2)→
   ∀ (b:Frame) (k:List Item) (cs:List Frame),∃ e a' w',conc P M w0 N Q e a' w'∧Arrives P (lone (b.at a (.code cb:: .inLoop cb::k)) cs w) b k cs e a' w':=by
  intro m
  induction m using Nat.strongRecOn with
  |_ m ih=>
   rintro a w ⟨M2,rg2,σ2,g1,g2,g3,g4,g5,g6⟩ b k cs
   obtain⟨e,a',w',hq,harr⟩:=cwp_wp (h m rg2 σ2 g6 cb hs' M2 w0 a w g2 g3 g4 g5) b (.inLoop cb::k) cs
   obtain⟨M3,rg3,σ3,k1,k2,k3,k4,k5,k6⟩:=hq
   cases e with
   |normal=>
    obtain⟨m',hlt,hIm⟩:=k6
    obtain⟨e2,a2,w2,hq2,harr2⟩:=ih m' hlt a' w' ⟨M3,rg3,σ3,g1.trans k1,k2,k3,k4,k5,hIm⟩ b k cs
    exact⟨e2,a2,w2,hq2,.of_steps (Steps.trans harr (.one step_inLoop)) harr2⟩
   |exit id=>exact⟨_,a',w',⟨M3,rg3,σ3,g1.trans k1,k2,k3,k4,k5,k6⟩,.pass (x:= .inLoop cb) rfl (fun _ _=> .inl (by simp)) harr⟩
   |goto l=>exact⟨_,a',w',⟨M3,rg3,σ3,g1.trans k1,k2,k3,k4,k5,k6⟩,.pass (x:= .inLoop cb) rfl (fun _ _=> .inl (by simp)) harr⟩
   |ret=>exact⟨_,a',w',⟨M3,rg3,σ3,g1.trans k1,k2,k3,k4,k5,k6⟩,.pass (x:= .inLoop cb) rfl (fun _ _=> .inl (by simp)) harr⟩
   |panic ch=>exact⟨_,a',w',⟨M3,rg3,σ3,g1.trans k1,k2,k3,k4,k5,k6⟩,.pass (x:= .inLoop cb) rfl (fun _ _=> .inl (by simp)) harr⟩
   |outgrown=>exact⟨_,a',w',⟨M3,rg3,σ3,g1.trans k1,k2,k3,k4,k5,k6⟩,.pass (x:= .inLoop cb) rfl (fun _ _=> .inl (by simp)) harr⟩
 intro b k cs
 obtain⟨e,a',w',hq,harr⟩:=key n a w ⟨M,rg,σ,Mem.le.refl _,hI,hR,hN,hD,h0⟩ b k cs
 exact⟨e,a',w',hq,.of_steps (.one step_loop) harr⟩
theorem SW_label{l:Nat}{Q:Exit→Regs→Store→Prop}(h:Q .normal rg σ):SW P N (.label l) Q rg σ:=by
 intro c hc M w0 a w hI hR hN hD
 obtain rfl:=compC_inv hc
 exact wp_label ⟨M,rg,σ,Mem.le.refl _,hI,hR,hN,hD,h⟩
theorem SW_goto{l:Nat}{Q:Exit→Regs→Store→Prop}(h:Q (.goto l) rg σ):SW P N (.goto l) Q rg σ:=by
 intro c hc M w0 a w hI hR hN hD
 obtain rfl:=compC_inv hc
 exact wp_goto ⟨M,rg,σ,Mem.le.refl _,hI,hR,hN,hD,h⟩
def jumpQ(J:Nat→Regs→Store→Prop)(Q:Exit→Regs→Store→Prop):Exit→Regs→Store→Prop
 | .goto l,rg,σ=>J l rg σ
 |e,rg,σ=>Q e rg σ
theorem SW_scope{s:SC}{Q:Exit→Regs→Store→Prop}(J:Nat→Nat→Regs→Store→Prop)(h0:SW P N s (jumpQ (fun l rg σ=>∃ n,J l n rg σ) Q) rg σ)
  (h:∀ l n rg σ,J l n rg σ→∃ r,findS s l=some r∧SW P N r (jumpQ (fun l' rg' σ'=>∃ n',n'<n∧J l' n' rg' σ') Q) rg σ):SW P N (.scope s) Q rg σ:=by
 intro c hc M w0 a w hI hR hN hD
 obtain⟨cb,rfl,hs'⟩:=compC_inv hc
 have key:∀ (m l:Nat) (a:Act) (w:World),(∃ M2 rg2 σ2,M.le M2∧Inv P M2 w0 σ2 w∧RegsOK M2 rg2 a∧a.tmps.size=N∧a.defers=Glob.df P∧J l m rg2 σ2)→
   ∃ rest,findLabel cb l=some rest∧∀ (b:Frame) (k:List Item) (cs:List Frame),∃ e a' w',conc P M w0 N Q e a' w'∧Arrives P (lone (b.at a (.code rest:: .inScope cb::k)) cs w) b k cs e a' w':=by
  intro m
  induction m using Nat.strongRecOn with
  |_ m ih=>
   rintro l a w ⟨M2,rg2,σ2,g1,g2,g3,g4,g5,g6⟩
   obtain⟨r,hr,hsw⟩:=h l m rg2 σ2 g6
   have hf:=findS_comp (P:=P) (N:=N) (l:=l) cb s hs'
   rw[hr]at hf
   obtain⟨rest,hrest,hcr⟩:=hf
   refine⟨rest,hrest,fun b k cs=> ?_⟩
   obtain⟨e,a',w',hq,harr⟩:=cwp_wp (hsw rest hcr M2 w0 a w g2 g3 g4 g5) b (.inScope cb::k) cs
   obtain⟨M3,rg3,σ3,k1,k2,k3,k4,k5,k6⟩:=hq
   cases e with
   |normal=>exact⟨.normal,a',w',⟨M3,rg3,σ3,g1.trans k1,k2,k3,k4,k5,k6⟩,Steps.trans harr (.one step_inScope)⟩
   |exit id=>exact⟨.exit id,a',w',⟨M3,rg3,σ3,g1.trans k1,k2,k3,k4,k5,k6⟩,fun k' hk=>harr k' (by simp[exitTo,hk])⟩
   |goto l'=>
    obtain⟨m',hlt,hJ⟩:=k6
    obtain⟨rest',hr',ih'⟩:=ih m' hlt l' a' w' ⟨M3,rg3,σ3,g1.trans k1,k2,k3,k4,k5,hJ⟩
    obtain⟨e2,a2,w2,hq2,harr2⟩:=ih' b k cs
    have hg:gotoIn l' (.inScope cb::k)=some (.code rest':: .inScope cb::k):=by simp[gotoIn,hr']
    exact⟨e2,a2,w2,hq2,.of_steps (harr _ hg) harr2⟩
   |ret=>exact⟨_,a',w',⟨M3,rg3,σ3,g1.trans k1,k2,k3,k4,k5,k6⟩,harr⟩
   |panic ch=>exact⟨_,a',w',⟨M3,rg3,σ3,g1.trans k1,k2,k3,k4,k5,k6⟩,harr⟩
   |outgrown=>exact⟨_,a',w',⟨M3,rg3,σ3,g1.trans k1,k2,k3,k4,k5,k6⟩,harr⟩
 intro b k cs
 obtain⟨e,a',w',hq,harr⟩:=cwp_wp (h0 cb hs' M w0 a w hI hR hN hD) b (.inScope cb::k) cs
 obtain⟨M3,rg3,σ3,k1,k2,k3,k4,k5,k6⟩:=hq
 cases e with
 |normal=>exact⟨.normal,a',w',⟨M3,rg3,σ3,k1,k2,k3,k4,k5,k6⟩,.head step_scope (Steps.trans harr (.one step_inScope))⟩
 |exit id=>exact⟨.exit id,a',w',⟨M3,rg3,σ3,k1,k2,k3,k4,k5,k6⟩,fun k' hk=> .head step_scope (harr k' (by simp[exitTo,hk]))⟩
 |goto l'=>
  obtain⟨m,hJ⟩:=k6
  obtain⟨rest',hr',ih'⟩:=key m l' a' w' ⟨M3,rg3,σ3,k1,k2,k3,k4,k5,hJ⟩
  obtain⟨e2,a2,w2,hq2,harr2⟩:=ih' b k cs
  have hg:gotoIn l' (.inScope cb::k)=some (.code rest':: .inScope cb::k):=by simp[gotoIn,hr']
  exact⟨e2,a2,w2,hq2,.of_steps (.head step_scope (harr _ hg)) harr2⟩
 |ret=>exact⟨_,a',w',⟨M3,rg3,σ3,k1,k2,k3,k4,k5,k6⟩,.of_steps (.one step_scope) harr⟩
 |panic ch=>exact⟨_,a',w',⟨M3,rg3,σ3,k1,k2,k3,k4,k5,k6⟩,.of_steps (.one step_scope) harr⟩
 |outgrown=>exact⟨_,a',w',⟨M3,rg3,σ3,k1,k2,k3,k4,k5,k6⟩,.of_steps (.one step_scope) harr⟩
end
end Go.Sx
