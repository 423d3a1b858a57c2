import Derived.Test.YtmemninechdogaaGreatDoorSxSound
set_option linter.all false
namespace Go.Sx
open Go.RowKit
structure CI where
 d:Option Nat
 op:aB
 g:Option (Nat×Bool)
structure CD where
 ix:Nat
 c:CI
 cf:List Nat
inductive SC where
 |skip
 |bh (l:List CI)
 |de (l:List CI)
 |eR (aq:List Nat) (l:List CD)
 |seq (a b:SC)
 |cond (c:Operand) (t e:SC)
 |block (id:Nat) (b:SC)
 |loop (b:SC)
 |exit (id:Nat)
 |ret
 |scope (b:SC)
 |label (l:Nat)
 |goto (l:Nat)
def qY(P:Program)[Glob P](N:Nat)(ops:Array Oper)(o:Oper):Option CI:=
 match CM P o,o.dst with
 |some mX,some t=>if t<N then
   match o.guard with
   |none=>some ⟨some t,mX,none⟩|some (j,want)=>match(ops[j]?).bind (·.dst)with
    |some u=>some ⟨some t,mX,some (u,want)⟩|none=>none
  else none
 |some mX,none=>
   match o.guard with
   |none=>some ⟨none,mX,none⟩|some (j,want)=>match(ops[j]?).bind (·.dst)with
    |some u=>some ⟨none,mX,some (u,want)⟩|none=>none
 |none,_=>none
def iJ(P:Program)[Glob P](N:Nat)(ops:Array Oper):List Oper->Option (List CI)
 |[]=>some []|o::l=>match qY P N ops o with
  |some c=>(iJ P N ops l).map (c::·)|none=>none
def aB.opers:aB->List Operand
 |.mv x|.box _ x|.load _ _ x|.ng x|.un _ x|.mD _ x|.nw x|.nR _ x|.cG _ x|.field _ _ _ x|.extract x _|.len _ x|.panic x=>[x]
 |.pick c a b=>[c,a,b]
 |.alloc _ _=>[]
 |.build _ ps=>ps.map (·.2.2)| .TO _ _ ps=>ps|.store _ x y|.bin _ x y|.jt _ _ x y|.eqs _ _ x y|.fh _ x y|.mV _ _ x y|.idxs x y|.append _ _ _ _ x y|.max2 x y|.min2 x y=>[x,y]
 |.nQ _ a b=>a++b|.slice _ x lo hi=>x::(lo.toList++hi.toList)|.call _ as=>as|.fZ f as=>f::as|.cL _ _ _ as|.exts _ _ _ as=>as
def tmpsOf:List Operand->List Nat
 |[]=>[]
 |.tmp t::l=>t::tmpsOf l|_::l=>tmpsOf l
def CI.reads(c:CI):List Nat:=tmpsOf c.op.opers++(match c.g with|some (u,_)=>[u]|none=>[])
def posOf(t:Nat):List (Option Nat)->Nat->Option Nat
 |[],_=>none|x::l,k=>if x=some t then some k else posOf t l (k+1)
theorem Kr{t j:Nat}:∀(l:List (Option Nat)) (k:Nat),posOf t l k=some j->∃i,j=k+i/\l[i]? =some (some t)
 |[],k,h=>by cases h|x::l,k,h=>by
  simp only[posOf]at h;split at h
  .simp_all
  .obtain⟨i,h1,h2⟩:=Kr l (k+1) h;exact⟨i+1,by omega,by grind⟩
theorem Kq{t:Nat}:∀(l:List (Option Nat)) (k:Nat),posOf t l k=none->some t∉l
 |[],k,h=>by simp|x::l,k,h=>by
  simp only[posOf]at h;split at h
  .cases h
  .have:=Kq l (k+1) h;grind
def aB.cls:aB->Nat
 |.load .. =>1|.alloc .. |.box .. =>2|.store .. =>3|.append .. |.exts .. =>4|.panic .. =>5|_=>0
def q6(ops:Array Oper)(l:List CI):Bool:=
 (l.map (·.d)).Nodup&&l.all (fun c=>c.d.isSome&&(Nat.ble c.op.cls 1||(Nat.beq c.op.cls 4&&c.g.isNone))) &&
 (l.zip ops.toList).zipIdx.all fun((c,o),i)=>
  o.after.toList.all (fun e=>!Region.binds .any e||decide (e.on<i)) &&
  c.reads.all fun t=>match posOf t (l.map (·.d)) 0 with
   |some j=>o.after.toList.any fun e=>Region.binds .any e&&e.on == j
   |none=>true
def qt:List CI->Nat->Option Nat
 |[],_=>none|c::l,k=>bif Nat.beq c.op.cls 4 then some k else qt l (k+1)
theorem Kp{k:Nat}:∀(l:List CI) (m:Nat),qt l m=some k->∃i,∃h:i<l.length,k=m+i/\l[i].op.cls=4/\∀j,j<i->(hj:j<l.length)->l[j].op.cls≠4
 |[],m,h=>by cases h|c::l,m,h=>by
  simp only[qt]at h;cases e:Nat.beq c.op.cls 4 with
  |true=>simp_all|false=>
   rw[e]at h;obtain⟨i,h1,h2,h3,h4⟩:=Kp l (m+1) h;refine⟨i+1,by grind,by omega,by grind,fun j hj hl=>?_⟩;cases j with
   |zero=>intro e2;simp_all|succ j=>grind
def q7(ops:Array Oper)(l:List CI):Bool:=match qt l 0 with
 |none=>false|some k=>
 (l.map (·.d)).Nodup&&l.all (fun c=>c.d.isSome&&(Nat.ble c.op.cls 1||(Nat.beq c.op.cls 4&&c.g.isNone))) &&
 (l.zip ops.toList).zipIdx.all fun((c,o),i)=>
  o.after.toList.all (fun e=>!Region.binds .any e||decide (e.on<i)) &&
  c.reads.all fun t=>match posOf t (l.map (·.d)) 0 with
   |some j=>(o.after.toList.any fun e=>Region.binds .any e&&e.on == j)||(Nat.ble i k&&Nat.blt k j)|none=>true
def gQ(ops:Array Oper)(i j:Nat):Bool:=match ops[i]? with
 |some o=>o.after.toList.any fun e=>Region.binds .any e&&e.on == j
 |none=>false
def Q4(ops:Array Oper):List CI->Nat->List Nat->List Nat
 |[],_,acc=>acc|c::l,i,acc=>Q4 ops l (i+1) (bif Nat.ble 2 c.op.cls||acc.any (gQ ops i)then i::acc else acc)
def Sw:aB->Option Nat
 |.store _ (.tmp s) _=>some s|_=>none
def isApp:aB->Bool
 |.append .. =>true|_=>false
def zq(l:List CI):List Nat:=l.filterMap fun c=>bif Nat.beq c.op.cls 2||isApp c.op then c.d else none
def G6(s:Nat):List CI->Option aB
 |[]=>none|c::l=>match c.d with
  |some d=>bif Nat.beq d s then some c.op else G6 s l|none=>G6 s l
def rootOf(l:List CI):Nat->Nat->Option Nat
 |0,_=>none|n+1,s=>match G6 s l with
  |none=>some s|some (.alloc ..)|some (.box ..)=>some s|some (.cG _ (.tmp s'))|some (.ng (.tmp s'))|some (.mV _ _ (.tmp s') _)|some (.fh _ (.tmp s') _)|some (.mv (.tmp s'))=>rootOf l n s'|_=>none
def xi(ops:Array Oper)(l0:List CI)(i:Nat):List CI->Nat->List Nat
 |[],_=>[]
 |c::l,j=>match Sw c.op with
  |some s=>bif gQ ops i j||gQ ops j i then xi ops l0 i l (j+1)else match rootOf l0 l0.length s with
   |some r=>bif (zq l0).elem r then xi ops l0 i l (j+1)else r::xi ops l0 i l (j+1)|none=>xi ops l0 i l (j+1)
  |none=>xi ops l0 i l (j+1)
def JP:aB->Bool
 |.call .. =>true|_=>false
def GK(ops:Array Oper)(i:Nat):List CI->Nat->List Nat
 |[],_=>[]
 |c::l,j=>bif JP c.op&&gQ ops i j then c.d.toList++GK ops i l (j+1)else GK ops i l (j+1)
def Rx(ops:Array Oper)(l:List CI)(i:Nat):Option CD:=
 match l[i]? with
 |some c=>some ⟨i,c,bif Nat.beq c.op.cls 1 then xi ops l i l 0 else match Sw c.op with
  |some s=>(rootOf l l.length s).toList|none=>bif Nat.beq c.op.cls 0 then GK ops i l 0 else[]⟩
 |none=>none
def Eu(d:Option Nat)(x:CD):Bool:=match d with
 |some d=>!x.c.reads.elem d && !x.cf.elem d|none=>true
def qX(aq:List Nat)(a c:CD):Bool:=
 Eu a.c.d c&&Eu c.c.d a&&(a.c.d.isNone||decide (a.c.d≠c.c.d)) &&
 match a.c.op.cls,c.c.op.cls with
 |0,_=>true|1,0|1,1=>true|1,2=>(match c.c.d with|some d=>aq.elem d|none=>false)
 |1,3=>(match c.cf with|[s]=>a.cf.elem s||aq.elem s|_=>false)
 |1,4=>(match c.c.d with|some d=>aq.elem d|none=>false)
 |2,2=>true|_,_=>false
def Af(ops:Array Oper):Nat->Nat->Nat->Bool
 |0,i,j=>gQ ops i j|n+1,i,j=>gQ ops i j||(List.range ops.size).any fun b=>gQ ops i b&&Af ops n b j
def yq(ops:Array Oper)(aq:List Nat):List CD->Bool
 |[]=>true|a::l=>!gQ ops a.ix a.ix&&l.all (fun c=>!gQ ops a.ix c.ix&&(gQ ops c.ix a.ix||qX aq a c||(Nat.beq c.c.op.cls 4&&Af ops 2 c.ix a.ix)))&&yq ops aq l
def iU(x:CD):Bool:=(Nat.ble x.c.op.cls 3||isApp x.c.op)&&(Nat.ble x.c.op.cls 1||x.c.g.isNone)&&(!Nat.beq x.c.op.cls 2||x.c.d.isSome)
def J3(l:List CI):Bool:=Nat.ble 2 (l.filter fun c=>Nat.beq c.op.cls 4).length
def Es(ops:Array Oper)(aq:List Nat)(ds:List CD):Bool:=
 decide ((ds.map (·.ix)).Nodup)&&Nat.ble ds.length ops.size&&(List.range ops.size).all (fun i=>ds.any fun x=>Nat.beq x.ix i)&&ds.all iU&&ops.toList.all (fun o=>o.after.toList.all fun e=>!Region.binds .any e||decide (e.on<ops.size))&&yq ops aq ds
def M8(ops:Array Oper):List CI->Nat->List Nat->List Nat
 |[],_,acc=>acc|c::l,i,acc=>M8 ops l (i+1) (bif JP c.op||acc.any (gQ ops i)then i::acc else acc)
def Bd(ops:Array Oper)(l:List CI):List CD:=
 let late:=Q4 ops l 0 []
 let dep:=bif Nat.beq (l.filter fun c=>JP c.op).length 1 then M8 ops l 0 []else[]
 ((List.range l.length).filter (fun i=>!late.elem i && !dep.elem i)++(List.range l.length).filter (fun i=>!late.elem i&&dep.elem i)++(List.range l.length).filter (fun i=>late.elem i)).filterMap (Rx ops l)
theorem Rw{ops:Array Oper}{l:List CI}{x:CD}(h:x∈Bd ops l):l[x.ix]? =some x.c:=by
 obtain⟨i,_,hi⟩:=List.mem_filterMap.1 h;unfold Rx at hi;split at hi
 .grind
 grind
def tN(ops:Array Oper):Nat:=bif tZ ops (ops.size-2)then 2 else 1
def iV(ops:Array Oper):Array Oper:=(ops.toList.take (ops.size-tN ops)).toArray
def ob(ops:Array Oper):Array Oper:=(ops.toList.drop (ops.size-tN ops)).toArray
def Lh(ops:Array Oper):Bool:=Nat.ble (tN ops) ops.size&&tp ops&&tp (iV ops)&&tZ ops (ops.size-tN ops)&&(iV ops).toList.all (fun o=>match o.guard with|some (j,_)=>Nat.blt j (ops.size-tN ops)|none=>true)&&(ob ops).toList.all (fun o=>o.guard.isNone)
def M5(P:Program)[Glob P](N:Nat)(ops:Array Oper):Option SC:=
 match iJ P N (iV ops) (iV ops).toList,iJ P N (ob ops) (ob ops).toList with
 |some l1,some l2=>if Lh ops=true/\((q6 (iV ops) l1=true\/q7 (iV ops) l1=true)/\J3 l1=false)/\P.follows .mixedOrders=true then some (.seq (.de l1) (.bh l2))else none|_,_=>none
def cW(P:Program)[Glob P](N:Nat):Code->Option SC
 |.skip=>some .skip|.region _ ops false=>(iJ P N ops ops.toList).map .bh|.region _ ops true=>match iJ P N ops ops.toList with
  |some l=>if J3 l=true/\Es ops (zq l) (Bd ops l)/\P.follows .mixedOrders=true then some (.eR (zq l) (Bd ops l))
    else if(q6 ops l=true\/q7 ops l=true)/\P.follows .mixedOrders=true then some (.de l)
    else if Es ops (zq l) (Bd ops l)/\P.follows .mixedOrders=true then some (.eR (zq l) (Bd ops l))else M5 P N ops
  |none=>none
 |.seq a b=>match cW P N a,cW P N b with
  |some a,some b=>some (.seq a b)|_,_=>none
 |.cond c t e=>match cW P N t,cW P N e with
  |some t,some e=>some (.cond c t e)|_,_=>none
 |.block id b=>(cW P N b).map (.block id)|.loop b=>(cW P N b).map .loop|.exit id=>some (.exit id)|.ret=>some .ret|.scope b=>(cW P N b).map .scope|.label l=>some (.label l)|.goto l=>some (.goto l)|_=>none
def jr(P:Program)[Glob P](M:Mem)(w0:Base)(N:Nat)(Q:Exit->ag->Store->Prop):Exit->Act->World->Prop:=fun e a w=>
 ∃M' rg σ,M.le M'/\Inv P M' w0 σ w/\bS M' rg a/\a.tmps.size=N/\a.defers=Glob.df P/\Q e rg σ
def iK(P:Program)(c:Code)(Q:Exit->Act->World->Prop)(a:Act)(w:World):Prop:=match c with
 |.region _ ops true=>P.follows .mixedOrders=true/\∀t,wpOps P ops Q (Region.linearise .any ops t) a {w with drawn:=w.drawn+1}|.region _ ops false=>wpOps P ops Q (List.range ops.size) a w|c=>c.wp P Q a w
theorem pS{P:Program}{c:Code}{Q:Exit->Act->World->Prop}{a:Act}{w:World}(h:iK P c Q a w):c.wp P Q a w:=by
 unfold iK at h;split at h
 .refine wp_region_draw fun t=>?_;simp only[Region.schedule,h.1,Bool.true_or,YK];grind
 .exact wp_region h
 grind
theorem G3{P:Program}{id:Nat}{ops:Array Oper}{Q:Exit->Act->World->Prop}{a:Act}{w:World}(hm:P.follows .mixedOrders=true)(h:wpAny P .any ops Q ops.size (Array.replicate ops.size false) a {w with drawn:=w.drawn+1}):iK P (.region id ops true) Q a w:=
 ⟨hm,fun t=>wpAny_sound ops.size t _ a _ h⟩
def SW(P:Program)[Glob P](N:Nat)(s:SC)(Q:Exit->ag->Store->Prop)(rg:ag)(σ:Store):Prop:=
 ∀c,cW P N c=some s->∀(M:Mem) (w0:Base) (a:Act) (w:World),Inv P M w0 σ w->bS M rg a->a.tmps.size=N->a.defers=Glob.df P->iK P c (jr P M w0 N Q) a w
def cE(P:Program)[Glob P](cfg:Nat->Nat)(c:CI)(K:AV->Store->Prop)(E:List PanicEntry->Store->Prop)(rg:ag)(σ:Store):Prop:=
 match c.g with
 |none=>ak P cfg c.d rg σ K E c.op|some (t,want)=>match lk rg t with
  |.v (.bool b)=>(b=want->ak P cfg c.d rg σ K E c.op)/\(b= !want->K (.v undef) σ)|.v (.tuple _)=>K (.v undef) σ|_=>False
def Gd(b want:Bool)(X Y:Prop):Prop:=(b=want->X)/\(b= !want->Y)
theorem Gd.l{b want:Bool}{X Y:Prop}(h:Gd b want X Y):b=want->X:=h.1
theorem Gd.r{b want:Bool}{X Y:Prop}(h:Gd b want X Y):b= !want->Y:=h.2
def ko(P:Program)[Glob P](cfg:Nat->Nat):List CI->(K:ag->Store->Prop)->(E:List PanicEntry->Store->Prop)->ag->Store->Prop
 |[],K,_,rg,σ=>K rg σ|c::l,K,E,rg,σ=>match c.g with
  |none=>ak P cfg c.d rg σ (fun x af=>ko P cfg l K E (bB c.d x rg) af) E c.op|some (t,want)=>match lk rg t with
   |.v (.bool b)=>Gd b want (ak P cfg c.d ((t,.v (.bool want))::rg) σ (fun x af=>ko P cfg l K E (bB c.d x ((t,.v (.bool want))::rg)) af) E c.op)
     (ko P cfg l K E (bB c.d (.v undef) ((t,.v (.bool !want))::rg)) σ)
   |.v (.tuple _)=>ko P cfg l K E (bB c.d (.v undef) rg) σ|_=>False
theorem En{rg:ag}{t:Nat}{x:AV}(h:lk rg t=x)(i:Nat):lk ((t,x)::rg) i=lk rg i:=by
 simp only[lk];cases hb:Nat.beq t i with
 |true=>simp_all|false=>rfl
theorem al4{P:Program}[Glob P]{cfg:Nat->Nat}{c:CI}{l:List CI}{K:ag->Store->Prop}{E:List PanicEntry->Store->Prop}{rg:ag}{σ:Store}(h:ko P cfg (c::l) K E rg σ):
  ∃al,(∀i,lk al i=lk rg i)/\cE P cfg c (fun x af=>ko P cfg l K E (bB c.d x al) af) E al σ:=by
 simp only[ko]at h;split at h
 .exact⟨rg,fun _=>rfl,by unfold cE;grind⟩
 .rename_i t want hg;split at h
  .rename_i b hb;by_cases mN:b=want
   .subst mN;have e:lk ((t,AV.v (.bool b))::rg) t= .v (.bool b):=by simp[lk,Yv]
    refine⟨_,En hb,?_⟩;unfold cE;rw[hg];simp only[e];exact⟨fun _=>h.l rfl,fun h'=>by grind⟩
   .have jA:b= !want:=by cases b<;>cases want<;>simp_all
    subst jA;have e:lk ((t,AV.v (.bool !want))::rg) t= .v (.bool !want):=by simp[lk,Yv]
    refine⟨_,En hb,?_⟩;unfold cE;rw[hg];simp only[e];exact⟨fun h'=>absurd h' mN,fun _=>h.r rfl⟩
  .exact⟨rg,fun _=>rfl,by unfold cE;grind⟩
  grind
section
variable {P:Program}[Glob P]{M:Mem}{w0:Base}{w:World}{σ:Store}{rg:ag}{a:Act}{cfg:Nat->Nat}{N:Nat}
theorem vh{ops:Array Oper}{o:Oper}{c:CI}(hc:qY P N ops o=some c){K:AV->Store->Prop}{E:List PanicEntry->Store->Prop}(h:cE P cfg c K E rg σ)(hI:Inv P M w0 σ w)(hR:bS M rg a)
  {next:Act->World->Prop} {Q:Exit->Act->World->Prop} (hg:zb P M w0 w K E o a next Q):
  if Region.wanted o (yielded ops a.tmps)then o.wp P a w next Q\/(o.asks P a w/\LetsOut Q)else next (a.put o.dst undef) w:=by
 obtain⟨mX,adW,hd,ei,I4⟩:∃mX,CM P o=some mX/\c.d=o.dst/\c.op=mX/\((o.guard=none/\c.g=none)\/∃j want u,o.guard=some (j,want)/\(ops[j]?).bind (·.dst)=some u/\c.g=some (u,want)):=by
  unfold qY at hc;split at hc
  .grind
  .grind
  grind
 have run:ak P cfg c.d rg σ K E c.op->o.wp P a w next Q:=fun h=>abh (cfg:=cfg) (d:=c.d) adW (by grind) hI hR hg
 have Tt:K (.v undef) σ->next (a.put o.dst undef) w:=fun h=>hg.val M _ σ undef w (Mem.le.refl _) hI (.v _) h
 unfold cE at h;rcases I4 with⟨h1,h2⟩|⟨j,want,u,h1,h2,h3⟩
 .rw[h2]at h;simp only[Region.wanted,h1,YK];grind
 .rw[h3]at h;simp only at h;have hy:yielded ops a.tmps j=match a.tmps[u]? with
   |some (.bool b)=>some b|_=>none:=by unfold yielded;grind
  have hu:=hR u;split at h
  .rename_i b hb;rw[hb]at hu;have hv:=hu.aC;have ht:a.tmps[u]? =some (.bool b):=by
    rw[ZS]at hv;cases he:a.tmps[u]? with
    |none=>rw[he]at hv;simp[undef]at hv|some y=>rw[he]at hv;simp at hv;rw[hv]
   have JG:yielded ops a.tmps j=some b:=by rw[hy,ht]
   simp only[Region.wanted,h1,JG];by_cases mN:b=want
   .subst mN;simp only[beq_self_eq_true,YK];exact .inl (run (h.1 rfl))
   .have:(some b == some want)=false:=by simp[mN]
    simp only[this,ZT,YU];exact Tt (h.2 (by cases b<;>cases want<;>simp_all))
  .rename_i vs hb;rw[hb]at hu;have hv:=hu.aC;have JG:yielded ops a.tmps j=none:=by
    rw[hy];rw[ZS]at hv;cases he:a.tmps[u]? with
    |none=>rfl|some y=>rw[he]at hv;simp at hv;rw[hv]
   simp only[Region.wanted,h1,JG];have:((none:Option Bool) == some want)=false:=rfl;simp only[this,ZT,YU];exact Tt h
  grind
theorem zC{ops:Array Oper}{o:Oper}{c:CI}(hc:qY P N ops o=some c):c.d=o.dst/\∀t,c.d=some t->t<N:=by
 unfold qY at hc;split at hc
 .grind
 .grind
 grind
theorem wP(ops:Array Oper){Q:Exit->ag->Store->Prop}{K:ag->Store->Prop}(hK:∀rg σ,K rg σ->Q .normal rg σ):
  ∀(os:List Oper) (k:Nat) (l:List CI),iJ P N ops os=some l->(∀i,i<os.length->ops[k+i]? =os[i]?)->
  ∀(M:Mem) (w0:Base) (w:World) (a:Act) (rg:ag) (σ:Store),ko P cfg l K (fun ch af=>Q (.panic ch) [] af) rg σ->Inv P M w0 σ w->bS M rg a->a.tmps.size=N->a.defers=Glob.df P->
   wpOps P ops (jr P M w0 N Q) (List.range' k os.length) a w
 |[],k,l,hl,_,M,w0,w,a,rg,σ,h,hI,hR,hN,hD=>by simp only[iJ,ZV]at hl;subst hl;exact⟨M,rg,σ,Mem.le.refl _,hI,hR,hN,hD,hK rg σ h⟩|o::os,k,l,hl,ho,M,w0,w,a,rg,σ,h,hI,hR,hN,hD=>by
  simp only[iJ]at hl;split at hl
  .rename_i c hc;obtain⟨l',fw,rfl⟩:=Z8.1 hl;have Jg:ops[k]? =some o:=by simpa using ho 0 (by simp)
   obtain⟨al,vR,h⟩:=al4 h;replace hR:bS M al a:=fun i=>by rw[vR];exact hR i
   obtain⟨kK,az⟩:=zC hc;simp only[ZY,List.range'_succ,wpOps,Jg];refine vh hc h hI hR ⟨fun M' x af v w' hM bg hx hk=>?_,fun M' ch af w' hM bg hk=>?_⟩
   .have ih:=wP ops hK os (k+1) l' fw (fun i hi=>by have:=ho (i+1) (by grind);grind) M' w0 w' (a.put o.dst v) (bB c.d x al) af hk bg
     (by rw[kK];exact(hR.mono hM).put o.dst (fun t ht=>by grind) hx) (by rw[Act.size_put];grind) (by rw[Act.zD];grind)
    refine sC ?_ _ _ _ ih;rintro e a2 w2 ⟨M2,bK,aK,h1,h2⟩;exact⟨M2,bK,aK,hM.trans h1,h2⟩
   .exact⟨M',[],af,hM,bg,fun i=>.any _,hN,hD,hk⟩
  grind
 where
 sC {ops:Array Oper} {Q Q':Exit->Act->World->Prop} (h:∀e a w,Q e a w->Q' e a w):∀(is:List Nat) (a:Act) (w:World),wpOps P ops Q is a w->wpOps P ops Q' is a w
 |[],a,w,hq=>h _ _ _ hq|i::is,a,w,hq=>by
  rw[wpOps_cons]at hq|-;unfold wpOp at hq|-;split
  .rename_i e;rw[e]at hq;exact sC h is a w hq
  .rename_i o e;rw[e]at hq;simp only at hq;split
   .rename_i hw;rw[Z3 hw]at hq;refine hq.imp (fun hh=>?_) (fun⟨x,y⟩=>⟨x,y.elim fun a h'=>h'.elim fun w xB=>⟨a,w,h _ _ _ xB⟩⟩);have h1:=Oper.wp_mono (K':=wpOps P ops Q' is) (fun a w=>sC h is a w) hh;unfold Oper.wp at h1|-;generalize (execOp a.eval o).run P w=r at h1;cases r with
    |ok n w'=>
     cases n<;>simp only[Oper.upon]at h1|-<;>first
      |exact h1
      |exact Calls.mono h1 (fun e BQ he=>by cases e<;>first|exact he|exact h _ _ _ he|exact he.elim fun a h'=>h'.elim fun w xB=>⟨a,w,h _ _ _ xB⟩)
    |halt x w'=>cases x<;>simp only[Oper.upon]at h1|-<;>first|exact h1|exact h _ _ _ h1
   .rename_i hw;rw[Z9 hw]at hq;exact sC h is _ _ hq
theorem uY{c:Code}{Q Q':Exit->Act->World->Prop}(h:iK P c Q a w)(hq:∀e a w,Q e a w->Q' e a w):iK P c Q' a w:=by
 unfold iK at h|-;split
 .exact⟨h.1,fun t=>wP.sC hq _ _ _ (h.2 t)⟩
 .exact wP.sC hq _ _ _ h
 .have h':c.wp P Q a w:=by grind
  exact wp_mono h' hq
theorem LJ{ops ops':Array Oper}{Q:Exit->Act->World->Prop}(f:Nat->Nat)(L2:List Nat):∀(L:List Nat),(∀i∈L,ops'[i]? =ops[f i]?/\∀o,ops'[i]? =some o->∀tmps,Region.wanted o (yielded ops' tmps)=Region.wanted o (yielded ops tmps))->∀(a:Act) (w:World),
  wpOps P ops' (Exit.then (wpOps P ops Q L2) Q) L a w->wpOps P ops Q (L.map f++L2) a w
 |[],_,a,w,h=>h|i::L,hL,a,w,h=>by
  have ih:=LJ (ops:=ops) (ops':=ops') (Q:=Q) f L2 L (fun j hj=>hL j (ZN _ hj));obtain⟨h1,h2⟩:=hL i ZK;rw[Zz,ZB,wpOps_cons];rw[wpOps_cons]at h;unfold wpOp at h|-;rw[<-h1];split
  .grind
  .rename_i o e;rw[e]at h;simp only at h;rw[<-h2 o e];split
   .rename_i hw;rw[Z3 hw]at h;refine h.imp (fun hh=>?_) (fun⟨x,y⟩=>⟨x,y⟩);have h3:=Oper.wp_mono (K':=wpOps P ops Q (L.map f++L2)) (fun a w=>ih a w) hh;generalize (execOp a.eval o).run P w=r at h3;cases r with
    |ok n w'=>assumption|halt x w'=>assumption
   grind
theorem amf{o:Oper}{ops ops':Array Oper}(h:∀j want,o.guard=some (j,want)->ops'[j]? =ops[j]?)(tmps:Array Value):Region.wanted o (yielded ops' tmps)=Region.wanted o (yielded ops tmps):=by
 unfold Region.wanted;cases hg:o.guard with
 |none=>rfl|some g=>obtain⟨j,want⟩:=g;simp only[yielded,h j want hg]
theorem M6{M M':Mem}(h:M.le M'){Q:Exit->ag->Store->Prop}{e:Exit}{a:Act}{w:World}:jr P M' w0 N Q e a w->jr P M w0 N Q e a w:=
 fun⟨M2,bK,aK,h1,h2⟩=>⟨M2,bK,aK,h.trans h1,h2⟩
theorem SW.mono{s:SC}{Q Q':Exit->ag->Store->Prop}(h:SW P N s Q rg σ)(hq:∀e rg σ,Q e rg σ->Q' e rg σ):SW P N s Q' rg σ:=
 fun c hc M w0 a w hI hR hN hD=>uY (h c hc M w0 a w hI hR hN hD) fun _ _ _ ⟨M2,bK,aK,h1,h2,h3,h4,h5,h6⟩=>⟨M2,bK,aK,h1,h2,h3,h4,h5,hq _ _ _ h6⟩
theorem SW.eP(l:List Nat){s:SC}{Q:Exit->ag->Store->Prop}(h:SW P N s Q (eP l rg) σ):SW P N s Q rg σ:=
 fun c hc M w0 a w hI hR hN hD=>h c hc M w0 a w hI (hR.eP l) hN hD
def qC(K:ag->Store->Prop)(Q:Exit->ag->Store->Prop):Exit->ag->Store->Prop
 |.normal,rg,σ=>K rg σ|e,rg,σ=>Q e rg σ
def oy(id:Nat)(Q:Exit->ag->Store->Prop):Exit->ag->Store->Prop
 |.exit ql,rg,σ=>if ql=id then Q .normal rg σ else Q (.exit ql) rg σ|e,rg,σ=>Q e rg σ
def oq(P:Program)[Glob P](N:Nat)(c:Code):SC->Prop
 |.skip=>c= .skip|.bh l=>∃id ops,c= .region id ops false/\iJ P N ops ops.toList=some l|.de l=>∃id ops,c= .region id ops true/\iJ P N ops ops.toList=some l/\(q6 ops l=true\/q7 ops l=true)/\P.follows .mixedOrders=true|.eR aq ds=>∃id ops l,c= .region id ops true/\iJ P N ops ops.toList=some l/\(∀x∈ds,l[x.ix]? =some x.c)/\Es ops aq ds=true/\P.follows .mixedOrders=true|.seq a b=>(∃ca cb,c= .seq ca cb/\cW P N ca=some a/\cW P N cb=some b)\/
   ∃id ops l1 l2,c= .region id ops true/\a= .de l1/\b= .bh l2/\iJ P N (iV ops) (iV ops).toList=some l1/\iJ P N (ob ops) (ob ops).toList=some l2/\Lh ops=true/\((q6 (iV ops) l1=true\/q7 (iV ops) l1=true)/\J3 l1=false)/\P.follows .mixedOrders=true
 |.cond x a b=>∃ca cb,c= .cond x ca cb/\cW P N ca=some a/\cW P N cb=some b|.block id b=>∃cb,c= .block id cb/\cW P N cb=some b|.loop b=>∃cb,c= .loop cb/\cW P N cb=some b|.exit id=>c= .exit id|.ret=>c= .ret|.scope b=>∃cb,c= .scope cb/\cW P N cb=some b|.label l=>c= .label l|.goto l=>c= .goto l
theorem fC{c:Code}{s:SC}(h:cW P N c=some s):oq P N c s:=by
 cases c with
 |skip=>simp only[cW,ZV]at h;subst h;rfl|region id ops draw=>
  cases draw with
  |false=>simp only[cW]at h;obtain⟨l,h1,rfl⟩:=Z8.1 h;exact⟨id,ops,rfl,h1⟩
  |true=>
   simp only[cW]at h;split at h
   .rename_i l hl;split at h
    .rename_i hd;cases h;exact⟨id,ops,l,rfl,hl,fun x hx=>Rw hx,hd.2.1,hd.2.2⟩
    split at h
    .rename_i hd;cases h;exact⟨id,ops,rfl,hl,hd.1,hd.2⟩
    .split at h
     .rename_i hd;cases h;exact⟨id,ops,l,rfl,hl,fun x hx=>Rw hx,hd.1,hd.2⟩
     .unfold M5 at h;split at h
      .rename_i l1 l2 e1 e2;split at h
       .rename_i hd;cases h;exact .inr ⟨id,ops,l1,l2,rfl,rfl,rfl,e1,e2,hd.1,hd.2.1,hd.2.2⟩
       grind
      grind
   grind
 |seq a b=>
  simp only[cW]at h;split at h
  .rename_i x y h1 h2;cases h;exact .inl ⟨a,b,rfl,h1,h2⟩
  grind
 |cond x a b=>
  simp only[cW]at h;split at h
  .rename_i x y h1 h2;cases h;exact⟨a,b,rfl,h1,h2⟩
  grind
 |block id b=>simp only[cW]at h;obtain⟨l,h1,rfl⟩:=Z8.1 h;exact⟨b,rfl,h1⟩
 |loop b=>simp only[cW]at h;obtain⟨l,h1,rfl⟩:=Z8.1 h;exact⟨b,rfl,h1⟩
 |exit id=>simp only[cW,ZV]at h;subst h;rfl|ret=>simp only[cW,ZV]at h;subst h;rfl|scope b=>simp only[cW]at h;obtain⟨l,h1,rfl⟩:=Z8.1 h;exact⟨b,rfl,h1⟩
 |label l=>simp only[cW,ZV]at h;subst h;rfl|goto l=>simp only[cW,ZV]at h;subst h;rfl|_=>simp[cW]at h
def nC:SC->Nat->Option SC
 |.seq a b,l=>match nC a l with
  |some r=>some (.seq r b)|none=>nC b l
 |.label l',l=>if l' == l then some .skip else none|_,_=>none
theorem HG{l:Nat}:∀(c:Code) (s:SC),cW P N c=some s->match nC s l with
  |some r=>∃rest,findLabel c l=some rest/\cW P N rest=some r|none=>findLabel c l=none
 |.seq ca cb,s,h=>by
  cases s with
  |seq a b=>
   rcases fC h with⟨ca',cb',e,h1,h2⟩|⟨id,ops,l1,l2,e,_⟩
   .cases e;have i1:=HG (l:=l) ca a h1;have i2:=HG (l:=l) cb b h2;simp only[nC,findLabel];cases e1:nC a l with
    |some r=>rw[e1]at i1;obtain⟨rest,g1,g2⟩:=i1;exact⟨.seq rest cb,by rw[g1],by simp only[cW,g2,h2]⟩
    |none=>grind
   grind
  |_=>have:=fC h;simp only[oq]at this;grind
 |.label l',s,h=>by
  simp only[cW,ZV]at h;subst h;simp only[nC,findLabel];by_cases e:(l' == l)=true
  .rw[Z3 e];exact⟨.skip,by grind,rfl⟩
  grind
 |.region id ops draw,s,h=>by
  have:=fC h;cases s<;>simp only[oq,reduceCtorEq,Xr,XH,XG,and_false]at this<;>simp only[nC,findLabel];rename_i a b;rcases this with⟨_,_,e,_⟩|⟨_,_,l1,l2,e,e1,e2,_⟩
  .rw[e1,e2];exact trivial
 |.skip,s,h=>by have:=fC h;cases s<;>simp only[oq,reduceCtorEq,Xr,XH,XG,or_self]at this<;>rfl|.cond _ _ _,s,h=>by have:=fC h;cases s<;>simp only[oq,reduceCtorEq,Xr,XH,XG,or_self]at this<;>rfl|.block _ _,s,h=>by have:=fC h;cases s<;>simp only[oq,reduceCtorEq,Xr,XH,XG,or_self]at this<;>rfl|.loop _,s,h=>by have:=fC h;cases s<;>simp only[oq,reduceCtorEq,Xr,XH,XG,or_self]at this<;>rfl|.exit _,s,h=>by have:=fC h;cases s<;>simp only[oq,reduceCtorEq,Xr,XH,XG,or_self]at this<;>rfl|.ret,s,h=>by have:=fC h;cases s<;>simp only[oq,reduceCtorEq,Xr,XH,XG,or_self]at this<;>rfl|.scope _,s,h=>by have:=fC h;cases s<;>simp only[oq,reduceCtorEq,Xr,XH,XG,or_self]at this<;>rfl|.goto _,s,h=>by have:=fC h;cases s<;>simp only[oq,reduceCtorEq,Xr,XH,XG,or_self]at this<;>rfl|.rangeFunc _ _ _ _,s,h=>by simp[cW]at h|.refuse _,s,h=>by simp[cW]at h
theorem Mf{l:List CI}{Q:Exit->ag->Store->Prop}(cfg:Nat->Nat)(h:ko P cfg l (Q .normal) (fun ch af=>Q (.panic ch) [] af) rg σ):SW P N (.bh l) Q rg σ:=by intro c hc M w0 a w hI hR hN hD;obtain⟨id,ops,rfl,hl⟩:=fC hc;show wpOps _ _ _ _ _ _;have:=wP (P:=P) (N:=N) (cfg:=cfg) ops (Q:=Q) (K:=Q .normal) (fun _ _ h=>h) ops.toList 0 l hl (fun i hi=>by simp) M w0 w a rg σ h hI hR hN hD;rw[Xw];grind
theorem zl{x y:SC}{Q:Exit->ag->Store->Prop}(h:SW P N x (qC (SW P N y Q) Q) rg σ):SW P N (.seq x y) Q rg σ:=by
 intro c hc M w0 a w hI hR hN hD;rcases fC hc with⟨ca,cb,rfl,h1,h2⟩|⟨id,ops,l1,l2,rfl,rfl,rfl,e1,e2,hT,hd,tE⟩
 .refine wp_seq (wp_mono (pS (h ca h1 M w0 a w hI hR hN hD)) ?_);rintro e a2 w2 ⟨M2,bK,aK,g1,g2,g3,g4,g5,g6⟩;cases e with
  |normal=>refine wp_mono (pS (g6 cb h2 M2 w0 a2 w2 g2 g3 g4 g5)) ?_;intro e a3 w3 hh;exact M6 g1 hh|_=>exact⟨M2,bK,aK,g1,g2,g3,g4,g5,g6⟩
 .unfold Lh at hT;simp only[Z6,Yp]at hT;obtain⟨⟨⟨⟨⟨fO,hf⟩,hfp⟩,hl⟩,hgp⟩,Ap⟩:=hT;have fO:=ZE fO;have aw:(iV ops).size=ops.size-tN ops:=by unfold iV;grind
  have qg:(ob ops).size=tN ops:=by unfold ob;grind
  have Jj:∀i,i<ops.size-tN ops->(iV ops)[i]? =ops[i]? :=fun i hi=>by unfold iV;grind
  have bC:cW P N (.region id (iV ops) true)=some (.de l1):=by simp only[cW,e1];grind
  have bO:cW P N (.region id (ob ops) false)=some (.bh l2):=by simp only[cW,e2];rfl
  refine⟨tE,fun t=>?_⟩;have cY:=(h _ bC M w0 a w hI hR hN hD).2 t;rw[Re _ hfp,aw]at cY;have e0:Region.linearise .any ops t=ji (iV ops) (ops.size-tN ops) t (fun i=>!Nat.blt i (ops.size-tN ops))++List.range' (ops.size-tN ops) (ops.size-(ops.size-tN ops)):=by
   rw[Re _ hf];have:=aiF hf hl aw (fun i h h' xB=>by
    have:=Jj i h;rw[ZF xB,ZF h']at this;exact YC this) (ops.size-tN ops) t (fun i=>!Nat.blt i (ops.size-tN ops)) (fun i=>!Nat.blt i ops.size) (ZD (Yd _ _) (by simp)) (fun i=>by
     by_cases hi:i<ops.size-tN ops
     .have a1:Nat.blt i (ops.size-tN ops)=true:=by rw[Yw];exact hi
      have a2:Nat.blt i ops.size=true:=by rw[Yw];omega
      rw[Z3 hi,a1,a2]
     .rw[Z9 hi])
   rwa [show ops.size-tN ops+(ops.size-(ops.size-tN ops))=ops.size by omega]at this
  rw[e0];have hL:∀i∈ji (iV ops) (ops.size-tN ops) t (fun i=>!Nat.blt i (ops.size-tN ops)),i<ops.size-tN ops:=fun i hi=>by rw[<-aw];exact Sp _ _ _ _ hi
  have key:=LJ (P:=P) (ops:=ops) (ops':=iV ops) (Q:=jr P M w0 N Q) (fun i=>i) (List.range' (ops.size-tN ops) (ops.size-(ops.size-tN ops))) (ji (iV ops) (ops.size-tN ops) t (fun i=>!Nat.blt i (ops.size-tN ops))) (fun i hi=>⟨Jj i (hL i hi),fun o ho tmps=>amf (fun j want hg=>Jj j (by
   have hm:=Array.mem_of_getElem? ho;have:=ZC.1 hgp o hm;rw[hg]at this
   simpa only[Yw]using this)) tmps⟩) a _ (wP.sC ?_ _ _ _ cY)
  .rw[List.map_id'']at key
   .exact key
   .exact fun _=>rfl
  .rintro e a2 w2 ⟨M2,bK,aK,g1,g2,g3,g4,g5,g6⟩;cases e with
   |normal=>
    have tL:wpOps P (ob ops) (jr P M2 w0 N Q) (List.range (ob ops).size) a2 w2:=g6 _ bO M2 w0 a2 w2 g2 g3 g4 g5;rw[qg]at tL;have QU:=LJ (P:=P) (ops:=ops) (ops':=ob ops) (Q:=jr P M w0 N Q) (fun i=>ops.size-tN ops+i) [] (List.range (tN ops)) (fun i hi=>⟨by
     have:=YW.1 hi;unfold ob;simp only[XA,YE,Zi],fun o ho tmps=>by
     have hm:=Array.mem_of_getElem? ho;have:=ZC.1 Ap o hm;simp only[Option.isNone_iff_eq_none]at this
     simp[Region.wanted,this]⟩) a2 w2 (wP.sC (fun e a3 w3 hh=>by cases e<;>exact M6 g1 hh) _ _ _ tL)
    rw[Y5]at QU;rw[show ops.size-(ops.size-tN ops)=tN ops by omega];show wpOps P ops _ _ a2 w2;have e3:(List.range (tN ops)).map (fun i=>ops.size-tN ops+i)=List.range' (ops.size-tN ops) (tN ops):=by rw[List.range'_eq_map_range]
    rw[<-e3];exact QU
   |_=>exact⟨M2,bK,aK,g1,g2,g3,g4,g5,g6⟩
theorem Gj{Q:Exit->ag->Store->Prop}(h:Q .normal rg σ):SW P N .skip Q rg σ:=by intro c hc M w0 a w hI hR hN hD;obtain rfl:=fC hc;exact wp_skip ⟨M,rg,σ,Mem.le.refl _,hI,hR,hN,hD,h⟩
theorem Gi{Q:Exit->ag->Store->Prop}(h:Q .ret rg σ):SW P N .ret Q rg σ:=by intro c hc M w0 a w hI hR hN hD;obtain rfl:=fC hc;exact wp_ret ⟨M,rg,σ,Mem.le.refl _,hI,hR,hN,hD,h⟩
theorem Gf{id:Nat}{Q:Exit->ag->Store->Prop}(h:Q (.exit id) rg σ):SW P N (.exit id) Q rg σ:=by intro c hc M w0 a w hI hR hN hD;obtain rfl:=fC hc;exact wp_exit ⟨M,rg,σ,Mem.le.refl _,hI,hR,hN,hD,h⟩
theorem Ci{x:Operand}{s t:SC}{Q:Exit->ag->Store->Prop}{b:Bool}(hx:ev rg x= .v (.bool b))(h1:b=true->SW P N s Q rg σ)(h2:b=false->SW P N t Q rg σ):SW P N (.cond x s t) Q rg σ:=by intro c hc M w0 a w hI hR hN hD;obtain⟨ca,cb,rfl,g1,g2⟩:=fC hc;have he:=hR.ev x;rw[hx]at he;exact wp_cond_split he.aC (fun hb=>pS (h1 hb _ g1 M w0 a w hI hR hN hD)) (fun hb=>pS (h2 hb _ g2 M w0 a w hI hR hN hD))
theorem zj{id:Nat}{s:SC}{Q:Exit->ag->Store->Prop}(h:SW P N s (oy id Q) rg σ):SW P N (.block id s) Q rg σ:=by
 intro c hc M w0 a w hI hR hN hD;obtain⟨cb,rfl,h1⟩:=fC hc;refine wp_block (wp_mono (pS (h _ h1 M w0 a w hI hR hN hD)) ?_);rintro e a2 w2 ⟨M2,bK,aK,g1,g2,g3,g4,g5,g6⟩;cases e with
 |exit ql=>
  simp only[oy]at g6;simp only[Exit.inBlock];split
  .rename_i e;rw[Z3 e]at g6;exact⟨M2,bK,aK,g1,g2,g3,g4,g5,g6⟩
  .rename_i e;rw[Z9 e]at g6;exact⟨M2,bK,aK,g1,g2,g3,g4,g5,g6⟩
 |_=>exact⟨M2,bK,aK,g1,g2,g3,g4,g5,g6⟩
theorem Gg{s:SC}{Q:Exit->ag->Store->Prop}(I:Nat->ag->Store->Prop)(n:Nat)(h0:I n rg σ)(h:∀n rg σ,I n rg σ->SW P N s (qC (fun al af=>∃n',n'<n/\I n' al af) Q) rg σ):SW P N (.loop s) Q rg σ:=by
 intro c hc M w0 a w hI hR hN hD;obtain⟨cb,rfl,lW⟩:=fC hc
 have key:∀(m:Nat) (a:Act) (w:World),(∃M2 bK aK,M.le M2/\Inv P M2 w0 aK w/\bS M2 bK a/\a.tmps.size=N/\a.defers=Glob.df P/\I m bK aK)->
   ∀(b:Frame) (k:List Item) (cs:List Frame),∃e a' w',jr P M w0 N Q e a' w'/\Arrives P (lone (b.at a (.code cb:: .inLoop cb::k)) cs w) b k cs e a' w':=by
  intro m
  induction m using Nat.strongRecOn with
  |_ m ih=>
   rintro a w ⟨M2,bK,aK,g1,g2,g3,g4,g5,g6⟩ b k cs;obtain⟨e,a',w',hq,gP⟩:=pS (h m bK aK g6 cb lW M2 w0 a w g2 g3 g4 g5) b (.inLoop cb::k) cs;obtain⟨M3,eZ,IF,k1,k2,k3,k4,k5,k6⟩:=hq;cases e with
   |normal=>obtain⟨m',az,hIm⟩:=k6;obtain⟨e2,a2,w2,ic,Ae⟩:=ih m' az a' w' ⟨M3,eZ,IF,g1.trans k1,k2,k3,k4,k5,hIm⟩ b k cs;exact⟨e2,a2,w2,ic,.of_steps (Steps.trans gP (.one step_inLoop)) Ae⟩
   |exit id=>exact⟨_,a',w',⟨M3,eZ,IF,g1.trans k1,k2,k3,k4,k5,k6⟩,.pass (x:=.inLoop cb) rfl (fun _ _=>.inl (by simp)) gP⟩|goto l=>exact⟨_,a',w',⟨M3,eZ,IF,g1.trans k1,k2,k3,k4,k5,k6⟩,.pass (x:=.inLoop cb) rfl (fun _ _=>.inl (by simp)) gP⟩|ret=>exact⟨_,a',w',⟨M3,eZ,IF,g1.trans k1,k2,k3,k4,k5,k6⟩,.pass (x:=.inLoop cb) rfl (fun _ _=>.inl (by simp)) gP⟩|panic ch=>exact⟨_,a',w',⟨M3,eZ,IF,g1.trans k1,k2,k3,k4,k5,k6⟩,.pass (x:=.inLoop cb) rfl (fun _ _=>.inl (by simp)) gP⟩|outgrown=>exact⟨_,a',w',⟨M3,eZ,IF,g1.trans k1,k2,k3,k4,k5,k6⟩,.pass (x:=.inLoop cb) rfl (fun _ _=>.inl (by simp)) gP⟩
 intro b k cs;obtain⟨e,a',w',hq,gP⟩:=key n a w ⟨M,rg,σ,Mem.le.refl _,hI,hR,hN,hD,h0⟩ b k cs;exact⟨e,a',w',hq,.of_steps (.one step_loop) gP⟩
theorem Md{l:Nat}{Q:Exit->ag->Store->Prop}(h:Q .normal rg σ):SW P N (.label l) Q rg σ:=by intro c hc M w0 a w hI hR hN hD;obtain rfl:=fC hc;exact wp_label ⟨M,rg,σ,Mem.le.refl _,hI,hR,hN,hD,h⟩
theorem Mc{l:Nat}{Q:Exit->ag->Store->Prop}(h:Q (.goto l) rg σ):SW P N (.goto l) Q rg σ:=by intro c hc M w0 a w hI hR hN hD;obtain rfl:=fC hc;exact wp_goto ⟨M,rg,σ,Mem.le.refl _,hI,hR,hN,hD,h⟩
def JS(J:Nat->ag->Store->Prop)(Q:Exit->ag->Store->Prop):Exit->ag->Store->Prop
 |.goto l,rg,σ=>J l rg σ|e,rg,σ=>Q e rg σ
theorem Mg{s:SC}{Q:Exit->ag->Store->Prop}(J:Nat->Nat->ag->Store->Prop)(h0:SW P N s (JS (fun l rg σ=>∃n,J l n rg σ) Q) rg σ)
  (h:∀l n rg σ,J l n rg σ->∃r,nC s l=some r/\SW P N r (JS (fun l' al af=>∃n',n'<n/\J l' n' al af) Q) rg σ):SW P N (.scope s) Q rg σ:=by
 intro c hc M w0 a w hI hR hN hD;obtain⟨cb,rfl,lW⟩:=fC hc
 have key:∀(m l:Nat) (a:Act) (w:World),(∃M2 bK aK,M.le M2/\Inv P M2 w0 aK w/\bS M2 bK a/\a.tmps.size=N/\a.defers=Glob.df P/\J l m bK aK)->
   ∃rest,findLabel cb l=some rest/\∀(b:Frame) (k:List Item) (cs:List Frame),∃e a' w',jr P M w0 N Q e a' w'/\Arrives P (lone (b.at a (.code rest:: .inScope cb::k)) cs w) b k cs e a' w':=by
  intro m
  induction m using Nat.strongRecOn with
  |_ m ih=>
   rintro l a w ⟨M2,bK,aK,g1,g2,g3,g4,g5,g6⟩;obtain⟨r,hr,hsw⟩:=h l m bK aK g6;have hf:=HG (P:=P) (N:=N) (l:=l) cb s lW;rw[hr]at hf;obtain⟨rest,j7,vB⟩:=hf;refine⟨rest,j7,fun b k cs=>?_⟩;obtain⟨e,a',w',hq,gP⟩:=pS (hsw rest vB M2 w0 a w g2 g3 g4 g5) b (.inScope cb::k) cs;obtain⟨M3,eZ,IF,k1,k2,k3,k4,k5,k6⟩:=hq;cases e with
   |normal=>exact⟨.normal,a',w',⟨M3,eZ,IF,g1.trans k1,k2,k3,k4,k5,k6⟩,Steps.trans gP (.one step_inScope)⟩|exit id=>exact⟨.exit id,a',w',⟨M3,eZ,IF,g1.trans k1,k2,k3,k4,k5,k6⟩,fun k' hk=>gP k' (by assumption)⟩|goto l'=>
    obtain⟨m',az,hJ⟩:=k6;obtain⟨KF,DT,gJ⟩:=ih m' az l' a' w' ⟨M3,eZ,IF,g1.trans k1,k2,k3,k4,k5,hJ⟩;obtain⟨e2,a2,w2,ic,Ae⟩:=gJ b k cs;have hg:gotoIn l' (.inScope cb::k)=some (.code KF:: .inScope cb::k):=by simp[gotoIn,DT]
    exact⟨e2,a2,w2,ic,.of_steps (gP _ hg) Ae⟩
   |ret=>exact⟨_,a',w',⟨M3,eZ,IF,g1.trans k1,k2,k3,k4,k5,k6⟩,gP⟩|panic ch=>exact⟨_,a',w',⟨M3,eZ,IF,g1.trans k1,k2,k3,k4,k5,k6⟩,gP⟩|outgrown=>exact⟨_,a',w',⟨M3,eZ,IF,g1.trans k1,k2,k3,k4,k5,k6⟩,gP⟩
 intro b k cs;obtain⟨e,a',w',hq,gP⟩:=pS (h0 cb lW M w0 a w hI hR hN hD) b (.inScope cb::k) cs;obtain⟨M3,eZ,IF,k1,k2,k3,k4,k5,k6⟩:=hq;cases e with
 |normal=>exact⟨.normal,a',w',⟨M3,eZ,IF,k1,k2,k3,k4,k5,k6⟩,.head step_scope (Steps.trans gP (.one step_inScope))⟩|exit id=>exact⟨.exit id,a',w',⟨M3,eZ,IF,k1,k2,k3,k4,k5,k6⟩,fun k' hk=>.head step_scope (gP k' (by assumption))⟩|goto l'=>
  obtain⟨m,hJ⟩:=k6;obtain⟨KF,DT,gJ⟩:=key m l' a' w' ⟨M3,eZ,IF,k1,k2,k3,k4,k5,hJ⟩;obtain⟨e2,a2,w2,ic,Ae⟩:=gJ b k cs;have hg:gotoIn l' (.inScope cb::k)=some (.code KF:: .inScope cb::k):=by simp[gotoIn,DT]
  exact⟨e2,a2,w2,ic,.of_steps (.head step_scope (gP _ hg)) Ae⟩
 |ret=>exact⟨_,a',w',⟨M3,eZ,IF,k1,k2,k3,k4,k5,k6⟩,.of_steps (.one step_scope) gP⟩|panic ch=>exact⟨_,a',w',⟨M3,eZ,IF,k1,k2,k3,k4,k5,k6⟩,.of_steps (.one step_scope) gP⟩|outgrown=>exact⟨_,a',w',⟨M3,eZ,IF,k1,k2,k3,k4,k5,k6⟩,.of_steps (.one step_scope) gP⟩
end
inductive RC where
 |tmp (t:Nat)
 |cell (t:Nat) (agg:Bool) (n:Nat)
structure FC where
 N:Nat
 code:SC
 res:List RC
def CN(P:Program)[Glob P]:ResultVar->Option RC
 |.tmp t=>some (.tmp t)|.cell t ty=>(iH P ty).map fun(g,n)=>.cell t g n
def yH(tmps:Array Value):ResultVar->Sem Value
 |.tmp t=>pure (tmps.getD t undef)|.cell b t=>do loadVar t (<-asAddr (tmps.getD b undef))
theorem EU(fn:Func)(tmps:Array Value):results fn tmps=(do let vs <-fn.results.mapM (yH tmps);pure (if h:vs.size=1 then vs[0]else .tuple vs)):=by rfl
def qZ(P:Program)[Glob P]:List ResultVar->Option (List RC)
 |[]=>some []|.tmp t::l=>(qZ P l).map (.tmp t::·)|.cell t ty::l=>match iH P ty with
  |some (g,n)=>(qZ P l).map (.cell t g n::·)|none=>none
def j0(P:Program)[Glob P](fn:Func):Option FC:=
 match fn.body with
 |some c=>match cW P fn.ntmps c,qZ P fn.results.toList with
  |some s,some r=>some ⟨fn.ntmps,s,r⟩|_,_=>none
 |none=>none
def nZ(rg:ag)(σ:Store):RC->Option AV
 |.tmp t=>some (lk rg t)|.cell t g n=>match lk rg t with
  |.lp tg b o=>match aV σ tg with
   |some (b',.cells l)=>if b=b' then(if g then(if o+n<=l.length then some (.agg ((l.drop o).take n))else none)else l[o]?)else none|_=>none
  |_=>none
def nj(rg:ag)(σ:Store):List RC->Option (List AV)
 |[]=>some []|r::l=>match nZ rg σ r with
  |some x=>(nj rg σ l).map (x::·)|none=>none
def cZ(rg:ag)(σ:Store)(l:List RC):Option AV:=
 match nj rg σ l with
 |some [x]=>some x|some xs=>some (.aG xs)|none=>none
def Sub(σ af:Store):Prop:=(σ.map (·.2)).Sublist (af.map (·.2))
theorem Sub.refl(σ:Store):Sub σ σ:=List.Sublist.refl _
theorem Sub.trans{a b c:Store}(h:Sub a b)(k:Sub b c):Sub a c:=List.Sublist.trans h k
theorem Sub.cons{σ af:Store}{t b:Nat}{x:aE}(h:Sub σ af):Sub σ ((t,b,x)::af):=List.Sublist.cons _ h
theorem Sub.same{σ af:Store}{t t' b:Nat}{x:aE}(h:Sub σ af):Sub ((t,b,x)::σ) ((t',b,x)::af):=List.Sublist.cons_cons _ h
theorem Inv.sub{P:Program}[Glob P]{M:Mem}{w0:Base}{w:World}{σ af:Store}(hI:Inv P M w0 af w)(h:Sub σ af):Inv P M w0 σ w:=by
 refine⟨hI.os,hI.tape,hI.output,hI.size,hI.old,hI.bZ,fun e he=>?_,?_,hI.gl,hI.gw,hI.bm⟩
 .have hm:e.2∈af.map (·.2):=h.subset (Ye he);obtain⟨e',j5,h2⟩:=Ze.1 hm;have:=hI.st e' j5;grind
 .have h2:=h.map (·.1);simp at h2;exact hI.nd.sublist h2
def Wk(x y:AV):Prop:=∀M v,R M x v->R M y v
theorem Wk.refl(x:AV):Wk x x:=fun _ _ h=>h
theorem Wk.own{ez t b u c:Nat}{rows:List (List AV)}(nn:Bool):Wk (.own ez t b u c rows) (.sl nn ez rows):=fun _ _ h=>h.Si nn
theorem Wk.sl{ez:Nat}{rows:List (List AV)}:Wk (.sl true ez rows) (.sl false ez rows):=fun _ _ h=>h.ak0
theorem Wk.nil{ez:Nat}:Wk (.v (.slice none 0 0)) (.sl false ez []):=fun _ _ h=>by rw[h.aC];exact .nil _ ez none (fun h=>nomatch h)
theorem Wk.lp{t t' b o:Nat}:Wk (.lp t b o) (.lp t' b o):=fun _ _ h=>by rw[h.pb];exact .lp _ _ _
theorem Wk.raw{t' b o:Nat}:Wk (.v (.pointer (some ⟨b,o,none⟩))) (.lp t' b o):=fun _ _ h=>by rw[h.aC];exact .lp _ _ _
theorem Wk.any(x:AV):Wk x .any:=fun _ v _=>.any v
theorem Wk.ED{x y:AV}(h:x=y):Wk x y:=h ▸ Wk.refl x
inductive cj:List AV->List AV->Prop
 |nil:cj [] []
 |cons {x y:AV} {xs ys:List AV} (h:Wk x y) (t:cj xs ys):cj (x::xs) (y::ys)
theorem cj.refl:∀(l:List AV),cj l l
 |[]=>.nil|x::l=>.cons (Wk.refl x) (cj.refl l)
theorem cj.sound{M:Mem}{xs ys:List AV}(h:cj xs ys):∀{vs:List Value},RL M xs vs->RL M ys vs:=by
 induction h with
 |nil=>grind|cons hx _ ih=>intro vs h;obtain⟨v,vs',rfl,h1,h2⟩:=h.aZ;exact RL.cons (hx _ _ h1) (ih h2)
theorem cj.append{a b c d:List AV}(h:cj a b)(k:cj c d):cj (a++c) (b++d):=by
 induction h with
 |nil=>exact k|cons hx _ ih=>exact .cons hx ih
theorem Wk.agg{xs ys:List AV}(h:cj xs ys):Wk (.agg xs) (.agg ys):=fun _ _ k=>by obtain⟨cs,rfl,hl⟩:=k.qq;exact R.rM (h.sound hl)
theorem Wk.aG{xs ys:List AV}(h:cj xs ys):Wk (.aG xs) (.aG ys):=fun _ _ k=>by obtain⟨cs,rfl,hl⟩:=k.R4;exact R.ue (h.sound hl)
theorem Wk.trans{x y z:AV}(h:Wk x y)(k:Wk y z):Wk x z:=fun M v hx=>k M v (h M v hx)
theorem Spec.wk{P:Program}[Glob P]{f:FuncId}{as bs:List AV}{σ:Store}{Q:ik->Store->Prop}(h:Spec P f bs σ Q)(hw:cj as bs):Spec P f as σ Q:=
 fun M w0 w cs hI hl=>h M w0 w cs hI (hw.sound hl)
theorem Pure.wk{P:Program}[Glob P]{f:FuncId}{as bs:List AV}{r:AV}(h:Pure P f bs r)(hw:cj as bs):Pure P f as r:=⟨fun σ=>(h.sp σ).wk hw⟩
theorem Spec.mono{P:Program}[Glob P]{f:FuncId}{as:List AV}{σ:Store}{Q Q':ik->Store->Prop}(h:Spec P f as σ Q)(hq:∀r af,Q r af->Q' r af):Spec P f as σ Q':=
 fun M w0 w cs hI hl=>(h M w0 w cs hI hl).mono fun _ _ ⟨M',r,af,a,b,c,d⟩=>⟨M',r,af,a,b,c,hq _ _ d⟩
def fJ:Nat->List AV->ag
 |_,[]=>[]
 |k,x::l=>(k,x)::fJ (k+1) l
def lZ(res:List RC)(Q:ik->Store->Prop):Exit->ag->Store->Prop
 |.normal,rg,σ|.ret,rg,σ=>∃x,cZ rg σ res=some x/\Q (.ret x) σ|.panic ch,_,σ=>Q (.ke ch) σ|_,_,_=>False
section
variable {P:Program}[Glob P]{M:Mem}{w0:Base}{w:World}{σ:Store}{rg:ag}{a:Act}
theorem GC:∀(as:List AV) (vs:List Value) (k:Nat) (tmps:Array Value),RL M as vs->(∀i v,vs[i]? =some v->tmps[k+i]? =some v)->∀i,R M (lk (fJ k as) i) (tmps.getD i undef)
 |[],vs,k,tmps,_,_,i=>.any _|x::as,vs,k,tmps,h,ht,i=>by
  obtain⟨v,vs',rfl,hx,di⟩:=h.aZ;simp only[fJ,lk];cases hb:Nat.beq k i with
  |true=>have:=ht 0 v rfl;simp_all|false=>exact GC as vs' (k+1) tmps di (fun j u hu=>by have:=ht (j+1) u (by grind);grind) i
theorem ajc{r:RC}{rv:ResultVar}{x:AV}(hc:CN P rv=some r)(hx:nZ rg σ r=some x)(hI:Inv P M w0 σ w)(hR:bS M rg a):
  ∃v,(yH a.tmps rv).run P w= .ok v w/\R M x v:=by
 cases rv with
 |tmp t=>simp only[CN,ZV]at hc;subst hc;simp only[nZ,ZV]at hx;subst hx;exact⟨_,rfl,hR t⟩|cell t ty=>
  obtain⟨⟨g,n⟩,hg,rfl⟩:=Z8.1 hc;simp only[nZ]at hx;have ht:=hR t;split at hx
  .rename_i tg b o he;rw[he]at ht;have hv:=ht.pb;split at hx
   .rename_i b' l hb;split at hx
    case isFalse=>cases hx
    rename_i Ag;subst Ag;have AN:∀i y,(l.drop o)[i]? =some y->∃v,w.cell? ⟨b,o+i,none⟩=some v/\R M y v:=fun i y e=>by rw[YE]at e;exact hI.cell hb e
    obtain⟨v,y,hr,gh,rfl⟩:=E5 (P:=P) (σ:=σ) (K:=fun y _=>y=x) hg (l.drop o) AN (by
     grind)
    refine⟨v,?_,gh⟩;simp only[yH,hv];simpa[Instr.loadAt,Instr.sureAddr,asAddr]using hr
   grind
  grind
theorem KG:∀(BA:List ResultVar) (rs:List RC) (xs:List AV),qZ P BA=some rs->nj rg σ rs=some xs->Inv P M w0 σ w->bS M rg a->
  ∃vs,(BA.mapM (yH a.tmps):Sem (List Value)).run P w= .ok vs w/\RL M xs vs
 |[],rs,xs,hc,hx,_,_=>by simp only[qZ,ZV]at hc;subst hc;simp only[nj,ZV]at hx;subst hx;exact⟨[],rfl,RL.nil⟩|rv::BA,rs,xs,hc,hx,hI,hR=>by
  obtain⟨r,uq,rfl,hr,hrs⟩:∃r uq,rs=r::uq/\CN P rv=some r/\qZ P BA=some uq:=by
   cases rv with
   |tmp t=>obtain⟨uq,h1,rfl⟩:=Z8.1 hc;exact⟨_,uq,rfl,rfl,h1⟩
   |cell t ty=>
    simp only[qZ]at hc;split at hc
    .rename_i g n hg;obtain⟨uq,h1,rfl⟩:=Z8.1 hc;exact⟨_,uq,rfl,by simp[CN,hg],h1⟩
    grind
  simp only[nj]at hx;split at hx
  .rename_i x kU;obtain⟨xs',h2,rfl⟩:=Z8.1 hx;obtain⟨v,hv,gh⟩:=ajc hr kU hI hR;obtain⟨vs,vY,hRL⟩:=KG BA uq xs' hrs h2 hI hR;refine⟨v::vs,?_,RL.cons gh hRL⟩;simp_all
  grind
theorem Spec.intro[ij P]{f:FuncId}{fn:Func}{fc:FC}{as:List AV}{Q:ik->Store->Prop}(hf:P.funcs[f]? =some fn)(hc:j0 P fn=some fc)(hlen:as.length<=fc.N)(h:SW P fc.N fc.code (lZ fc.res Q) (fJ 0 as) σ):Spec P f as σ Q:=by
 intro M w0 w cs hI hl;unfold j0 at hc;split at hc
 .rename_i c hb;split at hc
  .rename_i s r hs hr;cases hc;have hle:cs.length<=fn.ntmps:=by rw[← hl.1];grind
   refine calls_of_wp hf hb (wp_mono (pS (h c hs M w0 _ w hI ?_ ?_ ij.h.symm)) ?_)
   .refine GC as cs 0 _ hl (fun i v hv=>?_);grind
   .grind
   .rintro e a' w' ⟨M',al,af,hM,bg,lQ,hN,hD,hq⟩;rw[ij.h]at hD;have fin:∀x,cZ al af r=some x->Q (.ret x) af->a'.defers=[]/\∃v,(results fn a'.tmps).run P w'= .ok v w'/\∃M' r UX,M.le M'/\Inv P M' w0 UX w'/\jV M' r (.returned v)/\Q r UX:=by
     intro x hx hQ;unfold cZ at hx;have cY:∀xs,nj al af r=some xs->∃vs,(fn.results.mapM (yH a'.tmps):Sem (Array Value)).run P w'= .ok vs.toArray w'/\RL M' xs vs:=by intro xs di;obtain⟨vs,h1,h2⟩:=KG fn.results.toList r xs hr di bg lQ;exact⟨vs,by rw[Array.mapM_eq_mapM_toList,Sem.run_map,h1];rfl,h2⟩
     split at hx
     .rename_i y hy;cases hx;obtain⟨vs,h1,h2⟩:=cY _ hy;obtain⟨v,vs',rfl,h3,h4⟩:=h2.aZ;obtain rfl:=h4.qD;refine⟨hD,v,?_,M',.ret x,af,hM,bg,h3,hQ⟩;rw[EU,Sem.run_bind,h1];simp
     .rename_i xs aW hy;cases hx;obtain⟨vs,h1,h2⟩:=cY _ hy;refine⟨hD,.tuple vs.toArray,?_,M',.ret (.aG xs),af,hM,bg,R.ue h2,hQ⟩;rw[EU,Sem.run_bind,h1];simp only[Result.andThen_ok,Sem.run_pure];rw[dif_neg];intro bl;have oQ:xs.length=1:=by rw[h2.1];simpa using bl
      obtain⟨y,rfl⟩:=List.length_eq_one_iff.1 oQ;grind
     grind
    cases e with
    |normal=>obtain⟨x,hx,hQ⟩:=hq;exact fin x hx hQ
    |ret=>obtain⟨x,hx,hQ⟩:=hq;exact fin x hx hQ
    |panic ch=>exact⟨hD,M',.ke ch,af,hM,bg,rfl,hq⟩|_=>exact hq.elim
  grind
 grind
def ni(res:List RC)(r:AV)(σ:Store):Exit->ag->Store->Prop
 |.normal,rg,af|.ret,rg,af=>∃x,cZ rg af res=some x/\Wk x r/\Sub σ af|_,_,_=>False
theorem Spec.weak{f:FuncId}{as:List AV}{Q Q':ik->Store->Prop}(h:Spec P f as σ Q)(hq:∀r af,Q r af->∃r2 aK,Q' r2 aK/\Sub aK af/\(match r,r2 with|.ret x,.ret y=>Wk x y|.ke c,.ke c'=>c=c'|_,_=>False)):Spec P f as σ Q':=by
 intro M w0 w cs hI hl;refine(h M w0 w cs hI hl).mono fun e w' ⟨M',r,af,a,b,c,d⟩=>?_;obtain⟨r2,aK,h1,h2,h3⟩:=hq r af d;refine⟨M',r2,aK,a,b.sub h2,?_,h1⟩;cases r with
 |ret x=>
  cases r2 with
  |ret y=>cases e<;>first|exact h3 _ _ c|exact c
  |ke c'=>grind
 |ke ch=>grind
theorem Pure.intro[ij P]{f:FuncId}{fn:Func}{fc:FC}{as:List AV}{r:AV}(hf:P.funcs[f]? =some fn)(hc:j0 P fn=some fc)(hlen:as.length<=fc.N)(h:∀σ,SW P fc.N fc.code (ni fc.res r σ) (fJ 0 as) σ):Pure P f as r:=by
 refine⟨fun σ=>?_⟩;have:=Spec.intro (Q:=fun r' af=>∃x,r'= .ret x/\Wk x r/\Sub σ af) hf hc hlen ((h σ).mono (fun e rg af hq=>by
  cases e with
  |normal=>obtain⟨x,h1,h2,h3⟩:=hq;exact⟨x,h1,x,rfl,h2,h3⟩
  |ret=>obtain⟨x,h1,h2,h3⟩:=hq;exact⟨x,h1,x,rfl,h2,h3⟩
  |_=>exact hq.elim))
 refine this.weak ?_;grind
