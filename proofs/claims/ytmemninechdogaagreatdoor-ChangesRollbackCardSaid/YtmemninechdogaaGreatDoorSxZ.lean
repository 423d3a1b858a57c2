import Derived.Test.YtmemninechdogaaGreatDoorSxE
set_option linter.all false
namespace Go.Sx
def xf(P:Program)[Glob P](xr:XR)(g:Option (Nat×Bool)):aB->Option (Option Bool×FuncId×List AV×List Prop)
 |.call f args=>match wa xr g args with
  |some (og,xs,ps)=>some (og,f,xs,ps)|none=>none
 |.fZ fo args=>match wa xr g (fo::args)with
  |some (og,.v (.func (.func f) a c)::xs,ps)=>if im P f=true then some (og,f,a.toList.map .v++xs++c.toList.map .v,ps)else none|some (og,.cl f a c::xs,ps)=>if im P f=true then some (og,f,a++xs++c,ps)else none|_=>none
 |_=>none
section
variable {P:Program}[Glob P]{cfg:Nat->Nat}{K:ag->Store->Prop}{E:List PanicEntry->Store->Prop}{j:Store}{l:List CI}{d:Nat}{xr:XR}{ps:List Prop}{g:Option (Nat×Bool)}{og:Option Bool}{op:aB}{f:FuncId}{xs:List AV}{r:AV}
theorem Vy(h:xf P xr g op=some (og,f,xs,ps))(hp:og.getD true=true->Pure P f xs r)(aw:OB ps)(k:VX P cfg l K E (bQ og d r xr) j):VX P cfg (⟨some d,op,g⟩::l) K E xr j:=by
 unfold xf at h;split at h
 .split at h
  .rename_i e;obtain⟨rfl,rfl,rfl,rfl⟩:=h;exact VC e hp aw k
  grind
 .split at h
  .rename_i e;split at h
   .rename_i bL;obtain⟨rfl,rfl,rfl,rfl⟩:=h;exact w8 e rfl bL hp aw k
   grind
  .rename_i e;split at h
   .rename_i bL;obtain⟨rfl,rfl,rfl,rfl⟩:=h;exact Ml e bL hp aw k
   grind
  grind
 grind
end
section
variable {P:Program}[Glob P]{cfg:Nat->Nat}{K:ag->Store->Prop}{j:Store}{d:Nat}{xr:XR}{ps:List Prop}{g:Option (Nat×Bool)}{og:Option Bool}{op:aB}{f:FuncId}{xs:List AV}{r:AV}{aq cf:List Nat}{ix:Nat}{ld:List CD}
theorem V4(h:xf P xr g op=some (og,f,xs,ps))(hp:og.getD true=true->Pure P f xs r)(aw:OB ps)(k:VY P cfg aq ld K (bQ og d r xr) j):VY P cfg aq (⟨ix,⟨some d,op,g⟩,cf⟩::ld) K xr j:=by
 unfold xf at h;split at h
 .split at h
  .rename_i e;obtain⟨rfl,rfl,rfl,rfl⟩:=h;exact V8 e hp aw k
  grind
 .split at h
  .rename_i e;split at h
   .rename_i bL;obtain⟨rfl,rfl,rfl,rfl⟩:=h;exact V9 e rfl bL hp aw k
   grind
  .rename_i e;split at h
   .rename_i bL;obtain⟨rfl,rfl,rfl,rfl⟩:=h;exact Co e bL hp aw k
   grind
  grind
 grind
end
theorem BL:(∀(p:Prop) [Decidable p],(decide p=true)=p)/\(∀(p:Prop) [Decidable p],(decide p=false)=¬p)/\((!true)=false)/\((!false)=true)/\(∀b:Bool,((!b)=true)=(b=false))/\(∀b:Bool,((!b)=false)=(b=true))
  /\(∀a b:Bool,((a&&b)=true)=(a=true/\b=true))/\(∀a b:Bool,((a||b)=true)=(a=true\/b=true))/\(∀a b:Bool,((a&&b)=false)=(a=false\/b=false))/\(∀a b:Bool,((a||b)=false)=(a=false/\b=false))
  /\(∀b:Bool,(true&&b)=b)/\(∀b:Bool,(b&&true)=b)/\(∀b:Bool,(false||b)=b)/\(∀b:Bool,(b||false)=b)/\(∀p:Prop,(True->p)=p)/\(∀n:Nat,(n:Int).toNat=n)/\(0:Int).toNat=0/\(1:Int).toNat=1
  /\(∀b:Bool,(b ^^ true)= !b)/\(∀b:Bool,(b ^^ false)=b)
  /\(∀{X:Type} (a b:X),(a≠b)=¬(a=b))/\(∀{X:Type} (a:X),(a=a)=True)/\(∀{X:Type} (a b:X),(some a).getD b=a)/\(∀{X:Type} (b:X),(none:Option X).getD b=b)/\(∀(X:Type) [Nonempty X] (p:Prop),(X->p)=p):=by
 simp_all
theorem OB.r1{p:Prop}{ps:List Prop}(h:p)(t:OB ps):OB (p::ps):=.cons h t
abbrev q0(d:Nat)(o:aB):CI:=⟨some d,o,none⟩
abbrev q1(d:Nat)(o:aB)(t:Nat)(b:Bool):CI:=⟨some d,o,some (t,b)⟩
abbrev ki(n:Int):Operand:=.const (.int .i64 n)
abbrev ks(s:ByteArray):Operand:=.const (.string s)
abbrev kT:Operand:=.const (.bool true)
abbrev kF:Operand:=.const (.bool false)
theorem kf{x:Bool}{p:Prop}(h:x=false)(k:x=true):p:=by rw[h]at k;cases k
theorem kt{x:Bool}{p:Prop}(h:x=true)(k:x=false):p:=by rw[h]at k;cases k
theorem tF{p:Prop}(h:true=false):p:=nomatch h
section
theorem OB.k0{X:Type}{a:X}{ps:List Prop}(t:OB ps):OB ((a=a)::ps):=OB.rfl t
theorem OB.k1{ps:List Prop}(t:OB ps):OB (True::ps):=OB.tr t
theorem OB.k2{X:Type}{a:X}{c:Bool}{ps:List Prop}(t:OB ps):OB ((c=true->a=a)::ps):=OB.adm t
theorem OB.k3{c:Bool}{ps:List Prop}(t:OB ps):OB ((c=true->True)::ps):=OB.gtr t
theorem OB.k4{a:Prop}{ps:List Prop}(t:OB ps):OB ((a->a)::ps):=OB.self t
theorem OB.k5{a b:Bool}{ps:List Prop}(t:OB ps):OB (((a&&b)=true->a=true)::ps):=OB.and t
end
section
variable {P:Program}[Glob P]{N:Nat}{cfg:Nat->Nat}{Q:Exit->ag->Store->Prop}{rg al:ag}{j af:Store}{l:List CI}{a b:AC}{k k':List Fr}{xr:XR}{aq:List Nat}{ld:List CD}{ks:List Nat}{id:Nat}
theorem FK.k0(h:WK P N cfg Q b k rg j):FK P N cfg Q .normal (.seq b::k) rg j:=U1 h
theorem FK.k1(h:FK P N cfg Q .normal k rg j):FK P N cfg Q .normal (.kB id::k) rg j:=UY h
theorem FK.k2{K:ag->Store->Prop}(h:K rg j):FK P N cfg Q .normal (.fn K::k) rg j:=UZ h
theorem FK.k3(h:Q .normal rg j):FK P N cfg Q .normal [] rg j:=U0 h
theorem WK.k0(h:WK P N cfg Q a k al j)(hk:lL ks rg=some al:=by exact rfl):WK P N cfg Q (.aH ks a) k rg j:=WL hk h
theorem WK.k1(h:WK P N cfg Q a (.seq b::k) rg j):WK P N cfg Q (.seq a b) k rg j:=WQ h
theorem WK.k2(h:VX P cfg l (FK P N cfg Q .normal k) (fun ch af=>FK P N cfg Q (.panic ch) k [] af) xr j)(hx:toXO rg=some xr:=by exact rfl):WK P N cfg Q (.bh l) k rg j:=WN hx h
theorem WK.k3(h:VY P cfg aq ld (Cl (FK P N cfg Q .normal k)) xr j)(hx:toXO rg=some xr:=by exact rfl):WK P N cfg Q (.eR aq ld) k rg j:=WM hx h
theorem WK.k5(h:VY P cfg [] (bare l) (Cl (FK P N cfg Q .normal k)) xr j)(hx:toXO rg=some xr:=by exact rfl):WK P N cfg Q (.de l) k rg j:=WG hx h
theorem WK.k6(h:WK P N cfg Q a (.kB id::k) rg j):WK P N cfg Q (.block id a) k rg j:=WC h
theorem WK.k7(h:Q .ret rg j):WK P N cfg Q .ret k rg j:=WO h
theorem WK.k8(h:FK P N cfg Q .normal k' rg j)(hu:yU k id=some k':=by exact rfl):WK P N cfg Q (.exit id) k rg j:=WJ hu h
theorem WK.k9(h:FK P N cfg Q .normal k rg j):WK P N cfg Q .skip k rg j:=WR h
end
section
variable {P:Program}[Glob P]{N:Nat}{cfg:Nat->Nat}{Q:Exit->ag->Store->Prop}{rg:ag}{j:Store}{k:List Fr}{xr:XR}
theorem WK.k4{l l1 l2:List CI}{s:CI}(h:VY P cfg [] (bare l1) (sP P cfg (FK P N cfg Q .normal k) s l2) xr j)(hl:uV l=some (l1,s,l2):=by exact rfl)(dM:rZ l l1.length=true:=by exact rfl)(mT:s.g=none:=by exact rfl)(hx:toXO rg=some xr:=by exact rfl):WK P N cfg Q (.de l) k rg j:=WI hl dM mT hx h
theorem VX.k0{K:ag->Store->Prop}{E:List PanicEntry->Store->Prop}{l2:List CI}(h:VY P cfg [] (bare l2) (Cl K) xr j):VX P cfg [] (wX P cfg l2 K) E xr j:=VT h
theorem VY.k0{K:ag->Store->Prop}{s:CI}{l2:List CI}(h:VX P cfg [s] (wX P cfg l2 K) (fun _ _=>False) xr j):VY P cfg [] [] (sP P cfg K s l2) xr j:=Wm h
end
section
variable {P:Program}[Glob P]{N:Nat}{cfg:Nat->Nat}{Q:Exit->ag->Store->Prop}{K:ag->Store->Prop}{E:List PanicEntry->Store->Prop}{rg:ag}{j af:Store}{l rest:List CI}{d:Nat}{op:aB}{p:Prop}{v:AV}{xr cP:XR}{ps:List Prop}{c:CI}{aq cf:List Nat}{ix:Nat}{ld Bu:List CD}{cd:CD}{g:Option (Nat×Bool)}{og:Option Bool}{as:List AV}{args:List Operand}
theorem VX.k1(h:K (den xr) j):VX P cfg [] K E xr j:=VS h
theorem VY.k1(h:K (den xr) j):VY P cfg aq [] (Cl K) xr j:=Wn h
theorem VX.l1{t:TypeId}{z:Value}{cs:List AV}(k:∀b,VX P cfg l K E ((d,.s (.lp d b 0))::xr) ((d,b,.cells cs)::j))(h:kE (z.cells.toList.map .v) some=some cs:=by exact rfl):VX P cfg (⟨some d,.alloc t z,none⟩::l) K E xr j:=Vx h k
theorem VX.u3{t:TypeId}{ah bytes:Nat}{z:List Value}{x y:Operand}{w:AV}{rows rows':List (List AV)}(aw:OB ps)(hb:(rows.length+rows'.length)*bytes<=35184372088832)(k0:rows'=[]->VX P cfg l K E ((d,.s (.fl ah rows))::xr) j)(k:rows'≠[]->∀b u c,VX P cfg l K E ((d,.s (.own ah d b u c (rows++rows')))::xr) ((d,b,.tail u c)::j))(h:wa xr none [x,y]=some (og,[.fl ah rows,w],ps):=by exact rfl)(hw:dH ah w=some rows':=by exact rfl):VX P cfg (⟨some d,.append t ah bytes z x y,none⟩::l) K E xr j:=Mk h hw aw hb k0 k
theorem VY.u3{t:TypeId}{ah bytes:Nat}{z:List Value}{x y:Operand}{w:AV}{rows rows':List (List AV)}(aw:OB ps)(hb:(rows.length+rows'.length)*bytes<=35184372088832)(k0:rows'=[]->VY P cfg aq ld K ((d,.s (.fl ah rows))::xr) j)(k:rows'≠[]->∀b u c,VY P cfg aq ld K ((d,.s (.own ah d b u c (rows++rows')))::xr) ((d,b,.tail u c)::j))(h:wa xr none [x,y]=some (og,[.fl ah rows,w],ps):=by exact rfl)(hw:dH ah w=some rows':=by exact rfl)(ha:aq.elem d=true:=by exact rfl):VY P cfg aq (⟨ix,⟨some d,.append t ah bytes z x y,none⟩,cf⟩::ld) K xr j:=Mp h hw ha aw hb k0 k
end
section
variable {P:Program}[Glob P]{N:Nat}{cfg:Nat->Nat}{Q:Exit->ag->Store->Prop}{K:ag->Store->Prop}{E:List PanicEntry->Store->Prop}{rg:ag}{j af:Store}{l:List CI}{d:Nat}{v:AV}{xr cP:XR}{ps:List Prop}{aq cf:List Nat}{ix:Nat}{ld:List CD}{g:Option (Nat×Bool)}{og:Option Bool}{as:List AV}{args:List Operand}{op:Op}{ty:TypeId}{ti:List TI}
theorem VX.l3{t:TypeId}(k:∀b,VX P cfg l K E ((d,.s (.bJ d b))::xr) ((d,b,.map [] 0)::j)):VX P cfg (⟨some d,.exts (.makeMap t none) ty ti [],none⟩::l) K E xr j:=VQ k
end
section
variable {P:Program}[Glob P]{cfg:Nat->Nat}{K:ag->Store->Prop}{E:List PanicEntry->Store->Prop}{j:Store}{l:List CI}{d:Nat}{v:AV}{xr:XR}{ps:List Prop}{g:Option (Nat×Bool)}{og:Option Bool}
theorem uM.k0{I:Nat->ag->Store->Prop}{n:Nat}{ks:List Nat}{rg so:ag}{j:Store}(h:∃n',n'<n/\∃al af,il so al/\Sub af j/\I n' al af)(hk:lL ks rg=some so:=by exact rfl):uM I n ks rg j:=uM.intro hk h
end
section
variable {P:Program}[Glob P]{cfg:Nat->Nat}{K:ag->Store->Prop}{E:List PanicEntry->Store->Prop}{j:Store}{l:List CI}{d:Nat}{xr:XR}{ps:List Prop}{g:Option (Nat×Bool)}{og:Option Bool}{op:aB}{f:FuncId}{xs:List AV}{r:AV}
theorem VX.an(h:xf P xr g op=some (og,f,xs,ps))(hp:og.getD true=true->Pure P f xs r)(aw:OB ps)(k:VX P cfg l K E (bQ og d r xr) j):VX P cfg (⟨some d,op,g⟩::l) K E xr j:=Vy h hp aw k
end
section
variable {P:Program}[Glob P]{cfg:Nat->Nat}{K:ag->Store->Prop}{j:Store}{d:Nat}{xr:XR}{ps:List Prop}{g:Option (Nat×Bool)}{og:Option Bool}{op:aB}{f:FuncId}{xs:List AV}{r:AV}{aq cf:List Nat}{ix:Nat}{ld:List CD}
theorem VY.an(h:xf P xr g op=some (og,f,xs,ps))(hp:og.getD true=true->Pure P f xs r)(aw:OB ps)(k:VY P cfg aq ld K (bQ og d r xr) j):VY P cfg aq (⟨ix,⟨some d,op,g⟩,cf⟩::ld) K xr j:=V4 h hp aw k
end
section
variable (P:Program)[Glob P](N:Nat)(cfg:Nat->Nat)(Q:Exit->ag->Store->Prop)
def aoR:AC->List Fr->ag->Store->Option Prop
 |.aH ks a,k,rg,j=>match lL ks rg with
  |some rg=>some (WK P N cfg Q a k rg j)|none=>none
 |.seq a b,k,rg,j=>some (WK P N cfg Q a (.seq b::k) rg j)|.bh l,k,rg,j=>match toXO rg with
  |some xr=>some (VX P cfg l (FK P N cfg Q .normal k) (fun ch af=>FK P N cfg Q (.panic ch) k [] af) xr j)|none=>none
 |.eR aq ld,k,rg,j=>match toXO rg with
  |some xr=>some (VY P cfg aq ld (Cl (FK P N cfg Q .normal k)) xr j)|none=>none
 |.de l,k,rg,j=>match toXO rg with
  |some xr=>match uV l with
   |some (l1,s,l2)=>match rZ l l1.length,s.g with
    |true,none=>some (VY P cfg [] (bare l1) (sP P cfg (FK P N cfg Q .normal k) s l2) xr j)|_,_=>some (VY P cfg [] (bare l) (Cl (FK P N cfg Q .normal k)) xr j)
   |none=>some (VY P cfg [] (bare l) (Cl (FK P N cfg Q .normal k)) xr j)
  |none=>none
 |.block id a,k,rg,j=>some (WK P N cfg Q a (.kB id::k) rg j)|.ret,_,rg,j=>some (Q .ret rg j)|.exit id,k,rg,j=>match yU k id with
  |some k=>some (FK P N cfg Q .normal k rg j)|none=>none
 |.skip,k,rg,j=>some (FK P N cfg Q .normal k rg j)|_,_,_,_=>none
def aoQ:List Fr->ag->Store->Option Prop
 |.seq b::k,rg,j=>some (WK P N cfg Q b k rg j)|.kB _::k,rg,j=>some (FK P N cfg Q .normal k rg j)|.fn K::_,rg,j=>some (K rg j)|[],rg,j=>some (Q .normal rg j)
end
section
variable {P:Program}[Glob P]{N:Nat}{cfg:Nat->Nat}{Q:Exit->ag->Store->Prop}{rg:ag}{j:Store}{a:AC}{ks:List Fr}{p:Prop}{xr:XR}{K:ag->Store->Prop}{E:List PanicEntry->Store->Prop}{aq:List Nat}
theorem WK.k(h:p)(hx:aoR P N cfg Q a ks rg j=some p:=by exact rfl):WK P N cfg Q a ks rg j:=by
 unfold aoR at hx;split at hx
 .split at hx<;>cases hx;exact WL ‹_› h
 .cases hx;exact WQ h
 .split at hx<;>cases hx;exact WN ‹_› h
 .split at hx<;>cases hx;exact WM ‹_› h
 .split at hx
  .split at hx
   .split at hx<;>cases hx
    .exact WI ‹_› ‹_› ‹_› ‹_› h
    .exact WG ‹_› h
   .cases hx;exact WG ‹_› h
  grind
 .cases hx;exact WC h
 .cases hx;exact WO h
 .split at hx<;>cases hx;exact WJ ‹_› h
 .cases hx;exact WR h
 grind
theorem FK.k(h:p)(hx:aoQ P N cfg Q ks rg j=some p:=by exact rfl):FK P N cfg Q .normal ks rg j:=by
 unfold aoQ at hx;split at hx<;>cases hx
 .exact U1 h
 .exact UY h
 .exact UZ h
 .exact U0 h
inductive NlX(P:Program)[Glob P](cfg:Nat->Nat)(xr:XR)(j:Store):(ag->Store->Prop)->Prop->Prop
 |mid {l2:List CI} {K:ag->Store->Prop}:NlX P cfg xr j (wX P cfg l2 K) (VY P cfg [] (bare l2) (Cl K) xr j)
 |gen {K:ag->Store->Prop}:NlX P cfg xr j K (K (den xr) j)
inductive NlY(P:Program)[Glob P](cfg:Nat->Nat)(xr:XR)(j:Store):List Nat->(ag->Store->Prop)->Prop->Prop
 |mid {l2:List CI} {s:CI} {K:ag->Store->Prop}:NlY P cfg xr j [] (sP P cfg K s l2) (VX P cfg [s] (wX P cfg l2 K) (fun _ _=>False) xr j)
 |gen {aq:List Nat} {K:ag->Store->Prop}:NlY P cfg xr j aq (Cl K) (K (den xr) j)
theorem VX.k(h:p)(hn:NlX P cfg xr j K p:=by first|exact .mid|exact .gen):VX P cfg [] K E xr j:=by
 cases hn with
 |mid=>exact VT h|gen=>exact VS h
theorem VY.k(h:p)(hn:NlY P cfg xr j aq K p:=by first|exact .mid|exact .gen):VY P cfg aq [] K xr j:=by
 cases hn with
 |mid=>exact Wm h|gen=>exact Wn h
theorem uM.k{I:Nat->ag->Store->Prop}{n:Nat}{ks:List Nat}{rg so:ag}{j:Store}(h:∃n',n'<n/\∃al af,il so al/\Sub af j/\I n' al af)(hk:lL ks rg=some so:=by exact rfl):uM I n ks rg j:=uM.intro hk h
theorem apn{a b:Bool}(h:(a&&b)=true):a=true:=by cases a<;>simp_all
theorem OB.k{ps:List Prop}(t:OB ps)(h:p:=by first|exact rfl|exact trivial|exact fun _=>rfl|exact fun _=>trivial|exact id|exact apn):OB (p::ps):=.cons h t
end
theorem Zs{j af:Store}(h:Sub j af:=by repeat' first|exact .refl _|refine .same ?_|refine .cons ?_):Sub j af:=h
theorem Zr{a b:ag}(h:il a b:=by repeat' first|exact .row|exact .refl _|exact .nil|refine .cons ?_ ?_|refine .aG ?_|refine .agg ?_|exact .sl|exact .own _|exact .tag):il a b:=h
theorem Zw{eM j:Store}{r x:AV}(h:Sub eM j:=by repeat' first|exact .refl _|refine .same ?_|refine .cons ?_)(w:Wk x r:=by repeat' first|exact .refl _|exact .nil|refine .cons ?_ ?_|refine .aG ?_|refine .agg ?_|exact .sl|exact .own _):Fin eM r x j:=⟨w,h⟩
theorem Zo{p q:Prop}(h:p->q:=by intro ar;first|(simp_all;done)|(simp only[BL]at*;first|(simp_all;done)|omega)):p->q:=h
end Go.Sx
namespace Go.Sx
open Go.RowKit
theorem Inv.after{P:Program}[Glob P]{M:Mem}{w0:Base}{w w':World}{j:Store}(hI:Inv P M w0 j w)(hb:Below w.heap.size w w'):Inv P M w0 j w' where
 os:=hb.os.trans hI.os
 tape:=hb.tape.trans hI.tape
 output:=hb.output.trans hI.output
 size:=ZD hI.size hb.size
 old:=fun k hk=>(hb.block k (Yz hk hI.size)).trans (hI.old k hk)
 bZ:=fun b o v h=>by have h1:=hI.bZ b o v h;rw[hb.cell (World.block_lt_of_cell? _ _ h1)];grind
 st:=fun e he=>by
  obtain⟨h1,h2⟩:=hI.st e he;refine⟨h1,?_⟩;have az:∀{b:Nat} {cs t f},w.heap[b]? =some (.cells cs t f)->w'.heap[b]? =some (.cells cs t f):=fun {b cs t f} h=>by rw[hb.block b (ZW.1 h).1];grind
  cases hx:e.2.2 with
  |cells l=>rw[hx]at h2;obtain⟨a1,cs,t,a2,a3⟩:=h2;exact⟨a1,cs,t,az a2,a3⟩
  |tail u c=>rw[hx]at h2;obtain⟨a1,cs,t,a2,a3⟩:=h2;exact⟨a1,cs,t,az a2,a3⟩
  |map es k=>rw[hx]at h2;obtain⟨a1,l,a2,a3⟩:=h2;refine⟨a1,l,?_,a3⟩;rw[hb.block e.2.1 (ZW.1 a2).1];grind
 nd:=hI.nd
 gl:=hI.gl
 gw:=hI.gw
 bm:=hI.bm
theorem Pure.wI{P:Program}[Glob P]{f:FuncId}{as:List AV}{r:AV}
  (h:∀(M:Mem) (w0:Base) (w:World) (j:Store) (cs:List Value),Inv P M w0 j w->RL M as cs->Calls P f cs.toArray w fun e w'=>(∃v,e= .returned v/\R M r v)/\Below w.heap.size w w'):Pure P f as r:=
 ⟨fun j M w0 w cs hI hR=>(h M w0 w j cs hI hR).mono fun e w' ⟨⟨v,he,hv⟩,hb⟩=>⟨M,.ret r,j,Mem.le.refl _,hI.after hb,by subst he;exact hv,rfl,rfl⟩⟩
end Go.Sx
namespace Go.Sx
def Qe(n:Nat):List Nat->List Nat
 |[]=>[n]
 |m::l=>bif Nat.blt n m then n::m::l else bif Nat.beq n m then m::l else m::Qe n l
def BN:List Nat->List Nat->List Nat
 |[],m=>m|n::l,m=>Qe n (BN l m)
def G7(n:Nat):List Nat->List Nat
 |[]=>[]
 |m::l=>bif Nat.beq n m then G7 n l else m::G7 n l
def zv:List CI->List Nat->List Nat
 |[],o=>o|c::l,o=>BN c.reads (match c.d with|some d=>G7 d (zv l o)|none=>zv l o)
def GD:List (Nat×List Nat)->Nat->List Nat
 |[],_=>[]
 |(i,x)::r,n=>bif Nat.beq i n then x else GD r n
def NB:List Nat->List Nat->Bool
 |[],[]=>true|a::l,b::m=>bif Nat.beq a b then NB l m else false|_,_=>false
def Od:Nat->(List Nat->List Nat)->List Nat->List Nat
 |0,_,x=>x|n+1,f,x=>bif NB (f x) x then x else Od n f (f x)
def JR{X:Type}:Nat->(X->X)->X->X
 |0,_,x=>x|n+1,f,x=>JR n f (f x)
abbrev LE:=List (Nat×List Nat)
mutual
def na(ret:List Nat):SC->LE->LE->List Nat->List Nat
 |.skip,_,_,o=>o|.bh l,_,_,o=>zv l o|.de l,_,_,o=>zv l o|.eR _ l,_,_,o=>zv (l.map (·.c)) o|.seq a b,ex,lb,o=>na ret a ex lb (na ret b ex lb o)|.cond c t e,ex,lb,o=>BN (tmpsOf [c]) (BN (na ret t ex lb o) (na ret e ex lb o))|.block id b,ex,lb,o=>na ret b ((id,o)::ex) lb o|.loop b,ex,lb,_=>Od 9 (fun h=>BN h (na ret b ex lb h)) []|.exit id,ex,_,_=>GD ex id|.ret,_,_,_=>ret|.label _,_,_,o=>o|.goto l,_,lb,_=>GD lb l|.scope b,ex,lb,o=>na ret b ex (JR 4 (fun e=>Ei ret b ex e o++lb) lb) o
def Ei(ret:List Nat):SC->LE->LE->List Nat->LE
 |.seq a b,ex,lb,o=>Ei ret a ex lb (na ret b ex lb o)++Ei ret b ex lb o|.label l,_,_,o=>[(l,o)]
 |_,_,_,_=>[]
end
def lI(ret:List Nat):SC->LE->LE->List Nat->AC
 |.skip,_,_,_=>.skip|.bh l,_,_,_=>.bh l|.de l,_,_,_=>.de l|.eR a l,_,_,_=>.eR a l|.seq a b,ex,lb,o=>.seq (lI ret a ex lb (na ret b ex lb o)) (match b with
  |.ret=>.ret|.exit i=>.exit i|.skip=>.skip|b=>.aH (na ret b ex lb o) (lI ret b ex lb o))
 |.cond c t e,ex,lb,o=>.cond c (lI ret t ex lb o) (lI ret e ex lb o)|.block id b,ex,lb,o=>.block id (lI ret b ((id,o)::ex) lb o)|.loop b,ex,lb,o=>.loop (.aH (na ret (.loop b) ex lb o) (lI ret b ex lb (na ret (.loop b) ex lb o)))|.exit id,_,_,_=>.exit id|.ret,_,_,_=>.ret|.label l,_,_,_=>.label l|.goto l,_,_,_=>.goto l|.scope b,ex,lb,o=>.scope (lI ret b ex (JR 4 (fun e=>Ei ret b ex e o++lb) lb) o)
theorem qR(ret:List Nat):∀(s:SC) (ex lb:LE) (o:List Nat),(lI ret s ex lb o).erase=s
 |.skip,_,_,_|.bh _,_,_,_|.de _,_,_,_|.eR _ _,_,_,_|.exit _,_,_,_|.ret,_,_,_|.label _,_,_,_|.goto _,_,_,_=>rfl|.seq a b,ex,lb,o=>by have ha:=qR ret a ex lb (na ret b ex lb o);have hb:=qR ret b ex lb o;cases b<;>simp_all [lI,AC.erase]|.cond c t e,ex,lb,o=>by rw[lI,AC.erase,qR ret t,qR ret e]|.block id b,ex,lb,o=>by rw[lI,AC.erase,qR ret b]|.loop b,ex,lb,o=>by rw[lI,AC.erase,AC.erase,qR ret b]|.scope b,ex,lb,o=>by rw[lI,AC.erase,qR ret b]
def ET:List RC->List Nat
 |[]=>[]
 |.tmp t::l=>t::ET l|.cell t _ _::l=>t::ET l
def qS(c:FC):Nat×AC×List RC:=(c.N,lI (ET c.res) c.code [] [] (ET c.res),c.res)
theorem yn(n:Nat)(h:n<2^8):(⟨⟨⟨n,h⟩⟩⟩:UInt8)=UInt8.ofNat n:=by refine UInt8.toNat_inj.1 ?_;rw[UInt8.toNat_ofNat'];exact(Nat.mod_eq_of_lt h).symm
theorem ym{X:Type}(l:List X):Array.mk l=l.toArray:=rfl
theorem Gy{P:Program}[Glob P]{f:FuncId}{fn:Func}{N:Nat}{a:AC}{res:List RC}(hf:P.funcs[f]? =some fn)(h:(j0 P fn).map qS=some (N,a,res)):∃fn,P.funcs[f]? =some fn/\j0 P fn=some ⟨N,a.erase,res⟩:=by obtain⟨c,h1,h2⟩:=Z8.1 h;obtain⟨rfl,rfl,rfl⟩:=h2;exact⟨fn,hf,by rw[qR];omega⟩
def km{P:Program}[Glob P]{f:FuncId}{fn:Func}{N:Nat}{a:AC}{res:List RC}(hf:P.funcs[f]? =some fn)(h:(j0 P fn).map qS=some (N,a,res):=by conv=>{lhs;reduce;simp(maxSteps:=10000000)only[yn,UInt8.reduceOfNat,Int.reduceOfNat,Int.reduceNegSucc,ym]}):gy P f N a res:=⟨Gy hf h⟩
def kc{P:Program}[Glob P]{f:FuncId}{fn:Func}{N:Nat}{a:AC}{res:List RC}(hf:P.funcs[f]? =some fn)(h:(j0 P fn).map qS=some (N,a,res):=by conv=>{lhs;cbv;try simp(maxSteps:=10000000)only[yn,UInt8.reduceOfNat,Int.reduceOfNat,Int.reduceNegSucc,ym]}):gy P f N a res:=⟨Gy hf h⟩
def k2{P:Program}[Glob P]{f:FuncId}{fn:Func}{N:Nat}{a:AC}{res:List RC}(hf:P.funcs[f]? =some fn)(h:(j0 P fn).map qS=some (N,a,res):=by(conv=>{lhs;arg 2;cbv;try simp(maxSteps:=10000000)only[yn,UInt8.reduceOfNat,Int.reduceOfNat,Int.reduceNegSucc,ym]});(conv=>{lhs;cbv;try simp(maxSteps:=10000000)only[yn,UInt8.reduceOfNat,Int.reduceOfNat,Int.reduceNegSucc,ym]})):gy P f N a res:=⟨Gy hf h⟩
