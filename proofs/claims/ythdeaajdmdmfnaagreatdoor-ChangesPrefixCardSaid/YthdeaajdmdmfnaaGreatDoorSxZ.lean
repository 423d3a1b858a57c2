/- One rule for all calls. -/
import Derived.Test.YthdeaajdmdmfnaaGreatDoorSxE
import Derived.Test.YthdeaajdmdmfnaaGreatDoorSxX
import Derived.Below
set_option linter.unusedVariables false
set_option linter.unusedSectionVars false
namespace Go.Sx
def wR(P:Program)[Glob P](xr:XR)(g:Option (Nat×Bool)):ax→Option (Option Bool×FuncId×List AV×List Prop)
 | .call f args=>match aS xr g args with
  |some (og,xs,ps)=>some (og,f,xs,ps)
  |none=>none
 | .fD fo args=>match aS xr g (fo::args)with
  |some (og,.v (.func (.func f) a c)::xs,ps)=>if gR P f=true then some (og,f,a.toList.map .v++xs++c.toList.map .v,ps)else none
  |some (og,.cl f a c::xs,ps)=>if gR P f=true then some (og,f,a++xs++c,ps)else none
  |_=>none
 |_=>none
section
variable {P:Program}[Glob P]{cfg:Nat→Nat}{K:ag→Store→Prop}{E:List PanicEntry→Store→Prop}{σ:Store}{l:List CI}{d:Nat}{xr:XR}{ps:List Prop}{g:Option (Nat×Bool)}{og:Option Bool}{op:ax}{f:FuncId}{xs:List AV}{r:AV}
theorem T7(h:wR P xr g op=some (og,f,xs,ps))(hp:og.getD true=true→Pure P f xs r)(hps:OB ps)(k:VX P cfg l K E (bH og d r xr) σ):VX P cfg (⟨some d,op,g⟩::l) K E xr σ:=by
 unfold wR at h
 split at h
 ·split at h
  ·rename_i e
   simp only[ZY,YW]at h
   obtain⟨rfl,rfl,rfl,rfl⟩:=h
   exact Ub e hp hps k
  ·cases h
 ·split at h
  ·rename_i e
   split at h
   ·rename_i bC
    simp only[ZY,YW]at h
    obtain⟨rfl,rfl,rfl,rfl⟩:=h
    exact wK e rfl bC hp hps k
   ·cases h
  ·rename_i e
   split at h
   ·rename_i bC
    simp only[ZY,YW]at h
    obtain⟨rfl,rfl,rfl,rfl⟩:=h
    exact LP e bC hp hps k
   ·cases h
  ·cases h
 ·cases h
end
section
variable {P:Program}[Glob P]{cfg:Nat→Nat}{K:ag→Store→Prop}{σ:Store}{d:Nat}{xr:XR}{ps:List Prop}{g:Option (Nat×Bool)}{og:Option Bool}{op:ax}{f:FuncId}{xs:List AV}{r:AV}{al cf:List Nat}{ix:Nat}{ld:List CD}
theorem UE(h:wR P xr g op=some (og,f,xs,ps))(hp:og.getD true=true→Pure P f xs r)(hps:OB ps)(k:VY P cfg al ld K (bH og d r xr) σ):VY P cfg al (⟨ix,⟨some d,op,g⟩,cf⟩::ld) K xr σ:=by
 unfold wR at h
 split at h
 ·split at h
  ·rename_i e
   simp only[ZY,YW]at h
   obtain⟨rfl,rfl,rfl,rfl⟩:=h
   exact UJ e hp hps k
  ·cases h
 ·split at h
  ·rename_i e
   split at h
   ·rename_i bC
    simp only[ZY,YW]at h
    obtain⟨rfl,rfl,rfl,rfl⟩:=h
    exact UK e rfl bC hp hps k
   ·cases h
  ·rename_i e
   split at h
   ·rename_i bC
    simp only[ZY,YW]at h
    obtain⟨rfl,rfl,rfl,rfl⟩:=h
    exact BT e bC hp hps k
   ·cases h
  ·cases h
 ·cases h
end
theorem BL:(∀ (p:Prop) [Decidable p],(decide p=true)=p)∧(∀ (p:Prop) [Decidable p],(decide p=false)=¬p)∧((!true)=false)∧((!false)=true)∧(∀ b:Bool,((!b)=true)=(b=false))∧(∀ b:Bool,((!b)=false)=(b=true))
  ∧(∀ a b:Bool,((a && b)=true)=(a=true∧b=true))∧(∀ a b:Bool,((a || b)=true)=(a=true∨b=true))∧(∀ a b:Bool,((a && b)=false)=(a=false∨b=false))∧(∀ a b:Bool,((a || b)=false)=(a=false∧b=false))
  ∧(∀ b:Bool,(true && b)=b)∧(∀ b:Bool,(b && true)=b)∧(∀ b:Bool,(false || b)=b)∧(∀ b:Bool,(b || false)=b)∧(∀ p:Prop,(True→p)=p)∧(∀ n:Nat,(n:Int).toNat=n)∧(0:Int).toNat=0∧(1:Int).toNat=1
  ∧(∀ b:Bool,(b ^^ true)= !b)∧(∀ b:Bool,(b ^^ false)=b)
  ∧(∀ {α:Type} (a b:α),(a≠b)=¬(a=b))∧(∀ {α:Type} (a:α),(a=a)=True)∧(∀ {α:Type} (a b:α),(some a).getD b=a)∧(∀ {α:Type} (b:α),(none:Option α).getD b=b)∧(∀ (α:Type) [Nonempty α] (p:Prop),(α→p)=p):=by
 refine⟨fun p _=>by simp,fun p _=>by simp,rfl,rfl,?_,?_,?_,?_,?_,?_,?_,?_,?_,?_,fun p=>by simp,fun n=>by simp,rfl,rfl,?_,?_,fun a b=>by simp,fun a=>by simp,fun a b=>rfl,fun b=>rfl,fun α _ p=>by simp⟩<;>decide
theorem OB.r1{p:Prop}{ps:List Prop}(h:p)(t:OB ps):OB (p::ps):= .cons h t
abbrev q0(d:Nat)(o:ax):CI:=⟨some d,o,none⟩
abbrev q1(d:Nat)(o:ax)(t:Nat)(b:Bool):CI:=⟨some d,o,some (t,b)⟩
abbrev ki(n:Int):Operand:= .const (.int .i64 n)
abbrev ks(s:ByteArray):Operand:= .const (.string s)
abbrev kT:Operand:= .const (.bool true)
abbrev kF:Operand:= .const (.bool false)
theorem kf{x:Bool}{p:Prop}(h:x=false)(k:x=true):p:=by rw[h]at k;cases k
theorem kt{x:Bool}{p:Prop}(h:x=true)(k:x=false):p:=by rw[h]at k;cases k
theorem tF{p:Prop}(h:true=false):p:=nomatch h
theorem fT{p:Prop}(h:false=true):p:=nomatch h
section
theorem OB.k0{α:Type}{a:α}{ps:List Prop}(t:OB ps):OB ((a=a)::ps):=OB.rfl t
theorem OB.k1{ps:List Prop}(t:OB ps):OB (True::ps):=OB.tr t
theorem OB.k2{α:Type}{a:α}{c:Bool}{ps:List Prop}(t:OB ps):OB ((c=true→a=a)::ps):=OB.abD t
theorem OB.k3{c:Bool}{ps:List Prop}(t:OB ps):OB ((c=true→True)::ps):=OB.gtr t
theorem OB.k4{a:Prop}{ps:List Prop}(t:OB ps):OB ((a→a)::ps):=OB.self t
theorem OB.k5{a b:Bool}{ps:List Prop}(t:OB ps):OB (((a && b)=true→a=true)::ps):=OB.and t
end
section
variable {P:Program}[Glob P]{N:Nat}{cfg:Nat→Nat}{Q:Exit→ag→Store→Prop}{rg ak:ag}{σ σ':Store}{l:List CI}{a b:AC}{k k':List Fr}{xr:XR}{al:List Nat}{ld:List CD}{ks:List Nat}{id:Nat}
theorem FK.k0(h:WK P N cfg Q b k rg σ):FK P N cfg Q .normal (.seq b::k) rg σ:=TA h
theorem FK.k1(h:FK P N cfg Q .normal k rg σ):FK P N cfg Q .normal (.j4 id::k) rg σ:=Tw h
theorem FK.k2{K:ag→Store→Prop}(h:K rg σ):FK P N cfg Q .normal (.fn K::k) rg σ:=Tx h
theorem FK.k3(h:Q .normal rg σ):FK P N cfg Q .normal [] rg σ:=Tz h
theorem WK.k0(h:WK P N cfg Q a k ak σ)(hk:kP ks rg=some ak:=by exact rfl):WK P N cfg Q (.az ks a) k rg σ:=Vl hk h
theorem WK.k1(h:WK P N cfg Q a (.seq b::k) rg σ):WK P N cfg Q (.seq a b) k rg σ:=Vp h
theorem WK.k2(h:VX P cfg l (FK P N cfg Q .normal k) (fun ch σ'=>FK P N cfg Q (.panic ch) k [] σ') xr σ)(hx:toXO rg=some xr:=by exact rfl):WK P N cfg Q (.aQ l) k rg σ:=Vn hx h
theorem WK.k3(h:VY P cfg al ld (Cl (FK P N cfg Q .normal k)) xr σ)(hx:toXO rg=some xr:=by exact rfl):WK P N cfg Q (.eA al ld) k rg σ:=Vm hx h
theorem WK.k5(h:VY P cfg [] (bare l) (Cl (FK P N cfg Q .normal k)) xr σ)(hx:toXO rg=some xr:=by exact rfl):WK P N cfg Q (.c8 l) k rg σ:=Vh hx h
theorem WK.k6(h:WK P N cfg Q a (.j4 id::k) rg σ):WK P N cfg Q (.block id a) k rg σ:=Vf h
theorem WK.k7(h:Q .ret rg σ):WK P N cfg Q .ret k rg σ:=Vo h
theorem WK.k8(h:FK P N cfg Q .normal k' rg σ)(hu:yz k id=some k':=by exact rfl):WK P N cfg Q (.exit id) k rg σ:=Vk hu h
theorem WK.k9(h:FK P N cfg Q .normal k rg σ):WK P N cfg Q .skip k rg σ:=Vq h
theorem WK.cd{x:Operand}{c:Bool}(h1:c=true→WK P N cfg Q a k rg σ)(h2:c=false→WK P N cfg Q b k rg σ)(hx:zb rg x=some c:=by exact rfl):WK P N cfg Q (.cond x a b) k rg σ:=Vg hx h1 h2
end
section
variable {P:Program}[Glob P]{N:Nat}{cfg:Nat→Nat}{Q:Exit→ag→Store→Prop}{rg:ag}{σ:Store}{k:List Fr}{xr:XR}
theorem WK.k4{l l1 l2:List CI}{s:CI}(h:VY P cfg [] (bare l1) (rI P cfg (FK P N cfg Q .normal k) s l2) xr σ)(hl:ug l=some (l1,s,l2):=by exact rfl)(dE:q7 l l1.length=true:=by exact rfl)(lY:s.g=none:=by exact rfl)(hx:toXO rg=some xr:=by exact rfl):WK P N cfg Q (.c8 l) k rg σ:=Vj hl dE lY hx h
theorem VX.k0{K:ag→Store→Prop}{E:List PanicEntry→Store→Prop}{l2:List CI}(h:VY P cfg [] (bare l2) (Cl K) xr σ):VX P cfg [] (wF P cfg l2 K) E xr σ:=Uu h
theorem VY.k0{K:ag→Store→Prop}{s:CI}{l2:List CI}(h:VX P cfg [s] (wF P cfg l2 K) (fun _ _=>False) xr σ):VY P cfg [] [] (rI P cfg K s l2) xr σ:=UZ h
end
section
variable {P:Program}[Glob P]{N:Nat}{cfg:Nat→Nat}{Q:Exit→ag→Store→Prop}{K:ag→Store→Prop}{E:List PanicEntry→Store→Prop}{rg:ag}{σ σ':Store}{l rest:List CI}{d:Nat}{op:ax}{p:Prop}{v:AV}{xr cL:XR}{ps:List Prop}{c:CI}{al cf:List Nat}{ix:Nat}{ld A9:List CD}{cd:CD}{g:Option (Nat×Bool)}{og:Option Bool}{as:List AV}{args:List Operand}
theorem VX.k1(h:K (den xr) σ):VX P cfg [] K E xr σ:=Ut h
theorem VY.k1(h:K (den xr) σ):VY P cfg al [] (Cl K) xr σ:=U0 h
theorem VX.r1(hp:OB ps)(k:VX P cfg rest K E cL σ')(_h0:yt cfg c.op=false:=by exact rfl)(h:Bb cfg (c::l) xr σ []=some (ps,cL,σ',rest):=by exact rfl):VX P cfg (c::l) K E xr σ:=Uw _h0 h hp k
theorem VY.r1(hp:OB ps)(k:VY P cfg al A9 K cL σ')(_h0:yt cfg cd.c.op=false:=by exact rfl)(h:runM cfg al (cd::ld) xr σ []=some (ps,cL,σ',A9):=by exact rfl):VY P cfg al (cd::ld) K xr σ:=U1 _h0 h hp k
theorem VX.l1{t:TypeId}{z:Value}{cs:List AV}(k:∀ b,VX P cfg l K E ((d,.s (.lp d b 0))::xr) ((d,b,.cells cs)::σ))(h:j8 (z.cells.toList.map .v) some=some cs:=by exact rfl):VX P cfg (⟨some d,.alloc t z,none⟩::l) K E xr σ:=T6 h k
theorem VY.l1{t:TypeId}{z:Value}{cs:List AV}(k:∀ b,VY P cfg al ld K ((d,.s (.lp d b 0))::xr) ((d,b,.cells cs)::σ))(h:j8 (z.cells.toList.map .v) some=some cs:=by exact rfl):VY P cfg al (⟨ix,⟨some d,.alloc t z,none⟩,cf⟩::ld) K xr σ:=UC h k
theorem VX.l2{t:TypeId}{ah:Nat}(k:∀ b,VX P cfg l K E ((d,.s (.own ah d b 0 0 []))::xr) ((d,b,.tail 0 0)::σ))(hc:cfg d=1:=by exact rfl)(he:0<ah:=by decide):VX P cfg (⟨some d,.dF t ah [],none⟩::l) K E xr σ:=Uq hc he k
theorem VX.m1{t:TypeId}{x:Operand}{cs:List AV}(k:∀ b,VX P cfg l K E ((d,.s (.lp d b 0))::xr) ((d,b,.cells cs)::σ))(hps:OB ps)(h:aS xr none [x]=some (og,[v],ps):=by exact rfl)(hc:wU v=some cs:=by exact rfl):VX P cfg (⟨some d,.box t x,none⟩::l) K E xr σ:=Ua h hc hps k
theorem VY.m1{t:TypeId}{x:Operand}{cs:List AV}(k:∀ b,VY P cfg al ld K ((d,.s (.lp d b 0))::xr) ((d,b,.cells cs)::σ))(hps:OB ps)(h:aS xr none [x]=some (og,[v],ps):=by exact rfl)(hc:wU v=some cs:=by exact rfl):VY P cfg al (⟨ix,⟨some d,.box t x,none⟩,cf⟩::ld) K xr σ:=UH h hc hps k
theorem VX.m2{α:Type}{f:α→List AV}{ls:List α}{e:Nat}{x:Operand}(k:(og.getD true=true→ls.length≤maxLen)→VX P cfg l K E (bH og d (.v (.int .i64 ls.length)) xr) σ)(hps:OB ps)(h:aS xr g [x]=some (og,[v],ps):=by exact rfl)(hx:lr v=some (e,ls.map f):=by exact rfl):VX P cfg (⟨some d,.len false x,g⟩::l) K E xr σ:=Um h hx hps k
theorem VX.m3{rows:List (List AV)}{e:Nat}{x:Operand}(k:(og.getD true=true→rows.length≤maxLen)→VX P cfg l K E (bH og d (.v (.int .i64 rows.length)) xr) σ)(hps:OB ps)(h:aS xr g [x]=some (og,[v],ps):=by exact rfl)(hx:lr v=some (e,rows):=by exact rfl):VX P cfg (⟨some d,.len false x,g⟩::l) K E xr σ:=Un h hx hps k
theorem VY.r2{α:Type}{f:α→List AV}{ls:List α}{e:Nat}{x:Operand}(hps:OB ps)(k:VY P cfg al ld K (bH og d (.v (.int .i64 ls.length)) xr) σ)(h:aS xr g [x]=some (og,[v],ps):=by exact rfl)(hx:lr v=some (e,ls.map f):=by exact rfl):VY P cfg al (⟨ix,⟨some d,.len false x,g⟩,cf⟩::ld) K xr σ:=UW h hx hps k
theorem VY.r3{rows:List (List AV)}{e:Nat}{x:Operand}(hps:OB ps)(k:VY P cfg al ld K (bH og d (.v (.int .i64 rows.length)) xr) σ)(h:aS xr g [x]=some (og,[v],ps):=by exact rfl)(hx:lr v=some (e,rows):=by exact rfl):VY P cfg al (⟨ix,⟨some d,.len false x,g⟩,cf⟩::ld) K xr σ:=UX h hx hps k
theorem VX.t1{α:Type}[Inhabited α]{f:α→List AV}{ls:List α}{e:Nat}{x i:Operand}{iv:AV}{n:Int}(hps:OB ps)(k:VX P cfg l K E (bH og d (.pc (f (ls.getD n.toNat default))) xr) σ)(hb:og.getD true=true→0≤n∧n<ls.length)(h:aS xr g [x,i]=some (og,[v,iv],ps):=by exact rfl)(hi:iz iv=some n:=by exact rfl)(hx:lr v=some (e,ls.map f):=by exact rfl):VX P cfg (⟨some d,.fe e x i,g⟩::l) K E xr σ:=Uj h hi hx hps k hb
theorem VY.t1{α:Type}[Inhabited α]{f:α→List AV}{ls:List α}{e:Nat}{x i:Operand}{iv:AV}{n:Int}(hps:OB ps)(k:VY P cfg al ld K (bH og d (.pc (f (ls.getD n.toNat default))) xr) σ)(hb:og.getD true=true→0≤n∧n<ls.length)(h:aS xr g [x,i]=some (og,[v,iv],ps):=by exact rfl)(hi:iz iv=some n:=by exact rfl)(hx:lr v=some (e,ls.map f):=by exact rfl):VY P cfg al (⟨ix,⟨some d,.fe e x i,g⟩,cf⟩::ld) K xr σ:=UT h hi hx hps k hb
theorem VX.u1{t:TypeId}{ah bytes:Nat}{z:List Value}{x y:Operand}{w:AV}{rows:List (List AV)}(hps:OB ps)(hn:rows≠[])(hb:rows.length * bytes≤35184372088832)(k:∀ b u c,VX P cfg l K E ((d,.s (.own ah d b u c rows))::xr) ((d,b,.tail u c)::σ))(h:aS xr none [x,y]=some (og,[.v (.slice none 0 0),w],ps):=by exact rfl)(hw:dG ah w=some rows:=by exact rfl):VX P cfg (⟨some d,.append t ah bytes z x y,none⟩::l) K E xr σ:=T9 h hw hps hn hb k
theorem VX.u2{t:TypeId}{ah bytes tg b u c:Nat}{z:List Value}{x y:Operand}{w:AV}{rows rows':List (List AV)}(hps:OB ps)(hb:(rows.length+rows'.length) * bytes≤35184372088832)(h1:rows'.all (fun r=>r.all AV.one)=true)(k:∀ b' u' c',VX P cfg l K E ((d,.s (.own ah tg b' u' c' (rows++rows')))::xr) (du σ tg b' (.tail u' c')))(h:aS xr none [x,y]=some (og,[.own ah tg b u c rows,w],ps):=by exact rfl)(hw:dG ah w=some rows':=by exact rfl)(hl:aV σ tg=some (b,.tail u c):=by exact rfl):VX P cfg (⟨some d,.append t ah bytes z x y,none⟩::l) K E xr σ:=T8 h hw hl hps hb h1 k
theorem VX.u3{t:TypeId}{ah bytes:Nat}{z:List Value}{x y:Operand}{w:AV}{rows rows':List (List AV)}(hps:OB ps)(hb:(rows.length+rows'.length) * bytes≤35184372088832)(k0:rows'=[]→VX P cfg l K E ((d,.s (.fl ah rows))::xr) σ)(k:rows'≠[]→∀ b u c,VX P cfg l K E ((d,.s (.own ah d b u c (rows++rows')))::xr) ((d,b,.tail u c)::σ))(h:aS xr none [x,y]=some (og,[.fl ah rows,w],ps):=by exact rfl)(hw:dG ah w=some rows':=by exact rfl):VX P cfg (⟨some d,.append t ah bytes z x y,none⟩::l) K E xr σ:=LN h hw hps hb k0 k
theorem VY.u1{t:TypeId}{ah bytes:Nat}{z:List Value}{x y:Operand}{w:AV}{rows:List (List AV)}(hps:OB ps)(hn:rows≠[])(hb:rows.length * bytes≤35184372088832)(k:∀ b u c,VY P cfg al ld K ((d,.s (.own ah d b u c rows))::xr) ((d,b,.tail u c)::σ))(h:aS xr none [x,y]=some (og,[.v (.slice none 0 0),w],ps):=by exact rfl)(hw:dG ah w=some rows:=by exact rfl)(hl:al.elem d=true:=by exact rfl):VY P cfg al (⟨ix,⟨some d,.append t ah bytes z x y,none⟩,cf⟩::ld) K xr σ:=UG h hw hl hps hn hb k
theorem VY.u2{t:TypeId}{ah bytes tg b u c:Nat}{z:List Value}{x y:Operand}{w:AV}{rows rows':List (List AV)}(hps:OB ps)(hb:(rows.length+rows'.length) * bytes≤35184372088832)(h1:rows'.all (fun r=>r.all AV.one)=true)(k:∀ b' u' c',VY P cfg al ld K ((d,.s (.own ah tg b' u' c' (rows++rows')))::xr) (du σ tg b' (.tail u' c')))(h:aS xr none [x,y]=some (og,[.own ah tg b u c rows,w],ps):=by exact rfl)(hw:dG ah w=some rows':=by exact rfl)(hl:aV σ tg=some (b,.tail u c):=by exact rfl)(ha:al.elem d=true:=by exact rfl):VY P cfg al (⟨ix,⟨some d,.append t ah bytes z x y,none⟩,cf⟩::ld) K xr σ:=UF h hw hl ha hps hb h1 k
theorem VY.u3{t:TypeId}{ah bytes:Nat}{z:List Value}{x y:Operand}{w:AV}{rows rows':List (List AV)}(hps:OB ps)(hb:(rows.length+rows'.length) * bytes≤35184372088832)(k0:rows'=[]→VY P cfg al ld K ((d,.s (.fl ah rows))::xr) σ)(k:rows'≠[]→∀ b u c,VY P cfg al ld K ((d,.s (.own ah d b u c (rows++rows')))::xr) ((d,b,.tail u c)::σ))(h:aS xr none [x,y]=some (og,[.fl ah rows,w],ps):=by exact rfl)(hw:dG ah w=some rows':=by exact rfl)(ha:al.elem d=true:=by exact rfl):VY P cfg al (⟨ix,⟨some d,.append t ah bytes z x y,none⟩,cf⟩::ld) K xr σ:=LR h hw ha hps hb k0 k
theorem VX.r8(hp:OB ps)(k:VX P cfg l K E cL σ')(h:vY cfg (fun _ _=>true) c xr σ [] (fun ps xr σ=>some (ps,xr,σ))=some (ps,cL,σ'):=by exact rfl):VX P cfg (c::l) K E xr σ:=Ug h hp k
theorem VY.r8(hp:OB ps)(k:VY P cfg al ld K cL σ')(h:vY cfg (oI al cd.cf) cd.c xr σ [] (fun ps xr σ=>some (ps,xr,σ))=some (ps,cL,σ'):=by exact rfl):VY P cfg al (cd::ld) K xr σ:=UP h hp k
end
section
variable {P:Program}[Glob P]{N:Nat}{cfg:Nat→Nat}{Q:Exit→ag→Store→Prop}{K:ag→Store→Prop}{E:List PanicEntry→Store→Prop}{rg:ag}{σ σ':Store}{l:List CI}{d:Nat}{v:AV}{xr cL:XR}{ps:List Prop}{al cf:List Nat}{ix:Nat}{ld:List CD}{g:Option (Nat×Bool)}{og:Option Bool}{as:List AV}{args:List Operand}{op:Op}{ty:TypeId}{ti:List TI}
theorem VX.l3{t:TypeId}(k:∀ b,VX P cfg l K E ((d,.s (.bD d b))::xr) ((d,b,.map [] 0)::σ)):VX P cfg (⟨some d,.exts (.makeMap t none) ty ti [],none⟩::l) K E xr σ:=Ur k
theorem VX.t5{x i:Operand}{s:ByteArray}{iv:AV}{n:Int}(hps:OB ps)(hb:og.getD true=true→0≤n∧n<s.size)(k:VX P cfg l K E (bH og d (.v (.int .u8 (iL s n.toNat).toNat)) xr) σ)(h:aS xr g [x,i]=some (og,[.v (.string s),iv],ps):=by exact rfl)(hi:iz iv=some n:=by exact rfl):VX P cfg (⟨some d,.idxs x i,g⟩::l) K E xr σ:=Uk h hi hps hb k
theorem VY.t5{x i:Operand}{s:ByteArray}{iv:AV}{n:Int}(hps:OB ps)(hb:og.getD true=true→0≤n∧n<s.size)(k:VY P cfg al ld K (bH og d (.v (.int .u8 (iL s n.toNat).toNat)) xr) σ)(h:aS xr g [x,i]=some (og,[.v (.string s),iv],ps):=by exact rfl)(hi:iz iv=some n:=by exact rfl):VY P cfg al (⟨ix,⟨some d,.idxs x i,g⟩,cf⟩::ld) K xr σ:=UU h hi hps hb k
theorem VX.t6{t:TypeId}{x:Operand}{lo hi:Option Operand}{s:ByteArray}{a b:Int}(hps:OB ps)(hb:og.getD true=true→0≤a∧a≤b∧b≤s.size)(k:VX P cfg l K E (bH og d (.v (.string (s.extract a.toNat b.toNat))) xr) σ)(h:aS xr g args=some (og,as,ps):=by exact rfl)(he:args=x::(lo.toList++hi.toList):=by exact rfl)(hs:vW lo hi as=some (s,a,b):=by exact rfl):VX P cfg (⟨some d,.cu (.slice t x lo hi none) ty [.str] args,g⟩::l) K E xr σ:=UA h he hs hps hb k
theorem VY.t6{t:TypeId}{x:Operand}{lo hi:Option Operand}{s:ByteArray}{a b:Int}(hps:OB ps)(hb:og.getD true=true→0≤a∧a≤b∧b≤s.size)(k:VY P cfg al ld K (bH og d (.v (.string (s.extract a.toNat b.toNat))) xr) σ)(h:aS xr g args=some (og,as,ps):=by exact rfl)(he:args=x::(lo.toList++hi.toList):=by exact rfl)(hs:vW lo hi as=some (s,a,b):=by exact rfl):VY P cfg al (⟨ix,⟨some d,.cu (.slice t x lo hi none) ty [.str] args,g⟩,cf⟩::ld) K xr σ:=U2 h he hs hps hb k
theorem VX.t7{src dst e:TypeId}{x:Operand}{q:TI}{s:ByteArray}(hps:OB ps)(hb:og.getD true=true→s.size≤9223372036854775806)(k:VX P cfg l K E (bH og d (.sl true 1 (s.data.toList.map dD)) xr) σ)(h:aS xr g [x]=some (og,[.v (.string s)],ps):=by exact rfl):VX P cfg (⟨some d,.cu (.convert src dst x) ty [.str,q,.sl e,.int .u8] [x],g⟩::l) K E xr σ:=Uf h hps hb k
theorem VY.t7{src dst e:TypeId}{x:Operand}{q:TI}{s:ByteArray}(hps:OB ps)(hb:og.getD true=true→s.size≤9223372036854775806)(k:VY P cfg al ld K (bH og d (.sl true 1 (s.data.toList.map dD)) xr) σ)(h:aS xr g [x]=some (og,[.v (.string s)],ps):=by exact rfl):VY P cfg al (⟨ix,⟨some d,.cu (.convert src dst x) ty [.str,q,.sl e,.int .u8] [x],g⟩,cf⟩::ld) K xr σ:=UN h hps hb k
theorem VX.r4{src dst e:TypeId}{x:Operand}{q:TI}{rows:List (List AV)}{ns:List Int}(hps:OB ps)(k:VX P cfg l K E (bH og d (.v (.string (lL ns))) xr) σ)(h:aS xr g [x]=some (og,[v],ps):=by exact rfl)(hv:dG 1 v=some rows:=by exact rfl)(hn:qP v=true:=by exact rfl)(hu:kJ rows=some ns:=by exact rfl):VX P cfg (⟨some d,.cu (.convert src dst x) ty [.sl e,.int .u8,.str,q] [x],g⟩::l) K E xr σ:=Ue h hv hn hu hps k
theorem VY.r4{src dst e:TypeId}{x:Operand}{q:TI}{rows:List (List AV)}{ns:List Int}(hps:OB ps)(k:VY P cfg al ld K (bH og d (.v (.string (lL ns))) xr) σ)(h:aS xr g [x]=some (og,[v],ps):=by exact rfl)(hv:dG 1 v=some rows:=by exact rfl)(hn:qP v=true:=by exact rfl)(hu:kJ rows=some ns:=by exact rfl):VY P cfg al (⟨ix,⟨some d,.cu (.convert src dst x) ty [.sl e,.int .u8,.str,q] [x],g⟩,cf⟩::ld) K xr σ:=UM h hv hn hu hps k
theorem VX.r5{src dst e:TypeId}{x:Operand}{q:TI}{ls:List UInt8}(hps:OB ps)(k:VX P cfg l K E (bH og d (.v (.string ⟨ls.toArray⟩)) xr) σ)(h:aS xr g [x]=some (og,[v],ps):=by exact rfl)(hv:dG 1 v=some (ls.map dD):=by exact rfl)(hn:qP v=true:=by exact rfl):VX P cfg (⟨some d,.cu (.convert src dst x) ty [.sl e,.int .u8,.str,q] [x],g⟩::l) K E xr σ:=Ud h hv hn hps k
theorem VY.r5{src dst e:TypeId}{x:Operand}{q:TI}{ls:List UInt8}(hps:OB ps)(k:VY P cfg al ld K (bH og d (.v (.string ⟨ls.toArray⟩)) xr) σ)(h:aS xr g [x]=some (og,[v],ps):=by exact rfl)(hv:dG 1 v=some (ls.map dD):=by exact rfl)(hn:qP v=true:=by exact rfl):VY P cfg al (⟨ix,⟨some d,.cu (.convert src dst x) ty [.sl e,.int .u8,.str,q] [x],g⟩,cf⟩::ld) K xr σ:=UL h hv hn hps k
theorem VX.r6{t kt vt:TypeId}{q:TI}{kd:TypeDesc}{m k x:Operand}{tg b b' bX:Nat}{es:List (Value×Nat×AV)}{key:Value}(hps:OB ps)(kk:VX P cfg l K E xr σ')(h:aS xr none [m,k,x]=some (og,[.bD tg b,.v key,v],ps):=by exact rfl)(hp:kZ q=some kd:=by exact rfl)(hl:aV σ tg=some (b',.map es bX):=by exact rfl)(hb:b=b':=by exact rfl)(hf:eR kd key es=some none:=by exact rfl)(hu:tP σ tg b (.map (es++[(key,bX,v)]) (bX+1))=some σ':=by exact rfl):VX P cfg (⟨none,.exts (.insert t m k x) ty [.mp kt vt,q] [m,k,x],none⟩::l) K E xr σ:=Ul h hp hl hb hf hu hps kk
theorem VX.r7{t kt vt:TypeId}{q:TI}{kd:TypeDesc}{m k:Operand}{tg b b' bX:Nat}{es:List (Value×Nat×AV)}{key:Value}(hps:OB ps)(kk:VX P cfg l K E ((d,.s v)::xr) σ)(h:aS xr none [m,k]=some (og,[.bD tg b,.v key],ps):=by exact rfl)(hp:kZ q=some kd:=by exact rfl)(hl:aV σ tg=some (b',.map es bX):=by exact rfl)(hb:b=b':=by exact rfl)(hf:eR kd key es=some (some v):=by exact rfl):VX P cfg (⟨some d,.cu (.lookup t m k false) ty [.mp kt vt,q] [m,k],none⟩::l) K E xr σ:=Uo h hp hl hb hf hps kk
end
section
variable {P:Program}[Glob P]{cfg:Nat→Nat}{K:ag→Store→Prop}{E:List PanicEntry→Store→Prop}{σ:Store}{l:List CI}{d:Nat}{v:AV}{xr:XR}{ps:List Prop}{g:Option (Nat×Bool)}{og:Option Bool}
theorem VX.t2{α:Type}{f:α→List AV}{ls:List α}{e:Nat}{nn:Bool}{x y:Operand}{hv:AV}{h:Int}(hps:OB ps)(hb:og.getD true=true→0≤h∧h≤ls.length)(k:VX P cfg l K E (bH og d (.sl nn e ((ls.take h.toNat).map f)) xr) σ)(ha:aS xr g [x,y]=some (og,[v,hv],ps):=by exact rfl)(hi:iz hv=some h:=by exact rfl)(hx:tG v=some (nn,e,ls.map f):=by exact rfl):VX P cfg (⟨some d,.slice e x none (some y),g⟩::l) K E xr σ:=Uy ha hi hx hps hb k
theorem VX.t3{α:Type}{f:α→List AV}{ls:List α}{e:Nat}{nn:Bool}{x y:Operand}{hv:AV}{h:Int}(hps:OB ps)(hb:og.getD true=true→0≤h∧h≤ls.length)(k:VX P cfg l K E (bH og d (.sl nn e ((ls.drop h.toNat).map f)) xr) σ)(ha:aS xr g [x,y]=some (og,[v,hv],ps):=by exact rfl)(hi:iz hv=some h:=by exact rfl)(hx:tG v=some (nn,e,ls.map f):=by exact rfl):VX P cfg (⟨some d,.slice e x (some y) none,g⟩::l) K E xr σ:=Uz ha hi hx hps hb k
theorem VX.t4{α:Type}{f:α→List AV}{ls:List α}{e:Nat}{nn:Bool}{x y z:Operand}{lv hv:AV}{lo h:Int}(hps:OB ps)(hb:og.getD true=true→0≤lo∧lo≤h∧h≤ls.length)(k:VX P cfg l K E (bH og d (.sl nn e (((ls.take h.toNat).drop lo.toNat).map f)) xr) σ)(ha:aS xr g [x,y,z]=some (og,[v,lv,hv],ps):=by exact rfl)(hl:iz lv=some lo:=by exact rfl)(hi:iz hv=some h:=by exact rfl)(hx:tG v=some (nn,e,ls.map f):=by exact rfl):VX P cfg (⟨some d,.slice e x (some y) (some z),g⟩::l) K E xr σ:=Ux ha hl hi hx hps hb k
theorem tZ.k0{I:Nat→ag→Store→Prop}{n:Nat}{ks:List Nat}{rg bu:ag}{σ:Store}(h:∃ n',n'<n∧∃ ak σ',gi bu ak∧Sub σ' σ∧I n' ak σ')(hk:kP ks rg=some bu:=by exact rfl):tZ I n ks rg σ:=tZ.intro hk h
end
section
variable {P:Program}[Glob P]{N:Nat}{cfg:Nat→Nat}{K:ag→Store→Prop}{E:List PanicEntry→Store→Prop}{σ:Store}{l:List CI}{d n:Nat}{v y:AV}{xr:XR}{ps:List Prop}{g:Option (Nat×Bool)}{og:Option Bool}{al cf:List Nat}{ix:Nat}{ld:List CD}{t b b' o:Nat}{cs bO ys l':List AV}{x z:Operand}
theorem VX.r9{gv:Nat}(hps:OB ps)(k:VX P cfg l K E (bH og d y xr) σ)(h:aS xr g [x]=some (og,[.v (.pointer (some ⟨gv,0,none⟩))],ps):=by exact rfl)(hl:Glob.av P gv=some cs:=by exact rfl)(hy:cs[0]? =some y:=by exact rfl):VX P cfg (⟨some d,.load false n x,g⟩::l) K E xr σ:=Uh h hl hy hps k
theorem VY.r9{gv:Nat}(hps:OB ps)(k:VY P cfg al ld K (bH og d y xr) σ)(h:aS xr g [x]=some (og,[.v (.pointer (some ⟨gv,0,none⟩))],ps):=by exact rfl)(hl:Glob.av P gv=some cs:=by exact rfl)(hy:cs[0]? =some y:=by exact rfl)(cw:oI al cf xr (.load false n x)=true:=by exact rfl):VY P cfg al (⟨ix,⟨some d,.load false n x,g⟩,cf⟩::ld) K xr σ:=UQ h hl hy cw hps k
theorem VX.ra{gv:Nat}(hps:OB ps)(k:VX P cfg l K E (bH og d (.agg ys) xr) σ)(h:aS xr g [x]=some (og,[.v (.pointer (some ⟨gv,0,none⟩))],ps):=by exact rfl)(hl:Glob.av P gv=some cs:=by exact rfl)(hy:cs.take n=ys∧n≤cs.length:=by exact⟨rfl,by decide⟩):VX P cfg (⟨some d,.load true n x,g⟩::l) K E xr σ:=Ui h hl hy hps k
theorem VY.ra{gv:Nat}(hps:OB ps)(k:VY P cfg al ld K (bH og d (.agg ys) xr) σ)(h:aS xr g [x]=some (og,[.v (.pointer (some ⟨gv,0,none⟩))],ps):=by exact rfl)(hl:Glob.av P gv=some cs:=by exact rfl)(hy:cs.take n=ys∧n≤cs.length:=by exact⟨rfl,by decide⟩)(cw:oI al cf xr (.load true n x)=true:=by exact rfl):VY P cfg al (⟨ix,⟨some d,.load true n x,g⟩,cf⟩::ld) K xr σ:=US h hl hy cw hps k
end
section
variable {P:Program}[Glob P]{cfg:Nat→Nat}{K:ag→Store→Prop}{E:List PanicEntry→Store→Prop}{σ:Store}{l:List CI}{d:Nat}{xr:XR}{ps:List Prop}{g:Option (Nat×Bool)}{og:Option Bool}{op:ax}{f:FuncId}{xs:List AV}{r:AV}
theorem VX.an(h:wR P xr g op=some (og,f,xs,ps))(hp:og.getD true=true→Pure P f xs r)(hps:OB ps)(k:VX P cfg l K E (bH og d r xr) σ):VX P cfg (⟨some d,op,g⟩::l) K E xr σ:=T7 h hp hps k
end
section
variable {P:Program}[Glob P]{cfg:Nat→Nat}{K:ag→Store→Prop}{σ:Store}{d:Nat}{xr:XR}{ps:List Prop}{g:Option (Nat×Bool)}{og:Option Bool}{op:ax}{f:FuncId}{xs:List AV}{r:AV}{al cf:List Nat}{ix:Nat}{ld:List CD}
theorem VY.an(h:wR P xr g op=some (og,f,xs,ps))(hp:og.getD true=true→Pure P f xs r)(hps:OB ps)(k:VY P cfg al ld K (bH og d r xr) σ):VY P cfg al (⟨ix,⟨some d,op,g⟩,cf⟩::ld) K xr σ:=UE h hp hps k
end
section
variable {α:Type}
theorem lq.r1{rg:ag}{σ:Store}{v:AV}{ps:List Prop}{res:List RC}{R:gP→Store→Prop}(hp:OB ps)(h:R (.ret v) σ)(e:qW rg σ res=some (ps,v):=by exact rfl):lq res R .ret rg σ:=agh e hp h
theorem lq.r2{rg:ag}{σ:Store}{v:AV}{ps:List Prop}{res:List RC}{R:gP→Store→Prop}(hp:OB ps)(h:R (.ret v) σ)(e:qW rg σ res=some (ps,v):=by exact rfl):lq res R .normal rg σ:=agf e hp h
theorem mr.r1{rg:ag}{σ eV:Store}{v r:AV}{ps:List Prop}{res:List RC}(hp:OB ps)(h:Fin eV r v σ)(e:qW rg σ res=some (ps,v):=by exact rfl):mr res r eV .ret rg σ:=afP e hp h
theorem mr.r2{rg:ag}{σ eV:Store}{v r:AV}{ps:List Prop}{res:List RC}(hp:OB ps)(h:Fin eV r v σ)(e:qW rg σ res=some (ps,v):=by exact rfl):mr res r eV .normal rg σ:=afO e hp h
end
theorem Zs{σ σ':Store}(h:Sub σ σ':=by repeat' first|exact .refl _|refine .same ?_|refine .cons ?_):Sub σ σ':=h
theorem Zr{a b:ag}(h:gi a b:=by repeat' first|exact .row|exact .refl _|exact .nil|refine .cons ?_ ?_|refine .bo ?_|refine .agg ?_|exact .sl|exact .own _|exact .tag):gi a b:=h
theorem Zw{eV σ:Store}{r x:AV}(h:Sub eV σ:=by repeat' first|exact .refl _|refine .same ?_|refine .cons ?_)(w:Wk x r:=by repeat' first|exact .refl _|exact .nil|refine .cons ?_ ?_|refine .bo ?_|refine .agg ?_|exact .sl|exact .own _):Fin eV r x σ:=⟨w,h⟩
theorem Zo{p q:Prop}(h:p→q:=by intro aI;first|(simp_all;done)|(simp only[BL]at *;first|(simp_all;done)|omega)):p→q:=h
end Go.Sx
set_option linter.unusedSimpArgs false
namespace Go.Sx
open Go.RowKit
theorem Inv.after{P:Program}[Glob P]{M:Mem}{w0:Base}{w w':World}{σ:Store}(hI:Inv P M w0 σ w)(hb:Below w.heap.size w w'):Inv P M w0 σ w' where
 os:=hb.os.trans hI.os
 tape:=hb.tape.trans hI.tape
 output:=hb.output.trans hI.output
 size:=ZI hI.size hb.size
 old:=fun k hk=>(hb.block k (Y8 hk hI.size)).trans (hI.old k hk)
 bL:=fun b o v h=>by
  have h1:=hI.bL b o v h
  rw[hb.cell (World.block_lt_of_cell? _ _ h1)];exact h1
 st:=fun e he=>by
  obtain⟨h1,h2⟩:=hI.st e he
  refine⟨h1,?_⟩
  have aw:∀ {b:Nat} {cs t f},w.heap[b]? =some (.cells cs t f)→w'.heap[b]? =some (.cells cs t f):=fun {b cs t f} h=>by
   rw[hb.block b (Z6.1 h).1];exact h
  cases hx:e.2.2 with
  |cells l=>
   rw[hx]at h2
   obtain⟨a1,cs,t,a2,a3⟩:=h2
   exact⟨a1,cs,t,aw a2,a3⟩
  |tail u c=>
   rw[hx]at h2
   obtain⟨a1,cs,t,a2,a3⟩:=h2
   exact⟨a1,cs,t,aw a2,a3⟩
  |map es k=>
   rw[hx]at h2
   obtain⟨a1,l,a2,a3⟩:=h2
   refine⟨a1,l,?_,a3⟩
   rw[hb.block e.2.1 (Z6.1 a2).1];exact a2
 nd:=hI.nd
 gl:=hI.gl
 gw:=hI.gw
 bm:=hI.bm
theorem Pure.vV{P:Program}[Glob P]{f:FuncId}{as:List AV}{r:AV}
  (h:∀ (M:Mem) (w0:Base) (w:World) (σ:Store) (cs:List Value),Inv P M w0 σ w→RL M as cs→Calls P f cs.toArray w fun e w'=>(∃ v,e= .returned v∧R M r v)∧Below w.heap.size w w'):Pure P f as r:=
 ⟨fun σ M w0 w cs hI hR=>(h M w0 w σ cs hI hR).mono fun e w' ⟨⟨v,he,hv⟩,hb⟩=>⟨M,.ret r,σ,Mem.le.refl _,hI.after hb,by subst he;exact hv,rfl,rfl⟩⟩
end Go.Sx
namespace Go.Sx
def Pu(n:Nat):List Nat→List Nat
 |[]=>[n]
 |m::l=>bif Nat.blt n m then n::m::l else bif Nat.beq n m then m::l else m::Pu n l
def Br:List Nat→List Nat→List Nat
 |[],m=>m
 |n::l,m=>Pu n (Br l m)
def Gc(n:Nat):List Nat→List Nat
 |[]=>[]
 |m::l=>bif Nat.beq n m then Gc n l else m::Gc n l
def za:List CI→List Nat→List Nat
 |[],o=>o
 |c::l,o=>Br c.reads (match c.d with|some d=>Gc d (za l o)|none=>za l o)
def FP:List (Nat×List Nat)→Nat→List Nat
 |[],_=>[]
 |(i,x)::r,n=>bif Nat.beq i n then x else FP r n
def MT:List Nat→List Nat→Bool
 |[],[]=>true
 |a::l,b::m=>bif Nat.beq a b then MT l m else false
 |_,_=>false
def Nv:Nat→(List Nat→List Nat)→List Nat→List Nat
 |0,_,x=>x
 |n+1,f,x=>bif MT (f x) x then x else Nv n f (f x)
def Jo{α:Type}:Nat→(α→α)→α→α
 |0,_,x=>x
 |n+1,f,x=>Jo n f (f x)
abbrev LE:=List (Nat×List Nat)
mutual
def ml(ret:List Nat):SC→LE→LE→List Nat→List Nat
 | .skip,_,_,o=>o
 | .aQ l,_,_,o=>za l o
 | .c8 l,_,_,o=>za l o
 | .eA _ l,_,_,o=>za (l.map (·.c)) o
 | .seq a b,ex,lb,o=>ml ret a ex lb (ml ret b ex lb o)
 | .cond c t e,ex,lb,o=>Br (tmpsOf [c]) (Br (ml ret t ex lb o) (ml ret e ex lb o))
 | .block id b,ex,lb,o=>ml ret b ((id,o)::ex) lb o
 | .loop b,ex,lb,_=>Nv 9 (fun h=>Br h (ml ret b ex lb h)) []
 | .exit id,ex,_,_=>FP ex id
 | .ret,_,_,_=>ret
 | .label _,_,_,o=>o
 | .goto l,_,lb,_=>FP lb l
 | .scope b,ex,lb,o=>ml ret b ex (Jo 4 (fun e=>DM ret b ex e o++lb) lb) o
def DM(ret:List Nat):SC→LE→LE→List Nat→LE
 | .seq a b,ex,lb,o=>DM ret a ex lb (ml ret b ex lb o)++DM ret b ex lb o
 | .label l,_,_,o=>[(l,o)]
 |_,_,_,_=>[]
end
def kN(ret:List Nat):SC→LE→LE→List Nat→AC
 | .skip,_,_,_=> .skip
 | .aQ l,_,_,_=> .aQ l
 | .c8 l,_,_,_=> .c8 l
 | .eA a l,_,_,_=> .eA a l
 | .seq a b,ex,lb,o=> .seq (kN ret a ex lb (ml ret b ex lb o)) (match b with
  | .ret=> .ret
  | .exit i=> .exit i
  | .skip=> .skip
  |b=> .az (ml ret b ex lb o) (kN ret b ex lb o))
 | .cond c t e,ex,lb,o=> .cond c (kN ret t ex lb o) (kN ret e ex lb o)
 | .block id b,ex,lb,o=> .block id (kN ret b ((id,o)::ex) lb o)
 | .loop b,ex,lb,o=> .loop (.az (ml ret (.loop b) ex lb o) (kN ret b ex lb (ml ret (.loop b) ex lb o)))
 | .exit id,_,_,_=> .exit id
 | .ret,_,_,_=> .ret
 | .label l,_,_,_=> .label l
 | .goto l,_,_,_=> .goto l
 | .scope b,ex,lb,o=> .scope (kN ret b ex (Jo 4 (fun e=>DM ret b ex e o++lb) lb) o)
theorem qg(ret:List Nat):∀ (s:SC) (ex lb:LE) (o:List Nat),(kN ret s ex lb o).erase=s
 | .skip,_,_,_| .aQ _,_,_,_| .c8 _,_,_,_| .eA _ _,_,_,_| .exit _,_,_,_| .ret,_,_,_| .label _,_,_,_| .goto _,_,_,_=>rfl
 | .seq a b,ex,lb,o=>by
  have ha:=qg ret a ex lb (ml ret b ex lb o)
  have hb:=qg ret b ex lb o
  cases b<;>simp_all [kN,AC.erase]
 | .cond c t e,ex,lb,o=>by rw[kN,AC.erase,qg ret t,qg ret e]
 | .block id b,ex,lb,o=>by rw[kN,AC.erase,qg ret b]
 | .loop b,ex,lb,o=>by rw[kN,AC.erase,AC.erase,qg ret b]
 | .scope b,ex,lb,o=>by rw[kN,AC.erase,qg ret b]
def El:List RC→List Nat
 |[]=>[]
 | .tmp t::l=>t::El l
 | .cell t _ _::l=>t::El l
def rM(c:FC):Nat×AC×List RC:=(c.N,kN (El c.res) c.code [] [] (El c.res),c.res)
theorem DX(n:Nat)(h:n<2 ^ 8):(⟨⟨⟨n,h⟩⟩⟩:UInt8)=UInt8.ofNat n:=by
 refine UInt8.toNat_inj.1 ?_
 rw[UInt8.toNat_ofNat'];exact(Nat.mod_eq_of_lt h).symm
theorem DW{α:Type}(l:List α):Array.mk l=l.toArray:=rfl
theorem LX{P:Program}[Glob P]{f:FuncId}{fn:Func}{N:Nat}{a:AC}{res:List RC}(hf:P.funcs[f]? =some fn)(h:(j6 P fn).map rM=some (N,a,res)):∃ fn,P.funcs[f]? =some fn∧j6 P fn=some ⟨N,a.erase,res⟩:=by
 obtain⟨c,h1,h2⟩:=Z9.1 h
 simp only[rM,YW]at h2
 obtain⟨rfl,rfl,rfl⟩:=h2
 exact⟨fn,hf,by rw[qg];exact h1⟩
def km{P:Program}[Glob P]{f:FuncId}{fn:Func}{N:Nat}{a:AC}{res:List RC}(hf:P.funcs[f]? =some fn)(h:(j6 P fn).map rM=some (N,a,res):=by conv=>{lhs;reduce;simp(maxSteps:=10000000)only[DX,UInt8.reduceOfNat,Int.reduceOfNat,Int.reduceNegSucc,DW]}):fz P f N a res:=⟨LX hf h⟩
def kc{P:Program}[Glob P]{f:FuncId}{fn:Func}{N:Nat}{a:AC}{res:List RC}(hf:P.funcs[f]? =some fn)(h:(j6 P fn).map rM=some (N,a,res):=by conv=>{lhs;cbv;try simp(maxSteps:=10000000)only[DX,UInt8.reduceOfNat,Int.reduceOfNat,Int.reduceNegSucc,DW]}):fz P f N a res:=⟨LX hf h⟩
end Go.Sx
