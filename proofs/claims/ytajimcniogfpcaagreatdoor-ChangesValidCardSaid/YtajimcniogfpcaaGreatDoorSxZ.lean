/- One rule for all calls. -/
import Derived.Test.YtajimcniogfpcaaGreatDoorSxE
import Derived.Test.YtajimcniogfpcaaGreatDoorSxX
import Derived.Below
set_option linter.unusedVariables false
set_option linter.unusedSectionVars false
namespace Go.Sx
def yS(P:Program)[Glob P](xr:XR)(g:Option (Nat×Bool)):aw→Option (Option Bool×FuncId×List AV×List Prop)
 | .call f args=>match aD xr g args with
  |some (og,xs,ps)=>some (og,f,xs,ps)
  |none=>none
 | .fR fo args=>match aD xr g (fo::args)with
  |some (og,.v (.func (.func f) a c)::xs,ps)=>if ij P f=true then some (og,f,a.toList.map .v++xs++c.toList.map .v,ps)else none
  |some (og,.cl f a c::xs,ps)=>if ij P f=true then some (og,f,a++xs++c,ps)else none
  |_=>none
 |_=>none
section
variable {P:Program}[Glob P]{cfg:Nat→Nat}{K:af→Store→Prop}{E:List PanicEntry→Store→Prop}{σ:Store}{l:List CI}{d:Nat}{xr:XR}{ps:List Prop}{g:Option (Nat×Bool)}{og:Option Bool}{op:aw}{f:FuncId}{xs:List AV}{r:AV}
theorem aab(h:yS P xr g op=some (og,f,xs,ps))(hp:og.getD true=true→Pure P f xs r)(aq:OB ps)(k:VX P cfg l K E (bI og d r xr) σ):VX P cfg (⟨some d,op,g⟩::l) K E xr σ:=by
 unfold yS at h
 split at h
 ·split at h
  ·rename_i e
   simp only[Z1,Y3]at h
   obtain⟨rfl,rfl,rfl,rfl⟩:=h
   exact NM e hp aq k
  ·cases h
 ·split at h
  ·rename_i e
   split at h
   ·rename_i bE
    simp only[Z1,Y3]at h
    obtain⟨rfl,rfl,rfl,rfl⟩:=h
    exact yL e rfl bE hp aq k
   ·cases h
  ·rename_i e
   split at h
   ·rename_i bE
    simp only[Z1,Y3]at h
    obtain⟨rfl,rfl,rfl,rfl⟩:=h
    exact NP e bE hp aq k
   ·cases h
  ·cases h
 ·cases h
end
section
variable {P:Program}[Glob P]{cfg:Nat→Nat}{K:af→Store→Prop}{σ:Store}{d:Nat}{xr:XR}{ps:List Prop}{g:Option (Nat×Bool)}{og:Option Bool}{op:aw}{f:FuncId}{xs:List AV}{r:AV}{ah cf:List Nat}{ix:Nat}{ld:List CD}
theorem aaG(h:yS P xr g op=some (og,f,xs,ps))(hp:og.getD true=true→Pure P f xs r)(aq:OB ps)(k:VY P cfg ah ld K (bI og d r xr) σ):VY P cfg ah (⟨ix,⟨some d,op,g⟩,cf⟩::ld) K xr σ:=by
 unfold yS at h
 split at h
 ·split at h
  ·rename_i e
   simp only[Z1,Y3]at h
   obtain⟨rfl,rfl,rfl,rfl⟩:=h
   exact NS e hp aq k
  ·cases h
 ·split at h
  ·rename_i e
   split at h
   ·rename_i bE
    simp only[Z1,Y3]at h
    obtain⟨rfl,rfl,rfl,rfl⟩:=h
    exact aaK e rfl bE hp aq k
   ·cases h
  ·rename_i e
   split at h
   ·rename_i bE
    simp only[Z1,Y3]at h
    obtain⟨rfl,rfl,rfl,rfl⟩:=h
    exact DN e bE hp aq k
   ·cases h
  ·cases h
 ·cases h
end
theorem BL:(∀ (p:Prop) [Decidable p],(decide p=true)=p)∧(∀ (p:Prop) [Decidable p],(decide p=false)=¬p)∧((!true)=false)∧((!false)=true)∧(∀ b:Bool,((!b)=true)=(b=false))∧(∀ b:Bool,((!b)=false)=(b=true))
  ∧(∀ a b:Bool,((a && b)=true)=(a=true∧b=true))∧(∀ a b:Bool,((a || b)=true)=(a=true∨b=true))∧(∀ a b:Bool,((a && b)=false)=(a=false∨b=false))∧(∀ a b:Bool,((a || b)=false)=(a=false∧b=false))
  ∧(∀ b:Bool,(true && b)=b)∧(∀ b:Bool,(b && true)=b)∧(∀ b:Bool,(false || b)=b)∧(∀ b:Bool,(b || false)=b)∧(∀ p:Prop,(True→p)=p)∧(∀ n:Nat,(n:Int).toNat=n)∧(0:Int).toNat=0∧(1:Int).toNat=1
  ∧(∀ b:Bool,(b ^^ true)= !b)∧(∀ b:Bool,(b ^^ false)=b)
  ∧(∀ {α:Type} (a b:α),(a≠b)=¬(a=b))∧(∀ {α:Type} (a:α),(a=a)=True)∧(∀ {α:Type} (a b:α),(some a).getD b=a)∧(∀ {α:Type} (b:α),(none:Option α).getD b=b)∧(∀ (α:Type) [Nonempty α] (p:Prop),(α→p)=p):=by
 refine⟨fun p _=>by simp,fun p _=>by simp,rfl,rfl,?_,?_,?_,?_,?_,?_,?_,?_,?_,?_,fun p=>by simp,fun n=>by simp,rfl,rfl,?_,?_,fun a b=>by simp,fun a=>by simp,fun a b=>rfl,fun b=>rfl,fun α _ p=>by simp⟩<;>decide
theorem OB.r1{p:Prop}{ps:List Prop}(h:p)(t:OB ps):OB (p::ps):= .cons h t
abbrev q0(d:Nat)(o:aw):CI:=⟨some d,o,none⟩
abbrev q1(d:Nat)(o:aw)(t:Nat)(b:Bool):CI:=⟨some d,o,some (t,b)⟩
abbrev ki(n:Int):Operand:= .const (.int .i64 n)
abbrev ks(s:ByteArray):Operand:= .const (.string s)
abbrev kT:Operand:= .const (.bool true)
abbrev kF:Operand:= .const (.bool false)
theorem kf{x:Bool}{p:Prop}(h:x=false)(k:x=true):p:=by rw[h]at k;cases k
theorem kt{x:Bool}{p:Prop}(h:x=true)(k:x=false):p:=by rw[h]at k;cases k
theorem tF{p:Prop}(h:true=false):p:=nomatch h
theorem fT{p:Prop}(h:false=true):p:=nomatch h
section
theorem OB.k0{α:Type}{a:α}{ps:List Prop}(t:OB ps):OB ((a=a)::ps):=OB.rfl t
theorem OB.k1{ps:List Prop}(t:OB ps):OB (True::ps):=OB.tr t
theorem OB.k2{α:Type}{a:α}{c:Bool}{ps:List Prop}(t:OB ps):OB ((c=true→a=a)::ps):=OB.aei t
theorem OB.k3{c:Bool}{ps:List Prop}(t:OB ps):OB ((c=true→True)::ps):=OB.gtr t
theorem OB.k4{a:Prop}{ps:List Prop}(t:OB ps):OB ((a→a)::ps):=OB.self t
theorem OB.k5{a b:Bool}{ps:List Prop}(t:OB ps):OB (((a && b)=true→a=true)::ps):=OB.and t
end
section
variable {P:Program}[Glob P]{N:Nat}{cfg:Nat→Nat}{Q:Exit→af→Store→Prop}{rg ak:af}{σ σ':Store}{l:List CI}{a b:AC}{k k':List Fr}{xr:XR}{ah:List Nat}{ld:List CD}{ks:List Nat}{id:Nat}
theorem FK.k0(h:WK P N cfg Q b k rg σ):FK P N cfg Q .normal (.seq b::k) rg σ:=Wr h
theorem FK.k1(h:FK P N cfg Q .normal k rg σ):FK P N cfg Q .normal (.kW id::k) rg σ:=Wn h
theorem FK.k2{K:af→Store→Prop}(h:K rg σ):FK P N cfg Q .normal (.fn K::k) rg σ:=Wo h
theorem FK.k3(h:Q .normal rg σ):FK P N cfg Q .normal [] rg σ:=Wp h
theorem WK.k0(h:WK P N cfg Q a k ak σ)(hk:je ks rg=some ak:=by exact rfl):WK P N cfg Q (.aQ ks a) k rg σ:=abj hk h
theorem WK.k1(h:WK P N cfg Q a (.seq b::k) rg σ):WK P N cfg Q (.seq a b) k rg σ:=abn h
theorem WK.k2(h:VX P cfg l (FK P N cfg Q .normal k) (fun ch σ'=>FK P N cfg Q (.panic ch) k [] σ') xr σ)(hx:toXO rg=some xr:=by exact rfl):WK P N cfg Q (.ck l) k rg σ:=abl hx h
theorem WK.k3(h:VY P cfg ah ld (Cl (FK P N cfg Q .normal k)) xr σ)(hx:toXO rg=some xr:=by exact rfl):WK P N cfg Q (.eE ah ld) k rg σ:=abk hx h
theorem WK.k5(h:VY P cfg [] (bare l) (Cl (FK P N cfg Q .normal k)) xr σ)(hx:toXO rg=some xr:=by exact rfl):WK P N cfg Q (.dF l) k rg σ:=abe hx h
theorem WK.k6(h:WK P N cfg Q a (.kW id::k) rg σ):WK P N cfg Q (.block id a) k rg σ:=abb h
theorem WK.k7(h:Q .ret rg σ):WK P N cfg Q .ret k rg σ:=abm h
theorem WK.k8(h:FK P N cfg Q .normal k' rg σ)(hu:AG k id=some k':=by exact rfl):WK P N cfg Q (.exit id) k rg σ:=abh hu h
theorem WK.k9(h:FK P N cfg Q .normal k rg σ):WK P N cfg Q .skip k rg σ:=abo h
theorem WK.cd{x:Operand}{c:Bool}(h1:c=true→WK P N cfg Q a k rg σ)(h2:c=false→WK P N cfg Q b k rg σ)(hx:wB rg x=some c:=by exact rfl):WK P N cfg Q (.cond x a b) k rg σ:=abd hx h1 h2
end
section
variable {P:Program}[Glob P]{N:Nat}{cfg:Nat→Nat}{Q:Exit→af→Store→Prop}{rg:af}{σ:Store}{k:List Fr}{xr:XR}
theorem WK.k4{l l1 l2:List CI}{s:CI}(h:VY P cfg [] (bare l1) (tL P cfg (FK P N cfg Q .normal k) s l2) xr σ)(hl:wF l=some (l1,s,l2):=by exact rfl)(dM:ov l l1.length=true:=by exact rfl)(mW:s.g=none:=by exact rfl)(hx:toXO rg=some xr:=by exact rfl):WK P N cfg Q (.dF l) k rg σ:=abg hl dM mW hx h
theorem VX.k0{K:af→Store→Prop}{E:List PanicEntry→Store→Prop}{l2:List CI}(h:VY P cfg [] (bare l2) (Cl K) xr σ):VX P cfg [] (yF P cfg l2 K) E xr σ:=aax h
theorem VY.k0{K:af→Store→Prop}{s:CI}{l2:List CI}(h:VX P cfg [s] (yF P cfg l2 K) (fun _ _=>False) xr σ):VY P cfg [] [] (tL P cfg K s l2) xr σ:=aaW h
end
section
variable {P:Program}[Glob P]{N:Nat}{cfg:Nat→Nat}{Q:Exit→af→Store→Prop}{K:af→Store→Prop}{E:List PanicEntry→Store→Prop}{rg:af}{σ σ':Store}{l rest:List CI}{d:Nat}{op:aw}{p:Prop}{v:AV}{xr cZ:XR}{ps:List Prop}{c:CI}{ah cf:List Nat}{ix:Nat}{ld C1:List CD}{cd:CD}{g:Option (Nat×Bool)}{og:Option Bool}{as:List AV}{args:List Operand}
theorem VX.k1(h:K (den xr) σ):VX P cfg [] K E xr σ:=aaw h
theorem VY.k1(h:K (den xr) σ):VY P cfg ah [] (Cl K) xr σ:=aaX h
theorem VX.r1(hp:OB ps)(k:VX P cfg rest K E cZ σ')(_h0:AD cfg c.op=false:=by exact rfl)(h:C3 cfg (c::l) xr σ []=some (ps,cZ,σ',rest):=by exact rfl):VX P cfg (c::l) K E xr σ:=aaz _h0 h hp k
theorem VY.r1(hp:OB ps)(k:VY P cfg ah C1 K cZ σ')(_h0:AD cfg cd.c.op=false:=by exact rfl)(h:runM cfg ah (cd::ld) xr σ []=some (ps,cZ,σ',C1):=by exact rfl):VY P cfg ah (cd::ld) K xr σ:=aaY _h0 h hp k
theorem VX.l1{t:TypeId}{z:Value}{cs:List AV}(k:∀ b,VX P cfg l K E ((d,.s (.lp d b 0))::xr) ((d,b,.cells cs)::σ))(h:jf (z.cells.toList.map .v) some=some cs:=by exact rfl):VX P cfg (⟨some d,.alloc t z,none⟩::l) K E xr σ:=WX h k
theorem VY.l1{t:TypeId}{z:Value}{cs:List AV}(k:∀ b,VY P cfg ah ld K ((d,.s (.lp d b 0))::xr) ((d,b,.cells cs)::σ))(h:jf (z.cells.toList.map .v) some=some cs:=by exact rfl):VY P cfg ah (⟨ix,⟨some d,.alloc t z,none⟩,cf⟩::ld) K xr σ:=aaF h k
theorem VX.l2{t:TypeId}{ag:Nat}(k:∀ b,VX P cfg l K E ((d,.s (.own ag d b 0 0 []))::xr) ((d,b,.tail 0 0)::σ))(hc:cfg d=1:=by exact rfl)(he:0<ag:=by decide):VX P cfg (⟨some d,.dZ t ag [],none⟩::l) K E xr σ:=aat hc he k
theorem VX.m1{t:TypeId}{x:Operand}{cs:List AV}(k:∀ b,VX P cfg l K E ((d,.s (.lp d b 0))::xr) ((d,b,.cells cs)::σ))(aq:OB ps)(h:aD xr none [x]=some (og,[v],ps):=by exact rfl)(hc:pZ v=some cs:=by exact rfl):VX P cfg (⟨some d,.box t x,none⟩::l) K E xr σ:=aae h hc aq k
theorem VY.m1{t:TypeId}{x:Operand}{cs:List AV}(k:∀ b,VY P cfg ah ld K ((d,.s (.lp d b 0))::xr) ((d,b,.cells cs)::σ))(aq:OB ps)(h:aD xr none [x]=some (og,[v],ps):=by exact rfl)(hc:pZ v=some cs:=by exact rfl):VY P cfg ah (⟨ix,⟨some d,.box t x,none⟩,cf⟩::ld) K xr σ:=aaJ h hc aq k
theorem VX.m2{α:Type}{f:α→List AV}{ls:List α}{e:Nat}{x:Operand}(k:(og.getD true=true→ls.length≤maxLen)→VX P cfg l K E (bI og d (.v (.int .i64 ls.length)) xr) σ)(aq:OB ps)(h:aD xr g [x]=some (og,[v],ps):=by exact rfl)(hx:jJ v=some (e,ls.map f):=by exact rfl):VX P cfg (⟨some d,.len false x,g⟩::l) K E xr σ:=aap h hx aq k
theorem VX.m3{rows:List (List AV)}{e:Nat}{x:Operand}(k:(og.getD true=true→rows.length≤maxLen)→VX P cfg l K E (bI og d (.v (.int .i64 rows.length)) xr) σ)(aq:OB ps)(h:aD xr g [x]=some (og,[v],ps):=by exact rfl)(hx:jJ v=some (e,rows):=by exact rfl):VX P cfg (⟨some d,.len false x,g⟩::l) K E xr σ:=aaq h hx aq k
theorem VY.r2{α:Type}{f:α→List AV}{ls:List α}{e:Nat}{x:Operand}(aq:OB ps)(k:VY P cfg ah ld K (bI og d (.v (.int .i64 ls.length)) xr) σ)(h:aD xr g [x]=some (og,[v],ps):=by exact rfl)(hx:jJ v=some (e,ls.map f):=by exact rfl):VY P cfg ah (⟨ix,⟨some d,.len false x,g⟩,cf⟩::ld) K xr σ:=aaT h hx aq k
theorem VY.r3{rows:List (List AV)}{e:Nat}{x:Operand}(aq:OB ps)(k:VY P cfg ah ld K (bI og d (.v (.int .i64 rows.length)) xr) σ)(h:aD xr g [x]=some (og,[v],ps):=by exact rfl)(hx:jJ v=some (e,rows):=by exact rfl):VY P cfg ah (⟨ix,⟨some d,.len false x,g⟩,cf⟩::ld) K xr σ:=aaU h hx aq k
theorem VX.t1{α:Type}[Inhabited α]{f:α→List AV}{ls:List α}{e:Nat}{x i:Operand}{iv:AV}{n:Int}(aq:OB ps)(k:VX P cfg l K E (bI og d (.pc (f (ls.getD n.toNat default))) xr) σ)(hb:og.getD true=true→0≤n∧n<ls.length)(h:aD xr g [x,i]=some (og,[v,iv],ps):=by exact rfl)(hi:iJ iv=some n:=by exact rfl)(hx:jJ v=some (e,ls.map f):=by exact rfl):VX P cfg (⟨some d,.iz e x i,g⟩::l) K E xr σ:=aam h hi hx aq k hb
theorem VY.t1{α:Type}[Inhabited α]{f:α→List AV}{ls:List α}{e:Nat}{x i:Operand}{iv:AV}{n:Int}(aq:OB ps)(k:VY P cfg ah ld K (bI og d (.pc (f (ls.getD n.toNat default))) xr) σ)(hb:og.getD true=true→0≤n∧n<ls.length)(h:aD xr g [x,i]=some (og,[v,iv],ps):=by exact rfl)(hi:iJ iv=some n:=by exact rfl)(hx:jJ v=some (e,ls.map f):=by exact rfl):VY P cfg ah (⟨ix,⟨some d,.iz e x i,g⟩,cf⟩::ld) K xr σ:=aaR h hi hx aq k hb
theorem VX.u1{t:TypeId}{ag bytes:Nat}{z:List Value}{x y:Operand}{w:AV}{rows:List (List AV)}(aq:OB ps)(hn:rows≠[])(hb:rows.length * bytes≤35184372088832)(k:∀ b u c,VX P cfg l K E ((d,.s (.own ag d b u c rows))::xr) ((d,b,.tail u c)::σ))(h:aD xr none [x,y]=some (og,[.v (.slice none 0 0),w],ps):=by exact rfl)(hw:dR ag w=some rows:=by exact rfl):VX P cfg (⟨some d,.append t ag bytes z x y,none⟩::l) K E xr σ:=aad h hw aq hn hb k
theorem VX.u2{t:TypeId}{ag bytes tg b u c:Nat}{z:List Value}{x y:Operand}{w:AV}{rows rows':List (List AV)}(aq:OB ps)(hb:(rows.length+rows'.length) * bytes≤35184372088832)(h1:rows'.all (fun r=>r.all AV.one)=true)(k:∀ b' u' c',VX P cfg l K E ((d,.s (.own ag tg b' u' c' (rows++rows')))::xr) (dx σ tg b' (.tail u' c')))(h:aD xr none [x,y]=some (og,[.own ag tg b u c rows,w],ps):=by exact rfl)(hw:dR ag w=some rows':=by exact rfl)(hl:aM σ tg=some (b,.tail u c):=by exact rfl):VX P cfg (⟨some d,.append t ag bytes z x y,none⟩::l) K E xr σ:=aac h hw hl aq hb h1 k
theorem VX.u3{t:TypeId}{ag bytes:Nat}{z:List Value}{x y:Operand}{w:AV}{rows rows':List (List AV)}(aq:OB ps)(hb:(rows.length+rows'.length) * bytes≤35184372088832)(k0:rows'=[]→VX P cfg l K E ((d,.s (.fl ag rows))::xr) σ)(k:rows'≠[]→∀ b u c,VX P cfg l K E ((d,.s (.own ag d b u c (rows++rows')))::xr) ((d,b,.tail u c)::σ))(h:aD xr none [x,y]=some (og,[.fl ag rows,w],ps):=by exact rfl)(hw:dR ag w=some rows':=by exact rfl):VX P cfg (⟨some d,.append t ag bytes z x y,none⟩::l) K E xr σ:=NL h hw aq hb k0 k
theorem VY.u1{t:TypeId}{ag bytes:Nat}{z:List Value}{x y:Operand}{w:AV}{rows:List (List AV)}(aq:OB ps)(hn:rows≠[])(hb:rows.length * bytes≤35184372088832)(k:∀ b u c,VY P cfg ah ld K ((d,.s (.own ag d b u c rows))::xr) ((d,b,.tail u c)::σ))(h:aD xr none [x,y]=some (og,[.v (.slice none 0 0),w],ps):=by exact rfl)(hw:dR ag w=some rows:=by exact rfl)(hl:ah.elem d=true:=by exact rfl):VY P cfg ah (⟨ix,⟨some d,.append t ag bytes z x y,none⟩,cf⟩::ld) K xr σ:=aaI h hw hl aq hn hb k
theorem VY.u2{t:TypeId}{ag bytes tg b u c:Nat}{z:List Value}{x y:Operand}{w:AV}{rows rows':List (List AV)}(aq:OB ps)(hb:(rows.length+rows'.length) * bytes≤35184372088832)(h1:rows'.all (fun r=>r.all AV.one)=true)(k:∀ b' u' c',VY P cfg ah ld K ((d,.s (.own ag tg b' u' c' (rows++rows')))::xr) (dx σ tg b' (.tail u' c')))(h:aD xr none [x,y]=some (og,[.own ag tg b u c rows,w],ps):=by exact rfl)(hw:dR ag w=some rows':=by exact rfl)(hl:aM σ tg=some (b,.tail u c):=by exact rfl)(ha:ah.elem d=true:=by exact rfl):VY P cfg ah (⟨ix,⟨some d,.append t ag bytes z x y,none⟩,cf⟩::ld) K xr σ:=aaH h hw hl ha aq hb h1 k
theorem VY.u3{t:TypeId}{ag bytes:Nat}{z:List Value}{x y:Operand}{w:AV}{rows rows':List (List AV)}(aq:OB ps)(hb:(rows.length+rows'.length) * bytes≤35184372088832)(k0:rows'=[]→VY P cfg ah ld K ((d,.s (.fl ag rows))::xr) σ)(k:rows'≠[]→∀ b u c,VY P cfg ah ld K ((d,.s (.own ag d b u c (rows++rows')))::xr) ((d,b,.tail u c)::σ))(h:aD xr none [x,y]=some (og,[.fl ag rows,w],ps):=by exact rfl)(hw:dR ag w=some rows':=by exact rfl)(ha:ah.elem d=true:=by exact rfl):VY P cfg ah (⟨ix,⟨some d,.append t ag bytes z x y,none⟩,cf⟩::ld) K xr σ:=NR h hw ha aq hb k0 k
theorem VX.r8(hp:OB ps)(k:VX P cfg l K E cZ σ')(h:vH cfg (fun _ _=>true) c xr σ [] (fun ps xr σ=>some (ps,xr,σ))=some (ps,cZ,σ'):=by exact rfl):VX P cfg (c::l) K E xr σ:=aaj h hp k
theorem VY.r8(hp:OB ps)(k:VY P cfg ah ld K cZ σ')(h:vH cfg (j5 ah cd.cf) cd.c xr σ [] (fun ps xr σ=>some (ps,xr,σ))=some (ps,cZ,σ'):=by exact rfl):VY P cfg ah (cd::ld) K xr σ:=aaO h hp k
end
section
variable {P:Program}[Glob P]{N:Nat}{cfg:Nat→Nat}{Q:Exit→af→Store→Prop}{K:af→Store→Prop}{E:List PanicEntry→Store→Prop}{rg:af}{σ σ':Store}{l:List CI}{d:Nat}{v:AV}{xr cZ:XR}{ps:List Prop}{ah cf:List Nat}{ix:Nat}{ld:List CD}{g:Option (Nat×Bool)}{og:Option Bool}{as:List AV}{args:List Operand}{op:Op}{ty:TypeId}{ti:List TI}
theorem VX.l3{t:TypeId}(k:∀ b,VX P cfg l K E ((d,.s (.bH d b))::xr) ((d,b,.map [] 0)::σ)):VX P cfg (⟨some d,.exts (.makeMap t none) ty ti [],none⟩::l) K E xr σ:=aau k
theorem VX.t5{x i:Operand}{s:ByteArray}{iv:AV}{n:Int}(aq:OB ps)(hb:og.getD true=true→0≤n∧n<s.size)(k:VX P cfg l K E (bI og d (.v (.int .u8 (fO s n.toNat).toNat)) xr) σ)(h:aD xr g [x,i]=some (og,[.v (.string s),iv],ps):=by exact rfl)(hi:iJ iv=some n:=by exact rfl):VX P cfg (⟨some d,.idxs x i,g⟩::l) K E xr σ:=aan h hi aq hb k
theorem VY.t5{x i:Operand}{s:ByteArray}{iv:AV}{n:Int}(aq:OB ps)(hb:og.getD true=true→0≤n∧n<s.size)(k:VY P cfg ah ld K (bI og d (.v (.int .u8 (fO s n.toNat).toNat)) xr) σ)(h:aD xr g [x,i]=some (og,[.v (.string s),iv],ps):=by exact rfl)(hi:iJ iv=some n:=by exact rfl):VY P cfg ah (⟨ix,⟨some d,.idxs x i,g⟩,cf⟩::ld) K xr σ:=aaS h hi aq hb k
theorem VX.t6{t:TypeId}{x:Operand}{lo hi:Option Operand}{s:ByteArray}{a b:Int}(aq:OB ps)(hb:og.getD true=true→0≤a∧a≤b∧b≤s.size)(k:VX P cfg l K E (bI og d (.v (.string (s.extract a.toNat b.toNat))) xr) σ)(h:aD xr g args=some (og,as,ps):=by exact rfl)(he:args=x::(lo.toList++hi.toList):=by exact rfl)(hs:yh lo hi as=some (s,a,b):=by exact rfl):VX P cfg (⟨some d,.cQ (.slice t x lo hi none) ty [.str] args,g⟩::l) K E xr σ:=aaD h he hs aq hb k
theorem VY.t6{t:TypeId}{x:Operand}{lo hi:Option Operand}{s:ByteArray}{a b:Int}(aq:OB ps)(hb:og.getD true=true→0≤a∧a≤b∧b≤s.size)(k:VY P cfg ah ld K (bI og d (.v (.string (s.extract a.toNat b.toNat))) xr) σ)(h:aD xr g args=some (og,as,ps):=by exact rfl)(he:args=x::(lo.toList++hi.toList):=by exact rfl)(hs:yh lo hi as=some (s,a,b):=by exact rfl):VY P cfg ah (⟨ix,⟨some d,.cQ (.slice t x lo hi none) ty [.str] args,g⟩,cf⟩::ld) K xr σ:=aaZ h he hs aq hb k
theorem VX.t7{src dst e:TypeId}{x:Operand}{q:TI}{s:ByteArray}(aq:OB ps)(hb:og.getD true=true→s.size≤9223372036854775806)(k:VX P cfg l K E (bI og d (.sl true 1 (s.data.toList.map du)) xr) σ)(h:aD xr g [x]=some (og,[.v (.string s)],ps):=by exact rfl):VX P cfg (⟨some d,.cQ (.convert src dst x) ty [.str,q,.sl e,.int .u8] [x],g⟩::l) K E xr σ:=aai h aq hb k
theorem VY.t7{src dst e:TypeId}{x:Operand}{q:TI}{s:ByteArray}(aq:OB ps)(hb:og.getD true=true→s.size≤9223372036854775806)(k:VY P cfg ah ld K (bI og d (.sl true 1 (s.data.toList.map du)) xr) σ)(h:aD xr g [x]=some (og,[.v (.string s)],ps):=by exact rfl):VY P cfg ah (⟨ix,⟨some d,.cQ (.convert src dst x) ty [.str,q,.sl e,.int .u8] [x],g⟩,cf⟩::ld) K xr σ:=aaN h aq hb k
theorem VX.r4{src dst e:TypeId}{x:Operand}{q:TI}{rows:List (List AV)}{ns:List Int}(aq:OB ps)(k:VX P cfg l K E (bI og d (.v (.string (kX ns))) xr) σ)(h:aD xr g [x]=some (og,[v],ps):=by exact rfl)(hv:dR 1 v=some rows:=by exact rfl)(hn:sH v=true:=by exact rfl)(hu:lB rows=some ns:=by exact rfl):VX P cfg (⟨some d,.cQ (.convert src dst x) ty [.sl e,.int .u8,.str,q] [x],g⟩::l) K E xr σ:=aah h hv hn hu aq k
theorem VY.r4{src dst e:TypeId}{x:Operand}{q:TI}{rows:List (List AV)}{ns:List Int}(aq:OB ps)(k:VY P cfg ah ld K (bI og d (.v (.string (kX ns))) xr) σ)(h:aD xr g [x]=some (og,[v],ps):=by exact rfl)(hv:dR 1 v=some rows:=by exact rfl)(hn:sH v=true:=by exact rfl)(hu:lB rows=some ns:=by exact rfl):VY P cfg ah (⟨ix,⟨some d,.cQ (.convert src dst x) ty [.sl e,.int .u8,.str,q] [x],g⟩,cf⟩::ld) K xr σ:=aaM h hv hn hu aq k
theorem VX.r5{src dst e:TypeId}{x:Operand}{q:TI}{ls:List UInt8}(aq:OB ps)(k:VX P cfg l K E (bI og d (.v (.string ⟨ls.toArray⟩)) xr) σ)(h:aD xr g [x]=some (og,[v],ps):=by exact rfl)(hv:dR 1 v=some (ls.map du):=by exact rfl)(hn:sH v=true:=by exact rfl):VX P cfg (⟨some d,.cQ (.convert src dst x) ty [.sl e,.int .u8,.str,q] [x],g⟩::l) K E xr σ:=aag h hv hn aq k
theorem VY.r5{src dst e:TypeId}{x:Operand}{q:TI}{ls:List UInt8}(aq:OB ps)(k:VY P cfg ah ld K (bI og d (.v (.string ⟨ls.toArray⟩)) xr) σ)(h:aD xr g [x]=some (og,[v],ps):=by exact rfl)(hv:dR 1 v=some (ls.map du):=by exact rfl)(hn:sH v=true:=by exact rfl):VY P cfg ah (⟨ix,⟨some d,.cQ (.convert src dst x) ty [.sl e,.int .u8,.str,q] [x],g⟩,cf⟩::ld) K xr σ:=aaL h hv hn aq k
theorem VX.r6{t kt vt:TypeId}{q:TI}{kd:TypeDesc}{m k x:Operand}{tg b b' cG:Nat}{es:List (Value×Nat×AV)}{key:Value}(aq:OB ps)(kk:VX P cfg l K E xr σ')(h:aD xr none [m,k,x]=some (og,[.bH tg b,.v key,v],ps):=by exact rfl)(hp:mh q=some kd:=by exact rfl)(hl:aM σ tg=some (b',.map es cG):=by exact rfl)(hb:b=b':=by exact rfl)(hf:fH kd key es=some none:=by exact rfl)(hu:vO σ tg b (.map (es++[(key,cG,v)]) (cG+1))=some σ':=by exact rfl):VX P cfg (⟨none,.exts (.insert t m k x) ty [.mp kt vt,q] [m,k,x],none⟩::l) K E xr σ:=aao h hp hl hb hf hu aq kk
theorem VX.r7{t kt vt:TypeId}{q:TI}{kd:TypeDesc}{m k:Operand}{tg b b' cG:Nat}{es:List (Value×Nat×AV)}{key:Value}(aq:OB ps)(kk:VX P cfg l K E ((d,.s v)::xr) σ)(h:aD xr none [m,k]=some (og,[.bH tg b,.v key],ps):=by exact rfl)(hp:mh q=some kd:=by exact rfl)(hl:aM σ tg=some (b',.map es cG):=by exact rfl)(hb:b=b':=by exact rfl)(hf:fH kd key es=some (some v):=by exact rfl):VX P cfg (⟨some d,.cQ (.lookup t m k false) ty [.mp kt vt,q] [m,k],none⟩::l) K E xr σ:=aar h hp hl hb hf aq kk
end
section
variable {P:Program}[Glob P]{cfg:Nat→Nat}{K:af→Store→Prop}{E:List PanicEntry→Store→Prop}{σ:Store}{l:List CI}{d:Nat}{v:AV}{xr:XR}{ps:List Prop}{g:Option (Nat×Bool)}{og:Option Bool}
theorem VX.t2{α:Type}{f:α→List AV}{ls:List α}{e:Nat}{nn:Bool}{x y:Operand}{hv:AV}{h:Int}(aq:OB ps)(hb:og.getD true=true→0≤h∧h≤ls.length)(k:VX P cfg l K E (bI og d (.sl nn e ((ls.take h.toNat).map f)) xr) σ)(ha:aD xr g [x,y]=some (og,[v,hv],ps):=by exact rfl)(hi:iJ hv=some h:=by exact rfl)(hx:vF v=some (nn,e,ls.map f):=by exact rfl):VX P cfg (⟨some d,.slice e x none (some y),g⟩::l) K E xr σ:=aaB ha hi hx aq hb k
theorem VX.t3{α:Type}{f:α→List AV}{ls:List α}{e:Nat}{nn:Bool}{x y:Operand}{hv:AV}{h:Int}(aq:OB ps)(hb:og.getD true=true→0≤h∧h≤ls.length)(k:VX P cfg l K E (bI og d (.sl nn e ((ls.drop h.toNat).map f)) xr) σ)(ha:aD xr g [x,y]=some (og,[v,hv],ps):=by exact rfl)(hi:iJ hv=some h:=by exact rfl)(hx:vF v=some (nn,e,ls.map f):=by exact rfl):VX P cfg (⟨some d,.slice e x (some y) none,g⟩::l) K E xr σ:=aaC ha hi hx aq hb k
theorem VX.t4{α:Type}{f:α→List AV}{ls:List α}{e:Nat}{nn:Bool}{x y z:Operand}{lv hv:AV}{lo h:Int}(aq:OB ps)(hb:og.getD true=true→0≤lo∧lo≤h∧h≤ls.length)(k:VX P cfg l K E (bI og d (.sl nn e (((ls.take h.toNat).drop lo.toNat).map f)) xr) σ)(ha:aD xr g [x,y,z]=some (og,[v,lv,hv],ps):=by exact rfl)(hl:iJ lv=some lo:=by exact rfl)(hi:iJ hv=some h:=by exact rfl)(hx:vF v=some (nn,e,ls.map f):=by exact rfl):VX P cfg (⟨some d,.slice e x (some y) (some z),g⟩::l) K E xr σ:=aaA ha hl hi hx aq hb k
theorem we.k0{I:Nat→af→Store→Prop}{n:Nat}{ks:List Nat}{rg bh:af}{σ:Store}(h:∃ n',n'<n∧∃ ak σ',gd bh ak∧Sub σ' σ∧I n' ak σ')(hk:je ks rg=some bh:=by exact rfl):we I n ks rg σ:=we.intro hk h
end
section
variable {P:Program}[Glob P]{N:Nat}{cfg:Nat→Nat}{K:af→Store→Prop}{E:List PanicEntry→Store→Prop}{σ:Store}{l:List CI}{d n:Nat}{v y:AV}{xr:XR}{ps:List Prop}{g:Option (Nat×Bool)}{og:Option Bool}{ah cf:List Nat}{ix:Nat}{ld:List CD}{t b b' o:Nat}{cs bP ys l':List AV}{x z:Operand}
theorem VX.r9{gv:Nat}(aq:OB ps)(k:VX P cfg l K E (bI og d y xr) σ)(h:aD xr g [x]=some (og,[.v (.pointer (some ⟨gv,0,none⟩))],ps):=by exact rfl)(hl:Glob.av P gv=some cs:=by exact rfl)(hy:cs[0]? =some y:=by exact rfl):VX P cfg (⟨some d,.load false n x,g⟩::l) K E xr σ:=aak h hl hy aq k
theorem VY.r9{gv:Nat}(aq:OB ps)(k:VY P cfg ah ld K (bI og d y xr) σ)(h:aD xr g [x]=some (og,[.v (.pointer (some ⟨gv,0,none⟩))],ps):=by exact rfl)(hl:Glob.av P gv=some cs:=by exact rfl)(hy:cs[0]? =some y:=by exact rfl)(bM:j5 ah cf xr (.load false n x)=true:=by exact rfl):VY P cfg ah (⟨ix,⟨some d,.load false n x,g⟩,cf⟩::ld) K xr σ:=aaP h hl hy bM aq k
theorem VX.ra{gv:Nat}(aq:OB ps)(k:VX P cfg l K E (bI og d (.agg ys) xr) σ)(h:aD xr g [x]=some (og,[.v (.pointer (some ⟨gv,0,none⟩))],ps):=by exact rfl)(hl:Glob.av P gv=some cs:=by exact rfl)(hy:cs.take n=ys∧n≤cs.length:=by exact⟨rfl,by decide⟩):VX P cfg (⟨some d,.load true n x,g⟩::l) K E xr σ:=aal h hl hy aq k
theorem VY.ra{gv:Nat}(aq:OB ps)(k:VY P cfg ah ld K (bI og d (.agg ys) xr) σ)(h:aD xr g [x]=some (og,[.v (.pointer (some ⟨gv,0,none⟩))],ps):=by exact rfl)(hl:Glob.av P gv=some cs:=by exact rfl)(hy:cs.take n=ys∧n≤cs.length:=by exact⟨rfl,by decide⟩)(bM:j5 ah cf xr (.load true n x)=true:=by exact rfl):VY P cfg ah (⟨ix,⟨some d,.load true n x,g⟩,cf⟩::ld) K xr σ:=aaQ h hl hy bM aq k
end
section
variable {P:Program}[Glob P]{cfg:Nat→Nat}{K:af→Store→Prop}{E:List PanicEntry→Store→Prop}{σ:Store}{l:List CI}{d:Nat}{xr:XR}{ps:List Prop}{g:Option (Nat×Bool)}{og:Option Bool}{op:aw}{f:FuncId}{xs:List AV}{r:AV}
theorem VX.an(h:yS P xr g op=some (og,f,xs,ps))(hp:og.getD true=true→Pure P f xs r)(aq:OB ps)(k:VX P cfg l K E (bI og d r xr) σ):VX P cfg (⟨some d,op,g⟩::l) K E xr σ:=aab h hp aq k
end
section
variable {P:Program}[Glob P]{cfg:Nat→Nat}{K:af→Store→Prop}{σ:Store}{d:Nat}{xr:XR}{ps:List Prop}{g:Option (Nat×Bool)}{og:Option Bool}{op:aw}{f:FuncId}{xs:List AV}{r:AV}{ah cf:List Nat}{ix:Nat}{ld:List CD}
theorem VY.an(h:yS P xr g op=some (og,f,xs,ps))(hp:og.getD true=true→Pure P f xs r)(aq:OB ps)(k:VY P cfg ah ld K (bI og d r xr) σ):VY P cfg ah (⟨ix,⟨some d,op,g⟩,cf⟩::ld) K xr σ:=aaG h hp aq k
end
section
variable {α:Type}
theorem j8.r1{rg:af}{σ:Store}{v:AV}{ps:List Prop}{res:List RC}{R:eQ→Store→Prop}(hp:OB ps)(h:R (.ret v) σ)(e:sO rg σ res=some (ps,v):=by exact rfl):j8 res R .ret rg σ:=ai4 e hp h
theorem j8.r2{rg:af}{σ:Store}{v:AV}{ps:List Prop}{res:List RC}{R:eQ→Store→Prop}(hp:OB ps)(h:R (.ret v) σ)(e:sO rg σ res=some (ps,v):=by exact rfl):j8 res R .normal rg σ:=ai3 e hp h
theorem kO.r1{rg:af}{σ eG:Store}{v r:AV}{ps:List Prop}{res:List RC}(hp:OB ps)(h:Fin eG r v σ)(e:sO rg σ res=some (ps,v):=by exact rfl):kO res r eG .ret rg σ:=aiK e hp h
theorem kO.r2{rg:af}{σ eG:Store}{v r:AV}{ps:List Prop}{res:List RC}(hp:OB ps)(h:Fin eG r v σ)(e:sO rg σ res=some (ps,v):=by exact rfl):kO res r eG .normal rg σ:=aiJ e hp h
end
theorem Zs{σ σ':Store}(h:Sub σ σ':=by repeat' first|exact .refl _|refine .same ?_|refine .cons ?_):Sub σ σ':=h
theorem Zr{a b:af}(h:gd a b:=by repeat' first|exact .row|exact .refl _|exact .nil|refine .cons ?_ ?_|refine .aP ?_|refine .agg ?_|exact .sl|exact .own _|exact .tag):gd a b:=h
theorem Zw{eG σ:Store}{r x:AV}(h:Sub eG σ:=by repeat' first|exact .refl _|refine .same ?_|refine .cons ?_)(w:Wk x r:=by repeat' first|exact .refl _|exact .nil|refine .cons ?_ ?_|refine .aP ?_|refine .agg ?_|exact .sl|exact .own _):Fin eG r x σ:=⟨w,h⟩
theorem Zo{p q:Prop}(h:p→q:=by intro aB;first|(simp_all;done)|(simp only[BL]at *;first|(simp_all;done)|omega)):p→q:=h
end Go.Sx
set_option linter.unusedSimpArgs false
namespace Go.Sx
open Go.RowKit
theorem Inv.after{P:Program}[Glob P]{M:Mem}{w0:Base}{w w':World}{σ:Store}(hI:Inv P M w0 σ w)(hb:Below w.heap.size w w'):Inv P M w0 σ w' where
 os:=hb.os.trans hI.os
 tape:=hb.tape.trans hI.tape
 output:=hb.output.trans hI.output
 size:=ZG hI.size hb.size
 old:=fun k hk=>(hb.block k (Yu hk hI.size)).trans (hI.old k hk)
 cH:=fun b o v h=>by
  have h1:=hI.cH b o v h
  rw[hb.cell (World.block_lt_of_cell? _ _ h1)];exact h1
 st:=fun e he=>by
  obtain⟨h1,h2⟩:=hI.st e he
  refine⟨h1,?_⟩
  have ar:∀ {b:Nat} {cs t f},w.heap[b]? =some (.cells cs t f)→w'.heap[b]? =some (.cells cs t f):=fun {b cs t f} h=>by
   rw[hb.block b (ZX.1 h).1];exact h
  cases hx:e.2.2 with
  |cells l=>
   rw[hx]at h2
   obtain⟨a1,cs,t,a2,a3⟩:=h2
   exact⟨a1,cs,t,ar a2,a3⟩
  |tail u c=>
   rw[hx]at h2
   obtain⟨a1,cs,t,a2,a3⟩:=h2
   exact⟨a1,cs,t,ar a2,a3⟩
  |map es k=>
   rw[hx]at h2
   obtain⟨a1,l,a2,a3⟩:=h2
   refine⟨a1,l,?_,a3⟩
   rw[hb.block e.2.1 (ZX.1 a2).1];exact a2
 nd:=hI.nd
 gl:=hI.gl
 gw:=hI.gw
 bm:=hI.bm
theorem Pure.sW{P:Program}[Glob P]{f:FuncId}{as:List AV}{r:AV}
  (h:∀ (M:Mem) (w0:Base) (w:World) (σ:Store) (cs:List Value),Inv P M w0 σ w→RL M as cs→Calls P f cs.toArray w fun e w'=>(∃ v,e= .returned v∧R M r v)∧Below w.heap.size w w'):Pure P f as r:=
 ⟨fun σ M w0 w cs hI hR=>(h M w0 w σ cs hI hR).mono fun e w' ⟨⟨v,he,hv⟩,hb⟩=>⟨M,.ret r,σ,Mem.le.refl _,hI.after hb,by subst he;exact hv,rfl,rfl⟩⟩
end Go.Sx
namespace Go.Sx
def RE(n:Nat):List Nat→List Nat
 |[]=>[n]
 |m::l=>bif Nat.blt n m then n::m::l else bif Nat.beq n m then m::l else m::RE n l
def Dp:List Nat→List Nat→List Nat
 |[],m=>m
 |n::l,m=>RE n (Dp l m)
def IU(n:Nat):List Nat→List Nat
 |[]=>[]
 |m::l=>bif Nat.beq n m then IU n l else m::IU n l
def Bg:List CI→List Nat→List Nat
 |[],o=>o
 |c::l,o=>Dp c.reads (match c.d with|some d=>IU d (Bg l o)|none=>Bg l o)
def Io:List (Nat×List Nat)→Nat→List Nat
 |[],_=>[]
 |(i,x)::r,n=>bif Nat.beq i n then x else Io r n
def O4:List Nat→List Nat→Bool
 |[],[]=>true
 |a::l,b::m=>bif Nat.beq a b then O4 l m else false
 |_,_=>false
def PL:Nat→(List Nat→List Nat)→List Nat→List Nat
 |0,_,x=>x
 |n+1,f,x=>bif O4 (f x) x then x else PL n f (f x)
def Ld{α:Type}:Nat→(α→α)→α→α
 |0,_,x=>x
 |n+1,f,x=>Ld n f (f x)
abbrev LE:=List (Nat×List Nat)
mutual
def ni(ret:List Nat):SC→LE→LE→List Nat→List Nat
 | .skip,_,_,o=>o
 | .ck l,_,_,o=>Bg l o
 | .dF l,_,_,o=>Bg l o
 | .eE _ l,_,_,o=>Bg (l.map (·.c)) o
 | .seq a b,ex,lb,o=>ni ret a ex lb (ni ret b ex lb o)
 | .cond c t e,ex,lb,o=>Dp (tmpsOf [c]) (Dp (ni ret t ex lb o) (ni ret e ex lb o))
 | .block id b,ex,lb,o=>ni ret b ((id,o)::ex) lb o
 | .loop b,ex,lb,_=>PL 9 (fun h=>Dp h (ni ret b ex lb h)) []
 | .exit id,ex,_,_=>Io ex id
 | .ret,_,_,_=>ret
 | .label _,_,_,o=>o
 | .goto l,_,lb,_=>Io lb l
 | .scope b,ex,lb,o=>ni ret b ex (Ld 4 (fun e=>Fq ret b ex e o++lb) lb) o
def Fq(ret:List Nat):SC→LE→LE→List Nat→LE
 | .seq a b,ex,lb,o=>Fq ret a ex lb (ni ret b ex lb o)++Fq ret b ex lb o
 | .label l,_,_,o=>[(l,o)]
 |_,_,_,_=>[]
end
def lJ(ret:List Nat):SC→LE→LE→List Nat→AC
 | .skip,_,_,_=> .skip
 | .ck l,_,_,_=> .ck l
 | .dF l,_,_,_=> .dF l
 | .eE a l,_,_,_=> .eE a l
 | .seq a b,ex,lb,o=> .seq (lJ ret a ex lb (ni ret b ex lb o)) (match b with
  | .ret=> .ret
  | .exit i=> .exit i
  | .skip=> .skip
  |b=> .aQ (ni ret b ex lb o) (lJ ret b ex lb o))
 | .cond c t e,ex,lb,o=> .cond c (lJ ret t ex lb o) (lJ ret e ex lb o)
 | .block id b,ex,lb,o=> .block id (lJ ret b ((id,o)::ex) lb o)
 | .loop b,ex,lb,o=> .loop (.aQ (ni ret (.loop b) ex lb o) (lJ ret b ex lb (ni ret (.loop b) ex lb o)))
 | .exit id,_,_,_=> .exit id
 | .ret,_,_,_=> .ret
 | .label l,_,_,_=> .label l
 | .goto l,_,_,_=> .goto l
 | .scope b,ex,lb,o=> .scope (lJ ret b ex (Ld 4 (fun e=>Fq ret b ex e o++lb) lb) o)
theorem rq(ret:List Nat):∀ (s:SC) (ex lb:LE) (o:List Nat),(lJ ret s ex lb o).erase=s
 | .skip,_,_,_| .ck _,_,_,_| .dF _,_,_,_| .eE _ _,_,_,_| .exit _,_,_,_| .ret,_,_,_| .label _,_,_,_| .goto _,_,_,_=>rfl
 | .seq a b,ex,lb,o=>by
  have ha:=rq ret a ex lb (ni ret b ex lb o)
  have hb:=rq ret b ex lb o
  cases b<;>simp_all [lJ,AC.erase]
 | .cond c t e,ex,lb,o=>by rw[lJ,AC.erase,rq ret t,rq ret e]
 | .block id b,ex,lb,o=>by rw[lJ,AC.erase,rq ret b]
 | .loop b,ex,lb,o=>by rw[lJ,AC.erase,AC.erase,rq ret b]
 | .scope b,ex,lb,o=>by rw[lJ,AC.erase,rq ret b]
def F7:List RC→List Nat
 |[]=>[]
 | .tmp t::l=>t::F7 l
 | .cell t _ _::l=>t::F7 l
def wq(c:FC):Nat×AC×List RC:=(c.N,lJ (F7 c.res) c.code [] [] (F7 c.res),c.res)
theorem LD(n:Nat)(h:n<2 ^ 8):(⟨⟨⟨n,h⟩⟩⟩:UInt8)=UInt8.ofNat n:=by
 refine UInt8.toNat_inj.1 ?_
 rw[UInt8.toNat_ofNat'];exact(Xj h).symm
theorem LC{α:Type}(l:List α):Array.mk l=l.toArray:=rfl
theorem NZ{P:Program}[Glob P]{f:FuncId}{fn:Func}{N:Nat}{a:AC}{res:List RC}(hf:P.funcs[f]? =some fn)(h:(jP P fn).map wq=some (N,a,res)):∃ fn,P.funcs[f]? =some fn∧jP P fn=some ⟨N,a.erase,res⟩:=by
 obtain⟨c,h1,h2⟩:=Z7.1 h
 simp only[wq,Y3]at h2
 obtain⟨rfl,rfl,rfl⟩:=h2
 exact⟨fn,hf,by rw[rq];exact h1⟩
def km{P:Program}[Glob P]{f:FuncId}{fn:Func}{N:Nat}{a:AC}{res:List RC}(hf:P.funcs[f]? =some fn)(h:(jP P fn).map wq=some (N,a,res):=by conv=>{lhs;reduce;simp(maxSteps:=10000000)only[LD,UInt8.reduceOfNat,Int.reduceOfNat,Int.reduceNegSucc,LC]}):js P f N a res:=⟨NZ hf h⟩
def kc{P:Program}[Glob P]{f:FuncId}{fn:Func}{N:Nat}{a:AC}{res:List RC}(hf:P.funcs[f]? =some fn)(h:(jP P fn).map wq=some (N,a,res):=by conv=>{lhs;cbv;try simp(maxSteps:=10000000)only[LD,UInt8.reduceOfNat,Int.reduceOfNat,Int.reduceNegSucc,LC]}):js P f N a res:=⟨NZ hf h⟩
end Go.Sx
