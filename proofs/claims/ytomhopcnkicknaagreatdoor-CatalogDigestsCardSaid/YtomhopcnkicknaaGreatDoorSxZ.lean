/- One rule for all calls. -/
import Derived.Test.YtomhopcnkicknaaGreatDoorSxE
import Derived.Test.YtomhopcnkicknaaGreatDoorSxX
import Derived.Below
set_option linter.unusedVariables false
set_option linter.unusedSectionVars false
namespace Go.Sx
def uW(P:Program)[Glob P](xr:XR)(g:Option (Nat×Bool)):aB→Option (Option Bool×FuncId×List AV×List Prop)
 | .call f args=>match aL xr g args with
  |some (og,xs,ps)=>some (og,f,xs,ps)
  |none=>none
 | .gz fo args=>match aL xr g (fo::args)with
  |some (og,.v (.func (.func f) a c)::xs,ps)=>if jI P f=true then some (og,f,a.toList.map .v++xs++c.toList.map .v,ps)else none
  |some (og,.cl f a c::xs,ps)=>if jI P f=true then some (og,f,a++xs++c,ps)else none
  |_=>none
 |_=>none
section
variable {P:Program}[Glob P]{cfg:Nat→Nat}{K:ah→Store→Prop}{E:List PanicEntry→Store→Prop}{σ:Store}{l:List CI}{d:Nat}{xr:XR}{ps:List Prop}{g:Option (Nat×Bool)}{og:Option Bool}{op:aB}{f:FuncId}{xs:List AV}{r:AV}
theorem SZ(h:uW P xr g op=some (og,f,xs,ps))(hp:og.getD true=true→Pure P f xs r)(aw:OB ps)(k:VX P cfg l K E (bM og d r xr) σ):VX P cfg (⟨some d,op,g⟩::l) K E xr σ:=by
 unfold uW at h
 split at h
 ·split at h
  ·rename_i e
   simp only[ZN,YH]at h
   obtain⟨rfl,rfl,rfl,rfl⟩:=h
   exact S3 e hp aw k
  ·cases h
 ·split at h
  ·rename_i e
   split at h
   ·rename_i dJ
    simp only[ZN,YH]at h
    obtain⟨rfl,rfl,rfl,rfl⟩:=h
    exact S5 e rfl dJ hp aw k
   ·cases h
  ·rename_i e
   split at h
   ·rename_i dJ
    simp only[ZN,YH]at h
    obtain⟨rfl,rfl,rfl,rfl⟩:=h
    exact S4 e dJ hp aw k
   ·cases h
  ·cases h
 ·cases h
end
section
variable {P:Program}[Glob P]{cfg:Nat→Nat}{K:ah→Store→Prop}{σ:Store}{d:Nat}{xr:XR}{ps:List Prop}{g:Option (Nat×Bool)}{og:Option Bool}{op:aB}{f:FuncId}{xs:List AV}{r:AV}{al cf:List Nat}{ix:Nat}{ld:List CD}
theorem TA(h:uW P xr g op=some (og,f,xs,ps))(hp:og.getD true=true→Pure P f xs r)(aw:OB ps)(k:VY P cfg al ld K (bM og d r xr) σ):VY P cfg al (⟨ix,⟨some d,op,g⟩,cf⟩::ld) K xr σ:=by
 unfold uW at h
 split at h
 ·split at h
  ·rename_i e
   simp only[ZN,YH]at h
   obtain⟨rfl,rfl,rfl,rfl⟩:=h
   exact TF e hp aw k
  ·cases h
 ·split at h
  ·rename_i e
   split at h
   ·rename_i dJ
    simp only[ZN,YH]at h
    obtain⟨rfl,rfl,rfl,rfl⟩:=h
    exact TG e rfl dJ hp aw k
   ·cases h
  ·rename_i e
   split at h
   ·rename_i dJ
    simp only[ZN,YH]at h
    obtain⟨rfl,rfl,rfl,rfl⟩:=h
    exact A5 e dJ hp aw k
   ·cases h
  ·cases h
 ·cases h
end
theorem BL:(∀ (p:Prop) [Decidable p],(decide p=true)=p)∧(∀ (p:Prop) [Decidable p],(decide p=false)=¬p)∧((!true)=false)∧((!false)=true)∧(∀ b:Bool,((!b)=true)=(b=false))∧(∀ b:Bool,((!b)=false)=(b=true))
  ∧(∀ a b:Bool,((a && b)=true)=(a=true∧b=true))∧(∀ a b:Bool,((a || b)=true)=(a=true∨b=true))∧(∀ a b:Bool,((a && b)=false)=(a=false∨b=false))∧(∀ a b:Bool,((a || b)=false)=(a=false∧b=false))
  ∧(∀ b:Bool,(true && b)=b)∧(∀ b:Bool,(b && true)=b)∧(∀ b:Bool,(false || b)=b)∧(∀ b:Bool,(b || false)=b)∧(∀ p:Prop,(True→p)=p)∧(∀ n:Nat,(n:Int).toNat=n)∧(0:Int).toNat=0∧(1:Int).toNat=1
  ∧(∀ b:Bool,(b ^^ true)= !b)∧(∀ b:Bool,(b ^^ false)=b)
  ∧(∀ {α:Type} (a b:α),(a≠b)=¬(a=b))∧(∀ {α:Type} (a:α),(a=a)=True)∧(∀ {α:Type} (a b:α),(some a).getD b=a)∧(∀ {α:Type} (b:α),(none:Option α).getD b=b)∧(∀ (α:Type) [Nonempty α] (p:Prop),(α→p)=p):=by
 refine⟨fun p _=>by simp,fun p _=>by simp,rfl,rfl,?_,?_,?_,?_,?_,?_,?_,?_,?_,?_,fun p=>by simp,fun n=>by simp,rfl,rfl,?_,?_,fun a b=>by simp,fun a=>by simp,fun a b=>rfl,fun b=>rfl,fun α _ p=>by simp⟩<;>decide
theorem OB.r1{p:Prop}{ps:List Prop}(h:p)(t:OB ps):OB (p::ps):= .cons h t
abbrev q0(d:Nat)(o:aB):CI:=⟨some d,o,none⟩
abbrev q1(d:Nat)(o:aB)(t:Nat)(b:Bool):CI:=⟨some d,o,some (t,b)⟩
abbrev ki(n:Int):Operand:= .const (.int .i64 n)
abbrev ks(s:ByteArray):Operand:= .const (.string s)
abbrev kT:Operand:= .const (.bool true)
abbrev kF:Operand:= .const (.bool false)
theorem kf{x:Bool}{p:Prop}(h:x=false)(k:x=true):p:=by rw[h]at k;cases k
theorem kt{x:Bool}{p:Prop}(h:x=true)(k:x=false):p:=by rw[h]at k;cases k
section
theorem OB.k0{α:Type}{a:α}{ps:List Prop}(t:OB ps):OB ((a=a)::ps):=OB.rfl t
theorem OB.k1{ps:List Prop}(t:OB ps):OB (True::ps):=OB.tr t
theorem OB.k2{α:Type}{a:α}{c:Bool}{ps:List Prop}(t:OB ps):OB ((c=true→a=a)::ps):=OB.acw t
theorem OB.k3{c:Bool}{ps:List Prop}(t:OB ps):OB ((c=true→True)::ps):=OB.gtr t
theorem OB.k4{a:Prop}{ps:List Prop}(t:OB ps):OB ((a→a)::ps):=OB.self t
theorem OB.k5{a b:Bool}{ps:List Prop}(t:OB ps):OB (((a && b)=true→a=true)::ps):=OB.and t
end
section
variable {P:Program}[Glob P]{N:Nat}{cfg:Nat→Nat}{Q:Exit→ah→Store→Prop}{rg ay:ah}{σ af:Store}{l:List CI}{a b:AC}{k k':List Fr}{xr:XR}{al:List Nat}{ld:List CD}{ks:List Nat}{id:Nat}
theorem FK.k0(h:WK P N cfg Q b k rg σ):FK P N cfg Q .normal (.seq b::k) rg σ:=Sm h
theorem FK.k1(h:FK P N cfg Q .normal k rg σ):FK P N cfg Q .normal (.pA id::k) rg σ:=Sj h
theorem FK.k2{K:ah→Store→Prop}(h:K rg σ):FK P N cfg Q .normal (.fn K::k) rg σ:=Sk h
theorem FK.k3(h:Q .normal rg σ):FK P N cfg Q .normal [] rg σ:=Sl h
theorem WK.k0(h:WK P N cfg Q a k ay σ)(hk:lB ks rg=some ay:=by exact rfl):WK P N cfg Q (.bY ks a) k rg σ:=Uf hk h
theorem WK.k1(h:WK P N cfg Q a (.seq b::k) rg σ):WK P N cfg Q (.seq a b) k rg σ:=Uj h
theorem WK.k2(h:VX P cfg l (FK P N cfg Q .normal k) (fun ch af=>FK P N cfg Q (.panic ch) k [] af) xr σ)(hx:toXO rg=some xr:=by exact rfl):WK P N cfg Q (.eZ l) k rg σ:=Uh hx h
theorem WK.k3(h:VY P cfg al ld (Cl (FK P N cfg Q .normal k)) xr σ)(hx:toXO rg=some xr:=by exact rfl):WK P N cfg Q (.dx al ld) k rg σ:=Ug hx h
theorem WK.k5(h:VY P cfg [] (bare l) (Cl (FK P N cfg Q .normal k)) xr σ)(hx:toXO rg=some xr:=by exact rfl):WK P N cfg Q (.cG l) k rg σ:=Ub hx h
theorem WK.k6(h:WK P N cfg Q a (.pA id::k) rg σ):WK P N cfg Q (.block id a) k rg σ:=T8 h
theorem WK.k7(h:Q .ret rg σ):WK P N cfg Q .ret k rg σ:=Ui h
theorem WK.k8(h:FK P N cfg Q .normal k' rg σ)(hu:xc k id=some k':=by exact rfl):WK P N cfg Q (.exit id) k rg σ:=Ue hu h
theorem WK.k9(h:FK P N cfg Q .normal k rg σ):WK P N cfg Q .skip k rg σ:=Uk h
theorem WK.cd{x:Operand}{c:Bool}(h1:c=true→WK P N cfg Q a k rg σ)(h2:c=false→WK P N cfg Q b k rg σ)(hx:xR rg x=some c:=by exact rfl):WK P N cfg Q (.cond x a b) k rg σ:=T9 hx h1 h2
end
section
variable {P:Program}[Glob P]{N:Nat}{cfg:Nat→Nat}{Q:Exit→ah→Store→Prop}{rg:ah}{σ:Store}{k:List Fr}{xr:XR}
theorem WK.k4{l l1 l2:List CI}{s:CI}(h:VY P cfg [] (bare l1) (uM P cfg (FK P N cfg Q .normal k) s l2) xr σ)(hl:u0 l=some (l1,s,l2):=by exact rfl)(iu:wQ l l1.length=true:=by exact rfl)(nB:s.g=none:=by exact rfl)(hx:toXO rg=some xr:=by exact rfl):WK P N cfg Q (.cG l) k rg σ:=Ud hl iu nB hx h
theorem VX.k0{K:ah→Store→Prop}{E:List PanicEntry→Store→Prop}{l2:List CI}(h:VY P cfg [] (bare l2) (Cl K) xr σ):VX P cfg [] (xF P cfg l2 K) E xr σ:=Tq h
theorem VY.k0{K:ah→Store→Prop}{s:CI}{l2:List CI}(h:VX P cfg [s] (xF P cfg l2 K) (fun _ _=>False) xr σ):VY P cfg [] [] (uM P cfg K s l2) xr σ:=TS h
end
section
variable {P:Program}[Glob P]{N:Nat}{cfg:Nat→Nat}{Q:Exit→ah→Store→Prop}{K:ah→Store→Prop}{E:List PanicEntry→Store→Prop}{rg:ah}{σ af:Store}{l rest:List CI}{d:Nat}{op:aB}{p:Prop}{v:AV}{xr cJ:XR}{ps:List Prop}{c:CI}{al cf:List Nat}{ix:Nat}{ld z6:List CD}{cd:CD}{g:Option (Nat×Bool)}{og:Option Bool}{as:List AV}{args:List Operand}
theorem VX.k1(h:K (den xr) σ):VX P cfg [] K E xr σ:=Tp h
theorem VY.k1(h:K (den xr) σ):VY P cfg al [] (Cl K) xr σ:=TT h
theorem VX.r1(hp:OB ps)(k:VX P cfg rest K E cJ af)(_h0:wS cfg c.op=false:=by exact rfl)(h:z8 cfg (c::l) xr σ []=some (ps,cJ,af,rest):=by exact rfl):VX P cfg (c::l) K E xr σ:=Tr _h0 h hp k
theorem VY.r1(hp:OB ps)(k:VY P cfg al z6 K cJ af)(_h0:wS cfg cd.c.op=false:=by exact rfl)(h:runM cfg al (cd::ld) xr σ []=some (ps,cJ,af,z6):=by exact rfl):VY P cfg al (cd::ld) K xr σ:=TU _h0 h hp k
theorem VX.l1{t:TypeId}{z:Value}{cs:List AV}(k:∀ b,VX P cfg l K E ((d,.s (.lp d b 0))::xr) ((d,b,.cells cs)::σ))(h:jL (z.cells.toList.map .v) some=some cs:=by exact rfl):VX P cfg (⟨some d,.alloc t z,none⟩::l) K E xr σ:=SY h k
theorem VY.l1{t:TypeId}{z:Value}{cs:List AV}(k:∀ b,VY P cfg al ld K ((d,.s (.lp d b 0))::xr) ((d,b,.cells cs)::σ))(h:jL (z.cells.toList.map .v) some=some cs:=by exact rfl):VY P cfg al (⟨ix,⟨some d,.alloc t z,none⟩,cf⟩::ld) K xr σ:=Tz h k
theorem VX.l2{t:TypeId}{ag:Nat}(k:∀ b,VX P cfg l K E ((d,.s (.own ag d b 0 0 []))::xr) ((d,b,.tail 0 0)::σ))(hc:cfg d=1:=by exact rfl)(he:0<ag:=by decide):VX P cfg (⟨some d,.br t ag [],none⟩::l) K E xr σ:=Tm hc he k
theorem VX.m1{t:TypeId}{x:Operand}{cs:List AV}(k:∀ b,VX P cfg l K E ((d,.s (.lp d b 0))::xr) ((d,b,.cells cs)::σ))(aw:OB ps)(h:aL xr none [x]=some (og,[v],ps):=by exact rfl)(hc:qX v=some cs:=by exact rfl):VX P cfg (⟨some d,.box t x,none⟩::l) K E xr σ:=S2 h hc aw k
theorem VY.m1{t:TypeId}{x:Operand}{cs:List AV}(k:∀ b,VY P cfg al ld K ((d,.s (.lp d b 0))::xr) ((d,b,.cells cs)::σ))(aw:OB ps)(h:aL xr none [x]=some (og,[v],ps):=by exact rfl)(hc:qX v=some cs:=by exact rfl):VY P cfg al (⟨ix,⟨some d,.box t x,none⟩,cf⟩::ld) K xr σ:=TE h hc aw k
theorem VX.m2{α:Type}{f:α→List AV}{ls:List α}{e:Nat}{x:Operand}(k:(og.getD true=true→ls.length≤maxLen)→VX P cfg l K E (bM og d (.v (.int .i64 ls.length)) xr) σ)(aw:OB ps)(h:aL xr g [x]=some (og,[v],ps):=by exact rfl)(hx:kS v=some (e,ls.map f):=by exact rfl):VX P cfg (⟨some d,.len false x,g⟩::l) K E xr σ:=Ti h hx aw k
theorem VX.m3{rows:List (List AV)}{e:Nat}{x:Operand}(k:(og.getD true=true→rows.length≤maxLen)→VX P cfg l K E (bM og d (.v (.int .i64 rows.length)) xr) σ)(aw:OB ps)(h:aL xr g [x]=some (og,[v],ps):=by exact rfl)(hx:kS v=some (e,rows):=by exact rfl):VX P cfg (⟨some d,.len false x,g⟩::l) K E xr σ:=Tj h hx aw k
theorem VY.r2{α:Type}{f:α→List AV}{ls:List α}{e:Nat}{x:Operand}(aw:OB ps)(k:VY P cfg al ld K (bM og d (.v (.int .i64 ls.length)) xr) σ)(h:aL xr g [x]=some (og,[v],ps):=by exact rfl)(hx:kS v=some (e,ls.map f):=by exact rfl):VY P cfg al (⟨ix,⟨some d,.len false x,g⟩,cf⟩::ld) K xr σ:=TP h hx aw k
theorem VY.r3{rows:List (List AV)}{e:Nat}{x:Operand}(aw:OB ps)(k:VY P cfg al ld K (bM og d (.v (.int .i64 rows.length)) xr) σ)(h:aL xr g [x]=some (og,[v],ps):=by exact rfl)(hx:kS v=some (e,rows):=by exact rfl):VY P cfg al (⟨ix,⟨some d,.len false x,g⟩,cf⟩::ld) K xr σ:=TQ h hx aw k
theorem VX.t1{α:Type}[Inhabited α]{f:α→List AV}{ls:List α}{e:Nat}{x i:Operand}{iv:AV}{n:Int}(aw:OB ps)(k:VX P cfg l K E (bM og d (.pc (f (ls.getD n.toNat default))) xr) σ)(hb:og.getD true=true→0≤n∧n<ls.length)(h:aL xr g [x,i]=some (og,[v,iv],ps):=by exact rfl)(hi:gT iv=some n:=by exact rfl)(hx:kS v=some (e,ls.map f):=by exact rfl):VX P cfg (⟨some d,.eY e x i,g⟩::l) K E xr σ:=Tf h hi hx aw k hb
theorem VY.t1{α:Type}[Inhabited α]{f:α→List AV}{ls:List α}{e:Nat}{x i:Operand}{iv:AV}{n:Int}(aw:OB ps)(k:VY P cfg al ld K (bM og d (.pc (f (ls.getD n.toNat default))) xr) σ)(hb:og.getD true=true→0≤n∧n<ls.length)(h:aL xr g [x,i]=some (og,[v,iv],ps):=by exact rfl)(hi:gT iv=some n:=by exact rfl)(hx:kS v=some (e,ls.map f):=by exact rfl):VY P cfg al (⟨ix,⟨some d,.eY e x i,g⟩,cf⟩::ld) K xr σ:=TN h hi hx aw k hb
theorem VX.u1{t:TypeId}{ag bytes:Nat}{z:List Value}{x y:Operand}{w:AV}{rows:List (List AV)}(aw:OB ps)(hn:rows≠[])(hb:rows.length * bytes≤35184372088832)(k:∀ b u c,VX P cfg l K E ((d,.s (.own ag d b u c rows))::xr) ((d,b,.tail u c)::σ))(h:aL xr none [x,y]=some (og,[.v (.slice none 0 0),w],ps):=by exact rfl)(hw:ew ag w=some rows:=by exact rfl):VX P cfg (⟨some d,.append t ag bytes z x y,none⟩::l) K E xr σ:=S1 h hw aw hn hb k
theorem VX.u2{t:TypeId}{ag bytes tg b u c:Nat}{z:List Value}{x y:Operand}{w:AV}{rows rows':List (List AV)}(aw:OB ps)(hb:(rows.length+rows'.length) * bytes≤35184372088832)(h1:rows'.all (fun r=>r.all AV.one)=true)(k:∀ b' u' c',VX P cfg l K E ((d,.s (.own ag tg b' u' c' (rows++rows')))::xr) (eB σ tg b' (.tail u' c')))(h:aL xr none [x,y]=some (og,[.own ag tg b u c rows,w],ps):=by exact rfl)(hw:ew ag w=some rows':=by exact rfl)(hl:bo σ tg=some (b,.tail u c):=by exact rfl):VX P cfg (⟨some d,.append t ag bytes z x y,none⟩::l) K E xr σ:=S0 h hw hl aw hb h1 k
theorem VX.u3{t:TypeId}{ag bytes:Nat}{z:List Value}{x y:Operand}{w:AV}{rows rows':List (List AV)}(aw:OB ps)(hb:(rows.length+rows'.length) * bytes≤35184372088832)(k0:rows'=[]→VX P cfg l K E ((d,.s (.fl ag rows))::xr) σ)(k:rows'≠[]→∀ b u c,VX P cfg l K E ((d,.s (.own ag d b u c (rows++rows')))::xr) ((d,b,.tail u c)::σ))(h:aL xr none [x,y]=some (og,[.fl ag rows,w],ps):=by exact rfl)(hw:ew ag w=some rows':=by exact rfl):VX P cfg (⟨some d,.append t ag bytes z x y,none⟩::l) K E xr σ:=J6 h hw aw hb k0 k
theorem VY.u1{t:TypeId}{ag bytes:Nat}{z:List Value}{x y:Operand}{w:AV}{rows:List (List AV)}(aw:OB ps)(hn:rows≠[])(hb:rows.length * bytes≤35184372088832)(k:∀ b u c,VY P cfg al ld K ((d,.s (.own ag d b u c rows))::xr) ((d,b,.tail u c)::σ))(h:aL xr none [x,y]=some (og,[.v (.slice none 0 0),w],ps):=by exact rfl)(hw:ew ag w=some rows:=by exact rfl)(hl:al.elem d=true:=by exact rfl):VY P cfg al (⟨ix,⟨some d,.append t ag bytes z x y,none⟩,cf⟩::ld) K xr σ:=TD h hw hl aw hn hb k
theorem VY.u2{t:TypeId}{ag bytes tg b u c:Nat}{z:List Value}{x y:Operand}{w:AV}{rows rows':List (List AV)}(aw:OB ps)(hb:(rows.length+rows'.length) * bytes≤35184372088832)(h1:rows'.all (fun r=>r.all AV.one)=true)(k:∀ b' u' c',VY P cfg al ld K ((d,.s (.own ag tg b' u' c' (rows++rows')))::xr) (eB σ tg b' (.tail u' c')))(h:aL xr none [x,y]=some (og,[.own ag tg b u c rows,w],ps):=by exact rfl)(hw:ew ag w=some rows':=by exact rfl)(hl:bo σ tg=some (b,.tail u c):=by exact rfl)(ha:al.elem d=true:=by exact rfl):VY P cfg al (⟨ix,⟨some d,.append t ag bytes z x y,none⟩,cf⟩::ld) K xr σ:=TC h hw hl ha aw hb h1 k
theorem VY.u3{t:TypeId}{ag bytes:Nat}{z:List Value}{x y:Operand}{w:AV}{rows rows':List (List AV)}(aw:OB ps)(hb:(rows.length+rows'.length) * bytes≤35184372088832)(k0:rows'=[]→VY P cfg al ld K ((d,.s (.fl ag rows))::xr) σ)(k:rows'≠[]→∀ b u c,VY P cfg al ld K ((d,.s (.own ag d b u c (rows++rows')))::xr) ((d,b,.tail u c)::σ))(h:aL xr none [x,y]=some (og,[.fl ag rows,w],ps):=by exact rfl)(hw:ew ag w=some rows':=by exact rfl)(ha:al.elem d=true:=by exact rfl):VY P cfg al (⟨ix,⟨some d,.append t ag bytes z x y,none⟩,cf⟩::ld) K xr σ:=J9 h hw ha aw hb k0 k
theorem VX.r8(hp:OB ps)(k:VX P cfg l K E cJ af)(h:uk cfg (fun _ _=>true) c xr σ [] (fun ps xr σ=>some (ps,xr,σ))=some (ps,cJ,af):=by exact rfl):VX P cfg (c::l) K E xr σ:=Td h hp k
theorem VY.r8(hp:OB ps)(k:VY P cfg al ld K cJ af)(h:uk cfg (mE al cd.cf) cd.c xr σ [] (fun ps xr σ=>some (ps,xr,σ))=some (ps,cJ,af):=by exact rfl):VY P cfg al (cd::ld) K xr σ:=TL h hp k
end
section
variable {P:Program}[Glob P]{N:Nat}{cfg:Nat→Nat}{Q:Exit→ah→Store→Prop}{K:ah→Store→Prop}{E:List PanicEntry→Store→Prop}{rg:ah}{σ af:Store}{l:List CI}{d:Nat}{v:AV}{xr cJ:XR}{ps:List Prop}{al cf:List Nat}{ix:Nat}{ld:List CD}{g:Option (Nat×Bool)}{og:Option Bool}{as:List AV}{args:List Operand}{op:Op}{ty:TypeId}{ti:List TI}
theorem VX.l3{t:TypeId}(k:∀ b,VX P cfg l K E ((d,.s (.dc d b))::xr) ((d,b,.map [] 0)::σ)):VX P cfg (⟨some d,.exts (.makeMap t none) ty ti [],none⟩::l) K E xr σ:=Tn k
theorem VX.t5{x i:Operand}{s:ByteArray}{iv:AV}{n:Int}(aw:OB ps)(hb:og.getD true=true→0≤n∧n<s.size)(k:VX P cfg l K E (bM og d (.v (.int .u8 (eU s n.toNat).toNat)) xr) σ)(h:aL xr g [x,i]=some (og,[.v (.string s),iv],ps):=by exact rfl)(hi:gT iv=some n:=by exact rfl):VX P cfg (⟨some d,.idxs x i,g⟩::l) K E xr σ:=Tg h hi aw hb k
theorem VY.t5{x i:Operand}{s:ByteArray}{iv:AV}{n:Int}(aw:OB ps)(hb:og.getD true=true→0≤n∧n<s.size)(k:VY P cfg al ld K (bM og d (.v (.int .u8 (eU s n.toNat).toNat)) xr) σ)(h:aL xr g [x,i]=some (og,[.v (.string s),iv],ps):=by exact rfl)(hi:gT iv=some n:=by exact rfl):VY P cfg al (⟨ix,⟨some d,.idxs x i,g⟩,cf⟩::ld) K xr σ:=aNH h hi aw hb k
theorem VX.t6{t:TypeId}{x:Operand}{lo hi:Option Operand}{s:ByteArray}{a b:Int}(aw:OB ps)(hb:og.getD true=true→0≤a∧a≤b∧b≤s.size)(k:VX P cfg l K E (bM og d (.v (.string (s.extract a.toNat b.toNat))) xr) σ)(h:aL xr g args=some (og,as,ps):=by exact rfl)(he:args=x::(lo.toList++hi.toList):=by exact rfl)(hs:wN lo hi as=some (s,a,b):=by exact rfl):VX P cfg (⟨some d,.bS (.slice t x lo hi none) ty [.str] args,g⟩::l) K E xr σ:=Tw h he hs aw hb k
theorem VY.t6{t:TypeId}{x:Operand}{lo hi:Option Operand}{s:ByteArray}{a b:Int}(aw:OB ps)(hb:og.getD true=true→0≤a∧a≤b∧b≤s.size)(k:VY P cfg al ld K (bM og d (.v (.string (s.extract a.toNat b.toNat))) xr) σ)(h:aL xr g args=some (og,as,ps):=by exact rfl)(he:args=x::(lo.toList++hi.toList):=by exact rfl)(hs:wN lo hi as=some (s,a,b):=by exact rfl):VY P cfg al (⟨ix,⟨some d,.bS (.slice t x lo hi none) ty [.str] args,g⟩,cf⟩::ld) K xr σ:=TV h he hs aw hb k
theorem VX.t7{src dst e:TypeId}{x:Operand}{q:TI}{s:ByteArray}(aw:OB ps)(hb:og.getD true=true→s.size≤9223372036854775806)(k:VX P cfg l K E (bM og d (.sl true 1 (s.data.toList.map dn)) xr) σ)(h:aL xr g [x]=some (og,[.v (.string s)],ps):=by exact rfl):VX P cfg (⟨some d,.bS (.convert src dst x) ty [.str,q,.sl e,.int .u8] [x],g⟩::l) K E xr σ:=Tc h aw hb k
theorem VY.t7{src dst e:TypeId}{x:Operand}{q:TI}{s:ByteArray}(aw:OB ps)(hb:og.getD true=true→s.size≤9223372036854775806)(k:VY P cfg al ld K (bM og d (.sl true 1 (s.data.toList.map dn)) xr) σ)(h:aL xr g [x]=some (og,[.v (.string s)],ps):=by exact rfl):VY P cfg al (⟨ix,⟨some d,.bS (.convert src dst x) ty [.str,q,.sl e,.int .u8] [x],g⟩,cf⟩::ld) K xr σ:=TK h aw hb k
theorem VX.r4{src dst e:TypeId}{x:Operand}{q:TI}{rows:List (List AV)}{ns:List Int}(aw:OB ps)(k:VX P cfg l K E (bM og d (.v (.string (kB ns))) xr) σ)(h:aL xr g [x]=some (og,[v],ps):=by exact rfl)(hv:ew 1 v=some rows:=by exact rfl)(hn:qi v=true:=by exact rfl)(hu:o7 rows=some ns:=by exact rfl):VX P cfg (⟨some d,.bS (.convert src dst x) ty [.sl e,.int .u8,.str,q] [x],g⟩::l) K E xr σ:=Ta h hv hn hu aw k
theorem VY.r4{src dst e:TypeId}{x:Operand}{q:TI}{rows:List (List AV)}{ns:List Int}(aw:OB ps)(k:VY P cfg al ld K (bM og d (.v (.string (kB ns))) xr) σ)(h:aL xr g [x]=some (og,[v],ps):=by exact rfl)(hv:ew 1 v=some rows:=by exact rfl)(hn:qi v=true:=by exact rfl)(hu:o7 rows=some ns:=by exact rfl):VY P cfg al (⟨ix,⟨some d,.bS (.convert src dst x) ty [.sl e,.int .u8,.str,q] [x],g⟩,cf⟩::ld) K xr σ:=TJ h hv hn hu aw k
theorem VX.r5{src dst e:TypeId}{x:Operand}{q:TI}{ls:List UInt8}(aw:OB ps)(k:VX P cfg l K E (bM og d (.v (.string ⟨ls.toArray⟩)) xr) σ)(h:aL xr g [x]=some (og,[v],ps):=by exact rfl)(hv:ew 1 v=some (ls.map dn):=by exact rfl)(hn:qi v=true:=by exact rfl):VX P cfg (⟨some d,.bS (.convert src dst x) ty [.sl e,.int .u8,.str,q] [x],g⟩::l) K E xr σ:=S6 h hv hn aw k
theorem VY.r5{src dst e:TypeId}{x:Operand}{q:TI}{ls:List UInt8}(aw:OB ps)(k:VY P cfg al ld K (bM og d (.v (.string ⟨ls.toArray⟩)) xr) σ)(h:aL xr g [x]=some (og,[v],ps):=by exact rfl)(hv:ew 1 v=some (ls.map dn):=by exact rfl)(hn:qi v=true:=by exact rfl):VY P cfg al (⟨ix,⟨some d,.bS (.convert src dst x) ty [.sl e,.int .u8,.str,q] [x],g⟩,cf⟩::ld) K xr σ:=TH h hv hn aw k
theorem VX.r6{t kt vt:TypeId}{q:TI}{kd:TypeDesc}{m k x:Operand}{tg b b' dE:Nat}{es:List (Value×Nat×AV)}{key:Value}(aw:OB ps)(kk:VX P cfg l K E xr af)(h:aL xr none [m,k,x]=some (og,[.dc tg b,.v key,v],ps):=by exact rfl)(hp:o0 q=some kd:=by exact rfl)(hl:bo σ tg=some (b',.map es dE):=by exact rfl)(hb:b=b':=by exact rfl)(hf:mT kd key es=some none:=by exact rfl)(hu:rX σ tg b (.map (es++[(key,dE,v)]) (dE+1))=some af:=by exact rfl):VX P cfg (⟨none,.exts (.insert t m k x) ty [.mp kt vt,q] [m,k,x],none⟩::l) K E xr σ:=Th h hp hl hb hf hu aw kk
theorem VX.r7{t kt vt:TypeId}{q:TI}{kd:TypeDesc}{m k:Operand}{tg b b' dE:Nat}{es:List (Value×Nat×AV)}{key:Value}(aw:OB ps)(kk:VX P cfg l K E ((d,.s v)::xr) σ)(h:aL xr none [m,k]=some (og,[.dc tg b,.v key],ps):=by exact rfl)(hp:o0 q=some kd:=by exact rfl)(hl:bo σ tg=some (b',.map es dE):=by exact rfl)(hb:b=b':=by exact rfl)(hf:mT kd key es=some (some v):=by exact rfl):VX P cfg (⟨some d,.bS (.lookup t m k false) ty [.mp kt vt,q] [m,k],none⟩::l) K E xr σ:=Tk h hp hl hb hf aw kk
end
section
variable {P:Program}[Glob P]{cfg:Nat→Nat}{K:ah→Store→Prop}{E:List PanicEntry→Store→Prop}{σ:Store}{l:List CI}{d:Nat}{v:AV}{xr:XR}{ps:List Prop}{g:Option (Nat×Bool)}{og:Option Bool}
theorem VX.t2{α:Type}{f:α→List AV}{ls:List α}{e:Nat}{nn:Bool}{x y:Operand}{hv:AV}{h:Int}(aw:OB ps)(hb:og.getD true=true→0≤h∧h≤ls.length)(k:VX P cfg l K E (bM og d (.sl nn e ((ls.take h.toNat).map f)) xr) σ)(ha:aL xr g [x,y]=some (og,[v,hv],ps):=by exact rfl)(hi:gT hv=some h:=by exact rfl)(hx:rQ v=some (nn,e,ls.map f):=by exact rfl):VX P cfg (⟨some d,.slice e x none (some y),g⟩::l) K E xr σ:=Tt ha hi hx aw hb k
theorem VX.t3{α:Type}{f:α→List AV}{ls:List α}{e:Nat}{nn:Bool}{x y:Operand}{hv:AV}{h:Int}(aw:OB ps)(hb:og.getD true=true→0≤h∧h≤ls.length)(k:VX P cfg l K E (bM og d (.sl nn e ((ls.drop h.toNat).map f)) xr) σ)(ha:aL xr g [x,y]=some (og,[v,hv],ps):=by exact rfl)(hi:gT hv=some h:=by exact rfl)(hx:rQ v=some (nn,e,ls.map f):=by exact rfl):VX P cfg (⟨some d,.slice e x (some y) none,g⟩::l) K E xr σ:=Tv ha hi hx aw hb k
theorem VX.t4{α:Type}{f:α→List AV}{ls:List α}{e:Nat}{nn:Bool}{x y z:Operand}{lv hv:AV}{lo h:Int}(aw:OB ps)(hb:og.getD true=true→0≤lo∧lo≤h∧h≤ls.length)(k:VX P cfg l K E (bM og d (.sl nn e (((ls.take h.toNat).drop lo.toNat).map f)) xr) σ)(ha:aL xr g [x,y,z]=some (og,[v,lv,hv],ps):=by exact rfl)(hl:gT lv=some lo:=by exact rfl)(hi:gT hv=some h:=by exact rfl)(hx:rQ v=some (nn,e,ls.map f):=by exact rfl):VX P cfg (⟨some d,.slice e x (some y) (some z),g⟩::l) K E xr σ:=Ts ha hl hi hx aw hb k
theorem su.k0{I:Nat→ah→Store→Prop}{n:Nat}{ks:List Nat}{rg jy:ah}{σ:Store}(h:∃ n',n'<n∧∃ ay af,iK jy ay∧Sub af σ∧I n' ay af)(hk:lB ks rg=some jy:=by exact rfl):su I n ks rg σ:=su.intro hk h
end
section
variable {P:Program}[Glob P]{N:Nat}{cfg:Nat→Nat}{K:ah→Store→Prop}{E:List PanicEntry→Store→Prop}{σ:Store}{l:List CI}{d n:Nat}{v y:AV}{xr:XR}{ps:List Prop}{g:Option (Nat×Bool)}{og:Option Bool}{al cf:List Nat}{ix:Nat}{ld:List CD}{t b b' o:Nat}{cs cs' ys l':List AV}{x z:Operand}
theorem VX.r9{gv:Nat}(aw:OB ps)(k:VX P cfg l K E (bM og d y xr) σ)(h:aL xr g [x]=some (og,[.v (.pointer (some ⟨gv,0,none⟩))],ps):=by exact rfl)(hl:Glob.av P gv=some cs:=by exact rfl)(hy:cs[0]? =some y:=by exact rfl):VX P cfg (⟨some d,.load false n x,g⟩::l) K E xr σ:=Te h hl hy aw k
theorem VY.r9{gv:Nat}(aw:OB ps)(k:VY P cfg al ld K (bM og d y xr) σ)(h:aL xr g [x]=some (og,[.v (.pointer (some ⟨gv,0,none⟩))],ps):=by exact rfl)(hl:Glob.av P gv=some cs:=by exact rfl)(hy:cs[0]? =some y:=by exact rfl)(cy:mE al cf xr (.load false n x)=true:=by exact rfl):VY P cfg al (⟨ix,⟨some d,.load false n x,g⟩,cf⟩::ld) K xr σ:=TM h hl hy cy aw k
end
section
variable {P:Program}[Glob P]{cfg:Nat→Nat}{K:ah→Store→Prop}{E:List PanicEntry→Store→Prop}{σ:Store}{l:List CI}{d:Nat}{xr:XR}{ps:List Prop}{g:Option (Nat×Bool)}{og:Option Bool}{op:aB}{f:FuncId}{xs:List AV}{r:AV}
theorem VX.an(h:uW P xr g op=some (og,f,xs,ps))(hp:og.getD true=true→Pure P f xs r)(aw:OB ps)(k:VX P cfg l K E (bM og d r xr) σ):VX P cfg (⟨some d,op,g⟩::l) K E xr σ:=SZ h hp aw k
end
section
variable {P:Program}[Glob P]{cfg:Nat→Nat}{K:ah→Store→Prop}{σ:Store}{d:Nat}{xr:XR}{ps:List Prop}{g:Option (Nat×Bool)}{og:Option Bool}{op:aB}{f:FuncId}{xs:List AV}{r:AV}{al cf:List Nat}{ix:Nat}{ld:List CD}
theorem VY.an(h:uW P xr g op=some (og,f,xs,ps))(hp:og.getD true=true→Pure P f xs r)(aw:OB ps)(k:VY P cfg al ld K (bM og d r xr) σ):VY P cfg al (⟨ix,⟨some d,op,g⟩,cf⟩::ld) K xr σ:=TA h hp aw k
end
section
variable {α:Type}
theorem nN.r1{rg:ah}{σ:Store}{v:AV}{ps:List Prop}{res:List RC}{R:jg→Store→Prop}(hp:OB ps)(h:R (.ret v) σ)(e:ql rg σ res=some (ps,v):=by exact rfl):nN res R .ret rg σ:=ahO e hp h
theorem nN.r2{rg:ah}{σ:Store}{v:AV}{ps:List Prop}{res:List RC}{R:jg→Store→Prop}(hp:OB ps)(h:R (.ret v) σ)(e:ql rg σ res=some (ps,v):=by exact rfl):nN res R .normal rg σ:=ahN e hp h
theorem mF.r1{rg:ah}{σ fa:Store}{v r:AV}{ps:List Prop}{res:List RC}(hp:OB ps)(h:Fin fa r v σ)(e:ql rg σ res=some (ps,v):=by exact rfl):mF res r fa .ret rg σ:=ahv e hp h
theorem mF.r2{rg:ah}{σ fa:Store}{v r:AV}{ps:List Prop}{res:List RC}(hp:OB ps)(h:Fin fa r v σ)(e:ql rg σ res=some (ps,v):=by exact rfl):mF res r fa .normal rg σ:=ahu e hp h
end
theorem Zs{σ af:Store}(h:Sub σ af:=by repeat' first|exact .refl _|refine .same ?_|refine .cons ?_):Sub σ af:=h
theorem Zr{a b:ah}(h:iK a b:=by repeat' first|exact .row|exact .refl _|exact .nil|refine .cons ?_ ?_|refine .aE ?_|refine .agg ?_|exact .sl|exact .own _|exact .tag):iK a b:=h
theorem Zw{fa σ:Store}{r x:AV}(h:Sub fa σ:=by repeat' first|exact .refl _|refine .same ?_|refine .cons ?_)(w:Wk x r:=by repeat' first|exact .refl _|exact .nil|refine .cons ?_ ?_|refine .aE ?_|refine .agg ?_|exact .sl|exact .own _):Fin fa r x σ:=⟨w,h⟩
theorem Zo{p q:Prop}(h:p→q:=by intro aq;first|(simp_all;done)|(simp only[BL]at *;first|(simp_all;done)|omega)):p→q:=h
end Go.Sx
set_option linter.unusedSimpArgs false
namespace Go.Sx
open Go.RowKit
theorem Inv.after{P:Program}[Glob P]{M:Mem}{w0:Base}{w w':World}{σ:Store}(hI:Inv P M w0 σ w)(hb:Below w.heap.size w w'):Inv P M w0 σ w' where
 os:=hb.os.trans hI.os
 tape:=hb.tape.trans hI.tape
 output:=hb.output.trans hI.output
 size:=ZJ hI.size hb.size
 old:=fun k hk=>(hb.block k (YE hk hI.size)).trans (hI.old k hk)
 cQ:=fun b o v h=>by
  have h1:=hI.cQ b o v h
  rw[hb.cell (World.block_lt_of_cell? _ _ h1)];exact h1
 st:=fun e he=>by
  obtain⟨h1,h2⟩:=hI.st e he
  refine⟨h1,?_⟩
  have ax:∀ {b:Nat} {cs t f},w.heap[b]? =some (.cells cs t f)→w'.heap[b]? =some (.cells cs t f):=fun {b cs t f} h=>by
   rw[hb.block b (Z0.1 h).1];exact h
  cases hx:e.2.2 with
  |cells l=>
   rw[hx]at h2
   obtain⟨a1,cs,t,a2,a3⟩:=h2
   exact⟨a1,cs,t,ax a2,a3⟩
  |tail u c=>
   rw[hx]at h2
   obtain⟨a1,cs,t,a2,a3⟩:=h2
   exact⟨a1,cs,t,ax a2,a3⟩
  |map es k=>
   rw[hx]at h2
   obtain⟨a1,l,a2,a3⟩:=h2
   refine⟨a1,l,?_,a3⟩
   rw[hb.block e.2.1 (Z0.1 a2).1];exact a2
 nd:=hI.nd
 gl:=hI.gl
 gw:=hI.gw
 bm:=hI.bm
theorem Pure.qp{P:Program}[Glob P]{f:FuncId}{as:List AV}{r:AV}
  (h:∀ (M:Mem) (w0:Base) (w:World) (σ:Store) (cs:List Value),Inv P M w0 σ w→RL M as cs→Calls P f cs.toArray w fun e w'=>(∃ v,e= .returned v∧R M r v)∧Below w.heap.size w w'):Pure P f as r:=
 ⟨fun σ M w0 w cs hI hR=>(h M w0 w σ cs hI hR).mono fun e w' ⟨⟨v,he,hv⟩,hb⟩=>⟨M,.ret r,σ,Mem.le.refl _,hI.after hb,by subst he;exact hv,rfl,rfl⟩⟩
end Go.Sx
