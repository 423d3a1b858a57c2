/- One rule for all calls. -/
import Derived.Test.YtcccbdelfhgmlaaGreatDoorSxMixC
import Derived.Test.YtcccbdelfhgmlaaGreatDoorSxX
import Derived.Below
set_option linter.unusedVariables false
set_option linter.unusedSectionVars false
namespace Go.Sx
def xn(P:Program)[Glob P](xr:XR)(g:Option (Nat×Bool)):aw→Option (Option Bool×FuncId×List AV×List Prop)
 | .call f args=>match aB xr g args with
  |some (og,xs,ps)=>some (og,f,xs,ps)
  |none=>none
 | .dY fo args=>match aB xr g (fo::args)with
  |some (og,.v (.func (.func f) a c)::xs,ps)=>if iU P f=true then some (og,f,a.toList.map .v++xs++c.toList.map .v,ps)else none
  |some (og,.cl f a c::xs,ps)=>if iU P f=true then some (og,f,a++xs++c,ps)else none
  |_=>none
 |_=>none
section
variable {P:Program}[Glob P]{cfg:Nat→Nat}{K:ag→Store→Prop}{E:List PanicEntry→Store→Prop}{σ:Store}{l:List CI}{d:Nat}{xr:XR}{ps:List Prop}{g:Option (Nat×Bool)}{og:Option Bool}{op:aw}{f:FuncId}{xs:List AV}{r:AV}
theorem WS(h:xn P xr g op=some (og,f,xs,ps))(hp:og.getD true=true→Pure P f xs r)(ak:OB ps)(k:VX P cfg l K E (bR og d r xr) σ):VX P cfg (⟨some d,op,g⟩::l) K E xr σ:=by
 unfold xn at h
 split at h
 ·split at h
  ·rename_i e
   simp only[Z1,Yw]at h
   obtain⟨rfl,rfl,rfl,rfl⟩:=h
   exact WY e hp ak k
  ·cases h
 ·split at h
  ·rename_i e
   split at h
   ·rename_i b7
    simp only[Z1,Yw]at h
    obtain⟨rfl,rfl,rfl,rfl⟩:=h
    exact W0 e rfl b7 hp ak k
   ·cases h
  ·rename_i e
   split at h
   ·rename_i b7
    simp only[Z1,Yw]at h
    obtain⟨rfl,rfl,rfl,rfl⟩:=h
    exact WZ e b7 hp ak k
   ·cases h
  ·cases h
 ·cases h
end
section
variable {P:Program}[Glob P]{cfg:Nat→Nat}{K:ag→Store→Prop}{σ:Store}{d:Nat}{xr:XR}{ps:List Prop}{g:Option (Nat×Bool)}{og:Option Bool}{op:aw}{f:FuncId}{xs:List AV}{r:AV}{ah cf:List Nat}{ix:Nat}{ld:List CD}
theorem Xt(h:xn P xr g op=some (og,f,xs,ps))(hp:og.getD true=true→Pure P f xs r)(ak:OB ps)(k:VY P cfg ah ld K (bR og d r xr) σ):VY P cfg ah (⟨ix,⟨some d,op,g⟩,cf⟩::ld) K xr σ:=by
 unfold xn at h
 split at h
 ·split at h
  ·rename_i e
   simp only[Z1,Yw]at h
   obtain⟨rfl,rfl,rfl,rfl⟩:=h
   exact Xx e hp ak k
  ·cases h
 ·split at h
  ·rename_i e
   split at h
   ·rename_i b7
    simp only[Z1,Yw]at h
    obtain⟨rfl,rfl,rfl,rfl⟩:=h
    exact Xz e rfl b7 hp ak k
   ·cases h
  ·rename_i e
   split at h
   ·rename_i b7
    simp only[Z1,Yw]at h
    obtain⟨rfl,rfl,rfl,rfl⟩:=h
    exact Xy e b7 hp ak k
   ·cases h
  ·cases h
 ·cases h
end
theorem BL:(∀ (p:Prop) [Decidable p],(decide p=true)=p)∧(∀ (p:Prop) [Decidable p],(decide p=false)=¬p)∧((!true)=false)∧((!false)=true)∧(∀ b:Bool,((!b)=true)=(b=false))∧(∀ b:Bool,((!b)=false)=(b=true))
  ∧(∀ a b:Bool,((a && b)=true)=(a=true∧b=true))∧(∀ a b:Bool,((a || b)=true)=(a=true∨b=true))∧(∀ a b:Bool,((a && b)=false)=(a=false∨b=false))∧(∀ a b:Bool,((a || b)=false)=(a=false∧b=false))
  ∧(∀ b:Bool,(true && b)=b)∧(∀ b:Bool,(b && true)=b)∧(∀ b:Bool,(false || b)=b)∧(∀ b:Bool,(b || false)=b)∧(∀ p:Prop,(True→p)=p)∧(∀ n:Nat,(n:Int).toNat=n)∧(0:Int).toNat=0∧(1:Int).toNat=1
  ∧(∀ b:Bool,(b ^^ true)= !b)∧(∀ b:Bool,(b ^^ false)=b)
  ∧(∀ {α:Type} (a b:α),(a≠b)=¬(a=b))∧(∀ {α:Type} (a:α),(a=a)=True)∧(∀ {α:Type} (a b:α),(some a).getD b=a)∧(∀ {α:Type} (b:α),(none:Option α).getD b=b)∧(∀ (α:Type) [Nonempty α] (p:Prop),(α→p)=p):=by
 refine⟨fun p _=>by simp,fun p _=>by simp,rfl,rfl,?_,?_,?_,?_,?_,?_,?_,?_,?_,?_,fun p=>by simp,fun n=>by simp,rfl,rfl,?_,?_,fun a b=>by simp,fun a=>by simp,fun a b=>rfl,fun b=>rfl,fun α _ p=>by simp⟩<;>decide
theorem OB.r1{p:Prop}{ps:List Prop}(h:p)(t:OB ps):OB (p::ps):= .cons h t
abbrev q0(d:Nat)(o:aw):CI:=⟨some d,o,none⟩
abbrev q1(d:Nat)(o:aw)(t:Nat)(b:Bool):CI:=⟨some d,o,some (t,b)⟩
abbrev ki(n:Int):Operand:= .const (.int .i64 n)
abbrev ks(s:ByteArray):Operand:= .const (.string s)
abbrev kT:Operand:= .const (.bool true)
abbrev kF:Operand:= .const (.bool false)
theorem kf{x:Bool}{p:Prop}(h:x=false)(k:x=true):p:=by rw[h]at k;cases k
theorem kt{x:Bool}{p:Prop}(h:x=true)(k:x=false):p:=by rw[h]at k;cases k
theorem tF{p:Prop}(h:true=false):p:=nomatch h
theorem fT{p:Prop}(h:false=true):p:=nomatch h
section
theorem OB.k0{α:Type}{a:α}{ps:List Prop}(t:OB ps):OB ((a=a)::ps):=OB.rfl t
theorem OB.k1{ps:List Prop}(t:OB ps):OB (True::ps):=OB.tr t
theorem OB.k2{α:Type}{a:α}{c:Bool}{ps:List Prop}(t:OB ps):OB ((c=true→a=a)::ps):=OB.aes t
theorem OB.k3{c:Bool}{ps:List Prop}(t:OB ps):OB ((c=true→True)::ps):=OB.gtr t
theorem OB.k4{a:Prop}{ps:List Prop}(t:OB ps):OB ((a→a)::ps):=OB.self t
theorem OB.k5{a b:Bool}{ps:List Prop}(t:OB ps):OB (((a && b)=true→a=true)::ps):=OB.and t
end
section
variable {P:Program}[Glob P]{N:Nat}{cfg:Nat→Nat}{Q:Exit→ag→Store→Prop}{rg ao:ag}{σ σ':Store}{l:List CI}{a b:AC}{k k':List Fr}{xr:XR}{ah:List Nat}{ld:List CD}{ks:List Nat}{id:Nat}
theorem FK.k0(h:WK P N cfg Q b k rg σ):FK P N cfg Q .normal (.seq b::k) rg σ:=zY h
theorem FK.k1(h:FK P N cfg Q .normal k rg σ):FK P N cfg Q .normal (.jF id::k) rg σ:=V6 h
theorem FK.k2{K:ag→Store→Prop}(h:K rg σ):FK P N cfg Q .normal (.fn K::k) rg σ:=V7 h
theorem FK.k3(h:Q .normal rg σ):FK P N cfg Q .normal [] rg σ:=V8 h
theorem WK.k0(h:WK P N cfg Q a k ao σ)(hk:iE ks rg=some ao:=by exact rfl):WK P N cfg Q (.keep ks a) k rg σ:=kH hk h
theorem WK.k1(h:WK P N cfg Q a (.seq b::k) rg σ):WK P N cfg Q (.seq a b) k rg σ:=xg h
theorem WK.k2(h:VX P cfg l (FK P N cfg Q .normal k) (fun ch σ'=>FK P N cfg Q (.panic ch) k [] σ') xr σ)(hx:toXO rg=some xr:=by exact rfl):WK P N cfg Q (.cE l) k rg σ:=aaE hx h
theorem WK.k3(h:VY P cfg ah ld (Cl (FK P N cfg Q .normal k)) xr σ)(hx:toXO rg=some xr:=by exact rfl):WK P N cfg Q (.dC ah ld) k rg σ:=aaD hx h
theorem WK.k5(h:VY P cfg [] (bare l) (Cl (FK P N cfg Q .normal k)) xr σ)(hx:toXO rg=some xr:=by exact rfl):WK P N cfg Q (.dV l) k rg σ:=aaz hx h
theorem WK.k6(h:WK P N cfg Q a (.jF id::k) rg σ):WK P N cfg Q (.block id a) k rg σ:=aax h
theorem WK.k7(h:Q .ret rg σ):WK P N cfg Q .ret k rg σ:=aaF h
theorem WK.k8(h:FK P N cfg Q .normal k' rg σ)(hu:zJ k id=some k':=by exact rfl):WK P N cfg Q (.exit id) k rg σ:=aaC hu h
theorem WK.k9(h:FK P N cfg Q .normal k rg σ):WK P N cfg Q .skip k rg σ:=Gz h
theorem WK.cd{x:Operand}{c:Bool}(h1:c=true→WK P N cfg Q a k rg σ)(h2:c=false→WK P N cfg Q b k rg σ)(hx:Ax rg x=some c:=by exact rfl):WK P N cfg Q (.cond x a b) k rg σ:=aay hx h1 h2
end
section
variable {P:Program}[Glob P]{N:Nat}{cfg:Nat→Nat}{Q:Exit→ag→Store→Prop}{rg:ag}{σ:Store}{k:List Fr}{xr:XR}
theorem WK.k4{l l1 l2:List CI}{s:CI}(h:VY P cfg [] (bare l1) (wZ P cfg (FK P N cfg Q .normal k) s l2) xr σ)(hl:xt l=some (l1,s,l2):=by exact rfl)(fJ:ue l l1.length=true:=by exact rfl)(nj:s.g=none:=by exact rfl)(hx:toXO rg=some xr:=by exact rfl):WK P N cfg Q (.dV l) k rg σ:=aaB hl fJ nj hx h
theorem VX.k0{K:ag→Store→Prop}{E:List PanicEntry→Store→Prop}{l2:List CI}(h:VY P cfg [] (bare l2) (Cl K) xr σ):VX P cfg [] (Ab P cfg l2 K) E xr σ:=Xj h
theorem VY.k0{K:ag→Store→Prop}{s:CI}{l2:List CI}(h:VX P cfg [s] (Ab P cfg l2 K) (fun _ _=>False) xr σ):VY P cfg [] [] (wZ P cfg K s l2) xr σ:=aai h
end
section
variable {P:Program}[Glob P]{N:Nat}{cfg:Nat→Nat}{Q:Exit→ag→Store→Prop}{K:ag→Store→Prop}{E:List PanicEntry→Store→Prop}{rg:ag}{σ σ':Store}{l rest:List CI}{d:Nat}{op:aw}{p:Prop}{v:AV}{xr cT:XR}{ps:List Prop}{c:CI}{ah cf:List Nat}{ix:Nat}{ld Cj:List CD}{cd:CD}{g:Option (Nat×Bool)}{og:Option Bool}{as:List AV}{args:List Operand}
theorem VX.k1(h:K (den xr) σ):VX P cfg [] K E xr σ:=Xi h
theorem VY.k1(h:K (den xr) σ):VY P cfg ah [] (Cl K) xr σ:=aaj h
theorem VX.r1(hp:OB ps)(k:VX P cfg rest K E cT σ')(_h0:y9 cfg c.op=false:=by exact rfl)(h:Cm cfg (c::l) xr σ []=some (ps,cT,σ',rest):=by exact rfl):VX P cfg (c::l) K E xr σ:=Xl _h0 h hp k
theorem VY.r1(hp:OB ps)(k:VY P cfg ah Cj K cT σ')(_h0:y9 cfg cd.c.op=false:=by exact rfl)(h:runM cfg ah (cd::ld) xr σ []=some (ps,cT,σ',Cj):=by exact rfl):VY P cfg ah (cd::ld) K xr σ:=aak _h0 h hp k
theorem VX.l1{t:TypeId}{z:Value}{cs:List AV}(k:∀ b,VX P cfg l K E ((d,.s (.lp d b 0))::xr) ((d,b,.cells cs)::σ))(h:j4 (z.cells.toList.map .v) some=some cs:=by exact rfl):VX P cfg (⟨some d,.alloc t z,none⟩::l) K E xr σ:=Ak h k
theorem VY.l1{t:TypeId}{z:Value}{cs:List AV}(k:∀ b,VY P cfg ah ld K ((d,.s (.lp d b 0))::xr) ((d,b,.cells cs)::σ))(h:j4 (z.cells.toList.map .v) some=some cs:=by exact rfl):VY P cfg ah (⟨ix,⟨some d,.alloc t z,none⟩,cf⟩::ld) K xr σ:=Xr h k
theorem VX.l2{t:TypeId}{af:Nat}(k:∀ b,VX P cfg l K E ((d,.s (.own af d b 0 0 []))::xr) ((d,b,.tail 0 0)::σ))(hc:cfg d=1:=by exact rfl)(he:0<af:=by decide):VX P cfg (⟨some d,.bM t af [],none⟩::l) K E xr σ:=Xf hc he k
theorem VX.m1{t:TypeId}{x:Operand}{cs:List AV}(k:∀ b,VX P cfg l K E ((d,.s (.lp d b 0))::xr) ((d,b,.cells cs)::σ))(ak:OB ps)(h:aB xr none [x]=some (og,[v],ps):=by exact rfl)(hc:uQ v=some cs:=by exact rfl):VX P cfg (⟨some d,.box t x,none⟩::l) K E xr σ:=WX h hc ak k
theorem VY.m1{t:TypeId}{x:Operand}{cs:List AV}(k:∀ b,VY P cfg ah ld K ((d,.s (.lp d b 0))::xr) ((d,b,.cells cs)::σ))(ak:OB ps)(h:aB xr none [x]=some (og,[v],ps):=by exact rfl)(hc:uQ v=some cs:=by exact rfl):VY P cfg ah (⟨ix,⟨some d,.box t x,none⟩,cf⟩::ld) K xr σ:=Xw h hc ak k
theorem VX.m2{α:Type}{f:α→List AV}{ls:List α}{e:Nat}{x:Operand}(k:(og.getD true=true→ls.length≤maxLen)→VX P cfg l K E (bR og d (.v (.int .i64 ls.length)) xr) σ)(ak:OB ps)(h:aB xr g [x]=some (og,[v],ps):=by exact rfl)(hx:nF v=some (e,ls.map f):=by exact rfl):VX P cfg (⟨some d,.len false x,g⟩::l) K E xr σ:=Xb h hx ak k
theorem VX.m3{rows:List (List AV)}{e:Nat}{x:Operand}(k:(og.getD true=true→rows.length≤maxLen)→VX P cfg l K E (bR og d (.v (.int .i64 rows.length)) xr) σ)(ak:OB ps)(h:aB xr g [x]=some (og,[v],ps):=by exact rfl)(hx:nF v=some (e,rows):=by exact rfl):VX P cfg (⟨some d,.len false x,g⟩::l) K E xr σ:=Xc h hx ak k
theorem VY.r2{α:Type}{f:α→List AV}{ls:List α}{e:Nat}{x:Operand}(ak:OB ps)(k:VY P cfg ah ld K (bR og d (.v (.int .i64 ls.length)) xr) σ)(h:aB xr g [x]=some (og,[v],ps):=by exact rfl)(hx:nF v=some (e,ls.map f):=by exact rfl):VY P cfg ah (⟨ix,⟨some d,.len false x,g⟩,cf⟩::ld) K xr σ:=aaf h hx ak k
theorem VX.t1{α:Type}[Inhabited α]{f:α→List AV}{ls:List α}{e:Nat}{x i:Operand}{iv:AV}{n:Int}(ak:OB ps)(k:VX P cfg l K E (bR og d (.pc (f (ls.getD n.toNat default))) xr) σ)(hb:og.getD true=true→0≤n∧n<ls.length)(h:aB xr g [x,i]=some (og,[v,iv],ps):=by exact rfl)(hi:iL iv=some n:=by exact rfl)(hx:nF v=some (e,ls.map f):=by exact rfl):VX P cfg (⟨some d,.gE e x i,g⟩::l) K E xr σ:=W8 h hi hx ak k hb
theorem VY.t1{α:Type}[Inhabited α]{f:α→List AV}{ls:List α}{e:Nat}{x i:Operand}{iv:AV}{n:Int}(ak:OB ps)(k:VY P cfg ah ld K (bR og d (.pc (f (ls.getD n.toNat default))) xr) σ)(hb:og.getD true=true→0≤n∧n<ls.length)(h:aB xr g [x,i]=some (og,[v,iv],ps):=by exact rfl)(hi:iL iv=some n:=by exact rfl)(hx:nF v=some (e,ls.map f):=by exact rfl):VY P cfg ah (⟨ix,⟨some d,.gE e x i,g⟩,cf⟩::ld) K xr σ:=aad h hi hx ak k hb
theorem VX.u1{t:TypeId}{af bytes:Nat}{z:List Value}{x y:Operand}{w:AV}{rows:List (List AV)}(ak:OB ps)(hn:rows≠[])(hb:rows.length * bytes≤35184372088832)(k:∀ b u c,VX P cfg l K E ((d,.s (.own af d b u c rows))::xr) ((d,b,.tail u c)::σ))(h:aB xr none [x,y]=some (og,[.v (.slice none 0 0),w],ps):=by exact rfl)(hw:fb af w=some rows:=by exact rfl):VX P cfg (⟨some d,.append t af bytes z x y,none⟩::l) K E xr σ:=WU h hw ak hn hb k
theorem VX.u2{t:TypeId}{af bytes tg b u c:Nat}{z:List Value}{x y:Operand}{w:AV}{rows rows':List (List AV)}(ak:OB ps)(hb:(rows.length+rows'.length) * bytes≤35184372088832)(h1:rows'.all (fun r=>r.all AV.one)=true)(k:∀ b' u' c',VX P cfg l K E ((d,.s (.own af tg b' u' c' (rows++rows')))::xr) (cM σ tg b' (.tail u' c')))(h:aB xr none [x,y]=some (og,[.own af tg b u c rows,w],ps):=by exact rfl)(hw:fb af w=some rows':=by exact rfl)(hl:aR σ tg=some (b,.tail u c):=by exact rfl):VX P cfg (⟨some d,.append t af bytes z x y,none⟩::l) K E xr σ:=WT h hw hl ak hb h1 k
theorem VX.u3{t:TypeId}{af bytes:Nat}{z:List Value}{x y:Operand}{w:AV}{rows rows':List (List AV)}(ak:OB ps)(hb:(rows.length+rows'.length) * bytes≤35184372088832)(k0:rows'=[]→VX P cfg l K E ((d,.s (.fl af rows))::xr) σ)(k:rows'≠[]→∀ b u c,VX P cfg l K E ((d,.s (.own af d b u c (rows++rows')))::xr) ((d,b,.tail u c)::σ))(h:aB xr none [x,y]=some (og,[.fl af rows,w],ps):=by exact rfl)(hw:fb af w=some rows':=by exact rfl):VX P cfg (⟨some d,.append t af bytes z x y,none⟩::l) K E xr σ:=MD h hw ak hb k0 k
theorem VY.u1{t:TypeId}{af bytes:Nat}{z:List Value}{x y:Operand}{w:AV}{rows:List (List AV)}(ak:OB ps)(hn:rows≠[])(hb:rows.length * bytes≤35184372088832)(k:∀ b u c,VY P cfg ah ld K ((d,.s (.own af d b u c rows))::xr) ((d,b,.tail u c)::σ))(h:aB xr none [x,y]=some (og,[.v (.slice none 0 0),w],ps):=by exact rfl)(hw:fb af w=some rows:=by exact rfl)(hl:ah.elem d=true:=by exact rfl):VY P cfg ah (⟨ix,⟨some d,.append t af bytes z x y,none⟩,cf⟩::ld) K xr σ:=Xv h hw hl ak hn hb k
theorem VY.u2{t:TypeId}{af bytes tg b u c:Nat}{z:List Value}{x y:Operand}{w:AV}{rows rows':List (List AV)}(ak:OB ps)(hb:(rows.length+rows'.length) * bytes≤35184372088832)(h1:rows'.all (fun r=>r.all AV.one)=true)(k:∀ b' u' c',VY P cfg ah ld K ((d,.s (.own af tg b' u' c' (rows++rows')))::xr) (cM σ tg b' (.tail u' c')))(h:aB xr none [x,y]=some (og,[.own af tg b u c rows,w],ps):=by exact rfl)(hw:fb af w=some rows':=by exact rfl)(hl:aR σ tg=some (b,.tail u c):=by exact rfl)(ha:ah.elem d=true:=by exact rfl):VY P cfg ah (⟨ix,⟨some d,.append t af bytes z x y,none⟩,cf⟩::ld) K xr σ:=Xu h hw hl ha ak hb h1 k
theorem VY.u3{t:TypeId}{af bytes:Nat}{z:List Value}{x y:Operand}{w:AV}{rows rows':List (List AV)}(ak:OB ps)(hb:(rows.length+rows'.length) * bytes≤35184372088832)(k0:rows'=[]→VY P cfg ah ld K ((d,.s (.fl af rows))::xr) σ)(k:rows'≠[]→∀ b u c,VY P cfg ah ld K ((d,.s (.own af d b u c (rows++rows')))::xr) ((d,b,.tail u c)::σ))(h:aB xr none [x,y]=some (og,[.fl af rows,w],ps):=by exact rfl)(hw:fb af w=some rows':=by exact rfl)(ha:ah.elem d=true:=by exact rfl):VY P cfg ah (⟨ix,⟨some d,.append t af bytes z x y,none⟩,cf⟩::ld) K xr σ:=MH h hw ha ak hb k0 k
theorem VX.r8(hp:OB ps)(k:VX P cfg l K E cT σ')(h:wm cfg (fun _ _=>true) c xr σ [] (fun ps xr σ=>some (ps,xr,σ))=some (ps,cT,σ'):=by exact rfl):VX P cfg (c::l) K E xr σ:=W5 h hp k
theorem VY.r8(hp:OB ps)(k:VY P cfg ah ld K cT σ')(h:wm cfg (my ah cd.cf) cd.c xr σ [] (fun ps xr σ=>some (ps,xr,σ))=some (ps,cT,σ'):=by exact rfl):VY P cfg ah (cd::ld) K xr σ:=XC h hp k
end
section
variable {P:Program}[Glob P]{N:Nat}{cfg:Nat→Nat}{Q:Exit→ag→Store→Prop}{K:ag→Store→Prop}{E:List PanicEntry→Store→Prop}{rg:ag}{σ σ':Store}{l:List CI}{d:Nat}{v:AV}{xr cT:XR}{ps:List Prop}{ah cf:List Nat}{ix:Nat}{ld:List CD}{g:Option (Nat×Bool)}{og:Option Bool}{as:List AV}{args:List Operand}{op:Op}{ty:TypeId}{ti:List TI}
theorem VX.l3{t:TypeId}(k:∀ b,VX P cfg l K E ((d,.s (.eu d b))::xr) ((d,b,.map [] 0)::σ)):VX P cfg (⟨some d,.exts (.makeMap t none) ty ti [],none⟩::l) K E xr σ:=Xg k
theorem VX.t5{x i:Operand}{s:ByteArray}{iv:AV}{n:Int}(ak:OB ps)(hb:og.getD true=true→0≤n∧n<s.size)(k:VX P cfg l K E (bR og d (.v (.int .u8 (bZ s n.toNat).toNat)) xr) σ)(h:aB xr g [x,i]=some (og,[.v (.string s),iv],ps):=by exact rfl)(hi:iL iv=some n:=by exact rfl):VX P cfg (⟨some d,.idxs x i,g⟩::l) K E xr σ:=W9 h hi ak hb k
theorem VY.t5{x i:Operand}{s:ByteArray}{iv:AV}{n:Int}(ak:OB ps)(hb:og.getD true=true→0≤n∧n<s.size)(k:VY P cfg ah ld K (bR og d (.v (.int .u8 (bZ s n.toNat).toNat)) xr) σ)(h:aB xr g [x,i]=some (og,[.v (.string s),iv],ps):=by exact rfl)(hi:iL iv=some n:=by exact rfl):VY P cfg ah (⟨ix,⟨some d,.idxs x i,g⟩,cf⟩::ld) K xr σ:=aae h hi ak hb k
theorem VX.t6{t:TypeId}{x:Operand}{lo hi:Option Operand}{s:ByteArray}{a b:Int}(ak:OB ps)(hb:og.getD true=true→0≤a∧a≤b∧b≤s.size)(k:VX P cfg l K E (bR og d (.v (.string (s.extract a.toNat b.toNat))) xr) σ)(h:aB xr g args=some (og,as,ps):=by exact rfl)(he:args=x::(lo.toList++hi.toList):=by exact rfl)(hs:y5 lo hi as=some (s,a,b):=by exact rfl):VX P cfg (⟨some d,.cH (.slice t x lo hi none) ty [.str] args,g⟩::l) K E xr σ:=Xp h he hs ak hb k
theorem VY.t6{t:TypeId}{x:Operand}{lo hi:Option Operand}{s:ByteArray}{a b:Int}(ak:OB ps)(hb:og.getD true=true→0≤a∧a≤b∧b≤s.size)(k:VY P cfg ah ld K (bR og d (.v (.string (s.extract a.toNat b.toNat))) xr) σ)(h:aB xr g args=some (og,as,ps):=by exact rfl)(he:args=x::(lo.toList++hi.toList):=by exact rfl)(hs:y5 lo hi as=some (s,a,b):=by exact rfl):VY P cfg ah (⟨ix,⟨some d,.cH (.slice t x lo hi none) ty [.str] args,g⟩,cf⟩::ld) K xr σ:=aal h he hs ak hb k
theorem VX.t7{src dst e:TypeId}{x:Operand}{q:TI}{s:ByteArray}(ak:OB ps)(hb:og.getD true=true→s.size≤9223372036854775806)(k:VX P cfg l K E (bR og d (.sl true 1 (s.data.toList.map ck)) xr) σ)(h:aB xr g [x]=some (og,[.v (.string s)],ps):=by exact rfl):VX P cfg (⟨some d,.cH (.convert src dst x) ty [.str,q,.sl e,.int .u8] [x],g⟩::l) K E xr σ:=W4 h ak hb k
theorem VY.t7{src dst e:TypeId}{x:Operand}{q:TI}{s:ByteArray}(ak:OB ps)(hb:og.getD true=true→s.size≤9223372036854775806)(k:VY P cfg ah ld K (bR og d (.sl true 1 (s.data.toList.map ck)) xr) σ)(h:aB xr g [x]=some (og,[.v (.string s)],ps):=by exact rfl):VY P cfg ah (⟨ix,⟨some d,.cH (.convert src dst x) ty [.str,q,.sl e,.int .u8] [x],g⟩,cf⟩::ld) K xr σ:=XB h ak hb k
theorem VX.r5{src dst e:TypeId}{x:Operand}{q:TI}{ls:List UInt8}(ak:OB ps)(k:VX P cfg l K E (bR og d (.v (.string ⟨ls.toArray⟩)) xr) σ)(h:aB xr g [x]=some (og,[v],ps):=by exact rfl)(hv:fb 1 v=some (ls.map ck):=by exact rfl)(hn:B1 v=true:=by exact rfl):VX P cfg (⟨some d,.cH (.convert src dst x) ty [.sl e,.int .u8,.str,q] [x],g⟩::l) K E xr σ:=W3 h hv hn ak k
theorem VY.r5{src dst e:TypeId}{x:Operand}{q:TI}{ls:List UInt8}(ak:OB ps)(k:VY P cfg ah ld K (bR og d (.v (.string ⟨ls.toArray⟩)) xr) σ)(h:aB xr g [x]=some (og,[v],ps):=by exact rfl)(hv:fb 1 v=some (ls.map ck):=by exact rfl)(hn:B1 v=true:=by exact rfl):VY P cfg ah (⟨ix,⟨some d,.cH (.convert src dst x) ty [.sl e,.int .u8,.str,q] [x],g⟩,cf⟩::ld) K xr σ:=XA h hv hn ak k
theorem VX.r6{t kt vt:TypeId}{q:TI}{kd:TypeDesc}{m k x:Operand}{tg b b' eL:Nat}{es:List (Value×Nat×AV)}{key:Value}(ak:OB ps)(kk:VX P cfg l K E xr σ')(h:aB xr none [m,k,x]=some (og,[.eu tg b,.v key,v],ps):=by exact rfl)(hp:qj q=some kd:=by exact rfl)(hl:aR σ tg=some (b',.map es eL):=by exact rfl)(hb:b=b':=by exact rfl)(hf:nW kd key es=some none:=by exact rfl)(hu:wy σ tg b (.map (es++[(key,eL,v)]) (eL+1))=some σ':=by exact rfl):VX P cfg (⟨none,.exts (.insert t m k x) ty [.mp kt vt,q] [m,k,x],none⟩::l) K E xr σ:=Xa h hp hl hb hf hu ak kk
theorem VX.r7{t kt vt:TypeId}{q:TI}{kd:TypeDesc}{m k:Operand}{tg b b' eL:Nat}{es:List (Value×Nat×AV)}{key:Value}(ak:OB ps)(kk:VX P cfg l K E ((d,.s v)::xr) σ)(h:aB xr none [m,k]=some (og,[.eu tg b,.v key],ps):=by exact rfl)(hp:qj q=some kd:=by exact rfl)(hl:aR σ tg=some (b',.map es eL):=by exact rfl)(hb:b=b':=by exact rfl)(hf:nW kd key es=some (some v):=by exact rfl):VX P cfg (⟨some d,.cH (.lookup t m k false) ty [.mp kt vt,q] [m,k],none⟩::l) K E xr σ:=Xd h hp hl hb hf ak kk
end
section
variable {P:Program}[Glob P]{cfg:Nat→Nat}{K:ag→Store→Prop}{E:List PanicEntry→Store→Prop}{σ:Store}{l:List CI}{d:Nat}{v:AV}{xr:XR}{ps:List Prop}{g:Option (Nat×Bool)}{og:Option Bool}
theorem VX.t2{α:Type}{f:α→List AV}{ls:List α}{e:Nat}{nn:Bool}{x y:Operand}{hv:AV}{h:Int}(ak:OB ps)(hb:og.getD true=true→0≤h∧h≤ls.length)(k:VX P cfg l K E (bR og d (.sl nn e ((ls.take h.toNat).map f)) xr) σ)(ha:aB xr g [x,y]=some (og,[v,hv],ps):=by exact rfl)(hi:iL hv=some h:=by exact rfl)(hx:ud v=some (nn,e,ls.map f):=by exact rfl):VX P cfg (⟨some d,.slice e x none (some y),g⟩::l) K E xr σ:=Xn ha hi hx ak hb k
theorem VX.t3{α:Type}{f:α→List AV}{ls:List α}{e:Nat}{nn:Bool}{x y:Operand}{hv:AV}{h:Int}(ak:OB ps)(hb:og.getD true=true→0≤h∧h≤ls.length)(k:VX P cfg l K E (bR og d (.sl nn e ((ls.drop h.toNat).map f)) xr) σ)(ha:aB xr g [x,y]=some (og,[v,hv],ps):=by exact rfl)(hi:iL hv=some h:=by exact rfl)(hx:ud v=some (nn,e,ls.map f):=by exact rfl):VX P cfg (⟨some d,.slice e x (some y) none,g⟩::l) K E xr σ:=Xo ha hi hx ak hb k
theorem VX.t4{α:Type}{f:α→List AV}{ls:List α}{e:Nat}{nn:Bool}{x y z:Operand}{lv hv:AV}{lo h:Int}(ak:OB ps)(hb:og.getD true=true→0≤lo∧lo≤h∧h≤ls.length)(k:VX P cfg l K E (bR og d (.sl nn e (((ls.take h.toNat).drop lo.toNat).map f)) xr) σ)(ha:aB xr g [x,y,z]=some (og,[v,lv,hv],ps):=by exact rfl)(hl:iL lv=some lo:=by exact rfl)(hi:iL hv=some h:=by exact rfl)(hx:ud v=some (nn,e,ls.map f):=by exact rfl):VX P cfg (⟨some d,.slice e x (some y) (some z),g⟩::l) K E xr σ:=Xm ha hl hi hx ak hb k
theorem uF.k0{I:Nat→ag→Store→Prop}{n:Nat}{ks:List Nat}{rg cQ:ag}{σ:Store}(h:∃ n',n'<n∧∃ ao σ',fm cQ ao∧Sub σ' σ∧I n' ao σ')(hk:iE ks rg=some cQ:=by exact rfl):uF I n ks rg σ:=uF.intro hk h
end
section
variable {P:Program}[Glob P]{N:Nat}{cfg:Nat→Nat}{K:ag→Store→Prop}{E:List PanicEntry→Store→Prop}{σ:Store}{l:List CI}{d n:Nat}{v y:AV}{xr:XR}{ps:List Prop}{g:Option (Nat×Bool)}{og:Option Bool}{ah cf:List Nat}{ix:Nat}{ld:List CD}{t b b' o:Nat}{cs cs' ys l':List AV}{x z:Operand}
theorem VX.r9{gv:Nat}(ak:OB ps)(k:VX P cfg l K E (bR og d y xr) σ)(h:aB xr g [x]=some (og,[.v (.pointer (some ⟨gv,0,none⟩))],ps):=by exact rfl)(hl:Glob.av P gv=some cs:=by exact rfl)(hy:cs[0]? =some y:=by exact rfl):VX P cfg (⟨some d,.load false n x,g⟩::l) K E xr σ:=W6 h hl hy ak k
theorem VY.r9{gv:Nat}(ak:OB ps)(k:VY P cfg ah ld K (bR og d y xr) σ)(h:aB xr g [x]=some (og,[.v (.pointer (some ⟨gv,0,none⟩))],ps):=by exact rfl)(hl:Glob.av P gv=some cs:=by exact rfl)(hy:cs[0]? =some y:=by exact rfl)(bK:my ah cf xr (.load false n x)=true:=by exact rfl):VY P cfg ah (⟨ix,⟨some d,.load false n x,g⟩,cf⟩::ld) K xr σ:=aab h hl hy bK ak k
theorem VX.ra{gv:Nat}(ak:OB ps)(k:VX P cfg l K E (bR og d (.agg ys) xr) σ)(h:aB xr g [x]=some (og,[.v (.pointer (some ⟨gv,0,none⟩))],ps):=by exact rfl)(hl:Glob.av P gv=some cs:=by exact rfl)(hy:cs.take n=ys∧n≤cs.length:=by exact⟨rfl,by decide⟩):VX P cfg (⟨some d,.load true n x,g⟩::l) K E xr σ:=W7 h hl hy ak k
theorem VY.ra{gv:Nat}(ak:OB ps)(k:VY P cfg ah ld K (bR og d (.agg ys) xr) σ)(h:aB xr g [x]=some (og,[.v (.pointer (some ⟨gv,0,none⟩))],ps):=by exact rfl)(hl:Glob.av P gv=some cs:=by exact rfl)(hy:cs.take n=ys∧n≤cs.length:=by exact⟨rfl,by decide⟩)(bK:my ah cf xr (.load true n x)=true:=by exact rfl):VY P cfg ah (⟨ix,⟨some d,.load true n x,g⟩,cf⟩::ld) K xr σ:=aac h hl hy bK ak k
end
section
variable {P:Program}[Glob P]{cfg:Nat→Nat}{K:ag→Store→Prop}{E:List PanicEntry→Store→Prop}{σ:Store}{l:List CI}{d:Nat}{xr:XR}{ps:List Prop}{g:Option (Nat×Bool)}{og:Option Bool}{op:aw}{f:FuncId}{xs:List AV}{r:AV}
theorem VX.an(h:xn P xr g op=some (og,f,xs,ps))(hp:og.getD true=true→Pure P f xs r)(ak:OB ps)(k:VX P cfg l K E (bR og d r xr) σ):VX P cfg (⟨some d,op,g⟩::l) K E xr σ:=WS h hp ak k
end
section
variable {P:Program}[Glob P]{cfg:Nat→Nat}{K:ag→Store→Prop}{σ:Store}{d:Nat}{xr:XR}{ps:List Prop}{g:Option (Nat×Bool)}{og:Option Bool}{op:aw}{f:FuncId}{xs:List AV}{r:AV}{ah cf:List Nat}{ix:Nat}{ld:List CD}
theorem VY.an(h:xn P xr g op=some (og,f,xs,ps))(hp:og.getD true=true→Pure P f xs r)(ak:OB ps)(k:VY P cfg ah ld K (bR og d r xr) σ):VY P cfg ah (⟨ix,⟨some d,op,g⟩,cf⟩::ld) K xr σ:=Xt h hp ak k
end
section
variable {α:Type}
theorem mD.r1{rg:ag}{σ:Store}{v:AV}{ps:List Prop}{res:List RC}{R:dH→Store→Prop}(hp:OB ps)(h:R (.ret v) σ)(e:rK rg σ res=some (ps,v):=by exact rfl):mD res R .ret rg σ:=ah4 e hp h
theorem mD.r2{rg:ag}{σ:Store}{v:AV}{ps:List Prop}{res:List RC}{R:dH→Store→Prop}(hp:OB ps)(h:R (.ret v) σ)(e:rK rg σ res=some (ps,v):=by exact rfl):mD res R .normal rg σ:=ah3 e hp h
theorem nE.r1{rg:ag}{σ fY:Store}{v r:AV}{ps:List Prop}{res:List RC}(hp:OB ps)(h:Fin fY r v σ)(e:rK rg σ res=some (ps,v):=by exact rfl):nE res r fY .ret rg σ:=ahv e hp h
theorem nE.r2{rg:ag}{σ fY:Store}{v r:AV}{ps:List Prop}{res:List RC}(hp:OB ps)(h:Fin fY r v σ)(e:rK rg σ res=some (ps,v):=by exact rfl):nE res r fY .normal rg σ:=ahu e hp h
end
theorem Zs{σ σ':Store}(h:Sub σ σ':=by repeat' first|exact .refl _|refine .same ?_|refine .cons ?_):Sub σ σ':=h
theorem Zr{a b:ag}(h:fm a b:=by repeat' first|exact .row|exact .refl _|exact .nil|refine .cons ?_ ?_|refine .aT ?_|refine .agg ?_|exact .sl|exact .own _|exact .tag):fm a b:=h
theorem Zw{fY σ:Store}{r x:AV}(h:Sub fY σ:=by repeat' first|exact .refl _|refine .same ?_|refine .cons ?_)(w:Wk x r:=by repeat' first|exact .refl _|exact .nil|refine .cons ?_ ?_|refine .aT ?_|refine .agg ?_|exact .sl|exact .own _):Fin fY r x σ:=⟨w,h⟩
theorem Zo{p q:Prop}(h:p→q:=by intro br;first|(simp_all;done)|(simp only[BL]at *;first|(simp_all;done)|omega)):p→q:=h
end Go.Sx
set_option linter.unusedSimpArgs false
namespace Go.Sx
open Go.RowKit
theorem Inv.after{P:Program}[Glob P]{M:Mem}{w0:Base}{w w':World}{σ:Store}(hI:Inv P M w0 σ w)(hb:Below w.heap.size w w'):Inv P M w0 σ w' where
 os:=hb.os.trans hI.os
 tape:=hb.tape.trans hI.tape
 output:=hb.output.trans hI.output
 size:=Zk hI.size hb.size
 old:=fun k hk=>(hb.block k (Yx hk hI.size)).trans (hI.old k hk)
 dA:=fun b o v h=>by
  have h1:=hI.dA b o v h
  rw[hb.cell (World.block_lt_of_cell? _ _ h1)];exact h1
 st:=fun e he=>by
  obtain⟨h1,h2⟩:=hI.st e he
  refine⟨h1,?_⟩
  have ax:∀ {b:Nat} {cs t f},w.heap[b]? =some (.cells cs t f)→w'.heap[b]? =some (.cells cs t f):=fun {b cs t f} h=>by
   rw[hb.block b (ZX.1 h).1];exact h
  cases hx:e.2.2 with
  |cells l=>
   rw[hx]at h2
   obtain⟨a1,cs,t,a2,a3⟩:=h2
   exact⟨a1,cs,t,ax a2,a3⟩
  |tail u c=>
   rw[hx]at h2
   obtain⟨a1,cs,t,a2,a3⟩:=h2
   exact⟨a1,cs,t,ax a2,a3⟩
  |map es k=>
   rw[hx]at h2
   obtain⟨a1,l,a2,a3⟩:=h2
   refine⟨a1,l,?_,a3⟩
   rw[hb.block e.2.1 (ZX.1 a2).1];exact a2
 nd:=hI.nd
 gl:=hI.gl
 gw:=hI.gw
 bm:=hI.bm
theorem Pure.lj{P:Program}[Glob P]{f:FuncId}{as:List AV}{r:AV}
  (h:∀ (M:Mem) (w0:Base) (w:World) (σ:Store) (cs:List Value),Inv P M w0 σ w→RL M as cs→Calls P f cs.toArray w fun e w'=>(∃ v,e= .returned v∧R M r v)∧Below w.heap.size w w'):Pure P f as r:=
 ⟨fun σ M w0 w cs hI hR=>(h M w0 w σ cs hI hR).mono fun e w' ⟨⟨v,he,hv⟩,hb⟩=>⟨M,.ret r,σ,Mem.le.refl _,hI.after hb,by subst he;exact hv,rfl,rfl⟩⟩
end Go.Sx
