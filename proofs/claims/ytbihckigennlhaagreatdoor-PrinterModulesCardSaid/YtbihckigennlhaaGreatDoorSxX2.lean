/-
  The layer Sx, nineteenth part: the rules for whole runs.
-/
import Derived.Test.YtbihckigennlhaaGreatDoorSxX
import Derived.IntWalk
set_option linter.unusedVariables false
set_option linter.unusedSimpArgs false
set_option linter.unusedSectionVars false
namespace Go.Sx
open Go.RowKit
def toXO:ae→Option XR
 |[]=>some []
 |(i,x)::r=>match toXO r with
  |some l=>some ((i,.s x)::l)
  |none=>none
theorem tV:∀ {rg:ae} {xr:XR},toXO rg=some xr→toX rg=xr
 |[],_,h=>by cases h;rfl
 |(i,x)::r,xr,h=>by
  simp only[toXO]at h
  split at h
  ·rename_i e;cases h;rw[toX,tV e]
  ·cases h
def bF(og:Option Bool)(d:Nat)(v:AV)(xr:XR):XR:=(d,match og with
 |none=> .s v
 |some b=> .o b v)::xr
def aA(xr:XR)(g:Option (Nat×Bool))(args:List Operand):Option (Option Bool×List AV×List Prop):=
 gX xr g fun og=>tB og xr (tmpsOf args) [] fun ps=>match DI (raw xr) args with
  |some as=>some (og,as,ps)
  |none=>none
section
variable {P:Program}[Glob P]{N:Nat}{cfg:Nat→Nat}{Q:Exit→ae→Store→Prop}{K:ae→Store→Prop}{E:List PanicEntry→Store→Prop}{rg:ae}{σ σ':Store}{l rest:List CI}{d:Nat}{op:aw}{p:Prop}{v:AV}{xr cu:XR}{ps:List Prop}{c:CI}
 {ah cf:List Nat} {ix:Nat} {ld yW:List CD} {cd:CD} {g:Option (Nat×Bool)} {og:Option Bool} {as:List AV} {args:List Operand}
theorem eP(h:og.getD true=true):den (bF og d v xr)=(d,v)::den xr:=by
 cases og with
 |none=>rfl
 |some b=>have h:b=true:=h;subst h;rfl
theorem eO(h:og.getD true=false):den (bF og d v xr)=(d,.v undef)::den xr:=by
 cases og with
 |none=>cases h
 |some b=>have h:b=false:=h;subst h;rfl
theorem bZ(h:aA xr g args=some (og,as,ps)):qe xr g og∧(OB ps→og.getD true=true→aU (den xr) args=as):=by
 unfold aA at h
 obtain⟨b,h,hc,_⟩:=DW h
 obtain⟨bg,h,_,h3⟩:=fD h
 split at h
 ·rename_i as' e
  cases h
  refine⟨hc,fun hp hg=> ?_⟩
  rw[← jz args (h3 hp.all hg)]
  exact JZ e
 ·cases h
theorem R4(hx:toXO rg=some xr)(h:VX P cfg l (Q .normal) (fun ch σ'=>Q (.panic ch) [] σ') xr σ):WA P N cfg (.cj l) Q rg σ:=
 ⟨rfl,QF cfg (by have:=h.h;rwa [← tV hx,sq]at this)⟩
theorem R3{ld:List CD}(hx:toXO rg=some xr)(h:VY P cfg ah ld (Cl (Q .normal)) xr σ):WA P N cfg (.dr ah ld) Q rg σ:=
 ⟨rfl,QD cfg (by have:=h.h;rwa [← tV hx,sq]at this)⟩
theorem RZ(hx:toXO rg=some xr)(h:VY P cfg [] (bare l) (Cl (Q .normal)) xr σ):WA P N cfg (.azZ l) Q rg σ:=
 ⟨rfl,QA cfg (by have:=h.h;rwa [← tV hx,sq]at this)⟩
theorem Rm(h:K (den xr) σ):VX P cfg [] K E xr σ:=⟨h⟩
theorem Rp(_h0:wz cfg c.op=false)(h:yY cfg (c::l) xr σ []=some (ps,cu,σ',rest))(hp:OB ps)(k:VX P cfg rest K E cu σ'):VX P cfg (c::l) K E xr σ:=
 ⟨(On h).2 hp.all k.h⟩
theorem Q8(h:rE cfg (fun _ _=>true) c xr σ [] (fun ps xr σ=>some (ps,xr,σ))=some (ps,cu,σ'))(hp:OB ps)(k:VX P cfg l K E cu σ'):VX P cfg (c::l) K E xr σ:=by
 constructor
 obtain⟨BR,Hf,br,b,h,h2,hc,h3⟩:=Cd h
 cases h
 obtain⟨s1,s2⟩:=h3 hp.all
 simp only[dW]
 rw[G1]
 refine hc _ _ (fun hg=> ?_) (fun hg=> ?_)
 ·obtain⟨v,ho,hd⟩:=s1 hg
  exact Nw ho (by rw[← hd];exact k.h)
 ·obtain⟨e,hd⟩:=s2 hg
  rw[← hd,← e];exact k.h
theorem Ol{α:Type}[Inhabited α]{f:α→List AV}{ls:List α}{n:Int}(h:0≤n∧n<ls.length):(ls.map f).getD n.toNat []=f (ls.getD n.toNat default):=by
 have aH:n.toNat<ls.length:=by omega
 simp[Z1,aH]
theorem gU(hc:qe xr g og)(h1:og.getD true=true→aj P cfg (some d) (den xr) σ (fun x σ'=>dW P cfg l K E ((d,x)::den xr) σ') E op)(h2:og.getD true=false→dW P cfg l K E ((d,.v undef)::den xr) σ):VX P cfg (⟨some d,op,g⟩::l) K E xr σ:=by
 constructor
 simp only[dW]
 rw[G1]
 exact hc _ _ h1 h2
theorem Q0{f:FuncId}{r:AV}(h:aA xr g args=some (og,as,ps))(hp:og.getD true=true→Pure P f as r)(al:OB ps)(k:VX P cfg l K E (bF og d r xr) σ):VX P cfg (⟨some d,.call f args,g⟩::l) K E xr σ:=by
 obtain⟨hc,he⟩:=bZ h
 refine gU hc (fun hg=> ?_) (fun hg=> ?_)
 ·simp only[aj,he al hg]
  refine uO (hp hg) ?_
  rw[← eP hg];exact k.h
 ·rw[← eO hg (v:=r)];exact k.h
theorem Q4{f:FuncId}{r fv:AV}{fo:Operand}{a c:Array Value}(h:aA xr g (fo::args)=some (og,fv::as,ps))(hf:uY fv=some (f,a,c))(bJ:gV P f=true)(hp:og.getD true=true→Pure P f (a.toList.map .v++as++c.toList.map .v) r)(al:OB ps)(k:VX P cfg l K E (bF og d r xr) σ):
  VX P cfg (⟨some d,.dA fo args,g⟩::l) K E xr σ:=by
 obtain⟨hc,he⟩:=bZ h
 refine gU hc (fun hg=> ?_) (fun hg=> ?_)
 ·have:=he al hg
  simp only[aU,ZW]at this
  simp only[aj,this.1,this.2,AR hf]
  refine⟨bJ,uO (hp hg) ?_⟩
  rw[← eP hg];exact k.h
 ·rw[← eO hg (v:=r)];exact k.h
theorem se{f:FuncId}{R:dj→Store→Prop}(h:aA xr none args=some (og,as,ps))(hp:Spec P f as σ R)(al:OB ps)(k:∀ x σ',R (.ret x) σ'→VX P cfg l K E ((d,.s x)::xr) σ')(e:∀ ch σ',R (.cL ch) σ'→E ch σ'):
  VX P cfg (⟨some d,.call f args,none⟩::l) K E xr σ:=by
 obtain⟨hc,he⟩:=bZ h
 unfold aA gX at h
 obtain⟨bg,h',_,_⟩:=fD h
 have cI:og=none:=by split at h'<;>cases h';rfl
 subst cI
 refine gU hc (fun hg=> ?_) (fun hg=>nomatch hg)
 simp only[aj,he al hg]
 exact⟨R,hp,fun x σ' hr=>(k x σ' hr).h,e⟩
theorem C3{d:Option Nat}{x:Operand}{t:TypeId}{y:AV}{v:Value}(h:aA xr none [x]=some (og,[.gM t y],ps))(hv:lB [y]=some [v])(al:OB ps)(e:E [{v:= .iface t v,recovered:=false}] σ):
  VX P cfg (⟨d,.panic x,none⟩::l) K E xr σ:=by
 obtain⟨hc,he⟩:=bZ h
 unfold aA gX at h
 obtain⟨bg,h',_,_⟩:=fD h
 have cI:og=none:=by split at h'<;>cases h';rfl
 subst cI
 constructor
 have:=he al rfl
 simp only[aU,ZW,and_true]at this
 simp only[dW,di,aj,this,hv]
 exact e
theorem Rf{α:Type}{f:α→List AV}{ls:List α}{e:Nat}{x:Operand}(h:aA xr g [x]=some (og,[v],ps))(hx:lX v=some (e,ls.map f))(al:OB ps)(k:(og.getD true=true→ls.length≤maxLen)→VX P cfg l K E (bF og d (.v (.int .i64 ls.length)) xr) σ):
  VX P cfg (⟨some d,.len false x,g⟩::l) K E xr σ:=by
 obtain⟨hc,he⟩:=bZ h
 refine gU hc (fun hg=> ?_) (fun hg=> ?_)
 ·have:=he al hg
  simp only[aU,ZW,and_true]at this
  rcases yX hx with⟨nn,e2⟩|⟨t,b,u,c,e2⟩<;>simp only[aj,this,e2,Z3]<;>(intro hl;rw[← eP hg];exact(k fun _=>hl).h)
 ·rw[← eO hg (v:= .v (.int .i64 ls.length))];exact(k fun x4=>by rw[hg]at x4;cases x4).h
theorem Rg{rows:List (List AV)}{e:Nat}{x:Operand}(h:aA xr g [x]=some (og,[v],ps))(hx:lX v=some (e,rows))(al:OB ps)(k:(og.getD true=true→rows.length≤maxLen)→VX P cfg l K E (bF og d (.v (.int .i64 rows.length)) xr) σ):
  VX P cfg (⟨some d,.len false x,g⟩::l) K E xr σ:=by
 obtain⟨hc,he⟩:=bZ h
 refine gU hc (fun hg=> ?_) (fun hg=> ?_)
 ·have:=he al hg
  simp only[aU,ZW,and_true]at this
  rcases yX hx with⟨nn,e2⟩|⟨t,b,u,c,e2⟩<;>simp only[aj,this,e2]<;>(intro hl;rw[← eP hg];exact(k fun _=>hl).h)
 ·rw[← eO hg (v:= .v (.int .i64 rows.length))];exact(k fun x4=>by rw[hg]at x4;cases x4).h
theorem Rb{α:Type}[Inhabited α]{f:α→List AV}{ls:List α}{e:Nat}{x i:Operand}{iv:AV}{n:Int}(h:aA xr g [x,i]=some (og,[v,iv],ps))(hi:ic iv=some n)(hx:lX v=some (e,ls.map f))(al:OB ps)
  (k:VX P cfg l K E (bF og d (.pc (f (ls.getD n.toNat default))) xr) σ) (hb:og.getD true=true→0≤n∧n<ls.length):
  VX P cfg (⟨some d,.eH e x i,g⟩::l) K E xr σ:=by
 obtain⟨hc,he⟩:=bZ h
 refine gU hc (fun hg=> ?_) (fun hg=> ?_)
 ·have:=he al hg
  simp only[aU,ZW,and_true]at this
  obtain⟨q,hq⟩:=qS hi
  have hb:=hb hg
  have EA:=Ol (f:=f) hb
  rcases yX hx with⟨nn,e2⟩|⟨t,b,u,c,e2⟩<;>simp only[aj,this.1,this.2,e2,hq,Z3,EA]<;>(rw[← eP hg];exact⟨trivial,hb.1,hb.2,k.h⟩)
 ·rw[← eO hg (v:= .pc (f (ls.getD n.toNat default)))];exact k.h
theorem xh{t:TypeId}{z:Value}{cs:List AV}(h:jB (z.cells.toList.map .v) some=some cs)(k:∀ b,VX P cfg l K E ((d,.s (.lp d b 0))::xr) ((d,b,.cells cs)::σ)):VX P cfg (⟨some d,.alloc t z,none⟩::l) K E xr σ:=by
 constructor
 have h:=iT h
 cases h
 simp only[dW,di,aj];exact fun b=>(k b).h
theorem QZ{t:TypeId}{x:Operand}{cs:List AV}(h:aA xr none [x]=some (og,[v],ps))(hc:sj v=some cs)(al:OB ps)(k:∀ b,VX P cfg l K E ((d,.s (.lp d b 0))::xr) ((d,b,.cells cs)::σ)):VX P cfg (⟨some d,.box t x,none⟩::l) K E xr σ:=by
 obtain⟨_,he⟩:=bZ h
 unfold aA gX at h
 obtain⟨bg,h',_,_⟩:=fD h
 have cI:og=none:=by split at h'<;>cases h';rfl
 subst cI
 have:=he al rfl
 simp only[aU,ZW,and_true]at this
 constructor
 simp only[dW,di,aj,this,Du hc];exact fun b=>(k b).h
theorem Rj{t:TypeId}{ag:Nat}(hc:cfg d=1)(he:0<ag)(k:∀ b,VX P cfg l K E ((d,.s (.own ag d b 0 0 []))::xr) ((d,b,.tail 0 0)::σ)):VX P cfg (⟨some d,.aZ t ag [],none⟩::l) K E xr σ:=by
 constructor
 simp only[dW,di,aj,aU,rowsOf,ZE,hc,Z4,Nat.zero_mul]
 exact⟨ZK _,he,fun b=>(k b).h⟩
theorem QU{t:TypeId}{ag bytes:Nat}{z:List Value}{x y:Operand}{w:AV}{rows:List (List AV)}(h:aA xr none [x,y]=some (og,[.v (.slice none 0 0),w],ps))(hw:eQ ag w=some rows)(al:OB ps)(hn:rows≠[])(hb:rows.length * bytes≤35184372088832)
  (k:∀ b u c,VX P cfg l K E ((d,.s (.own ag d b u c rows))::xr) ((d,b,.tail u c)::σ)):VX P cfg (⟨some d,.append t ag bytes z x y,none⟩::l) K E xr σ:=by
 obtain⟨_,he⟩:=bZ h
 unfold aA gX at h
 obtain⟨bg,h',_,_⟩:=fD h
 have cI:og=none:=by split at h'<;>cases h';rfl
 subst cI
 have:=he al rfl
 simp only[aU,ZW,and_true]at this
 constructor
 simp only[dW,di,aj,this.1,this.2,hw]
 exact⟨hb,fun e=>absurd e hn,fun _ b u c _=>(k b u c).h⟩
theorem QT{t:TypeId}{ag bytes tg b u c:Nat}{z:List Value}{x y:Operand}{w:AV}{rows rows':List (List AV)}(h:aA xr none [x,y]=some (og,[.own ag tg b u c rows,w],ps))(hw:eQ ag w=some rows')(hl:aN σ tg=some (b,.tail u c))(al:OB ps)
  (hb:(rows.length+rows'.length) * bytes≤35184372088832) (h1:rows'.all (fun r=>r.all AV.one)=true)
  (k:∀ b' u' c',VX P cfg l K E ((d,.s (.own ag tg b' u' c' (rows++rows')))::xr) (ct σ tg b' (.tail u' c'))):VX P cfg (⟨some d,.append t ag bytes z x y,none⟩::l) K E xr σ:=by
 obtain⟨_,he⟩:=bZ h
 unfold aA gX at h
 obtain⟨bg,h',_,_⟩:=fD h
 have cI:og=none:=by split at h'<;>cases h';rfl
 subst cI
 have:=he al rfl
 simp only[aU,ZW,and_true]at this
 constructor
 simp only[dW,di,aj,this.1,this.2,hw]
 exact⟨trivial,hl,hb,h1,fun b' u' c' _=>(k b' u' c').h⟩
theorem QW{t:TypeId}{ag bytes:Nat}{z:List Value}{x y:Operand}{w:AV}{rows:List (List AV)}(h:aA xr none [x,y]=some (og,[.v (.slice none 0 0),w],ps))(hw:eQ ag w=some rows)(al:OB ps)(hn:rows≠[])(hb:rows.length * bytes≤35184372088832)
  (k:∀ b u c,u=rows.length * ag→VX P cfg l K E ((d,.s (.own ag d b u c rows))::xr) ((d,b,.tail u c)::σ)):VX P cfg (⟨some d,.append t ag bytes z x y,none⟩::l) K E xr σ:=by
 obtain⟨_,he⟩:=bZ h
 unfold aA gX at h
 obtain⟨bg,h',_,_⟩:=fD h
 have cI:og=none:=by split at h'<;>cases h';rfl
 subst cI
 have:=he al rfl
 simp only[aU,ZW,and_true]at this
 constructor
 simp only[dW,di,aj,this.1,this.2,hw]
 exact⟨hb,fun e=>absurd e hn,fun _ b u c hu=>(k b u c hu).h⟩
theorem QY{t:TypeId}{ag bytes tg b u c:Nat}{z:List Value}{x y:Operand}{w:AV}{rows rows':List (List AV)}(h:aA xr none [x,y]=some (og,[.own ag tg b u c rows,w],ps))(hw:eQ ag w=some rows')(hl:aN σ tg=some (b,.tail u c))(al:OB ps)
  (hb:(rows.length+rows'.length) * bytes≤35184372088832) (h1:rows'.all (fun r=>r.all AV.one)=true)
  (k:∀ b' u' c',(u=rows.length * ag→u'=(rows.length+rows'.length) * ag)→VX P cfg l K E ((d,.s (.own ag tg b' u' c' (rows++rows')))::xr) (ct σ tg b' (.tail u' c'))):VX P cfg (⟨some d,.append t ag bytes z x y,none⟩::l) K E xr σ:=by
 obtain⟨_,he⟩:=bZ h
 unfold aA gX at h
 obtain⟨bg,h',_,_⟩:=fD h
 have cI:og=none:=by split at h'<;>cases h';rfl
 subst cI
 have:=he al rfl
 simp only[aU,ZW,and_true]at this
 constructor
 simp only[dW,di,aj,this.1,this.2,hw]
 exact⟨trivial,hl,hb,h1,fun b' u' c' hu=>(k b' u' c' hu).h⟩
theorem QX{t:TypeId}{ag bytes:Nat}{z:List Value}{x y:Operand}{w:AV}{rows rows':List (List AV)}(h:aA xr none [x,y]=some (og,[.fl ag rows,w],ps))(hw:eQ ag w=some rows')(al:OB ps)
  (hb:(rows.length+rows'.length) * bytes≤35184372088832) (k0:rows'=[]→VX P cfg l K E ((d,.s (.fl ag rows))::xr) σ)
  (k:rows'≠[]→∀ b u c,VX P cfg l K E ((d,.s (.own ag d b u c (rows++rows')))::xr) ((d,b,.tail u c)::σ)):VX P cfg (⟨some d,.append t ag bytes z x y,none⟩::l) K E xr σ:=by
 obtain⟨_,he⟩:=bZ h
 unfold aA gX at h
 obtain⟨bg,h',_,_⟩:=fD h
 have cI:og=none:=by split at h'<;>cases h';rfl
 subst cI
 have:=he al rfl
 simp only[aU,ZW,and_true]at this
 constructor
 simp only[dW,di,aj,this.1,this.2,hw]
 exact⟨trivial,hb,fun e=>(k0 e).h,fun e b u c=>(k e b u c).h⟩
theorem RU(h:K (den xr) σ):VY P cfg ah [] (Cl K) xr σ:=⟨Cl.intro h⟩
theorem RV(_h0:wz cfg cd.c.op=false)(h:runM cfg ah (cd::ld) xr σ []=some (ps,cu,σ',yW))(hp:OB ps)(k:VY P cfg ah yW K cu σ'):VY P cfg ah (cd::ld) K xr σ:=
 ⟨(Oo h).2 hp.all k.h⟩
theorem RI(h:rE cfg (kL ah cd.cf) cd.c xr σ [] (fun ps xr σ=>some (ps,xr,σ))=some (ps,cu,σ'))(hp:OB ps)(k:VY P cfg ah ld K cu σ'):VY P cfg ah (cd::ld) K xr σ:=by
 constructor
 obtain⟨BR,Hf,br,b,h,h2,hc,h3⟩:=Cd h
 cases h
 obtain⟨s1,s2⟩:=h3 hp.all
 simp only[cD]
 rw[G0]
 refine hc _ _ (fun hg=> ?_) (fun hg=> ?_)
 ·obtain⟨v,ho,hd⟩:=s1 hg
  exact Nx ho (by rw[← hd];exact k.h)
 ·obtain⟨e,hd⟩:=s2 hg
  rw[← hd,← e];exact k.h
theorem nB(hc:qe xr g og)(h1:og.getD true=true→cO P cfg ah cf (some d) (den xr) σ (fun x σ'=>cD P cfg ah ld K ((d,x)::den xr) σ') op)(h2:og.getD true=false→cD P cfg ah ld K ((d,.v undef)::den xr) σ):VY P cfg ah (⟨ix,⟨some d,op,g⟩,cf⟩::ld) K xr σ:=by
 constructor
 simp only[cD]
 rw[G0]
 exact hc _ _ h1 h2
theorem RB{f:FuncId}{r:AV}(h:aA xr g args=some (og,as,ps))(hp:og.getD true=true→Pure P f as r)(al:OB ps)(k:VY P cfg ah ld K (bF og d r xr) σ):VY P cfg ah (⟨ix,⟨some d,.call f args,g⟩,cf⟩::ld) K xr σ:=by
 obtain⟨hc,he⟩:=bZ h
 refine nB hc (fun hg=> ?_) (fun hg=> ?_)
 ·simp only[cO,aw.cls,aG,he al hg]
  refine⟨r,hp hg,?_⟩
  have:=k.h;rw[eP hg]at this;exact this
 ·rw[← eO hg (v:=r)];exact k.h
theorem RE{f:FuncId}{r fv:AV}{fo:Operand}{a c:Array Value}(h:aA xr g (fo::args)=some (og,fv::as,ps))(hf:uY fv=some (f,a,c))(bJ:gV P f=true)(hp:og.getD true=true→Pure P f (a.toList.map .v++as++c.toList.map .v) r)(al:OB ps)(k:VY P cfg ah ld K (bF og d r xr) σ):
  VY P cfg ah (⟨ix,⟨some d,.dA fo args,g⟩,cf⟩::ld) K xr σ:=by
 obtain⟨hc,he⟩:=bZ h
 refine nB hc (fun hg=> ?_) (fun hg=> ?_)
 ·have:=he al hg
  simp only[aU,ZW]at this
  simp only[cO,aw.cls,aG,this.1,this.2,AR hf]
  refine⟨bJ,r,hp hg,?_⟩
  have:=k.h;rw[eP hg]at this;exact this
 ·rw[← eO hg (v:=r)];exact k.h
theorem RP{α:Type}{f:α→List AV}{ls:List α}{e:Nat}{x:Operand}(h:aA xr g [x]=some (og,[v],ps))(hx:lX v=some (e,ls.map f))(al:OB ps)(k:VY P cfg ah ld K (bF og d (.v (.int .i64 ls.length)) xr) σ):
  VY P cfg ah (⟨ix,⟨some d,.len false x,g⟩,cf⟩::ld) K xr σ:=by
 obtain⟨hc,he⟩:=bZ h
 refine nB hc (fun hg=> ?_) (fun hg=> ?_)
 ·have:=he al hg
  simp only[aU,ZW,and_true]at this
  rcases yX hx with⟨nn,e2⟩|⟨t,b,u,c,e2⟩<;>simp only[cO,aw.cls,aG,this,e2,Z3]<;>(rw[← eP hg];exact k.h)
 ·rw[← eO hg (v:= .v (.int .i64 ls.length))];exact k.h
theorem aAA{rows:List (List AV)}{e:Nat}{x:Operand}(h:aA xr g [x]=some (og,[v],ps))(hx:lX v=some (e,rows))(al:OB ps)(k:VY P cfg ah ld K (bF og d (.v (.int .i64 rows.length)) xr) σ):
  VY P cfg ah (⟨ix,⟨some d,.len false x,g⟩,cf⟩::ld) K xr σ:=by
 obtain⟨hc,he⟩:=bZ h
 refine nB hc (fun hg=> ?_) (fun hg=> ?_)
 ·have:=he al hg
  simp only[aU,ZW,and_true]at this
  rcases yX hx with⟨nn,e2⟩|⟨t,b,u,c,e2⟩<;>simp only[cO,aw.cls,aG,this,e2]<;>(rw[← eP hg];exact k.h)
 ·rw[← eO hg (v:= .v (.int .i64 rows.length))];exact k.h
theorem RN{α:Type}[Inhabited α]{f:α→List AV}{ls:List α}{e:Nat}{x i:Operand}{iv:AV}{n:Int}(h:aA xr g [x,i]=some (og,[v,iv],ps))(hi:ic iv=some n)(hx:lX v=some (e,ls.map f))(al:OB ps)
  (k:VY P cfg ah ld K (bF og d (.pc (f (ls.getD n.toNat default))) xr) σ) (hb:og.getD true=true→0≤n∧n<ls.length):
  VY P cfg ah (⟨ix,⟨some d,.eH e x i,g⟩,cf⟩::ld) K xr σ:=by
 obtain⟨hc,he⟩:=bZ h
 refine nB hc (fun hg=> ?_) (fun hg=> ?_)
 ·have:=he al hg
  simp only[aU,ZW,and_true]at this
  obtain⟨q,hq⟩:=qS hi
  have hb:=hb hg
  have EA:=Ol (f:=f) hb
  rcases yX hx with⟨nn,e2⟩|⟨t,b,u,c,e2⟩<;>simp only[cO,aw.cls,aG,aj,this.1,this.2,e2,hq,Z3,EA]<;>(rw[← eP hg];exact⟨trivial,hb.1,hb.2,k.h⟩)
 ·rw[← eO hg (v:= .pc (f (ls.getD n.toNat default)))];exact k.h
theorem Rv{t:TypeId}{z:Value}{cs:List AV}(h:jB (z.cells.toList.map .v) some=some cs)(k:∀ b,VY P cfg ah ld K ((d,.s (.lp d b 0))::xr) ((d,b,.cells cs)::σ)):VY P cfg ah (⟨ix,⟨some d,.alloc t z,none⟩,cf⟩::ld) K xr σ:=by
 constructor
 have h:=iT h
 cases h
 exact fun b=>(k b).h
theorem Ry{t:TypeId}{ag bytes:Nat}{z:List Value}{x y:Operand}{w:AV}{rows:List (List AV)}(h:aA xr none [x,y]=some (og,[.v (.slice none 0 0),w],ps))(hw:eQ ag w=some rows)(hl:ah.elem d=true)(al:OB ps)(hn:rows≠[])(hb:rows.length * bytes≤35184372088832)
  (k:∀ b u c,VY P cfg ah ld K ((d,.s (.own ag d b u c rows))::xr) ((d,b,.tail u c)::σ)):VY P cfg ah (⟨ix,⟨some d,.append t ag bytes z x y,none⟩,cf⟩::ld) K xr σ:=by
 obtain⟨_,he⟩:=bZ h
 unfold aA gX at h
 obtain⟨bg,h',_,_⟩:=fD h
 have cI:og=none:=by split at h'<;>cases h';rfl
 subst cI
 have:=he al rfl
 simp only[aU,ZW,and_true]at this
 constructor
 simp only[cD,hU,cO,aw.cls,aj,this.1,this.2,hw,isApp,ZE,hl]
 exact⟨rfl,hb,fun e=>absurd e hn,fun _ b u c _=>(k b u c).h⟩
theorem Rx{t:TypeId}{ag bytes tg b u c:Nat}{z:List Value}{x y:Operand}{w:AV}{rows rows':List (List AV)}(h:aA xr none [x,y]=some (og,[.own ag tg b u c rows,w],ps))(hw:eQ ag w=some rows')(hl:aN σ tg=some (b,.tail u c))(ha:ah.elem d=true)(al:OB ps)
  (hb:(rows.length+rows'.length) * bytes≤35184372088832) (h1:rows'.all (fun r=>r.all AV.one)=true)
  (k:∀ b' u' c',VY P cfg ah ld K ((d,.s (.own ag tg b' u' c' (rows++rows')))::xr) (ct σ tg b' (.tail u' c'))):VY P cfg ah (⟨ix,⟨some d,.append t ag bytes z x y,none⟩,cf⟩::ld) K xr σ:=by
 obtain⟨_,he⟩:=bZ h
 unfold aA gX at h
 obtain⟨bg,h',_,_⟩:=fD h
 have cI:og=none:=by split at h'<;>cases h';rfl
 subst cI
 have:=he al rfl
 simp only[aU,ZW,and_true]at this
 constructor
 simp only[cD,hU,cO,aw.cls,aj,this.1,this.2,hw,isApp,ZE,ha]
 exact⟨rfl,trivial,hl,hb,h1,fun b' u' c' _=>(k b' u' c').h⟩
theorem Rz{t:TypeId}{ag bytes:Nat}{z:List Value}{x y:Operand}{w:AV}{rows rows':List (List AV)}(h:aA xr none [x,y]=some (og,[.fl ag rows,w],ps))(hw:eQ ag w=some rows')(ha:ah.elem d=true)(al:OB ps)
  (hb:(rows.length+rows'.length) * bytes≤35184372088832) (k0:rows'=[]→VY P cfg ah ld K ((d,.s (.fl ag rows))::xr) σ)
  (k:rows'≠[]→∀ b u c,VY P cfg ah ld K ((d,.s (.own ag d b u c (rows++rows')))::xr) ((d,b,.tail u c)::σ)):VY P cfg ah (⟨ix,⟨some d,.append t ag bytes z x y,none⟩,cf⟩::ld) K xr σ:=by
 obtain⟨_,he⟩:=bZ h
 unfold aA gX at h
 obtain⟨bg,h',_,_⟩:=fD h
 have cI:og=none:=by split at h'<;>cases h';rfl
 subst cI
 have:=he al rfl
 simp only[aU,ZW,and_true]at this
 constructor
 simp only[cD,hU,cO,aw.cls,aj,this.1,this.2,hw,isApp,ZE,ha]
 exact⟨rfl,trivial,hb,fun e=>(k0 e).h,fun e b u c=>(k e b u c).h⟩
theorem RA{t:TypeId}{x:Operand}{cs:List AV}(h:aA xr none [x]=some (og,[v],ps))(hc:sj v=some cs)(al:OB ps)(k:∀ b,VY P cfg ah ld K ((d,.s (.lp d b 0))::xr) ((d,b,.cells cs)::σ)):VY P cfg ah (⟨ix,⟨some d,.box t x,none⟩,cf⟩::ld) K xr σ:=by
 obtain⟨_,he⟩:=bZ h
 unfold aA gX at h
 obtain⟨bg,h',_,_⟩:=fD h
 have cI:og=none:=by split at h'<;>cases h';rfl
 subst cI
 have:=he al rfl
 simp only[aU,ZW,and_true]at this
 constructor
 simp only[cD,hU,cO,aw.cls,aj,this,Du hc];exact fun b=>(k b).h
end
def rB(x:AV):Option (Bool×Nat×List (List AV)):=match x with
 | .sl nn e rows=>some (nn,e,rows)
 |_=>none
theorem Gt{x:AV}{nn:Bool}{e:Nat}{rows:List (List AV)}(h:rB x=some (nn,e,rows)):x= .sl nn e rows:=by
 unfold rB at h
 split at h
 ·cases h;rfl
 ·cases h
section
variable {P:Program}[Glob P]{cfg:Nat→Nat}{K:ae→Store→Prop}{E:List PanicEntry→Store→Prop}{σ:Store}{l:List CI}{d:Nat}{v:AV}{xr:XR}{ps:List Prop}{g:Option (Nat×Bool)}{og:Option Bool}
theorem Rr{α:Type}{f:α→List AV}{ls:List α}{e:Nat}{nn:Bool}{x y:Operand}{hv:AV}{h:Int}(ha:aA xr g [x,y]=some (og,[v,hv],ps))(hi:ic hv=some h)(hx:rB v=some (nn,e,ls.map f))(al:OB ps)
  (hb:og.getD true=true→0≤h∧h≤ls.length) (k:VX P cfg l K E (bF og d (.sl nn e ((ls.take h.toNat).map f)) xr) σ):VX P cfg (⟨some d,.slice e x none (some y),g⟩::l) K E xr σ:=by
 obtain⟨hc,he⟩:=bZ ha
 refine gU hc (fun hg=> ?_) (fun hg=> ?_)
 ·have:=he al hg
  simp only[aU,ZW,and_true]at this
  obtain⟨q,hq⟩:=qS hi
  obtain⟨b1,b2⟩:=hb hg
  simp only[aj,Option.map_none,Zu,this.1,this.2,oe,hq,Gt hx,Option.getD_none,ZE,Z3]
  refine⟨trivial,Yu _,b1,b2,?_⟩
  have:=k.h
  rw[eP hg]at this
  simpa using this
 ·rw[← eO hg (v:= .sl nn e ((ls.take h.toNat).map f))];exact k.h
theorem Rs{α:Type}{f:α→List AV}{ls:List α}{e:Nat}{nn:Bool}{x y:Operand}{hv:AV}{h:Int}(ha:aA xr g [x,y]=some (og,[v,hv],ps))(hi:ic hv=some h)(hx:rB v=some (nn,e,ls.map f))(al:OB ps)
  (hb:og.getD true=true→0≤h∧h≤ls.length) (k:VX P cfg l K E (bF og d (.sl nn e ((ls.drop h.toNat).map f)) xr) σ):VX P cfg (⟨some d,.slice e x (some y) none,g⟩::l) K E xr σ:=by
 obtain⟨hc,he⟩:=bZ ha
 refine gU hc (fun hg=> ?_) (fun hg=> ?_)
 ·have:=he al hg
  simp only[aU,ZW,and_true]at this
  obtain⟨q,hq⟩:=qS hi
  obtain⟨b1,b2⟩:=hb hg
  simp only[aj,Option.map_none,Zu,this.1,this.2,oe,hq,Gt hx,Option.getD_none,ZE,Z3]
  refine⟨trivial,b1,b2,Yu _,?_⟩
  have:=k.h
  rw[eP hg]at this
  rw[Y8,ZC (by simp),← X9]
  exact this
 ·rw[← eO hg (v:= .sl nn e ((ls.drop h.toNat).map f))];exact k.h
theorem Rq{α:Type}{f:α→List AV}{ls:List α}{e:Nat}{nn:Bool}{x y z:Operand}{lv hv:AV}{lo h:Int}(ha:aA xr g [x,y,z]=some (og,[v,lv,hv],ps))(hl:ic lv=some lo)(hi:ic hv=some h)(hx:rB v=some (nn,e,ls.map f))(al:OB ps)
  (hb:og.getD true=true→0≤lo∧lo≤h∧h≤ls.length) (k:VX P cfg l K E (bF og d (.sl nn e (((ls.take h.toNat).drop lo.toNat).map f)) xr) σ):VX P cfg (⟨some d,.slice e x (some y) (some z),g⟩::l) K E xr σ:=by
 obtain⟨hc,he⟩:=bZ ha
 refine gU hc (fun hg=> ?_) (fun hg=> ?_)
 ·have:=he al hg
  simp only[aU,ZW,and_true]at this
  obtain⟨q,hq⟩:=qS hi
  obtain⟨q2,dQ⟩:=qS hl
  obtain⟨b1,b2,b3⟩:=hb hg
  simp only[aj,Zu,this.1,this.2.1,this.2.2,oe,hq,dQ,Gt hx,ZE,Z3]
  refine⟨trivial,b1,b2,b3,?_⟩
  have:=k.h
  rw[eP hg]at this
  simpa[X9,XZ]using this
 ·rw[← eO hg (v:= .sl nn e (((ls.take h.toNat).drop lo.toNat).map f))];exact k.h
end
inductive eJ:ae→ae→Prop
 |nil:eJ [] []
 |cons {i:Nat} {x y:AV} {r r':ae} (h:Wk x y) (t:eJ r r'):eJ ((i,x)::r) ((i,y)::r')
theorem eJ.lk{r r':ae}(h:eJ r r')(j:Nat):Wk (Sx.lk r j) (Sx.lk r' j):=by
 induction h with
 |nil=>exact Wk.refl _
 |cons h _ ih=>
  simp only[Sx.lk]
  rename_i i _ _ _ _ _
  cases Nat.beq i j with
  |true=>exact h
  |false=>exact ih
theorem eJ.refl:∀ r:ae,eJ r r
 |[]=> .nil
 |(_,_)::r=> .cons (Wk.refl _) (eJ.refl r)
theorem Wk.tag{ez t t' b u c:Nat}{rows:List (List AV)}:Wk (.own ez t b u c rows) (.own ez t' b u c rows):=fun _ _ h=>by
 obtain⟨off,cap,cs,rfl,hr,h4,h5,h6,h8⟩:=h.qZ
 exact R.pC hr h4 h5 h6 h8
theorem Wk.Nz{ez t b u c:Nat}{rows rows':List (List AV)}{nn:Bool}(h:rows=rows'):Wk (.own ez t b u c rows) (.sl nn ez rows'):=h ▸ Wk.own nn
theorem SW.wk{P:Program}[Glob P]{N:Nat}{s:SC}{Q:Exit→ae→Store→Prop}{rg rg':ae}{σ σ':Store}(h:SW P N s Q rg' σ')(hr:eJ rg rg')(hs:Sub σ' σ):SW P N s Q rg σ:=
 fun c hc M w0 a w hI hR hN hD=>h c hc M w0 a w (hI.sub hs) (fun i=>hr.lk i _ _ (hR i)) hN hD
def rY(I:Nat→ae→Store→Prop)(n:Nat)(ks:List Nat)(rg:ae)(σ:Store):Prop:=∃ cC,gI ks rg=some cC∧∃ n',n'<n∧∃ rg' σ',eJ cC rg'∧Sub σ' σ∧I n' rg' σ'
theorem rY.intro{I:Nat→ae→Store→Prop}{n:Nat}{ks:List Nat}{rg cC:ae}{σ:Store}(hk:gI ks rg=some cC)(h:∃ n',n'<n∧∃ rg' σ',eJ cC rg'∧Sub σ' σ∧I n' rg' σ'):rY I n ks rg σ:=⟨cC,hk,h⟩
theorem R2{P:Program}[Glob P]{N:Nat}{cfg:Nat→Nat}{Q:Exit→ae→Store→Prop}{rg fj:ae}{σ:Store}{ks:List Nat}{b:AC}(I:Nat→ae→Store→Prop)(n:Nat)(hk:gI ks rg=some fj)(h0:∃ rg' σ',eJ fj rg'∧Sub σ' σ∧I n rg' σ')
  (h:∀ n rg σ,I n rg σ→WA P N cfg b (l7 (rY I n ks) Q) rg σ):WA P N cfg (.loop (.keep ks b)) Q rg σ:=by
 refine R1 (fun n rg σ=>∃ cC,gI ks rg=some cC∧∃ rg' σ',eJ cC rg'∧Sub σ' σ∧I n rg' σ') n ⟨fj,hk,h0⟩ fun n rg σ ⟨cC,hf,rg',σ',hw,hs,hi⟩=>H9 hf ⟨rfl,SW.wk ((h n rg' σ' hi).mono fun e bP σ2 he=> ?_).h hw hs⟩
 cases e with
 |normal=>obtain⟨dT,h1,n',h2,h3⟩:=he;exact⟨n',h2,dT,h1,h3⟩
 |_=>exact he
theorem R7{P:Program}[Glob P]{N:Nat}{cfg:Nat→Nat}{Q:Exit→ae→Store→Prop}{rg rg':ae}{σ σ':Store}{a:AC}(h:WA P N cfg a Q rg' σ')(hr:eJ rg rg')(hs:Sub σ' σ):WA P N cfg a Q rg σ:=⟨rfl,SW.wk h.h hr hs⟩
section
variable {α:Type}
def Gc(rg:ae)(σ:Store)(r:RC)(ps:List Prop)(k:List Prop→AV→Option α):Option α:=match r with
 | .tmp t=>fo (lk rg t) fun x=>k ps x
 | .cell t g n=>match lk rg t with
  | .lp tg b o=>match aN σ tg with
   |some (b',.cells l)=>match g with
    |true=>bif Nat.ble (o+n) l.length then jB ((l.drop o).take n) (fun l2=>k ((b=b')::ps) (.agg l2))else none
    |false=>match l[o]? with
     |some y=>fo y fun x=>k ((b=b')::ps) x
     |none=>none
   |_=>none
  |_=>none
def BX(rg:ae)(σ:Store):List RC→List Prop→(List Prop→List AV→Option α)→Option α
 |[],ps,k=>k ps []
 |r::l,ps,k=>Gc rg σ r ps fun ps x=>BX rg σ l ps fun ps xs=>k ps (x::xs)
theorem ad9{rg:ae}{σ:Store}{rc:RC}{ps:List Prop}{k:List Prop→AV→Option α}{r:α}(h:Gc rg σ rc ps k=some r):
  ∃ bg x,k bg x=some r∧(∀ p∈ps,p∈bg)∧((∀ p∈bg,p)→tM rg σ rc=some x):=by
 unfold Gc at h
 split at h
 ·exact⟨_,_,wZ h,fun _ h=>h,fun _=>rfl⟩
 ·split at h
  ·rename_i e1
   split at h
   ·rename_i e2
    split at h
    ·obtain⟨h1,h⟩:=po h
     refine⟨_,_,iT h,fun p hp=>ZX _ hp,fun ha=> ?_⟩
     have hb:=ha _ (ZU ..)
     simp only[tM,e1,e2,hb,Y7,Z8 h1]
    ·split at h
     ·rename_i e3
      refine⟨_,_,wZ h,fun p hp=>ZX _ hp,fun ha=> ?_⟩
      have hb:=ha _ (ZU ..)
      simp only[tM,e1,e2,hb,Y7,ZS,Zt,e3]
     ·cases h
   ·cases h
  ·cases h
theorem Oe{rg:ae}{σ:Store}:∀ {l:List RC} {ps:List Prop} {k:List Prop→List AV→Option α} {r:α},BX rg σ l ps k=some r→
  ∃ bg xs,k bg xs=some r∧(∀ p∈ps,p∈bg)∧((∀ p∈bg,p)→rz rg σ l=some xs)
 |[],ps,k,r,h=>⟨ps,[],h,fun _ h=>h,fun _=>rfl⟩
 |rc::l,ps,k,r,h=>by
  simp only[BX]at h
  obtain⟨BR,x,h,h1,h2⟩:=ad9 h
  obtain⟨ps2,xs,h,h3,h4⟩:=Oe h
  refine⟨ps2,_,h,fun p hp=>h3 p (h1 p hp),fun ha=> ?_⟩
  simp only[rz,h2 fun p hp=>ha p (h3 p hp),h4 ha,Zu]
end
def Pp(ps:List Prop)(xs:List AV):Option (List Prop×AV):=match xs with
 |[x]=>some (ps,x)
 |xs=>some (ps,.aI xs)
def pI(rg:ae)(σ:Store)(l:List RC):Option (List Prop×AV):=BX rg σ l [] Pp
theorem BW{rg:ae}{σ:Store}{l:List RC}{ps:List Prop}{x:AV}(h:pI rg σ l=some (ps,x))(hp:OB ps):wh rg σ l=some x:=by
 obtain⟨bg,xs,h,_,h2⟩:=Oe h
 unfold Pp at h
 unfold wh
 split at h
 ·cases h;rw[h2 hp.all]
 ·rename_i aQ
  cases h
  rw[h2 hp.all]
  split
  ·rename_i e;cases e;exact absurd rfl (aQ _)
  ·rename_i e;cases e;rfl
  ·rename_i e;cases e
theorem aeb{rg:ae}{σ:Store}{v:AV}{ps:List Prop}{res:List RC}{R:dj→Store→Prop}(e:pI rg σ res=some (ps,v))(hp:OB ps)(h:R (.ret v) σ):kQ res R .normal rg σ:=⟨v,BW e hp,h⟩
theorem aec{rg:ae}{σ:Store}{v:AV}{ps:List Prop}{res:List RC}{R:dj→Store→Prop}(e:pI rg σ res=some (ps,v))(hp:OB ps)(h:R (.ret v) σ):kQ res R .ret rg σ:=⟨v,BW e hp,h⟩
theorem adM{rg:ae}{σ fm:Store}{v r:AV}{ps:List Prop}{res:List RC}(e:pI rg σ res=some (ps,v))(hp:OB ps)(h:Fin fm r v σ):lW res r fm .normal rg σ:=⟨v,BW e hp,h.1,h.2⟩
theorem adN{rg:ae}{σ fm:Store}{v r:AV}{ps:List Prop}{res:List RC}(e:pI rg σ res=some (ps,v))(hp:OB ps)(h:Fin fm r v σ):lW res r fm .ret rg σ:=⟨v,BW e hp,h.1,h.2⟩
theorem bd{p:Prop}[Decidable p]{b:Bool}(h:b=true↔p):AV.v (.bool b)=AV.v (.bool (decide p)):=by
 have:b=decide p:=by rw[YD,h];simp
 rw[this]
theorem aW{n:Int}(h: -9223372036854775808≤n∧n≤9223372036854775807):IntKind.i64.wrap n=n:=Go.IntWalk.i64_in n h
theorem eD{i n:Nat}(h:i<n)(hn:n≤maxLen):IntKind.i64.wrap ((i:Int)+1)=((i+1:Nat):Int):=by
 rw[aW]
 ·rfl
 ·unfold maxLen at hn;omega
theorem getD_eq{α:Type}[Inhabited α]{l:List α}{i:Nat}(h:i<l.length):l.getD i default=l[i]:=by simp[Z1,h]
theorem cW{α:Type}[Inhabited α]{l:List α}{i:Nat}(h:i<l.length):l.getD i default∈l:=by rw[getD_eq h];exact Y0 h
theorem qp{α:Type}[Inhabited α]{l:List α}{i:Nat}(h:i<l.length):l.drop i=l.getD i default::l.drop (i+1):=by
 rw[getD_eq h];exact Y9 h
theorem vZ{i:Nat}(h:0<i)(hn:i≤maxLen):IntKind.i64.wrap ((i:Int)-1)=((i-1:Nat):Int):=by
 rw[aW (by unfold maxLen at hn;omega)];omega
end Go.Sx
