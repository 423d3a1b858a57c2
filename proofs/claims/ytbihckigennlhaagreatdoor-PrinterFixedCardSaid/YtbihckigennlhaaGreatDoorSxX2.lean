/-
  The layer Sx, nineteenth part: the rules for whole runs.
-/
import Derived.Test.YtbihckigennlhaaGreatDoorSxX
import Derived.IntWalk
set_option linter.unusedVariables false
set_option linter.unusedSimpArgs false
set_option linter.unusedSectionVars false
namespace Go.Sx
open Go.RowKit
def iJ:ae→Option XR
 |[]=>some []
 |(i,x)::r=>match iJ r with
  |some l=>some ((i,.s x)::l)
  |none=>none
theorem su:∀ {rg:ae} {xr:XR},iJ rg=some xr→toX rg=xr
 |[],_,h=>by cases h;rfl
 |(i,x)::r,xr,h=>by
  simp only[iJ]at h
  split at h
  ·rename_i e;cases h;rw[toX,su e]
  ·cases h
def bE(og:Option Bool)(d:Nat)(v:AV)(xr:XR):XR:=(d,match og with
 |none=> .s v
 |some b=> .o b v)::xr
def ay(xr:XR)(g:Option (Nat×Bool))(args:List Operand):Option (Option Bool×List AV×List Prop):=
 gX xr g fun og=>r4 og xr (tmpsOf args) [] fun ps=>match Ch (raw xr) args with
  |some as=>some (og,as,ps)
  |none=>none
section
variable {P:Program}[Glob P]{N:Nat}{cfg:Nat→Nat}{Q:Exit→ae→Store→Prop}{K:ae→Store→Prop}{E:List PanicEntry→Store→Prop}{rg:ae}{σ σ':Store}{l rest:List CI}{d:Nat}{op:au}{p:Prop}{v:AV}{xr cm:XR}{ps:List Prop}{c:CI}
 {ah cf:List Nat} {ix:Nat} {ld xN:List CD} {cd:CD} {g:Option (Nat×Bool)} {og:Option Bool} {as:List AV} {args:List Operand}
theorem eH(h:og.getD true=true):den (bE og d v xr)=(d,v)::den xr:=by
 cases og with
 |none=>rfl
 |some b=>have h:b=true:=h;subst h;rfl
theorem eG(h:og.getD true=false):den (bE og d v xr)=(d,.v undef)::den xr:=by
 cases og with
 |none=>cases h
 |some b=>have h:b=false:=h;subst h;rfl
theorem bY(h:ay xr g args=some (og,as,ps)):oY xr g og∧(OB ps→og.getD true=true→aQ (den xr) args=as):=by
 unfold ay at h
 obtain⟨b,h,hc,_⟩:=Ct h
 obtain⟨aX,h,_,h3⟩:=fb h
 split at h
 ·rename_i as' e
  cases h
  refine⟨hc,fun hp hg=> ?_⟩
  rw[← iQ args (h3 hp.all hg)]
  exact Ia e
 ·cases h
theorem PL(hx:iJ rg=some xr)(h:VX P cfg l (Q .normal) (fun ch σ'=>Q (.panic ch) [] σ') xr σ):WA P N cfg (.bX l) Q rg σ:=
 ⟨rfl,On cfg (by have:=h.h;rwa [← su hx,qO]at this)⟩
theorem PK{ld:List CD}(hx:iJ rg=some xr)(h:VY P cfg ah ld (Cl (Q .normal)) xr σ):WA P N cfg (.c8 ah ld) Q rg σ:=
 ⟨rfl,Ol cfg (by have:=h.h;rwa [← su hx,qO]at this)⟩
theorem PG(hx:iJ rg=some xr)(h:VY P cfg [] (bare l) (Cl (Q .normal)) xr σ):WA P N cfg (.dc l) Q rg σ:=
 ⟨rfl,Oh cfg (by have:=h.h;rwa [← su hx,qO]at this)⟩
theorem O3(h:K (den xr) σ):VX P cfg [] K E xr σ:=⟨h⟩
theorem O6(_h0:vf cfg c.op=false)(h:xO cfg (c::l) xr σ []=some (ps,cm,σ',rest))(hp:OB ps)(k:VX P cfg rest K E cm σ'):VX P cfg (c::l) K E xr σ:=
 ⟨(Mc h).2 hp.all k.h⟩
theorem OR(h:qm cfg (fun _ _=>true) c xr σ [] (fun ps xr σ=>some (ps,xr,σ))=some (ps,cm,σ'))(hp:OB ps)(k:VX P cfg l K E cm σ'):VX P cfg (c::l) K E xr σ:=by
 constructor
 obtain⟨Am,Fk,bn,b,h,h2,hc,h3⟩:=AP h
 cases h
 obtain⟨s1,s2⟩:=h3 hp.all
 simp only[dO]
 rw[E5]
 refine hc _ _ (fun hg=> ?_) (fun hg=> ?_)
 ·obtain⟨v,ho,hd⟩:=s1 hg
  exact Lg ho (by rw[← hd];exact k.h)
 ·obtain⟨e,hd⟩:=s2 hg
  rw[← hd,← e];exact k.h
theorem LZ{α:Type}[Inhabited α]{f:α→List AV}{ls:List α}{n:Int}(h:0≤n∧n<ls.length):(ls.map f).getD n.toNat []=f (ls.getD n.toNat default):=by
 have aE:n.toNat<ls.length:=by omega
 simp[ZV,aE]
theorem gP(hc:oY xr g og)(h1:og.getD true=true→aj P cfg (some d) (den xr) σ (fun x σ'=>dO P cfg l K E ((d,x)::den xr) σ') E op)(h2:og.getD true=false→dO P cfg l K E ((d,.v undef)::den xr) σ):VX P cfg (⟨some d,op,g⟩::l) K E xr σ:=by
 constructor
 simp only[dO]
 rw[E5]
 exact hc _ _ h1 h2
theorem OL{f:FuncId}{r:AV}(h:ay xr g args=some (og,as,ps))(hp:og.getD true=true→Pure P f as r)(al:OB ps)(k:VX P cfg l K E (bE og d r xr) σ):VX P cfg (⟨some d,.call f args,g⟩::l) K E xr σ:=by
 obtain⟨hc,he⟩:=bY h
 refine gP hc (fun hg=> ?_) (fun hg=> ?_)
 ·simp only[aj,he al hg]
  refine tp (hp hg) ?_
  rw[← eH hg];exact k.h
 ·rw[← eG hg (v:=r)];exact k.h
theorem ON{f:FuncId}{r fv:AV}{fo:Operand}{a c:Array Value}(h:ay xr g (fo::args)=some (og,fv::as,ps))(hf:tJ fv=some (f,a,c))(bI:gx P f=true)(hp:og.getD true=true→Pure P f (a.toList.map .v++as++c.toList.map .v) r)(al:OB ps)(k:VX P cfg l K E (bE og d r xr) σ):
  VX P cfg (⟨some d,.dp fo args,g⟩::l) K E xr σ:=by
 obtain⟨hc,he⟩:=bY h
 refine gP hc (fun hg=> ?_) (fun hg=> ?_)
 ·have:=he al hg
  simp only[aQ,ZY]at this
  simp only[aj,this.1,this.2,yT hf]
  refine⟨bI,tp (hp hg) ?_⟩
  rw[← eH hg];exact k.h
 ·rw[← eG hg (v:=r)];exact k.h
theorem qH{f:FuncId}{R:cU→Store→Prop}(h:ay xr none args=some (og,as,ps))(hp:Spec P f as σ R)(al:OB ps)(k:∀ x σ',R (.ret x) σ'→VX P cfg l K E ((d,.s x)::xr) σ')(e:∀ ch σ',R (.cC ch) σ'→E ch σ'):
  VX P cfg (⟨some d,.call f args,none⟩::l) K E xr σ:=by
 obtain⟨hc,he⟩:=bY h
 unfold ay gX at h
 obtain⟨aX,h',_,_⟩:=fb h
 have cA:og=none:=by split at h'<;>cases h';rfl
 subst cA
 refine gP hc (fun hg=> ?_) (fun hg=>nomatch hg)
 simp only[aj,he al hg]
 exact⟨R,hp,fun x σ' hr=>(k x σ' hr).h,e⟩
theorem BA{d:Option Nat}{x:Operand}{t:TypeId}{y:AV}{v:Value}(h:ay xr none [x]=some (og,[.gp t y],ps))(hv:km [y]=some [v])(al:OB ps)(e:E [{v:= .iface t v,recovered:=false}] σ):
  VX P cfg (⟨d,.panic x,none⟩::l) K E xr σ:=by
 obtain⟨hc,he⟩:=bY h
 unfold ay gX at h
 obtain⟨aX,h',_,_⟩:=fb h
 have cA:og=none:=by split at h'<;>cases h';rfl
 subst cA
 constructor
 have:=he al rfl
 simp only[aQ,ZY,and_true]at this
 simp only[dO,cT,aj,this,hv]
 exact e
theorem OX{α:Type}{f:α→List AV}{ls:List α}{e:Nat}{x:Operand}(h:ay xr g [x]=some (og,[v],ps))(hx:nC v=some (e,ls.map f))(al:OB ps)(k:(og.getD true=true→ls.length≤maxLen)→VX P cfg l K E (bE og d (.v (.int .i64 ls.length)) xr) σ):
  VX P cfg (⟨some d,.len false x,g⟩::l) K E xr σ:=by
 obtain⟨hc,he⟩:=bY h
 refine gP hc (fun hg=> ?_) (fun hg=> ?_)
 ·have:=he al hg
  simp only[aQ,ZY,and_true]at this
  rcases Av hx with⟨nn,e2⟩|⟨t,b,u,c,e2⟩<;>simp only[aj,this,e2,Z5]<;>(intro hl;rw[← eH hg];exact(k fun _=>hl).h)
 ·rw[← eG hg (v:= .v (.int .i64 ls.length))];exact(k fun Ju=>by rw[hg]at Ju;cases Ju).h
theorem OU{α:Type}[Inhabited α]{f:α→List AV}{ls:List α}{e:Nat}{x i:Operand}{iv:AV}{n:Int}(h:ay xr g [x,i]=some (og,[v,iv],ps))(hi:gE iv=some n)(hx:nC v=some (e,ls.map f))(al:OB ps)
  (k:VX P cfg l K E (bE og d (.pc (f (ls.getD n.toNat default))) xr) σ) (hb:og.getD true=true→0≤n∧n<ls.length):
  VX P cfg (⟨some d,.er e x i,g⟩::l) K E xr σ:=by
 obtain⟨hc,he⟩:=bY h
 refine gP hc (fun hg=> ?_) (fun hg=> ?_)
 ·have:=he al hg
  simp only[aQ,ZY,and_true]at this
  obtain⟨q,hq⟩:=pR hi
  have hb:=hb hg
  have C5:=LZ (f:=f) hb
  rcases Av hx with⟨nn,e2⟩|⟨t,b,u,c,e2⟩<;>simp only[aj,this.1,this.2,e2,hq,Z5,C5]<;>(rw[← eH hg];exact⟨trivial,hb.1,hb.2,k.h⟩)
 ·rw[← eG hg (v:= .pc (f (ls.getD n.toNat default)))];exact k.h
theorem vL{t:TypeId}{z:Value}{cs:List AV}(h:iR (z.cells.toList.map .v) some=some cs)(k:∀ b,VX P cfg l K E ((d,.s (.lp d b 0))::xr) ((d,b,.cells cs)::σ)):VX P cfg (⟨some d,.alloc t z,none⟩::l) K E xr σ:=by
 constructor
 have h:=ij h
 cases h
 simp only[dO,cT,aj];exact fun b=>(k b).h
theorem OJ{t:TypeId}{x:Operand}{cs:List AV}(h:ay xr none [x]=some (og,[v],ps))(hc:qL v=some cs)(al:OB ps)(k:∀ b,VX P cfg l K E ((d,.s (.lp d b 0))::xr) ((d,b,.cells cs)::σ)):VX P cfg (⟨some d,.box t x,none⟩::l) K E xr σ:=by
 obtain⟨_,he⟩:=bY h
 unfold ay gX at h
 obtain⟨aX,h',_,_⟩:=fb h
 have cA:og=none:=by split at h'<;>cases h';rfl
 subst cA
 have:=he al rfl
 simp only[aQ,ZY,and_true]at this
 constructor
 simp only[dO,cT,aj,this,B3 hc];exact fun b=>(k b).h
theorem O0{t:TypeId}{af:Nat}(hc:cfg d=1)(he:0<af)(k:∀ b,VX P cfg l K E ((d,.s (.own af d b 0 0 []))::xr) ((d,b,.tail 0 0)::σ)):VX P cfg (⟨some d,.bh t af [],none⟩::l) K E xr σ:=by
 constructor
 simp only[dO,cT,aj,aQ,rowsOf,ZI,hc,Z2,Nat.zero_mul]
 exact⟨ZF _,he,fun b=>(k b).h⟩
theorem OE{t:TypeId}{af bytes:Nat}{z:List Value}{x y:Operand}{w:AV}{rows:List (List AV)}(h:ay xr none [x,y]=some (og,[.v (.slice none 0 0),w],ps))(hw:eu af w=some rows)(al:OB ps)(hn:rows≠[])(hb:rows.length * bytes≤35184372088832)
  (k:∀ b u c,VX P cfg l K E ((d,.s (.own af d b u c rows))::xr) ((d,b,.tail u c)::σ)):VX P cfg (⟨some d,.append t af bytes z x y,none⟩::l) K E xr σ:=by
 obtain⟨_,he⟩:=bY h
 unfold ay gX at h
 obtain⟨aX,h',_,_⟩:=fb h
 have cA:og=none:=by split at h'<;>cases h';rfl
 subst cA
 have:=he al rfl
 simp only[aQ,ZY,and_true]at this
 constructor
 simp only[dO,cT,aj,this.1,this.2,hw]
 exact⟨hb,fun e=>absurd e hn,fun _ b u c _=>(k b u c).h⟩
theorem OD{t:TypeId}{af bytes tg b u c:Nat}{z:List Value}{x y:Operand}{w:AV}{rows rows':List (List AV)}(h:ay xr none [x,y]=some (og,[.own af tg b u c rows,w],ps))(hw:eu af w=some rows')(hl:aK σ tg=some (b,.tail u c))(al:OB ps)
  (hb:(rows.length+rows'.length) * bytes≤35184372088832) (h1:rows'.all (fun r=>r.all AV.one)=true)
  (k:∀ b' u' c',VX P cfg l K E ((d,.s (.own af tg b' u' c' (rows++rows')))::xr) (ck σ tg b' (.tail u' c'))):VX P cfg (⟨some d,.append t af bytes z x y,none⟩::l) K E xr σ:=by
 obtain⟨_,he⟩:=bY h
 unfold ay gX at h
 obtain⟨aX,h',_,_⟩:=fb h
 have cA:og=none:=by split at h'<;>cases h';rfl
 subst cA
 have:=he al rfl
 simp only[aQ,ZY,and_true]at this
 constructor
 simp only[dO,cT,aj,this.1,this.2,hw]
 exact⟨trivial,hl,hb,h1,fun b' u' c' _=>(k b' u' c').h⟩
theorem OG{t:TypeId}{af bytes:Nat}{z:List Value}{x y:Operand}{w:AV}{rows:List (List AV)}(h:ay xr none [x,y]=some (og,[.v (.slice none 0 0),w],ps))(hw:eu af w=some rows)(al:OB ps)(hn:rows≠[])(hb:rows.length * bytes≤35184372088832)
  (k:∀ b u c,u=rows.length * af→VX P cfg l K E ((d,.s (.own af d b u c rows))::xr) ((d,b,.tail u c)::σ)):VX P cfg (⟨some d,.append t af bytes z x y,none⟩::l) K E xr σ:=by
 obtain⟨_,he⟩:=bY h
 unfold ay gX at h
 obtain⟨aX,h',_,_⟩:=fb h
 have cA:og=none:=by split at h'<;>cases h';rfl
 subst cA
 have:=he al rfl
 simp only[aQ,ZY,and_true]at this
 constructor
 simp only[dO,cT,aj,this.1,this.2,hw]
 exact⟨hb,fun e=>absurd e hn,fun _ b u c hu=>(k b u c hu).h⟩
theorem OI{t:TypeId}{af bytes tg b u c:Nat}{z:List Value}{x y:Operand}{w:AV}{rows rows':List (List AV)}(h:ay xr none [x,y]=some (og,[.own af tg b u c rows,w],ps))(hw:eu af w=some rows')(hl:aK σ tg=some (b,.tail u c))(al:OB ps)
  (hb:(rows.length+rows'.length) * bytes≤35184372088832) (h1:rows'.all (fun r=>r.all AV.one)=true)
  (k:∀ b' u' c',(u=rows.length * af→u'=(rows.length+rows'.length) * af)→VX P cfg l K E ((d,.s (.own af tg b' u' c' (rows++rows')))::xr) (ck σ tg b' (.tail u' c'))):VX P cfg (⟨some d,.append t af bytes z x y,none⟩::l) K E xr σ:=by
 obtain⟨_,he⟩:=bY h
 unfold ay gX at h
 obtain⟨aX,h',_,_⟩:=fb h
 have cA:og=none:=by split at h'<;>cases h';rfl
 subst cA
 have:=he al rfl
 simp only[aQ,ZY,and_true]at this
 constructor
 simp only[dO,cT,aj,this.1,this.2,hw]
 exact⟨trivial,hl,hb,h1,fun b' u' c' hu=>(k b' u' c' hu).h⟩
theorem OH{t:TypeId}{af bytes:Nat}{z:List Value}{x y:Operand}{w:AV}{rows rows':List (List AV)}(h:ay xr none [x,y]=some (og,[.fl af rows,w],ps))(hw:eu af w=some rows')(al:OB ps)
  (hb:(rows.length+rows'.length) * bytes≤35184372088832) (k0:rows'=[]→VX P cfg l K E ((d,.s (.fl af rows))::xr) σ)
  (k:rows'≠[]→∀ b u c,VX P cfg l K E ((d,.s (.own af d b u c (rows++rows')))::xr) ((d,b,.tail u c)::σ)):VX P cfg (⟨some d,.append t af bytes z x y,none⟩::l) K E xr σ:=by
 obtain⟨_,he⟩:=bY h
 unfold ay gX at h
 obtain⟨aX,h',_,_⟩:=fb h
 have cA:og=none:=by split at h'<;>cases h';rfl
 subst cA
 have:=he al rfl
 simp only[aQ,ZY,and_true]at this
 constructor
 simp only[dO,cT,aj,this.1,this.2,hw]
 exact⟨trivial,hb,fun e=>(k0 e).h,fun e b u c=>(k e b u c).h⟩
theorem PA(h:K (den xr) σ):VY P cfg ah [] (Cl K) xr σ:=⟨Cl.intro h⟩
theorem PB(_h0:vf cfg cd.c.op=false)(h:runM cfg ah (cd::ld) xr σ []=some (ps,cm,σ',xN))(hp:OB ps)(k:VY P cfg ah xN K cm σ'):VY P cfg ah (cd::ld) K xr σ:=
 ⟨(Md h).2 hp.all k.h⟩
theorem Pr(h:qm cfg (jV ah cd.cf) cd.c xr σ [] (fun ps xr σ=>some (ps,xr,σ))=some (ps,cm,σ'))(hp:OB ps)(k:VY P cfg ah ld K cm σ'):VY P cfg ah (cd::ld) K xr σ:=by
 constructor
 obtain⟨Am,Fk,bn,b,h,h2,hc,h3⟩:=AP h
 cases h
 obtain⟨s1,s2⟩:=h3 hp.all
 simp only[cx]
 rw[E4]
 refine hc _ _ (fun hg=> ?_) (fun hg=> ?_)
 ·obtain⟨v,ho,hd⟩:=s1 hg
  exact Lh ho (by rw[← hd];exact k.h)
 ·obtain⟨e,hd⟩:=s2 hg
  rw[← hd,← e];exact k.h
theorem mC(hc:oY xr g og)(h1:og.getD true=true→cF P cfg ah cf (some d) (den xr) σ (fun x σ'=>cx P cfg ah ld K ((d,x)::den xr) σ') op)(h2:og.getD true=false→cx P cfg ah ld K ((d,.v undef)::den xr) σ):VY P cfg ah (⟨ix,⟨some d,op,g⟩,cf⟩::ld) K xr σ:=by
 constructor
 simp only[cx]
 rw[E4]
 exact hc _ _ h1 h2
theorem Pm{f:FuncId}{r:AV}(h:ay xr g args=some (og,as,ps))(hp:og.getD true=true→Pure P f as r)(al:OB ps)(k:VY P cfg ah ld K (bE og d r xr) σ):VY P cfg ah (⟨ix,⟨some d,.call f args,g⟩,cf⟩::ld) K xr σ:=by
 obtain⟨hc,he⟩:=bY h
 refine mC hc (fun hg=> ?_) (fun hg=> ?_)
 ·simp only[cF,au.cls,aC,he al hg]
  refine⟨r,hp hg,?_⟩
  have:=k.h;rw[eH hg]at this;exact this
 ·rw[← eG hg (v:=r)];exact k.h
theorem Po{f:FuncId}{r fv:AV}{fo:Operand}{a c:Array Value}(h:ay xr g (fo::args)=some (og,fv::as,ps))(hf:tJ fv=some (f,a,c))(bI:gx P f=true)(hp:og.getD true=true→Pure P f (a.toList.map .v++as++c.toList.map .v) r)(al:OB ps)(k:VY P cfg ah ld K (bE og d r xr) σ):
  VY P cfg ah (⟨ix,⟨some d,.dp fo args,g⟩,cf⟩::ld) K xr σ:=by
 obtain⟨hc,he⟩:=bY h
 refine mC hc (fun hg=> ?_) (fun hg=> ?_)
 ·have:=he al hg
  simp only[aQ,ZY]at this
  simp only[cF,au.cls,aC,this.1,this.2,yT hf]
  refine⟨bI,r,hp hg,?_⟩
  have:=k.h;rw[eH hg]at this;exact this
 ·rw[← eG hg (v:=r)];exact k.h
theorem Pw{α:Type}{f:α→List AV}{ls:List α}{e:Nat}{x:Operand}(h:ay xr g [x]=some (og,[v],ps))(hx:nC v=some (e,ls.map f))(al:OB ps)(k:VY P cfg ah ld K (bE og d (.v (.int .i64 ls.length)) xr) σ):
  VY P cfg ah (⟨ix,⟨some d,.len false x,g⟩,cf⟩::ld) K xr σ:=by
 obtain⟨hc,he⟩:=bY h
 refine mC hc (fun hg=> ?_) (fun hg=> ?_)
 ·have:=he al hg
  simp only[aQ,ZY,and_true]at this
  rcases Av hx with⟨nn,e2⟩|⟨t,b,u,c,e2⟩<;>simp only[cF,au.cls,aC,this,e2,Z5]<;>(rw[← eH hg];exact k.h)
 ·rw[← eG hg (v:= .v (.int .i64 ls.length))];exact k.h
theorem Pu{α:Type}[Inhabited α]{f:α→List AV}{ls:List α}{e:Nat}{x i:Operand}{iv:AV}{n:Int}(h:ay xr g [x,i]=some (og,[v,iv],ps))(hi:gE iv=some n)(hx:nC v=some (e,ls.map f))(al:OB ps)
  (k:VY P cfg ah ld K (bE og d (.pc (f (ls.getD n.toNat default))) xr) σ) (hb:og.getD true=true→0≤n∧n<ls.length):
  VY P cfg ah (⟨ix,⟨some d,.er e x i,g⟩,cf⟩::ld) K xr σ:=by
 obtain⟨hc,he⟩:=bY h
 refine mC hc (fun hg=> ?_) (fun hg=> ?_)
 ·have:=he al hg
  simp only[aQ,ZY,and_true]at this
  obtain⟨q,hq⟩:=pR hi
  have hb:=hb hg
  have C5:=LZ (f:=f) hb
  rcases Av hx with⟨nn,e2⟩|⟨t,b,u,c,e2⟩<;>simp only[cF,au.cls,aC,aj,this.1,this.2,e2,hq,Z5,C5]<;>(rw[← eH hg];exact⟨trivial,hb.1,hb.2,k.h⟩)
 ·rw[← eG hg (v:= .pc (f (ls.getD n.toNat default)))];exact k.h
theorem Pf{t:TypeId}{z:Value}{cs:List AV}(h:iR (z.cells.toList.map .v) some=some cs)(k:∀ b,VY P cfg ah ld K ((d,.s (.lp d b 0))::xr) ((d,b,.cells cs)::σ)):VY P cfg ah (⟨ix,⟨some d,.alloc t z,none⟩,cf⟩::ld) K xr σ:=by
 constructor
 have h:=ij h
 cases h
 exact fun b=>(k b).h
theorem Pj{t:TypeId}{af bytes:Nat}{z:List Value}{x y:Operand}{w:AV}{rows:List (List AV)}(h:ay xr none [x,y]=some (og,[.v (.slice none 0 0),w],ps))(hw:eu af w=some rows)(hl:ah.elem d=true)(al:OB ps)(hn:rows≠[])(hb:rows.length * bytes≤35184372088832)
  (k:∀ b u c,VY P cfg ah ld K ((d,.s (.own af d b u c rows))::xr) ((d,b,.tail u c)::σ)):VY P cfg ah (⟨ix,⟨some d,.append t af bytes z x y,none⟩,cf⟩::ld) K xr σ:=by
 obtain⟨_,he⟩:=bY h
 unfold ay gX at h
 obtain⟨aX,h',_,_⟩:=fb h
 have cA:og=none:=by split at h'<;>cases h';rfl
 subst cA
 have:=he al rfl
 simp only[aQ,ZY,and_true]at this
 constructor
 simp only[cx,cK,cF,au.cls,aj,this.1,this.2,hw,isApp,ZI,hl]
 exact⟨rfl,hb,fun e=>absurd e hn,fun _ b u c _=>(k b u c).h⟩
theorem Ph{t:TypeId}{af bytes tg b u c:Nat}{z:List Value}{x y:Operand}{w:AV}{rows rows':List (List AV)}(h:ay xr none [x,y]=some (og,[.own af tg b u c rows,w],ps))(hw:eu af w=some rows')(hl:aK σ tg=some (b,.tail u c))(ha:ah.elem d=true)(al:OB ps)
  (hb:(rows.length+rows'.length) * bytes≤35184372088832) (h1:rows'.all (fun r=>r.all AV.one)=true)
  (k:∀ b' u' c',VY P cfg ah ld K ((d,.s (.own af tg b' u' c' (rows++rows')))::xr) (ck σ tg b' (.tail u' c'))):VY P cfg ah (⟨ix,⟨some d,.append t af bytes z x y,none⟩,cf⟩::ld) K xr σ:=by
 obtain⟨_,he⟩:=bY h
 unfold ay gX at h
 obtain⟨aX,h',_,_⟩:=fb h
 have cA:og=none:=by split at h'<;>cases h';rfl
 subst cA
 have:=he al rfl
 simp only[aQ,ZY,and_true]at this
 constructor
 simp only[cx,cK,cF,au.cls,aj,this.1,this.2,hw,isApp,ZI,ha]
 exact⟨rfl,trivial,hl,hb,h1,fun b' u' c' _=>(k b' u' c').h⟩
theorem Pk{t:TypeId}{af bytes:Nat}{z:List Value}{x y:Operand}{w:AV}{rows rows':List (List AV)}(h:ay xr none [x,y]=some (og,[.fl af rows,w],ps))(hw:eu af w=some rows')(ha:ah.elem d=true)(al:OB ps)
  (hb:(rows.length+rows'.length) * bytes≤35184372088832) (k0:rows'=[]→VY P cfg ah ld K ((d,.s (.fl af rows))::xr) σ)
  (k:rows'≠[]→∀ b u c,VY P cfg ah ld K ((d,.s (.own af d b u c (rows++rows')))::xr) ((d,b,.tail u c)::σ)):VY P cfg ah (⟨ix,⟨some d,.append t af bytes z x y,none⟩,cf⟩::ld) K xr σ:=by
 obtain⟨_,he⟩:=bY h
 unfold ay gX at h
 obtain⟨aX,h',_,_⟩:=fb h
 have cA:og=none:=by split at h'<;>cases h';rfl
 subst cA
 have:=he al rfl
 simp only[aQ,ZY,and_true]at this
 constructor
 simp only[cx,cK,cF,au.cls,aj,this.1,this.2,hw,isApp,ZI,ha]
 exact⟨rfl,trivial,hb,fun e=>(k0 e).h,fun e b u c=>(k e b u c).h⟩
theorem Pl{t:TypeId}{x:Operand}{cs:List AV}(h:ay xr none [x]=some (og,[v],ps))(hc:qL v=some cs)(al:OB ps)(k:∀ b,VY P cfg ah ld K ((d,.s (.lp d b 0))::xr) ((d,b,.cells cs)::σ)):VY P cfg ah (⟨ix,⟨some d,.box t x,none⟩,cf⟩::ld) K xr σ:=by
 obtain⟨_,he⟩:=bY h
 unfold ay gX at h
 obtain⟨aX,h',_,_⟩:=fb h
 have cA:og=none:=by split at h'<;>cases h';rfl
 subst cA
 have:=he al rfl
 simp only[aQ,ZY,and_true]at this
 constructor
 simp only[cx,cK,cF,au.cls,aj,this,B3 hc];exact fun b=>(k b).h
end
def qj(x:AV):Option (Bool×Nat×List (List AV)):=match x with
 | .sl nn e rows=>some (nn,e,rows)
 |_=>none
theorem EG{x:AV}{nn:Bool}{e:Nat}{rows:List (List AV)}(h:qj x=some (nn,e,rows)):x= .sl nn e rows:=by
 unfold qj at h
 split at h
 ·cases h;rfl
 ·cases h
section
variable {P:Program}[Glob P]{cfg:Nat→Nat}{K:ae→Store→Prop}{E:List PanicEntry→Store→Prop}{σ:Store}{l:List CI}{d:Nat}{v:AV}{xr:XR}{ps:List Prop}{g:Option (Nat×Bool)}{og:Option Bool}
theorem O8{α:Type}{f:α→List AV}{ls:List α}{e:Nat}{nn:Bool}{x y:Operand}{hv:AV}{h:Int}(ha:ay xr g [x,y]=some (og,[v,hv],ps))(hi:gE hv=some h)(hx:qj v=some (nn,e,ls.map f))(al:OB ps)
  (hb:og.getD true=true→0≤h∧h≤ls.length) (k:VX P cfg l K E (bE og d (.sl nn e ((ls.take h.toNat).map f)) xr) σ):VX P cfg (⟨some d,.slice e x none (some y),g⟩::l) K E xr σ:=by
 obtain⟨hc,he⟩:=bY ha
 refine gP hc (fun hg=> ?_) (fun hg=> ?_)
 ·have:=he al hg
  simp only[aQ,ZY,and_true]at this
  obtain⟨q,hq⟩:=pR hi
  obtain⟨b1,b2⟩:=hb hg
  simp only[aj,Option.map_none,Zy,this.1,this.2,nj,hq,EG hx,Option.getD_none,ZI,Z5]
  refine⟨trivial,Int.le_refl _,b1,b2,?_⟩
  have:=k.h
  rw[eH hg]at this
  simpa using this
 ·rw[← eG hg (v:= .sl nn e ((ls.take h.toNat).map f))];exact k.h
theorem O9{α:Type}{f:α→List AV}{ls:List α}{e:Nat}{nn:Bool}{x y:Operand}{hv:AV}{h:Int}(ha:ay xr g [x,y]=some (og,[v,hv],ps))(hi:gE hv=some h)(hx:qj v=some (nn,e,ls.map f))(al:OB ps)
  (hb:og.getD true=true→0≤h∧h≤ls.length) (k:VX P cfg l K E (bE og d (.sl nn e ((ls.drop h.toNat).map f)) xr) σ):VX P cfg (⟨some d,.slice e x (some y) none,g⟩::l) K E xr σ:=by
 obtain⟨hc,he⟩:=bY ha
 refine gP hc (fun hg=> ?_) (fun hg=> ?_)
 ·have:=he al hg
  simp only[aQ,ZY,and_true]at this
  obtain⟨q,hq⟩:=pR hi
  obtain⟨b1,b2⟩:=hb hg
  simp only[aj,Option.map_none,Zy,this.1,this.2,nj,hq,EG hx,Option.getD_none,ZI,Z5]
  refine⟨trivial,b1,b2,Int.le_refl _,?_⟩
  have:=k.h
  rw[eH hg]at this
  rw[YS,ZD (by simp),← List.map_drop]
  exact this
 ·rw[← eG hg (v:= .sl nn e ((ls.drop h.toNat).map f))];exact k.h
theorem O7{α:Type}{f:α→List AV}{ls:List α}{e:Nat}{nn:Bool}{x y z:Operand}{lv hv:AV}{lo h:Int}(ha:ay xr g [x,y,z]=some (og,[v,lv,hv],ps))(hl:gE lv=some lo)(hi:gE hv=some h)(hx:qj v=some (nn,e,ls.map f))(al:OB ps)
  (hb:og.getD true=true→0≤lo∧lo≤h∧h≤ls.length) (k:VX P cfg l K E (bE og d (.sl nn e (((ls.take h.toNat).drop lo.toNat).map f)) xr) σ):VX P cfg (⟨some d,.slice e x (some y) (some z),g⟩::l) K E xr σ:=by
 obtain⟨hc,he⟩:=bY ha
 refine gP hc (fun hg=> ?_) (fun hg=> ?_)
 ·have:=he al hg
  simp only[aQ,ZY,and_true]at this
  obtain⟨q,hq⟩:=pR hi
  obtain⟨q2,dH⟩:=pR hl
  obtain⟨b1,b2,b3⟩:=hb hg
  simp only[aj,Zy,this.1,this.2.1,this.2.2,nj,hq,dH,EG hx,ZI,Z5]
  refine⟨trivial,b1,b2,b3,?_⟩
  have:=k.h
  rw[eH hg]at this
  simpa[List.map_drop,Yb]using this
 ·rw[← eG hg (v:= .sl nn e (((ls.take h.toNat).drop lo.toNat).map f))];exact k.h
end
inductive ek:ae→ae→Prop
 |nil:ek [] []
 |cons {i:Nat} {x y:AV} {r r':ae} (h:Wk x y) (t:ek r r'):ek ((i,x)::r) ((i,y)::r')
theorem ek.lk{r r':ae}(h:ek r r')(j:Nat):Wk (Sx.lk r j) (Sx.lk r' j):=by
 induction h with
 |nil=>exact Wk.refl _
 |cons h _ ih=>
  simp only[Sx.lk]
  rename_i i _ _ _ _ _
  cases Nat.beq i j with
  |true=>exact h
  |false=>exact ih
theorem ek.refl:∀ r:ae,ek r r
 |[]=> .nil
 |(_,_)::r=> .cons (Wk.refl _) (ek.refl r)
theorem Wk.tag{ez t t' b u c:Nat}{rows:List (List AV)}:Wk (.own ez t b u c rows) (.own ez t' b u c rows):=fun _ _ h=>by
 obtain⟨off,cap,cs,rfl,hr,h4,h5,h6,h8⟩:=h.pZ
 exact R.oD hr h4 h5 h6 h8
theorem Wk.Lj{ez t b u c:Nat}{rows rows':List (List AV)}{nn:Bool}(h:rows=rows'):Wk (.own ez t b u c rows) (.sl nn ez rows'):=h ▸ Wk.own nn
theorem SW.wk{P:Program}[Glob P]{N:Nat}{s:SC}{Q:Exit→ae→Store→Prop}{rg ao:ae}{σ σ':Store}(h:SW P N s Q ao σ')(hr:ek rg ao)(hs:Sub σ' σ):SW P N s Q rg σ:=
 fun c hc M w0 a w hI hR hN hD=>h c hc M w0 a w (hI.sub hs) (fun i=>hr.lk i _ _ (hR i)) hN hD
def qC(I:Nat→ae→Store→Prop)(n:Nat)(ks:List Nat)(rg:ae)(σ:Store):Prop:=∃ ct,gj ks rg=some ct∧∃ n',n'<n∧∃ ao σ',ek ct ao∧Sub σ' σ∧I n' ao σ'
theorem qC.intro{I:Nat→ae→Store→Prop}{n:Nat}{ks:List Nat}{rg ct:ae}{σ:Store}(hk:gj ks rg=some ct)(h:∃ n',n'<n∧∃ ao σ',ek ct ao∧Sub σ' σ∧I n' ao σ'):qC I n ks rg σ:=⟨ct,hk,h⟩
theorem PJ{P:Program}[Glob P]{N:Nat}{cfg:Nat→Nat}{Q:Exit→ae→Store→Prop}{rg eO:ae}{σ:Store}{ks:List Nat}{b:AC}(I:Nat→ae→Store→Prop)(n:Nat)(hk:gj ks rg=some eO)(h0:∃ ao σ',ek eO ao∧Sub σ' σ∧I n ao σ')
  (h:∀ n rg σ,I n rg σ→WA P N cfg b (kQ (qC I n ks) Q) rg σ):WA P N cfg (.loop (.keep ks b)) Q rg σ:=by
 refine PI (fun n rg σ=>∃ ct,gj ks rg=some ct∧∃ ao σ',ek ct ao∧Sub σ' σ∧I n ao σ') n ⟨eO,hk,h0⟩ fun n rg σ ⟨ct,hf,ao,σ',hw,hs,hi⟩=>Ge hf ⟨rfl,SW.wk ((h n ao σ' hi).mono fun e bP aw he=> ?_).h hw hs⟩
 cases e with
 |normal=>obtain⟨dL,h1,n',h2,h3⟩:=he;exact⟨n',h2,dL,h1,h3⟩
 |_=>exact he
theorem PQ{P:Program}[Glob P]{N:Nat}{cfg:Nat→Nat}{Q:Exit→ae→Store→Prop}{rg ao:ae}{σ σ':Store}{a:AC}(h:WA P N cfg a Q ao σ')(hr:ek rg ao)(hs:Sub σ' σ):WA P N cfg a Q rg σ:=⟨rfl,SW.wk h.h hr hs⟩
section
variable {α:Type}
def Er(rg:ae)(σ:Store)(r:RC)(ps:List Prop)(k:List Prop→AV→Option α):Option α:=match r with
 | .tmp t=>fo (lk rg t) fun x=>k ps x
 | .cell t g n=>match lk rg t with
  | .lp tg b o=>match aK σ tg with
   |some (b',.cells l)=>match g with
    |true=>bif Nat.ble (o+n) l.length then iR ((l.drop o).take n) (fun l2=>k ((b=b')::ps) (.agg l2))else none
    |false=>match l[o]? with
     |some y=>fo y fun x=>k ((b=b')::ps) x
     |none=>none
   |_=>none
  |_=>none
def Au(rg:ae)(σ:Store):List RC→List Prop→(List Prop→List AV→Option α)→Option α
 |[],ps,k=>k ps []
 |r::l,ps,k=>Er rg σ r ps fun ps x=>Au rg σ l ps fun ps xs=>k ps (x::xs)
theorem abZ{rg:ae}{σ:Store}{rc:RC}{ps:List Prop}{k:List Prop→AV→Option α}{r:α}(h:Er rg σ rc ps k=some r):
  ∃ aX x,k aX x=some r∧(∀ p∈ps,p∈aX)∧((∀ p∈aX,p)→sn rg σ rc=some x):=by
 unfold Er at h
 split at h
 ·exact⟨_,_,gB h,fun _ h=>h,fun _=>rfl⟩
 ·split at h
  ·rename_i e1
   split at h
   ·rename_i e2
    split at h
    ·obtain⟨h1,h⟩:=ox h
     refine⟨_,_,ij h,fun p hp=>ZX _ hp,fun ha=> ?_⟩
     have hb:=ha _ (ZR ..)
     simp only[sn,e1,e2,hb,Ze,Z9 h1]
    ·split at h
     ·rename_i e3
      refine⟨_,_,gB h,fun p hp=>ZX _ hp,fun ha=> ?_⟩
      have hb:=ha _ (ZR ..)
      simp only[sn,e1,e2,hb,Ze,ZT,ZA,e3]
     ·cases h
   ·cases h
  ·cases h
theorem LU{rg:ae}{σ:Store}:∀ {l:List RC} {ps:List Prop} {k:List Prop→List AV→Option α} {r:α},Au rg σ l ps k=some r→
  ∃ aX xs,k aX xs=some r∧(∀ p∈ps,p∈aX)∧((∀ p∈aX,p)→qh rg σ l=some xs)
 |[],ps,k,r,h=>⟨ps,[],h,fun _ h=>h,fun _=>rfl⟩
 |rc::l,ps,k,r,h=>by
  simp only[Au]at h
  obtain⟨Am,x,h,h1,h2⟩:=abZ h
  obtain⟨ps2,xs,h,h3,h4⟩:=LU h
  refine⟨ps2,_,h,fun p hp=>h3 p (h1 p hp),fun ha=> ?_⟩
  simp only[qh,h2 fun p hp=>ha p (h3 p hp),h4 ha,Zy]
end
def MY(ps:List Prop)(xs:List AV):Option (List Prop×AV):=match xs with
 |[x]=>some (ps,x)
 |xs=>some (ps,.aL xs)
def oI(rg:ae)(σ:Store)(l:List RC):Option (List Prop×AV):=Au rg σ l [] MY
theorem Ar{rg:ae}{σ:Store}{l:List RC}{ps:List Prop}{x:AV}(h:oI rg σ l=some (ps,x))(hp:OB ps):u4 rg σ l=some x:=by
 obtain⟨aX,xs,h,_,h2⟩:=LU h
 unfold MY at h
 unfold u4
 split at h
 ·cases h;rw[h2 hp.all]
 ·rename_i aR
  cases h
  rw[h2 hp.all]
  split
  ·rename_i e;cases e;exact absurd rfl (aR _)
  ·rename_i e;cases e;rfl
  ·rename_i e;cases e
theorem ab1{rg:ae}{σ:Store}{v:AV}{ps:List Prop}{res:List RC}{R:cU→Store→Prop}(e:oI rg σ res=some (ps,v))(hp:OB ps)(h:R (.ret v) σ):j0 res R .normal rg σ:=⟨v,Ar e hp,h⟩
theorem ab2{rg:ae}{σ:Store}{v:AV}{ps:List Prop}{res:List RC}{R:cU→Store→Prop}(e:oI rg σ res=some (ps,v))(hp:OB ps)(h:R (.ret v) σ):j0 res R .ret rg σ:=⟨v,Ar e hp,h⟩
theorem abE{rg:ae}{σ eS:Store}{v r:AV}{ps:List Prop}{res:List RC}(e:oI rg σ res=some (ps,v))(hp:OB ps)(h:Fin eS r v σ):kN res r eS .normal rg σ:=⟨v,Ar e hp,h.1,h.2⟩
theorem abF{rg:ae}{σ eS:Store}{v r:AV}{ps:List Prop}{res:List RC}(e:oI rg σ res=some (ps,v))(hp:OB ps)(h:Fin eS r v σ):kN res r eS .ret rg σ:=⟨v,Ar e hp,h.1,h.2⟩
theorem bd{p:Prop}[Decidable p]{b:Bool}(h:b=true↔p):AV.v (.bool b)=AV.v (.bool (decide p)):=by
 have:b=decide p:=by rw[YH,h];simp
 rw[this]
theorem bw{n:Int}(h: -9223372036854775808≤n∧n≤9223372036854775807):IntKind.i64.wrap n=n:=Go.IntWalk.i64_in n h
theorem fL{i n:Nat}(h:i<n)(hn:n≤maxLen):IntKind.i64.wrap ((i:Int)+1)=((i+1:Nat):Int):=by
 rw[bw]
 ·rfl
 ·unfold maxLen at hn;omega
theorem getD_eq{α:Type}[Inhabited α]{l:List α}{i:Nat}(h:i<l.length):l.getD i default=l[i]:=by simp[ZV,h]
theorem ei{α:Type}[Inhabited α]{l:List α}{i:Nat}(h:i<l.length):l.getD i default∈l:=by rw[getD_eq h];exact Za h
theorem yN{α:Type}[Inhabited α]{l:List α}{i:Nat}(h:i<l.length):l.drop i=l.getD i default::l.drop (i+1):=by
 rw[getD_eq h];exact Zi h
theorem Ek{i:Nat}(h:0<i)(hn:i≤maxLen):IntKind.i64.wrap ((i:Int)-1)=((i-1:Nat):Int):=by
 rw[bw (by unfold maxLen at hn;omega)];omega
end Go.Sx
