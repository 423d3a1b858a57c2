/-
  The layer Sx, nineteenth part: the rules for whole runs.
-/
import Derived.Test.YtbihckigennlhaaGreatDoorSxX
import Derived.IntWalk
set_option linter.unusedVariables false
set_option linter.unusedSimpArgs false
set_option linter.unusedSectionVars false
namespace Go.Sx
open Go.RowKit
def toXO:Regs→Option XR
 |[]=>some []
 |(i,x)::r=>match toXO r with
  |some l=>some ((i,.s x)::l)
  |none=>none
theorem toXO_eq:∀ {rg:Regs} {xr:XR},toXO rg=some xr→toX rg=xr
 |[],_,h=>by cases h;rfl
 |(i,x)::r,xr,h=>by
  simp only[toXO]at h
  split at h
  ·rename_i e;cases h;rw[toX,toXO_eq e]
  ·cases h
def putX(og:Option Bool)(d:Nat)(v:AV)(xr:XR):XR:=(d,match og with
 |none=> .s v
 |some b=> .o b v)::xr
def argO(xr:XR)(g:Option (Nat×Bool))(args:List Operand):Option (Option Bool×List AV×List Prop):=
 gX xr g fun og=>needs og xr (tmpsOf args) [] fun ps=>match evsO (raw xr) args with
  |some as=>some (og,as,ps)
  |none=>none
section
variable {P:Program}[Glob P]{N:Nat}{cfg:Nat→Nat}{Q:Exit→Regs→Store→Prop}{K:Regs→Store→Prop}{E:List PanicEntry→Store→Prop}{rg:Regs}{σ σ':Store}{l rest:List CI}{d:Nat}{op:IOp}{p:Prop}{v:AV}{xr xr':XR}{ps:List Prop}{c:CI}
 {als cf:List Nat} {ix:Nat} {ld restd:List CD} {cd:CD} {g:Option (Nat×Bool)} {og:Option Bool} {as:List AV} {args:List Operand}
theorem putX_t(h:og.getD true=true):den (putX og d v xr)=(d,v)::den xr:=by
 cases og with
 |none=>rfl
 |some b=>have h:b=true:=h;subst h;rfl
theorem putX_f(h:og.getD true=false):den (putX og d v xr)=(d,.v undef)::den xr:=by
 cases og with
 |none=>cases h
 |some b=>have h:b=false:=h;subst h;rfl
theorem argO_eq(h:argO xr g args=some (og,as,ps)):Cond xr g og∧(OB ps→og.getD true=true→evs (den xr) args=as):=by
 unfold argO at h
 obtain⟨b,h,hc,_⟩:=gX_eq h
 obtain⟨ps',h,_,h3⟩:=needs_eq h
 split at h
 ·rename_i as' e
  cases h
  refine⟨hc,fun hp hg=> ?_⟩
  rw[← evs_local args (h3 hp.all hg)]
  exact evsO_eq e
 ·cases h
theorem WA_regX(hx:toXO rg=some xr)(h:VX P cfg l (Q .normal) (fun ch σ'=>Q (.panic ch) [] σ') xr σ):WA P N cfg (.reg l) Q rg σ:=
 ⟨rfl,SW_regX cfg (by have:=h.h;rwa [← toXO_eq hx,den_toX]at this)⟩
theorem WA_mregX{ld:List CD}(hx:toXO rg=some xr)(h:VY P cfg als ld (Cl (Q .normal)) xr σ):WA P N cfg (.mreg als ld) Q rg σ:=
 ⟨rfl,SW_mregM cfg (by have:=h.h;rwa [← toXO_eq hx,den_toX]at this)⟩
theorem WA_dregX(hx:toXO rg=some xr)(h:VY P cfg [] (bare l) (Cl (Q .normal)) xr σ):WA P N cfg (.dreg l) Q rg σ:=
 ⟨rfl,SW_dregM cfg (by have:=h.h;rwa [← toXO_eq hx,den_toX]at this)⟩
theorem VX_nil(h:K (den xr) σ):VX P cfg [] K E xr σ:=⟨h⟩
theorem VX_run(_h0:stopC cfg c.op=false)(h:runL cfg (c::l) xr σ []=some (ps,xr',σ',rest))(hp:OB ps)(k:VX P cfg rest K E xr' σ'):VX P cfg (c::l) K E xr σ:=
 ⟨(runL_eq h).2 hp.all k.h⟩
theorem VX_det(h:stepX cfg (fun _ _=>true) c xr σ [] (fun ps xr σ=>some (ps,xr,σ))=some (ps,xr',σ'))(hp:OB ps)(k:VX P cfg l K E xr' σ'):VX P cfg (c::l) K E xr σ:=by
 constructor
 obtain⟨ps1,xr1,σ1,b,h,h2,hc,h3⟩:=stepX_eq h
 cases h
 obtain⟨s1,s2⟩:=h3 hp.all
 simp only[vcX]
 rw[vcG_GG]
 refine hc _ _ (fun hg=> ?_) (fun hg=> ?_)
 ·obtain⟨v,ho,hd⟩:=s1 hg
  exact outL ho (by rw[← hd];exact k.h)
 ·obtain⟨e,hd⟩:=s2 hg
  rw[← hd,← e];exact k.h
theorem row_getD{α:Type}[Inhabited α]{f:α→List AV}{ls:List α}{n:Int}(h:0≤n∧n<ls.length):(ls.map f).getD n.toNat []=f (ls.getD n.toNat default):=by
 have hlt:n.toNat<ls.length:=by omega
 simp[List.getD_eq_getElem?_getD,hlt]
theorem VX_gen(hc:Cond xr g og)(h1:og.getD true=true→vcO P cfg (some d) (den xr) σ (fun x σ'=>vcX P cfg l K E ((d,x)::den xr) σ') E op)(h2:og.getD true=false→vcX P cfg l K E ((d,.v undef)::den xr) σ):VX P cfg (⟨some d,op,g⟩::l) K E xr σ:=by
 constructor
 simp only[vcX]
 rw[vcG_GG]
 exact hc _ _ h1 h2
theorem VX_call{f:FuncId}{r:AV}(h:argO xr g args=some (og,as,ps))(hp:og.getD true=true→Pure P f as r)(hps:OB ps)(k:VX P cfg l K E (putX og d r xr) σ):VX P cfg (⟨some d,.call f args,g⟩::l) K E xr σ:=by
 obtain⟨hc,he⟩:=argO_eq h
 refine VX_gen hc (fun hg=> ?_) (fun hg=> ?_)
 ·simp only[vcO,he hps hg]
  refine callP_pure (hp hg) ?_
  rw[← putX_t hg];exact k.h
 ·rw[← putX_f hg (v:=r)];exact k.h
theorem VX_callv{f:FuncId}{r fv:AV}{fo:Operand}{a c:Array Value}(h:argO xr g (fo::args)=some (og,fv::as,ps))(hf:fnO fv=some (f,a,c))(hcl:callable P f=true)(hp:og.getD true=true→Pure P f (a.toList.map .v++as++c.toList.map .v) r)(hps:OB ps)(k:VX P cfg l K E (putX og d r xr) σ):
  VX P cfg (⟨some d,.callv fo args,g⟩::l) K E xr σ:=by
 obtain⟨hc,he⟩:=argO_eq h
 refine VX_gen hc (fun hg=> ?_) (fun hg=> ?_)
 ·have:=he hps hg
  simp only[evs,List.cons.injEq]at this
  simp only[vcO,this.1,this.2,fnO_eq hf]
  refine⟨hcl,callP_pure (hp hg) ?_⟩
  rw[← putX_t hg];exact k.h
 ·rw[← putX_f hg (v:=r)];exact k.h
theorem VX_spec{f:FuncId}{R:Res→Store→Prop}(h:argO xr none args=some (og,as,ps))(hp:Spec P f as σ R)(hps:OB ps)(k:∀ x σ',R (.ret x) σ'→VX P cfg l K E ((d,.s x)::xr) σ')(e:∀ ch σ',R (.pan ch) σ'→E ch σ'):
  VX P cfg (⟨some d,.call f args,none⟩::l) K E xr σ:=by
 obtain⟨hc,he⟩:=argO_eq h
 unfold argO gX at h
 obtain⟨ps',h',_,_⟩:=needs_eq h
 have hog:og=none:=by split at h'<;>cases h';rfl
 subst hog
 refine VX_gen hc (fun hg=> ?_) (fun hg=>nomatch hg)
 simp only[vcO,he hps hg]
 exact⟨R,hp,fun x σ' hr=>(k x σ' hr).h,e⟩
theorem VX_panic{d:Option Nat}{x:Operand}{t:TypeId}{y:AV}{v:Value}(h:argO xr none [x]=some (og,[.ifc t y],ps))(hv:exacts [y]=some [v])(hps:OB ps)(e:E [{v:= .iface t v,recovered:=false}] σ):
  VX P cfg (⟨d,.panic x,none⟩::l) K E xr σ:=by
 obtain⟨hc,he⟩:=argO_eq h
 unfold argO gX at h
 obtain⟨ps',h',_,_⟩:=needs_eq h
 have hog:og=none:=by split at h'<;>cases h';rfl
 subst hog
 constructor
 have:=he hps rfl
 simp only[evs,List.cons.injEq,and_true]at this
 simp only[vcX,vcG,vcO,this,hv]
 exact e
theorem VX_len{α:Type}{f:α→List AV}{ls:List α}{e:Nat}{x:Operand}(h:argO xr g [x]=some (og,[v],ps))(hx:rowsO v=some (e,ls.map f))(hps:OB ps)(k:(og.getD true=true→ls.length≤maxLen)→VX P cfg l K E (putX og d (.v (.int .i64 ls.length)) xr) σ):
  VX P cfg (⟨some d,.len false x,g⟩::l) K E xr σ:=by
 obtain⟨hc,he⟩:=argO_eq h
 refine VX_gen hc (fun hg=> ?_) (fun hg=> ?_)
 ·have:=he hps hg
  simp only[evs,List.cons.injEq,and_true]at this
  rcases rowsO_eq hx with⟨nn,e2⟩|⟨t,b,u,c,e2⟩<;>simp only[vcO,this,e2,List.length_map]<;>(intro hl;rw[← putX_t hg];exact(k fun _=>hl).h)
 ·rw[← putX_f hg (v:= .v (.int .i64 ls.length))];exact(k fun hg'=>by rw[hg]at hg';cases hg').h
theorem VX_iad{α:Type}[Inhabited α]{f:α→List AV}{ls:List α}{e:Nat}{x i:Operand}{iv:AV}{n:Int}(h:argO xr g [x,i]=some (og,[v,iv],ps))(hi:intO iv=some n)(hx:rowsO v=some (e,ls.map f))(hps:OB ps)
  (k:VX P cfg l K E (putX og d (.pc (f (ls.getD n.toNat default))) xr) σ) (hb:og.getD true=true→0≤n∧n<ls.length):
  VX P cfg (⟨some d,.iaddr e x i,g⟩::l) K E xr σ:=by
 obtain⟨hc,he⟩:=argO_eq h
 refine VX_gen hc (fun hg=> ?_) (fun hg=> ?_)
 ·have:=he hps hg
  simp only[evs,List.cons.injEq,and_true]at this
  obtain⟨q,hq⟩:=intO_eq hi
  have hb:=hb hg
  have hga:=row_getD (f:=f) hb
  rcases rowsO_eq hx with⟨nn,e2⟩|⟨t,b,u,c,e2⟩<;>simp only[vcO,this.1,this.2,e2,hq,List.length_map,hga]<;>(rw[← putX_t hg];exact⟨trivial,hb.1,hb.2,k.h⟩)
 ·rw[← putX_f hg (v:= .pc (f (ls.getD n.toNat default)))];exact k.h
theorem VX_alloc{t:TypeId}{z:Value}{cs:List AV}(h:foL (z.cells.toList.map .v) some=some cs)(k:∀ b,VX P cfg l K E ((d,.s (.lp d b 0))::xr) ((d,b,.cells cs)::σ)):VX P cfg (⟨some d,.alloc t z,none⟩::l) K E xr σ:=by
 constructor
 have h:=foL_eq h
 cases h
 simp only[vcX,vcG,vcO];exact fun b=>(k b).h
theorem VX_box{t:TypeId}{x:Operand}{cs:List AV}(h:argO xr none [x]=some (og,[v],ps))(hc:cellO v=some cs)(hps:OB ps)(k:∀ b,VX P cfg l K E ((d,.s (.lp d b 0))::xr) ((d,b,.cells cs)::σ)):VX P cfg (⟨some d,.box t x,none⟩::l) K E xr σ:=by
 obtain⟨_,he⟩:=argO_eq h
 unfold argO gX at h
 obtain⟨ps',h',_,_⟩:=needs_eq h
 have hog:og=none:=by split at h'<;>cases h';rfl
 subst hog
 have:=he hps rfl
 simp only[evs,List.cons.injEq,and_true]at this
 constructor
 simp only[vcX,vcG,vcO,this,cellO_eq hc];exact fun b=>(k b).h
theorem VX_mk0{t:TypeId}{esz:Nat}(hc:cfg d=1)(he:0<esz)(k:∀ b,VX P cfg l K E ((d,.s (.own esz d b 0 0 []))::xr) ((d,b,.tail 0 0)::σ)):VX P cfg (⟨some d,.mksl t esz [],none⟩::l) K E xr σ:=by
 constructor
 simp only[vcX,vcG,vcO,evs,rowsOf,Option.getD_some,hc,List.length_nil,Nat.zero_mul]
 exact⟨Nat.zero_le _,he,fun b=>(k b).h⟩
theorem VX_app0{t:TypeId}{esz bytes:Nat}{z:List Value}{x y:Operand}{w:AV}{rows:List (List AV)}(h:argO xr none [x,y]=some (og,[.v (.slice none 0 0),w],ps))(hw:rowsV esz w=some rows)(hps:OB ps)(hn:rows≠[])(hb:rows.length * bytes≤35184372088832)
  (k:∀ b u c,VX P cfg l K E ((d,.s (.own esz d b u c rows))::xr) ((d,b,.tail u c)::σ)):VX P cfg (⟨some d,.append t esz bytes z x y,none⟩::l) K E xr σ:=by
 obtain⟨_,he⟩:=argO_eq h
 unfold argO gX at h
 obtain⟨ps',h',_,_⟩:=needs_eq h
 have hog:og=none:=by split at h'<;>cases h';rfl
 subst hog
 have:=he hps rfl
 simp only[evs,List.cons.injEq,and_true]at this
 constructor
 simp only[vcX,vcG,vcO,this.1,this.2,hw]
 exact⟨hb,fun e=>absurd e hn,fun _ b u c _=>(k b u c).h⟩
theorem VX_app{t:TypeId}{esz bytes tg b u c:Nat}{z:List Value}{x y:Operand}{w:AV}{rows rows':List (List AV)}(h:argO xr none [x,y]=some (og,[.own esz tg b u c rows,w],ps))(hw:rowsV esz w=some rows')(hl:lkt σ tg=some (b,.tail u c))(hps:OB ps)
  (hb:(rows.length+rows'.length) * bytes≤35184372088832) (h1:rows'.all (fun r=>r.all AV.one)=true)
  (k:∀ b' u' c',VX P cfg l K E ((d,.s (.own esz tg b' u' c' (rows++rows')))::xr) (upt σ tg b' (.tail u' c'))):VX P cfg (⟨some d,.append t esz bytes z x y,none⟩::l) K E xr σ:=by
 obtain⟨_,he⟩:=argO_eq h
 unfold argO gX at h
 obtain⟨ps',h',_,_⟩:=needs_eq h
 have hog:og=none:=by split at h'<;>cases h';rfl
 subst hog
 have:=he hps rfl
 simp only[evs,List.cons.injEq,and_true]at this
 constructor
 simp only[vcX,vcG,vcO,this.1,this.2,hw]
 exact⟨trivial,hl,hb,h1,fun b' u' c' _=>(k b' u' c').h⟩
theorem VX_app0u{t:TypeId}{esz bytes:Nat}{z:List Value}{x y:Operand}{w:AV}{rows:List (List AV)}(h:argO xr none [x,y]=some (og,[.v (.slice none 0 0),w],ps))(hw:rowsV esz w=some rows)(hps:OB ps)(hn:rows≠[])(hb:rows.length * bytes≤35184372088832)
  (k:∀ b u c,u=rows.length * esz→VX P cfg l K E ((d,.s (.own esz d b u c rows))::xr) ((d,b,.tail u c)::σ)):VX P cfg (⟨some d,.append t esz bytes z x y,none⟩::l) K E xr σ:=by
 obtain⟨_,he⟩:=argO_eq h
 unfold argO gX at h
 obtain⟨ps',h',_,_⟩:=needs_eq h
 have hog:og=none:=by split at h'<;>cases h';rfl
 subst hog
 have:=he hps rfl
 simp only[evs,List.cons.injEq,and_true]at this
 constructor
 simp only[vcX,vcG,vcO,this.1,this.2,hw]
 exact⟨hb,fun e=>absurd e hn,fun _ b u c hu=>(k b u c hu).h⟩
theorem VX_appu{t:TypeId}{esz bytes tg b u c:Nat}{z:List Value}{x y:Operand}{w:AV}{rows rows':List (List AV)}(h:argO xr none [x,y]=some (og,[.own esz tg b u c rows,w],ps))(hw:rowsV esz w=some rows')(hl:lkt σ tg=some (b,.tail u c))(hps:OB ps)
  (hb:(rows.length+rows'.length) * bytes≤35184372088832) (h1:rows'.all (fun r=>r.all AV.one)=true)
  (k:∀ b' u' c',(u=rows.length * esz→u'=(rows.length+rows'.length) * esz)→VX P cfg l K E ((d,.s (.own esz tg b' u' c' (rows++rows')))::xr) (upt σ tg b' (.tail u' c'))):VX P cfg (⟨some d,.append t esz bytes z x y,none⟩::l) K E xr σ:=by
 obtain⟨_,he⟩:=argO_eq h
 unfold argO gX at h
 obtain⟨ps',h',_,_⟩:=needs_eq h
 have hog:og=none:=by split at h'<;>cases h';rfl
 subst hog
 have:=he hps rfl
 simp only[evs,List.cons.injEq,and_true]at this
 constructor
 simp only[vcX,vcG,vcO,this.1,this.2,hw]
 exact⟨trivial,hl,hb,h1,fun b' u' c' hu=>(k b' u' c' hu).h⟩
theorem VX_appf{t:TypeId}{esz bytes:Nat}{z:List Value}{x y:Operand}{w:AV}{rows rows':List (List AV)}(h:argO xr none [x,y]=some (og,[.fl esz rows,w],ps))(hw:rowsV esz w=some rows')(hps:OB ps)
  (hb:(rows.length+rows'.length) * bytes≤35184372088832) (k0:rows'=[]→VX P cfg l K E ((d,.s (.fl esz rows))::xr) σ)
  (k:rows'≠[]→∀ b u c,VX P cfg l K E ((d,.s (.own esz d b u c (rows++rows')))::xr) ((d,b,.tail u c)::σ)):VX P cfg (⟨some d,.append t esz bytes z x y,none⟩::l) K E xr σ:=by
 obtain⟨_,he⟩:=argO_eq h
 unfold argO gX at h
 obtain⟨ps',h',_,_⟩:=needs_eq h
 have hog:og=none:=by split at h'<;>cases h';rfl
 subst hog
 have:=he hps rfl
 simp only[evs,List.cons.injEq,and_true]at this
 constructor
 simp only[vcX,vcG,vcO,this.1,this.2,hw]
 exact⟨trivial,hb,fun e=>(k0 e).h,fun e b u c=>(k e b u c).h⟩
theorem VY_nil(h:K (den xr) σ):VY P cfg als [] (Cl K) xr σ:=⟨Cl.intro h⟩
theorem VY_run(_h0:stopC cfg cd.c.op=false)(h:runM cfg als (cd::ld) xr σ []=some (ps,xr',σ',restd))(hp:OB ps)(k:VY P cfg als restd K xr' σ'):VY P cfg als (cd::ld) K xr σ:=
 ⟨(runM_eq h).2 hp.all k.h⟩
theorem VY_det(h:stepX cfg (okX als cd.cf) cd.c xr σ [] (fun ps xr σ=>some (ps,xr,σ))=some (ps,xr',σ'))(hp:OB ps)(k:VY P cfg als ld K xr' σ'):VY P cfg als (cd::ld) K xr σ:=by
 constructor
 obtain⟨ps1,xr1,σ1,b,h,h2,hc,h3⟩:=stepX_eq h
 cases h
 obtain⟨s1,s2⟩:=h3 hp.all
 simp only[vcM]
 rw[vcGD_GG]
 refine hc _ _ (fun hg=> ?_) (fun hg=> ?_)
 ·obtain⟨v,ho,hd⟩:=s1 hg
  exact outM ho (by rw[← hd];exact k.h)
 ·obtain⟨e,hd⟩:=s2 hg
  rw[← hd,← e];exact k.h
theorem VY_gen(hc:Cond xr g og)(h1:og.getD true=true→vcOD P cfg als cf (some d) (den xr) σ (fun x σ'=>vcM P cfg als ld K ((d,x)::den xr) σ') op)(h2:og.getD true=false→vcM P cfg als ld K ((d,.v undef)::den xr) σ):VY P cfg als (⟨ix,⟨some d,op,g⟩,cf⟩::ld) K xr σ:=by
 constructor
 simp only[vcM]
 rw[vcGD_GG]
 exact hc _ _ h1 h2
theorem VY_call{f:FuncId}{r:AV}(h:argO xr g args=some (og,as,ps))(hp:og.getD true=true→Pure P f as r)(hps:OB ps)(k:VY P cfg als ld K (putX og d r xr) σ):VY P cfg als (⟨ix,⟨some d,.call f args,g⟩,cf⟩::ld) K xr σ:=by
 obtain⟨hc,he⟩:=argO_eq h
 refine VY_gen hc (fun hg=> ?_) (fun hg=> ?_)
 ·simp only[vcOD,IOp.cls,vcOQ,he hps hg]
  refine⟨r,hp hg,?_⟩
  have:=k.h;rw[putX_t hg]at this;exact this
 ·rw[← putX_f hg (v:=r)];exact k.h
theorem VY_callv{f:FuncId}{r fv:AV}{fo:Operand}{a c:Array Value}(h:argO xr g (fo::args)=some (og,fv::as,ps))(hf:fnO fv=some (f,a,c))(hcl:callable P f=true)(hp:og.getD true=true→Pure P f (a.toList.map .v++as++c.toList.map .v) r)(hps:OB ps)(k:VY P cfg als ld K (putX og d r xr) σ):
  VY P cfg als (⟨ix,⟨some d,.callv fo args,g⟩,cf⟩::ld) K xr σ:=by
 obtain⟨hc,he⟩:=argO_eq h
 refine VY_gen hc (fun hg=> ?_) (fun hg=> ?_)
 ·have:=he hps hg
  simp only[evs,List.cons.injEq]at this
  simp only[vcOD,IOp.cls,vcOQ,this.1,this.2,fnO_eq hf]
  refine⟨hcl,r,hp hg,?_⟩
  have:=k.h;rw[putX_t hg]at this;exact this
 ·rw[← putX_f hg (v:=r)];exact k.h
theorem VY_len{α:Type}{f:α→List AV}{ls:List α}{e:Nat}{x:Operand}(h:argO xr g [x]=some (og,[v],ps))(hx:rowsO v=some (e,ls.map f))(hps:OB ps)(k:VY P cfg als ld K (putX og d (.v (.int .i64 ls.length)) xr) σ):
  VY P cfg als (⟨ix,⟨some d,.len false x,g⟩,cf⟩::ld) K xr σ:=by
 obtain⟨hc,he⟩:=argO_eq h
 refine VY_gen hc (fun hg=> ?_) (fun hg=> ?_)
 ·have:=he hps hg
  simp only[evs,List.cons.injEq,and_true]at this
  rcases rowsO_eq hx with⟨nn,e2⟩|⟨t,b,u,c,e2⟩<;>simp only[vcOD,IOp.cls,vcOQ,this,e2,List.length_map]<;>(rw[← putX_t hg];exact k.h)
 ·rw[← putX_f hg (v:= .v (.int .i64 ls.length))];exact k.h
theorem VY_iad{α:Type}[Inhabited α]{f:α→List AV}{ls:List α}{e:Nat}{x i:Operand}{iv:AV}{n:Int}(h:argO xr g [x,i]=some (og,[v,iv],ps))(hi:intO iv=some n)(hx:rowsO v=some (e,ls.map f))(hps:OB ps)
  (k:VY P cfg als ld K (putX og d (.pc (f (ls.getD n.toNat default))) xr) σ) (hb:og.getD true=true→0≤n∧n<ls.length):
  VY P cfg als (⟨ix,⟨some d,.iaddr e x i,g⟩,cf⟩::ld) K xr σ:=by
 obtain⟨hc,he⟩:=argO_eq h
 refine VY_gen hc (fun hg=> ?_) (fun hg=> ?_)
 ·have:=he hps hg
  simp only[evs,List.cons.injEq,and_true]at this
  obtain⟨q,hq⟩:=intO_eq hi
  have hb:=hb hg
  have hga:=row_getD (f:=f) hb
  rcases rowsO_eq hx with⟨nn,e2⟩|⟨t,b,u,c,e2⟩<;>simp only[vcOD,IOp.cls,vcOQ,vcO,this.1,this.2,e2,hq,List.length_map,hga]<;>(rw[← putX_t hg];exact⟨trivial,hb.1,hb.2,k.h⟩)
 ·rw[← putX_f hg (v:= .pc (f (ls.getD n.toNat default)))];exact k.h
theorem VY_alloc{t:TypeId}{z:Value}{cs:List AV}(h:foL (z.cells.toList.map .v) some=some cs)(k:∀ b,VY P cfg als ld K ((d,.s (.lp d b 0))::xr) ((d,b,.cells cs)::σ)):VY P cfg als (⟨ix,⟨some d,.alloc t z,none⟩,cf⟩::ld) K xr σ:=by
 constructor
 have h:=foL_eq h
 cases h
 exact fun b=>(k b).h
theorem VY_app0{t:TypeId}{esz bytes:Nat}{z:List Value}{x y:Operand}{w:AV}{rows:List (List AV)}(h:argO xr none [x,y]=some (og,[.v (.slice none 0 0),w],ps))(hw:rowsV esz w=some rows)(hl:als.elem d=true)(hps:OB ps)(hn:rows≠[])(hb:rows.length * bytes≤35184372088832)
  (k:∀ b u c,VY P cfg als ld K ((d,.s (.own esz d b u c rows))::xr) ((d,b,.tail u c)::σ)):VY P cfg als (⟨ix,⟨some d,.append t esz bytes z x y,none⟩,cf⟩::ld) K xr σ:=by
 obtain⟨_,he⟩:=argO_eq h
 unfold argO gX at h
 obtain⟨ps',h',_,_⟩:=needs_eq h
 have hog:og=none:=by split at h'<;>cases h';rfl
 subst hog
 have:=he hps rfl
 simp only[evs,List.cons.injEq,and_true]at this
 constructor
 simp only[vcM,vcGD,vcOD,IOp.cls,vcO,this.1,this.2,hw,isApp,Option.getD_some,hl]
 exact⟨rfl,hb,fun e=>absurd e hn,fun _ b u c _=>(k b u c).h⟩
theorem VY_app{t:TypeId}{esz bytes tg b u c:Nat}{z:List Value}{x y:Operand}{w:AV}{rows rows':List (List AV)}(h:argO xr none [x,y]=some (og,[.own esz tg b u c rows,w],ps))(hw:rowsV esz w=some rows')(hl:lkt σ tg=some (b,.tail u c))(ha:als.elem d=true)(hps:OB ps)
  (hb:(rows.length+rows'.length) * bytes≤35184372088832) (h1:rows'.all (fun r=>r.all AV.one)=true)
  (k:∀ b' u' c',VY P cfg als ld K ((d,.s (.own esz tg b' u' c' (rows++rows')))::xr) (upt σ tg b' (.tail u' c'))):VY P cfg als (⟨ix,⟨some d,.append t esz bytes z x y,none⟩,cf⟩::ld) K xr σ:=by
 obtain⟨_,he⟩:=argO_eq h
 unfold argO gX at h
 obtain⟨ps',h',_,_⟩:=needs_eq h
 have hog:og=none:=by split at h'<;>cases h';rfl
 subst hog
 have:=he hps rfl
 simp only[evs,List.cons.injEq,and_true]at this
 constructor
 simp only[vcM,vcGD,vcOD,IOp.cls,vcO,this.1,this.2,hw,isApp,Option.getD_some,ha]
 exact⟨rfl,trivial,hl,hb,h1,fun b' u' c' _=>(k b' u' c').h⟩
theorem VY_appf{t:TypeId}{esz bytes:Nat}{z:List Value}{x y:Operand}{w:AV}{rows rows':List (List AV)}(h:argO xr none [x,y]=some (og,[.fl esz rows,w],ps))(hw:rowsV esz w=some rows')(ha:als.elem d=true)(hps:OB ps)
  (hb:(rows.length+rows'.length) * bytes≤35184372088832) (k0:rows'=[]→VY P cfg als ld K ((d,.s (.fl esz rows))::xr) σ)
  (k:rows'≠[]→∀ b u c,VY P cfg als ld K ((d,.s (.own esz d b u c (rows++rows')))::xr) ((d,b,.tail u c)::σ)):VY P cfg als (⟨ix,⟨some d,.append t esz bytes z x y,none⟩,cf⟩::ld) K xr σ:=by
 obtain⟨_,he⟩:=argO_eq h
 unfold argO gX at h
 obtain⟨ps',h',_,_⟩:=needs_eq h
 have hog:og=none:=by split at h'<;>cases h';rfl
 subst hog
 have:=he hps rfl
 simp only[evs,List.cons.injEq,and_true]at this
 constructor
 simp only[vcM,vcGD,vcOD,IOp.cls,vcO,this.1,this.2,hw,isApp,Option.getD_some,ha]
 exact⟨rfl,trivial,hb,fun e=>(k0 e).h,fun e b u c=>(k e b u c).h⟩
theorem VY_box{t:TypeId}{x:Operand}{cs:List AV}(h:argO xr none [x]=some (og,[v],ps))(hc:cellO v=some cs)(hps:OB ps)(k:∀ b,VY P cfg als ld K ((d,.s (.lp d b 0))::xr) ((d,b,.cells cs)::σ)):VY P cfg als (⟨ix,⟨some d,.box t x,none⟩,cf⟩::ld) K xr σ:=by
 obtain⟨_,he⟩:=argO_eq h
 unfold argO gX at h
 obtain⟨ps',h',_,_⟩:=needs_eq h
 have hog:og=none:=by split at h'<;>cases h';rfl
 subst hog
 have:=he hps rfl
 simp only[evs,List.cons.injEq,and_true]at this
 constructor
 simp only[vcM,vcGD,vcOD,IOp.cls,vcO,this,cellO_eq hc];exact fun b=>(k b).h
end
def slO(x:AV):Option (Bool×Nat×List (List AV)):=match x with
 | .sl nn e rows=>some (nn,e,rows)
 |_=>none
theorem slO_eq{x:AV}{nn:Bool}{e:Nat}{rows:List (List AV)}(h:slO x=some (nn,e,rows)):x= .sl nn e rows:=by
 unfold slO at h
 split at h
 ·cases h;rfl
 ·cases h
section
variable {P:Program}[Glob P]{cfg:Nat→Nat}{K:Regs→Store→Prop}{E:List PanicEntry→Store→Prop}{σ:Store}{l:List CI}{d:Nat}{v:AV}{xr:XR}{ps:List Prop}{g:Option (Nat×Bool)}{og:Option Bool}
theorem VX_slh{α:Type}{f:α→List AV}{ls:List α}{e:Nat}{nn:Bool}{x y:Operand}{hv:AV}{h:Int}(ha:argO xr g [x,y]=some (og,[v,hv],ps))(hi:intO hv=some h)(hx:slO v=some (nn,e,ls.map f))(hps:OB ps)
  (hb:og.getD true=true→0≤h∧h≤ls.length) (k:VX P cfg l K E (putX og d (.sl nn e ((ls.take h.toNat).map f)) xr) σ):VX P cfg (⟨some d,.slice e x none (some y),g⟩::l) K E xr σ:=by
 obtain⟨hc,he⟩:=argO_eq ha
 refine VX_gen hc (fun hg=> ?_) (fun hg=> ?_)
 ·have:=he hps hg
  simp only[evs,List.cons.injEq,and_true]at this
  obtain⟨q,hq⟩:=intO_eq hi
  obtain⟨b1,b2⟩:=hb hg
  simp only[vcO,Option.map_none,Option.map_some,this.1,this.2,idx?,hq,slO_eq hx,Option.getD_none,Option.getD_some,List.length_map]
  refine⟨trivial,Int.le_refl _,b1,b2,?_⟩
  have:=k.h
  rw[putX_t hg]at this
  simpa using this
 ·rw[← putX_f hg (v:= .sl nn e ((ls.take h.toNat).map f))];exact k.h
theorem VX_sll{α:Type}{f:α→List AV}{ls:List α}{e:Nat}{nn:Bool}{x y:Operand}{hv:AV}{h:Int}(ha:argO xr g [x,y]=some (og,[v,hv],ps))(hi:intO hv=some h)(hx:slO v=some (nn,e,ls.map f))(hps:OB ps)
  (hb:og.getD true=true→0≤h∧h≤ls.length) (k:VX P cfg l K E (putX og d (.sl nn e ((ls.drop h.toNat).map f)) xr) σ):VX P cfg (⟨some d,.slice e x (some y) none,g⟩::l) K E xr σ:=by
 obtain⟨hc,he⟩:=argO_eq ha
 refine VX_gen hc (fun hg=> ?_) (fun hg=> ?_)
 ·have:=he hps hg
  simp only[evs,List.cons.injEq,and_true]at this
  obtain⟨q,hq⟩:=intO_eq hi
  obtain⟨b1,b2⟩:=hb hg
  simp only[vcO,Option.map_none,Option.map_some,this.1,this.2,idx?,hq,slO_eq hx,Option.getD_none,Option.getD_some,List.length_map]
  refine⟨trivial,b1,b2,Int.le_refl _,?_⟩
  have:=k.h
  rw[putX_t hg]at this
  rw[Int.toNat_natCast,List.take_of_length_le (by simp),← List.map_drop]
  exact this
 ·rw[← putX_f hg (v:= .sl nn e ((ls.drop h.toNat).map f))];exact k.h
theorem VX_slb{α:Type}{f:α→List AV}{ls:List α}{e:Nat}{nn:Bool}{x y z:Operand}{lv hv:AV}{lo h:Int}(ha:argO xr g [x,y,z]=some (og,[v,lv,hv],ps))(hl:intO lv=some lo)(hi:intO hv=some h)(hx:slO v=some (nn,e,ls.map f))(hps:OB ps)
  (hb:og.getD true=true→0≤lo∧lo≤h∧h≤ls.length) (k:VX P cfg l K E (putX og d (.sl nn e (((ls.take h.toNat).drop lo.toNat).map f)) xr) σ):VX P cfg (⟨some d,.slice e x (some y) (some z),g⟩::l) K E xr σ:=by
 obtain⟨hc,he⟩:=argO_eq ha
 refine VX_gen hc (fun hg=> ?_) (fun hg=> ?_)
 ·have:=he hps hg
  simp only[evs,List.cons.injEq,and_true]at this
  obtain⟨q,hq⟩:=intO_eq hi
  obtain⟨q2,hq2⟩:=intO_eq hl
  obtain⟨b1,b2,b3⟩:=hb hg
  simp only[vcO,Option.map_some,this.1,this.2.1,this.2.2,idx?,hq,hq2,slO_eq hx,Option.getD_some,List.length_map]
  refine⟨trivial,b1,b2,b3,?_⟩
  have:=k.h
  rw[putX_t hg]at this
  simpa[List.map_drop,List.map_take]using this
 ·rw[← putX_f hg (v:= .sl nn e (((ls.take h.toNat).drop lo.toNat).map f))];exact k.h
end
inductive WkRL:Regs→Regs→Prop
 |nil:WkRL [] []
 |cons {i:Nat} {x y:AV} {r r':Regs} (h:Wk x y) (t:WkRL r r'):WkRL ((i,x)::r) ((i,y)::r')
theorem WkRL.lk{r r':Regs}(h:WkRL r r')(j:Nat):Wk (Sx.lk r j) (Sx.lk r' j):=by
 induction h with
 |nil=>exact Wk.refl _
 |cons h _ ih=>
  simp only[Sx.lk]
  rename_i i _ _ _ _ _
  cases Nat.beq i j with
  |true=>exact h
  |false=>exact ih
theorem WkRL.refl:∀ r:Regs,WkRL r r
 |[]=> .nil
 |(_,_)::r=> .cons (Wk.refl _) (WkRL.refl r)
theorem Wk.tag{ez t t' b u c:Nat}{rows:List (List AV)}:Wk (.own ez t b u c rows) (.own ez t' b u c rows):=fun _ _ h=>by
 obtain⟨off,cap,cs,rfl,hr,h4,h5,h6,h8⟩:=h.of_own
 exact R.mk_own hr h4 h5 h6 h8
theorem Wk.ownr{ez t b u c:Nat}{rows rows':List (List AV)}{nn:Bool}(h:rows=rows'):Wk (.own ez t b u c rows) (.sl nn ez rows'):=h ▸ Wk.own nn
theorem SW.wk{P:Program}[Glob P]{N:Nat}{s:SC}{Q:Exit→Regs→Store→Prop}{rg rg':Regs}{σ σ':Store}(h:SW P N s Q rg' σ')(hr:WkRL rg rg')(hs:Sub σ' σ):SW P N s Q rg σ:=
 fun c hc M w0 a w hI hR hN hD=>h c hc M w0 a w (hI.sub hs) (fun i=>hr.lk i _ _ (hR i)) hN hD
def LoopW(I:Nat→Regs→Store→Prop)(n:Nat)(ks:List Nat)(rg:Regs)(σ:Store):Prop:=∃ rg1,filtO ks rg=some rg1∧∃ n',n'<n∧∃ rg' σ',WkRL rg1 rg'∧Sub σ' σ∧I n' rg' σ'
theorem LoopW.intro{I:Nat→Regs→Store→Prop}{n:Nat}{ks:List Nat}{rg rg1:Regs}{σ:Store}(hk:filtO ks rg=some rg1)(h:∃ n',n'<n∧∃ rg' σ',WkRL rg1 rg'∧Sub σ' σ∧I n' rg' σ'):LoopW I n ks rg σ:=⟨rg1,hk,h⟩
theorem WA_loopw{P:Program}[Glob P]{N:Nat}{cfg:Nat→Nat}{Q:Exit→Regs→Store→Prop}{rg rg0:Regs}{σ:Store}{ks:List Nat}{b:AC}(I:Nat→Regs→Store→Prop)(n:Nat)(hk:filtO ks rg=some rg0)(h0:∃ rg' σ',WkRL rg0 rg'∧Sub σ' σ∧I n rg' σ')
  (h:∀ n rg σ,I n rg σ→WA P N cfg b (thenQ (LoopW I n ks) Q) rg σ):WA P N cfg (.loop (.keep ks b)) Q rg σ:=by
 refine WA_loop (fun n rg σ=>∃ rg1,filtO ks rg=some rg1∧∃ rg' σ',WkRL rg1 rg'∧Sub σ' σ∧I n rg' σ') n ⟨rg0,hk,h0⟩ fun n rg σ ⟨rg1,hf,rg',σ',hw,hs,hi⟩=>WA_keep hf ⟨rfl,SW.wk ((h n rg' σ' hi).mono fun e rg2 σ2 he=> ?_).h hw hs⟩
 cases e with
 |normal=>obtain⟨rg3,h1,n',h2,h3⟩:=he;exact⟨n',h2,rg3,h1,h3⟩
 |_=>exact he
theorem WA_wk{P:Program}[Glob P]{N:Nat}{cfg:Nat→Nat}{Q:Exit→Regs→Store→Prop}{rg rg':Regs}{σ σ':Store}{a:AC}(h:WA P N cfg a Q rg' σ')(hr:WkRL rg rg')(hs:Sub σ' σ):WA P N cfg a Q rg σ:=⟨rfl,SW.wk h.h hr hs⟩
section
variable {α:Type}
def res1K(rg:Regs)(σ:Store)(r:RC)(ps:List Prop)(k:List Prop→AV→Option α):Option α:=match r with
 | .tmp t=>fo (lk rg t) fun x=>k ps x
 | .cell t g n=>match lk rg t with
  | .lp tg b o=>match lkt σ tg with
   |some (b',.cells l)=>match g with
    |true=>bif Nat.ble (o+n) l.length then foL ((l.drop o).take n) (fun l2=>k ((b=b')::ps) (.agg l2))else none
    |false=>match l[o]? with
     |some y=>fo y fun x=>k ((b=b')::ps) x
     |none=>none
   |_=>none
  |_=>none
def resLK(rg:Regs)(σ:Store):List RC→List Prop→(List Prop→List AV→Option α)→Option α
 |[],ps,k=>k ps []
 |r::l,ps,k=>res1K rg σ r ps fun ps x=>resLK rg σ l ps fun ps xs=>k ps (x::xs)
theorem res1K_eq{rg:Regs}{σ:Store}{rc:RC}{ps:List Prop}{k:List Prop→AV→Option α}{r:α}(h:res1K rg σ rc ps k=some r):
  ∃ ps' x,k ps' x=some r∧(∀ p∈ps,p∈ps')∧((∀ p∈ps',p)→res1 rg σ rc=some x):=by
 unfold res1K at h
 split at h
 ·exact⟨_,_,fo_eq h,fun _ h=>h,fun _=>rfl⟩
 ·split at h
  ·rename_i e1
   split at h
   ·rename_i e2
    split at h
    ·obtain⟨h1,h⟩:=ite_none h
     refine⟨_,_,foL_eq h,fun p hp=>List.mem_cons_of_mem _ hp,fun ha=> ?_⟩
     have hb:=ha _ (List.mem_cons_self ..)
     simp only[res1,e1,e2,hb,if_true,Nat.le_of_ble_eq_true h1]
    ·split at h
     ·rename_i e3
      refine⟨_,_,fo_eq h,fun p hp=>List.mem_cons_of_mem _ hp,fun ha=> ?_⟩
      have hb:=ha _ (List.mem_cons_self ..)
      simp only[res1,e1,e2,hb,if_true,Bool.false_eq_true,if_false,e3]
     ·cases h
   ·cases h
  ·cases h
theorem resLK_eq{rg:Regs}{σ:Store}:∀ {l:List RC} {ps:List Prop} {k:List Prop→List AV→Option α} {r:α},resLK rg σ l ps k=some r→
  ∃ ps' xs,k ps' xs=some r∧(∀ p∈ps,p∈ps')∧((∀ p∈ps',p)→resL rg σ l=some xs)
 |[],ps,k,r,h=>⟨ps,[],h,fun _ h=>h,fun _=>rfl⟩
 |rc::l,ps,k,r,h=>by
  simp only[resLK]at h
  obtain⟨ps1,x,h,h1,h2⟩:=res1K_eq h
  obtain⟨ps2,xs,h,h3,h4⟩:=resLK_eq h
  refine⟨ps2,_,h,fun p hp=>h3 p (h1 p hp),fun ha=> ?_⟩
  simp only[resL,h2 fun p hp=>ha p (h3 p hp),h4 ha,Option.map_some]
end
def tupO(ps:List Prop)(xs:List AV):Option (List Prop×AV):=match xs with
 |[x]=>some (ps,x)
 |xs=>some (ps,.tup xs)
def resK(rg:Regs)(σ:Store)(l:List RC):Option (List Prop×AV):=resLK rg σ l [] tupO
theorem resK_eq{rg:Regs}{σ:Store}{l:List RC}{ps:List Prop}{x:AV}(h:resK rg σ l=some (ps,x))(hp:OB ps):resA rg σ l=some x:=by
 obtain⟨ps',xs,h,_,h2⟩:=resLK_eq h
 unfold tupO at h
 unfold resA
 split at h
 ·cases h;rw[h2 hp.all]
 ·rename_i hne
  cases h
  rw[h2 hp.all]
  split
  ·rename_i e;cases e;exact absurd rfl (hne _)
  ·rename_i e;cases e;rfl
  ·rename_i e;cases e
theorem retQk_n{rg:Regs}{σ:Store}{v:AV}{ps:List Prop}{res:List RC}{R:Res→Store→Prop}(e:resK rg σ res=some (ps,v))(hp:OB ps)(h:R (.ret v) σ):retQ res R .normal rg σ:=⟨v,resK_eq e hp,h⟩
theorem retQk_r{rg:Regs}{σ:Store}{v:AV}{ps:List Prop}{res:List RC}{R:Res→Store→Prop}(e:resK rg σ res=some (ps,v))(hp:OB ps)(h:R (.ret v) σ):retQ res R .ret rg σ:=⟨v,resK_eq e hp,h⟩
theorem pureQk_n{rg:Regs}{σ σ0:Store}{v r:AV}{ps:List Prop}{res:List RC}(e:resK rg σ res=some (ps,v))(hp:OB ps)(h:Fin σ0 r v σ):pureQ res r σ0 .normal rg σ:=⟨v,resK_eq e hp,h.1,h.2⟩
theorem pureQk_r{rg:Regs}{σ σ0:Store}{v r:AV}{ps:List Prop}{res:List RC}(e:resK rg σ res=some (ps,v))(hp:OB ps)(h:Fin σ0 r v σ):pureQ res r σ0 .ret rg σ:=⟨v,resK_eq e hp,h.1,h.2⟩
theorem bd{p:Prop}[Decidable p]{b:Bool}(h:b=true↔p):AV.v (.bool b)=AV.v (.bool (decide p)):=by
 have:b=decide p:=by rw[Bool.eq_iff_iff,h];simp
 rw[this]
theorem i64w{n:Int}(h: -9223372036854775808≤n∧n≤9223372036854775807):IntKind.i64.wrap n=n:=Go.IntWalk.i64_in n h
theorem up1{i n:Nat}(h:i<n)(hn:n≤maxLen):IntKind.i64.wrap ((i:Int)+1)=((i+1:Nat):Int):=by
 rw[i64w]
 ·rfl
 ·unfold maxLen at hn;omega
theorem getD_eq{α:Type}[Inhabited α]{l:List α}{i:Nat}(h:i<l.length):l.getD i default=l[i]:=by simp[List.getD_eq_getElem?_getD,h]
theorem getD_mem{α:Type}[Inhabited α]{l:List α}{i:Nat}(h:i<l.length):l.getD i default∈l:=by rw[getD_eq h];exact List.getElem_mem h
theorem drop_get{α:Type}[Inhabited α]{l:List α}{i:Nat}(h:i<l.length):l.drop i=l.getD i default::l.drop (i+1):=by
 rw[getD_eq h];exact List.drop_eq_getElem_cons h
theorem pred1{i:Nat}(h:0<i)(hn:i≤maxLen):IntKind.i64.wrap ((i:Int)-1)=((i-1:Nat):Int):=by
 rw[i64w (by unfold maxLen at hn;omega)];omega
end Go.Sx
