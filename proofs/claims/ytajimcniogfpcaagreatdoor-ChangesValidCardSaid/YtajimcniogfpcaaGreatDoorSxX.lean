/-
  The layer Sx, eighteenth part: whole runs of operations, computed; an operation under a guard yields a value under a condition (no case is split).
-/
import Derived.Test.YtajimcniogfpcaaGreatDoorSxMix3
import Derived.IntWalk
import Derived.KernelRfl
set_option linter.unusedVariables false
set_option linter.unusedSimpArgs false
set_option linter.unusedSectionVars false
namespace Go.Sx
open Go.RowKit
inductive XV where
 |s (x:AV)
 |o (c:Bool) (x:AV)
abbrev XR:=List (Nat×XV)
def XV.den:XV→AV
 | .s x=>x
 | .o c x=>bif c then x else .v undef
def XV.val:XV→AV
 | .s x=>x
 | .o _ x=>x
def oa:XR→Nat→XV
 |[],_=> .s .any
 |(i,x)::r,j=>bif Nat.beq i j then x else oa r j
def den:XR→af
 |[]=>[]
 |(i,x)::r=>(i,x.den)::den r
def raw:XR→af
 |[]=>[]
 |(i,x)::r=>(i,x.val)::raw r
def toX:af→XR
 |[]=>[]
 |(i,x)::r=>(i,.s x)::toX r
theorem pz(t:Nat):∀ xr:XR,lk (den xr) t=(oa xr t).den
 |[]=>rfl
 |(i,x)::r=>by simp only[den,lk,oa];cases Nat.beq i t<;>simp only[Y6,YD,pz t r]
theorem z8(t:Nat):∀ xr:XR,lk (raw xr) t=(oa xr t).val
 |[]=>rfl
 |(i,x)::r=>by simp only[raw,lk,oa];cases Nat.beq i t<;>simp only[Y6,YD,z8 t r]
theorem tY:∀ rg:af,den (toX rg)=rg
 |[]=>rfl
 |(i,x)::r=>by simp only[toX,den,XV.den,tY r]
inductive OB:List Prop→Prop
 |nil:OB []
 |cons {p:Prop} {ps:List Prop} (h:p) (t:OB ps):OB (p::ps)
theorem OB.all{ps:List Prop}(h:OB ps):∀ p∈ps,p:=by
 induction h with
 |nil=>grind
 |cons h _ ih=>
  grind
theorem OB.rfl{α:Type}{a:α}{ps:List Prop}(t:OB ps):OB ((a=a)::ps):= .cons _root_.rfl t
theorem OB.aei{α:Type}{a:α}{c:Bool}{ps:List Prop}(t:OB ps):OB ((c=true→a=a)::ps):= .cons (fun _=>_root_.rfl) t
theorem OB.gtr{c:Bool}{ps:List Prop}(t:OB ps):OB ((c=true→True)::ps):= .cons (fun _=>trivial) t
theorem OB.self{a:Prop}{ps:List Prop}(t:OB ps):OB ((a→a)::ps):= .cons (fun h=>h) t
theorem OB.tr{ps:List Prop}(t:OB ps):OB (True::ps):= .cons trivial t
theorem OB.and{a b:Bool}{ps:List Prop}(t:OB ps):OB (((a && b)=true→a=true)::ps):= .cons (fun h=>by simp at h;exact h.1) t
def gX{α:Type}(xr:XR)(g:Option (Nat×Bool))(k:Option Bool→Option α):Option α:=
 match g with
 |none=>k none
 |some (t,true)=>match oa xr t with
  | .s (.v (.bool b))=>k (some b)
  | .o c (.v (.bool b))=>k (some (c && b))
  |_=>none
 |some (t,false)=>match oa xr t with
  | .s (.v (.bool b))=>k (some !b)
  | .o c (.v (.bool b))=>k (some (c && !b))
  |_=>none
def vj{α:Type}(g:Option Bool)(xr:XR):List Nat→List Prop→(List Prop→Option α)→Option α
 |[],ps,k=>k ps
 |t::ts,ps,k=>match oa xr t with
  | .s _=>vj g xr ts ps k
  | .o c _=>match g with
   |none=>vj g xr ts ((c=true)::ps) k
   |some b=>vj g xr ts ((b=true→c=true)::ps) k
def zf(xr:XR):Operand→XV
 | .tmp t=>oa xr t
 | .const v=> .s (.v v)
 | .global g=> .s (.v (.pointer (some ⟨g,0,none⟩)))
 | .func f=> .s (.v (.func (.func f) #[] #[]))
def LR{α:Type}(g:Option Bool)(xr:XR)(c a b:Operand)(ps:List Prop)(k:List Prop→Bool→Option α):Option α:=
 match zf xr c with
 | .s (.v (.bool t))=>match a,b with
  | .const (.bool true),b=>match zf xr b with
   | .s (.v (.bool y))=>k ps (t || y)
   | .o cb (.v (.bool y))=>match g with
    |none=>k ((!t=true→cb=true)::ps) (t || y)
    |some g=>k (((g && !t)=true→cb=true)::ps) (t || y)
   |_=>none
  |a,.const (.bool false)=>match zf xr a with
   | .s (.v (.bool y))=>k ps (t && y)
   | .o cb (.v (.bool y))=>match g with
    |none=>k ((t=true→cb=true)::ps) (t && y)
    |some g=>k (((g && t)=true→cb=true)::ps) (t && y)
   |_=>none
  |_,_=>none
 | .o cc (.v (.bool t))=>match g with
  |none=>none
  |some g=>match a,b with
   | .const (.bool true),b=>match zf xr b with
    | .s (.v (.bool y))=>k ((g=true→cc=true)::ps) (t || y)
    | .o cb (.v (.bool y))=>k ((g=true→cc=true)::((g && !t)=true→cb=true)::ps) (t || y)
    |_=>none
   |a,.const (.bool false)=>match zf xr a with
    | .s (.v (.bool y))=>k ((g=true→cc=true)::ps) (t && y)
    | .o cb (.v (.bool y))=>k ((g=true→cc=true)::((g && t)=true→cb=true)::ps) (t && y)
    |_=>none
   |_,_=>none
 |_=>none
def Gz:aw→Bool
 | .mv .. | .build .. | .nk .. | .jR .. | .eqs .. | .un .. | .mI .. | .nF .. | .oe .. | .od .. | .dk .. | .field .. | .extract .. | .len .. | .max2 .. | .min2 .. =>true
 | .bin op _ _=>match op with
  | .quo| .rem| .shl| .shr| .add=>false
  |_=>true
 |_=>false
def push(g:Option Bool)(op:aw)(p:Prop)(ps:List Prop):List Prop:=
 match Gz op with
 |true=>ps
 |false=>match g with
  |none=>p::ps
  |some b=>(b=true→p)::ps
def akC:aw→Bool
 | .call .. | .fR .. | .alloc .. | .box .. | .append .. | .len false _| .iz .. | .idxs .. | .slice .. | .cQ .. | .exts .. | .panic .. =>true
 | .dZ _ _ []=>true
 |_=>false
def AD(cfg:Nat→Nat)(op:aw):Bool:=match akC op with
 |true=>true
 |false=>match op with
  | .load _ _ (.tmp s)=>Nat.beq (cfg (1000000+s)) 1
  | .load _ _ (.global _)=>true
  | .store _ (.tmp s) _=>Nat.beq (cfg (1000000+s)) 1
  |_=>false
def FY{α:Type}(g:Option Bool)(d:Option Nat)(v:AV)(xr:XR)(k:XR→Option α):Option α:=
 match d with
 |some d=>match g with
  |none=>k ((d,.s v)::xr)
  |some t=>k ((d,.o t v)::xr)
 |none=>match g with
  |none=>k xr
  |some _=>none
def acA(g:Option Bool)(op:aw):Bool:=match g with
 |none=>true
 |some _=>Nat.ble op.cls 1
def Gl{α:Type}(cfg:Nat→Nat)(ok:XR→aw→Bool)(d:Option Nat)(op:aw)(g:Option Bool)(xr:XR)(σ:Store)(ps:List Prop)(k:List Prop→XR→Store→Option α):Option α:=
 vj g xr (tmpsOf op.opers) ps fun ps=>match ok xr op with
  |true=>match acA g op with
   |true=>match cR cfg d (raw xr) σ op with
    |some (p,v,σ')=>FY g d v xr fun xr=>k (push g op p ps) xr σ'
    |none=>none
   |false=>none
  |false=>none
def vH{α:Type}(cfg:Nat→Nat)(ok:XR→aw→Bool)(c:CI)(xr:XR)(σ:Store)(ps:List Prop)(k:List Prop→XR→Store→Option α):Option α:=
 gX xr c.g fun g=>match c.op with
  | .pick x a b=>LR g xr x a b ps fun ps v=>FY g c.d (.v (.bool v)) xr fun xr=>k ps xr σ
  |op=>Gl cfg ok c.d op g xr σ ps k
def C3(cfg:Nat→Nat):List CI→XR→Store→List Prop→Option (List Prop×XR×Store×List CI)
 |[],xr,σ,ps=>some (ps,xr,σ,[])
 |c::l,xr,σ,ps=>match AD cfg c.op with
  |true=>some (ps,xr,σ,c::l)
  |false=>vH cfg (fun _ _=>true) c xr σ ps fun ps xr σ=>C3 cfg l xr σ ps
def Gq(xr:XR)(t:Nat):Bool:=match oa xr t with
 | .s _=>true
 | .o _ _=>false
def j5(ah cf:List Nat)(xr:XR)(op:aw):Bool:=cf.all (Gq xr) && Ag ah cf (raw xr) op
def runM(cfg:Nat→Nat)(ah:List Nat):List CD→XR→Store→List Prop→Option (List Prop×XR×Store×List CD)
 |[],xr,σ,ps=>some (ps,xr,σ,[])
 |c::l,xr,σ,ps=>match AD cfg c.c.op with
  |true=>some (ps,xr,σ,c::l)
  |false=>vH cfg (j5 ah c.cf) c.c xr σ ps fun ps xr σ=>runM cfg ah l xr σ ps
def dD(P:Program)[Glob P](cfg:Nat→Nat):List CI→(K:af→Store→Prop)→(E:List PanicEntry→Store→Prop)→af→Store→Prop
 |[],K,_,rg,σ=>K rg σ
 |c::l,K,E,rg,σ=>bY P cfg c (fun x σ'=>dD P cfg l K E (bj c.d x rg) σ') E rg σ
def GM(rg:af)(t:Nat)(want:Bool)(A B:Prop):Prop:=match lk rg t with
 | .v (.bool b)=>(b=want→A)∧(b= !want→B)
 | .v (.tuple _)=>B
 |_=>False
def GG(rg:af)(g:Option (Nat×Bool))(A B:Prop):Prop:=match g with
 |none=>A
 |some (t,want)=>GM rg t want A B
section
variable {P:Program}[Glob P]{M:Mem}{w0:Base}{w:World}{σ σ':Store}{rg:af}{a:Act}{cfg:Nat→Nat}{N:Nat}{xr cZ:XR}{c:CI}{K K':AV→Store→Prop}{E:List PanicEntry→Store→Prop}
theorem GY:bY P cfg c K E rg σ↔GG rg c.g (al P cfg c.d rg σ K E c.op) (K (.v undef) σ):=by
 rfl
theorem MZ{ah:List Nat}{c:CD}:cm P cfg ah c K rg σ↔GG rg c.c.g (bQ P cfg ah c.cf c.c.d rg σ K c.c.op) (K (.v undef) σ):=by
 rfl
def tG(xr:XR)(g:Option (Nat×Bool))(b:Option Bool):Prop:=∀ A B:Prop,(b.getD true=true→A)→(b.getD true=false→B)→GG (den xr) g A B
theorem Jr{α:Type}{g:Option (Nat×Bool)}{k:Option Bool→Option α}{r:α}(h:gX xr g k=some r):∃ b,k b=some r∧tG xr g b∧(b=none→g=none):=by
 unfold gX at h
 split at h
 ·exact⟨none,h,fun A B h1 _=>h1 rfl,fun _=>rfl⟩
 ·split at h
  ·rename_i b e
   refine⟨_,h,fun A B h1 h2=> ?_,fun e=>nomatch e⟩
   simp only[GG,GM,pz,e,XV.den]
   grind
  ·rename_i cc b e
   refine⟨_,h,fun A B h1 h2=> ?_,fun e=>nomatch e⟩
   simp only[GG,GM,pz,e,XV.den]
   cases cc with
   |true=>grind
   |false=>exact h2 rfl
  grind
 ·split at h
  ·rename_i b e
   refine⟨_,h,fun A B h1 h2=> ?_,fun e=>nomatch e⟩
   simp only[GG,GM,pz,e,XV.den]
   grind
  ·rename_i cc b e
   refine⟨_,h,fun A B h1 h2=> ?_,fun e=>nomatch e⟩
   simp only[GG,GM,pz,e,XV.den]
   cases cc with
   |true=>grind
   |false=>exact h2 rfl
  grind
theorem fY{α:Type}{g:Option Bool}:∀ {ts:List Nat} {ps:List Prop} {k:List Prop→Option α} {r:α},vj g xr ts ps k=some r→
  ∃ bz,k bz=some r∧(∀ p∈ps,p∈bz)∧((∀ p∈bz,p)→g.getD true=true→∀ t∈ts,lk (raw xr) t=lk (den xr) t)
 |[],ps,k,r,h=>⟨ps,h,fun _ h=>h,fun _ _ _ h=>by cases h⟩
 |t::ts,ps,k,r,h=>by
  simp only[vj]at h
  split at h
  ·rename_i x e
   obtain⟨bz,h1,h2,h3⟩:=fY h
   refine⟨bz,h1,h2,fun ha hg u hu=> ?_⟩
   rcases ZT.1 hu with rfl|hu
   ·rw[z8,pz,e];rfl
   grind
  ·rename_i cc x e
   split at h
   ·obtain⟨bz,h1,h2,h3⟩:=fY h
    refine⟨bz,h1,fun p hp=>h2 p (ZO _ hp),fun ha hg u hu=> ?_⟩
    rcases ZT.1 hu with rfl|hu
    ·have:=ha _ (h2 _ (ZC ..))
     rw[z8,pz,e,this];rfl
    grind
   ·obtain⟨bz,h1,h2,h3⟩:=fY h
    refine⟨bz,h1,fun p hp=>h2 p (ZO _ hp),fun ha hg u hu=> ?_⟩
    rcases ZT.1 hu with rfl|hu
    ·have:=ha _ (h2 _ (ZC ..)) hg
     rw[z8,pz,e,this];rfl
    grind
theorem adk(x:Operand):ev (den xr) x=(zf xr x).den:=by
 cases x with
 |tmp t=>exact pz t xr
 |const v=>rfl
 |global g=>rfl
 |func f=>rfl
theorem aiu{α:Type}{g:Option Bool}{c a b:Operand}{ps:List Prop}{k:List Prop→Bool→Option α}{r:α}(h:LR g xr c a b ps k=some r):
  ∃ bz v,k bz v=some r∧(∀ p∈ps,p∈bz)∧((∀ p∈bz,p)→g.getD true=true→∃ t,ev (den xr) c= .v (.bool t)∧(if t then ev (den xr) a else ev (den xr) b)= .v (.bool v)):=by
 simp only[adk]
 unfold LR at h
 split at h
 ·rename_i t ec
  rw[ec]
  split at h
  ·split at h
   ·rename_i y eb
    refine⟨_,_,h,fun _ h=>h,fun _ _=>⟨t,rfl,?_⟩⟩
    rw[eb];cases t<;>rfl
   ·rename_i cb y eb
    split at h
    ·refine⟨_,_,h,fun p hp=>ZO _ hp,fun ha hg=>⟨t,rfl,?_⟩⟩
     rw[eb]
     have:=ha _ (ZC ..)
     cases t with
     |true=>rfl
     |false=>rw[this rfl];rfl
    ·rename_i g
     refine⟨_,_,h,fun p hp=>ZO _ hp,fun ha hg=>⟨t,rfl,?_⟩⟩
     rw[eb]
     have:=ha _ (ZC ..)
     have hg:g=true:=hg
     cases t with
     |true=>rfl
     |false=>rw[this (by grind)];rfl
   grind
  ·split at h
   ·rename_i y eb
    refine⟨_,_,h,fun _ h=>h,fun _ _=>⟨t,rfl,?_⟩⟩
    rw[eb];cases t<;>rfl
   ·rename_i cb y eb
    split at h
    ·refine⟨_,_,h,fun p hp=>ZO _ hp,fun ha hg=>⟨t,rfl,?_⟩⟩
     rw[eb]
     have:=ha _ (ZC ..)
     cases t with
     |false=>rfl
     |true=>rw[this rfl];rfl
    ·rename_i g
     refine⟨_,_,h,fun p hp=>ZO _ hp,fun ha hg=>⟨t,rfl,?_⟩⟩
     rw[eb]
     have:=ha _ (ZC ..)
     have hg:g=true:=hg
     cases t with
     |false=>rfl
     |true=>rw[this (by rw[hg];rfl)];rfl
   grind
  grind
 ·rename_i cc t ec
  rw[ec]
  split at h
  ·cases h
  ·rename_i g
   split at h
   ·split at h
    ·rename_i y eb
     refine⟨_,_,h,fun p hp=>ZO _ hp,fun ha hg=> ?_⟩
     have:=ha _ (ZC ..) hg
     subst this
     refine⟨t,rfl,?_⟩
     rw[eb];cases t<;>rfl
    ·rename_i cb y eb
     refine⟨_,_,h,fun p hp=>ZO _ (ZO _ hp),fun ha hg=> ?_⟩
     have hg:g=true:=hg
     have h1:=ha _ (ZC ..) hg
     have h2:=ha _ (ZO _ (ZC ..))
     subst h1
     refine⟨t,rfl,?_⟩
     rw[eb]
     cases t with
     |true=>rfl
     |false=>rw[h2 (by rw[hg];rfl)];rfl
    ·cases h
   ·split at h
    ·rename_i y eb
     refine⟨_,_,h,fun p hp=>ZO _ hp,fun ha hg=> ?_⟩
     have:=ha _ (ZC ..) hg
     subst this
     refine⟨t,rfl,?_⟩
     rw[eb];cases t<;>rfl
    ·rename_i cb y eb
     refine⟨_,_,h,fun p hp=>ZO _ (ZO _ hp),fun ha hg=> ?_⟩
     have hg:g=true:=hg
     have h1:=ha _ (ZC ..) hg
     have h2:=ha _ (ZO _ (ZC ..))
     subst h1
     refine⟨t,rfl,?_⟩
     rw[eb]
     cases t with
     |false=>rfl
     |true=>rw[h2 (by rw[hg];rfl)];rfl
    ·cases h
   ·cases h
 grind
theorem ak9{d:Option Nat}{op:aw}{p:Prop}{v:AV}(ht:Gz op=true)(h:cR cfg d rg σ op=some (p,v,σ')):p:=by
 cases op<;>simp only[Gz,ZV]at ht
 case bin op x y=>
  simp only[cR]at h
  split at h
  ·split at h
   ·rename_i p' r e
    cases h
    unfold DW at e
    split at e
    ·grind
    ·grind
    grind
   grind
  grind
 case len s x=>cases s<;>(simp only[cR]at h;grind)<;>cases h<;>trivial
 all_goals simp only[cR,reduceCtorEq]at h
 all_goals(repeat' split at h)
 all_goals first
  |grind
  |grind
  |(have:=jg h;cases this;trivial)
  |(have:=iT h;cases this;trivial)
  |(have:=wS h;cases this;trivial)
  |(have h2:=(se h).2;(repeat' split at h2)<;>first|(cases h2;done)|(cases h2;trivial)|(have:=jg h2;cases this;trivial)|(have:=iT h2;cases this;trivial))
theorem TW{g:Option Bool}{op:aw}{p q:Prop}{ps:List Prop}(h:q∈ps):q∈push g op p ps:=by
 unfold push
 grind
theorem aiM{g:Option Bool}{d:Option Nat}{op:aw}{p:Prop}{v:AV}{ps:List Prop}(h:cR cfg d rg σ op=some (p,v,σ'))(ha:∀ q∈push g op p ps,q)(hg:g.getD true=true):p:=by
 unfold push at ha
 cases ht:Gz op with
 |true=>exact ak9 ht h
 |false=>
  rw[ht]at ha
  cases g with
  |none=>simp_all
  |some b=>exact ha _ (ZC ..) hg
theorem ac3{d:Option Nat}{op:aw}{p:Prop}{v:AV}(hc:Nat.ble op.cls 1=true)(h:cR cfg d rg σ op=some (p,v,σ')):σ'=σ:=by
 have hc:=ZR hc
 cases e:op.cls with
 |zero=>exact IW e h
 |succ n=>
  cases op<;>simp only[aw.cls,reduceCtorEq]at e
  case load g n x=>
   simp only[cR]at h
   repeat' split at h
   all_goals first
    |grind
    |(have:=jg h;grind)
    |(have h2:=(se h).2;have:=iT h2;grind)
  all_goals(simp only[aw.cls]at hc;omega)
theorem T2{α:Type}{g:Option Bool}{d:Option Nat}{v:AV}{k:XR→Option α}{r:α}(h:FY g d v xr k=some r):
  ∃ cZ,k cZ=some r∧(g.getD true=true→den cZ=bj d v (den xr))∧(g.getD true=false→den cZ=bj d (.v undef) (den xr)):=by
 unfold FY at h
 split at h
 ·split at h
  ·exact⟨_,h,fun _=>rfl,fun e=>nomatch e⟩
  ·rename_i t
   exact⟨_,h,fun(e:t=true)=>by subst e;rfl,fun(e:t=false)=>by subst e;rfl⟩
 ·split at h
  ·exact⟨_,h,fun _=>rfl,fun e=>nomatch e⟩
  grind
def Out(cfg:Nat→Nat)(ok:XR→aw→Bool)(d:Option Nat)(op:aw)(xr:XR)(σ:Store)(v:AV)(σ':Store):Prop:=
 (∃ p,cR cfg d (raw xr) σ op=some (p,v,σ')∧p∧ok xr op=true∧∀ t∈tmpsOf op.opers,lk (raw xr) t=lk (den xr) t)∨
 (∃ x y z t,op= .pick x y z∧σ'=σ∧ev (den xr) x= .v (.bool t)∧(if t then ev (den xr) y else ev (den xr) z)=v)
def fg(cfg:Nat→Nat)(ok:XR→aw→Bool)(d:Option Nat)(op:aw)(b:Option Bool)(xr:XR)(σ:Store)(cZ:XR)(σ':Store):Prop:=
 (b.getD true=true→∃ v,Out cfg ok d op xr σ v σ'∧den cZ=bj d v (den xr))∧(b.getD true=false→σ'=σ∧den cZ=bj d (.v undef) (den xr))
theorem aky{α:Type}{ok:XR→aw→Bool}{d:Option Nat}{op:aw}{g:Option Bool}{ps:List Prop}{k:List Prop→XR→Store→Option α}{r:α}(h:Gl cfg ok d op g xr σ ps k=some r):
  ∃ bz cZ σ',k bz cZ σ'=some r∧(∀ p∈ps,p∈bz)∧((∀ p∈bz,p)→fg cfg ok d op g xr σ cZ σ'):=by
 obtain⟨bz,h,h2,h3⟩:=fY h
 split at h
 case h_2=>cases h
 rename_i bM
 split at h
 case h_2=>cases h
 rename_i dz
 split at h
 case h_2=>cases h
 rename_i p v σ' J6
 obtain⟨cZ,h,h4,h5⟩:=T2 h
 refine⟨_,cZ,σ',h,fun p hp=>TW (h2 p hp),fun ha=>⟨fun hg=>⟨v,.inl ⟨p,J6,aiM J6 ha hg,bM,h3 (fun q hq=>ha q (TW hq)) hg⟩,h4 hg⟩,fun hg=>⟨?_,h5 hg⟩⟩⟩
 cases g with
 |none=>cases hg
 |some t=>exact ac3 dz J6
theorem Gm{α:Type}{ok:XR→aw→Bool}{ps:List Prop}{k:List Prop→XR→Store→Option α}{r:α}(h:vH cfg ok c xr σ ps k=some r):
  ∃ bz cZ σ' b,k bz cZ σ'=some r∧(∀ p∈ps,p∈bz)∧tG xr c.g b∧((∀ p∈bz,p)→fg cfg ok c.d c.op b xr σ cZ σ'):=by
 obtain⟨g,h,J0,_⟩:=Jr h
 obtain⟨d,op,cg⟩:=c
 have hd:Gl cfg ok d op g xr σ ps k=some r→∃ bz cZ σ' b,k bz cZ σ'=some r∧(∀ p∈ps,p∈bz)∧tG xr cg b∧((∀ p∈bz,p)→fg cfg ok d op b xr σ cZ σ'):=fun h=>by
  obtain⟨bz,cZ,σ',h1,h2,h3⟩:=aky h
  grind
 cases op with
 |pick x a b=>
  obtain⟨bz,v,h,h2,h3⟩:=aiu h
  obtain⟨cZ,h,h4,h5⟩:=T2 h
  refine⟨bz,cZ,σ,g,h,h2,J0,fun ha=>⟨fun hg=> ?_,fun hg=>⟨rfl,h5 hg⟩⟩⟩
  obtain⟨t,e1,e2⟩:=h3 ha hg
  exact⟨_,.inr ⟨x,a,b,t,rfl,rfl,e1,e2⟩,h4 hg⟩
 |_=>exact hd h
theorem TA{ok:XR→aw→Bool}{d:Option Nat}{op:aw}{v:AV}(h:Out cfg ok d op xr σ v σ')(hk:K v σ'):al P cfg d (den xr) σ K E op:=by
 rcases h with⟨p,h1,h2,_,h4⟩|⟨x,y,z,t,rfl,rfl,h2,rfl⟩
 ·rw[← qW h4];exact ua h1 h2 hk
 ·simp only[al,h2];grind
theorem TC{ah cf:List Nat}{d:Option Nat}{op:aw}{v:AV}(h:Out cfg (j5 ah cf) d op xr σ v σ')(hk:K v σ'):bQ P cfg ah cf d (den xr) σ K op:=by
 rcases h with⟨p,h1,h2,h3,h4⟩|⟨x,y,z,t,rfl,rfl,h2,rfl⟩
 ·unfold j5 at h3
  simp at h3
  have uD:∀ t∈cf,lk (raw xr) t=lk (den xr) t:=fun t ht=>by
   have:=h3.1 t ht
   unfold Gq at this
   rw[z8,pz]
   split at this
   ·rename_i e;rw[e];rfl
   grind
  rw[← VK h4 uD]
  have ho:=h3.2
  unfold bQ
  cases hc:op.cls with
  |zero=>
   have:=IW hc h1
   subst this
   exact OO hc h1 h2 hk
  |succ n=>
   cases op<;>simp only[aw.cls,reduceCtorEq,Nat.reduceEqDiff,Nat.zero_ne_add_one]at hc<;>simp only[Ag,reduceCtorEq]at ho<;>first|simp|skip
   ·cases hc;exact⟨ho,ua h1 h2 hk⟩
   ·cases hc;exact⟨ho,ua h1 h2 hk⟩
 ·simp only[bQ,aw.cls,aJ,al,h2];grind
structure VX(P:Program)[Glob P](cfg:Nat→Nat)(l:List CI)(K:af→Store→Prop)(E:List PanicEntry→Store→Prop)(xr:XR)(σ:Store):Prop where
 h:dD P cfg l K E (den xr) σ
structure VY(P:Program)[Glob P](cfg:Nat→Nat)(ah:List Nat)(l:List CD)(K:af→Store→Prop)(xr:XR)(σ:Store):Prop where
 h:bG P cfg ah l K (den xr) σ
theorem UC{Kc:af→Store→Prop}{bz:List Prop}{rest:List CI}:∀ {l:List CI} {xr:XR} {σ:Store} {ps:List Prop},C3 cfg l xr σ ps=some (bz,cZ,σ',rest)→
  (∀ p∈ps,p∈bz)∧((∀ p∈bz,p)→dD P cfg rest Kc E (den cZ) σ'→dD P cfg l Kc E (den xr) σ)
 |[],xr,σ,ps,h=>by cases h;grind
 |c::l,xr,σ,ps,h=>by
  simp only[C3]at h
  split at h
  ·grind
  ·obtain⟨FW,Nl,aK,b,h,h2,hc,h3⟩:=Gm h
   obtain⟨i1,i2⟩:=UC h
   refine⟨fun p hp=>i1 p (h2 p hp),fun ha hk=> ?_⟩
   have hn:=i2 ha hk
   obtain⟨s1,s2⟩:=h3 fun p hp=>ha p (i1 p hp)
   refine hc _ _ (fun hg=> ?_) (fun hg=> ?_)
   ·obtain⟨v,ho,hd⟩:=s1 hg
    exact TA ho (by grind)
   grind
theorem UE{ah:List Nat}{Kc:af→Store→Prop}{bz:List Prop}{rest:List CD}:∀ {l:List CD} {xr:XR} {σ:Store} {ps:List Prop},runM cfg ah l xr σ ps=some (bz,cZ,σ',rest)→
  (∀ p∈ps,p∈bz)∧((∀ p∈bz,p)→bG P cfg ah rest Kc (den cZ) σ'→bG P cfg ah l Kc (den xr) σ)
 |[],xr,σ,ps,h=>by cases h;grind
 |c::l,xr,σ,ps,h=>by
  simp only[runM]at h
  split at h
  ·grind
  ·obtain⟨FW,Nl,aK,b,h,h2,hc,h3⟩:=Gm h
   obtain⟨i1,i2⟩:=UE h
   refine⟨fun p hp=>i1 p (h2 p hp),fun ha hk=> ?_⟩
   have hn:=i2 ha hk
   obtain⟨s1,s2⟩:=h3 fun p hp=>ha p (i1 p hp)
   refine hc _ _ (fun hg=> ?_) (fun hg=> ?_)
   ·obtain⟨v,ho,hd⟩:=s1 hg
    exact TC ho (by grind)
   grind
theorem VR(ops:Array Oper){Q:Exit→af→Store→Prop}{K:af→Store→Prop}(hK:∀ rg σ,K rg σ→Q .normal rg σ):
  ∀ (os:List Oper) (k:Nat) (l:List CI),jb P N ops os=some l→(∀ i,i<os.length→ops[k+i]? =os[i]?)→
  ∀ (M:Mem) (w0:Base) (w:World) (a:Act) (rg:af) (σ:Store),dD P cfg l K (fun ch σ'=>Q (.panic ch) [] σ') rg σ→Inv P M w0 σ w→ct M rg a→a.tmps.size=N→a.defers=Glob.df P→
   wpOps P ops (jQ P M w0 N Q) (List.range' k os.length) a w
 |[],k,l,hl,_,M,w0,w,a,rg,σ,h,hI,hR,hN,hD=>by
  simp only[jb,Z1]at hl
  subst hl
  exact⟨M,rg,σ,Mem.le.refl _,hI,hR,hN,hD,hK rg σ h⟩
 |o::os,k,l,hl,ho,M,w0,w,a,rg,σ,h,hI,hR,hN,hD=>by
  simp only[jb]at hl
  split at hl
  ·rename_i c hc
   obtain⟨l',fJ,rfl⟩:=Z7.1 hl
   have Kv:ops[k]? =some o:=by simpa using ho 0 (by simp)
   obtain⟨kG,ar⟩:=Bn hc
   simp only[Z8,List.range'_succ,wpOps,Kv]
   refine wU hc h hI hR ⟨fun M' x σ' v w' hM bw hx hk=> ?_,fun M' ch σ' w' hM bw hk=> ?_⟩
   ·have ih:=VR ops hK os (k+1) l' fJ (fun i hi=>by have:=ho (i+1) (by grind);grind) M' w0 w' (a.put o.dst v) (bj c.d x rg) σ' hk bw
     (by rw[kG];exact(hR.mono hM).put o.dst (fun t ht=>by grind) hx) (by rw[Act.size_put];grind) (by rw[Act.Bt];grind)
    refine yt.tq ?_ _ _ _ ih
    rintro e a2 w2 ⟨M2,bJ,aC,h1,h2⟩
    exact⟨M2,bJ,aC,hM.trans h1,h2⟩
   ·exact⟨M',[],σ',hM,bw,fun i=> .any _,hN,hD,hk⟩
  grind
theorem WW{l:List CI}{Q:Exit→af→Store→Prop}(cfg:Nat→Nat)(h:dD P cfg l (Q .normal) (fun ch σ'=>Q (.panic ch) [] σ') rg σ):SW P N (.ck l) Q rg σ:=by
 intro c hc M w0 a w hI hR hN hD
 obtain⟨id,ops,rfl,hl⟩:=fU hc
 show wpOps _ _ _ _ _ _
 have:=VR (P:=P) (N:=N) (cfg:=cfg) ops (Q:=Q) (K:=Q .normal) (fun _ _ h=>h) ops.toList 0 l hl (fun i hi=>by simp) M w0 w a rg σ h hI hR hN hD
 rw[Xp]
 grind
end
def toXO:af→Option XR
 |[]=>some []
 |(i,x)::r=>match toXO r with
  |some l=>some ((i,.s x)::l)
  |none=>none
theorem vL:∀ {rg:af} {xr:XR},toXO rg=some xr→toX rg=xr
 |[],_,h=>by cases h;rfl
 |(i,x)::r,xr,h=>by
  simp only[toXO]at h
  split at h
  ·rename_i e;cases h;rw[toX,vL e]
  grind
def bI(og:Option Bool)(d:Nat)(v:AV)(xr:XR):XR:=(d,match og with
 |none=> .s v
 |some b=> .o b v)::xr
def aD(xr:XR)(g:Option (Nat×Bool))(args:List Operand):Option (Option Bool×List AV×List Prop):=
 gX xr g fun og=>vj og xr (tmpsOf args) [] fun ps=>match oR (raw xr) args with
  |some as=>some (og,as,ps)
  |none=>none
section
variable {P:Program}[Glob P]{N:Nat}{cfg:Nat→Nat}{Q:Exit→af→Store→Prop}{K:af→Store→Prop}{E:List PanicEntry→Store→Prop}{rg:af}{σ σ':Store}{l rest:List CI}{d:Nat}{op:aw}{p:Prop}{v:AV}{xr cZ:XR}{ps:List Prop}{c:CI}
 {ah cf:List Nat} {ix:Nat} {ld C1:List CD} {cd:CD} {g:Option (Nat×Bool)} {og:Option Bool} {as:List AV} {args:List Operand}
theorem fq(h:og.getD true=true):den (bI og d v xr)=(d,v)::den xr:=by
 cases og with
 |none=>rfl
 |some b=>have h:b=true:=h;subst h;rfl
theorem fm(h:og.getD true=false):den (bI og d v xr)=(d,.v undef)::den xr:=by
 cases og with
 |none=>cases h
 |some b=>have h:b=false:=h;subst h;rfl
theorem bZ(h:aD xr g args=some (og,as,ps)):tG xr g og∧(OB ps→og.getD true=true→aE (den xr) args=as):=by
 obtain⟨b,h,hc,_⟩:=Jr h
 obtain⟨bz,h,_,h3⟩:=fY h
 split at h
 ·rename_i as' e
  cases h
  refine⟨hc,fun hp hg=> ?_⟩
  rw[← kY args (h3 hp.all hg)]
  exact wM e
 grind
theorem aa6(hx:toXO rg=some xr)(h:VX P cfg l (Q .normal) (fun ch σ'=>Q (.panic ch) [] σ') xr σ):WA P N cfg (.ck l) Q rg σ:=
 ⟨rfl,WW cfg (by have:=h.h;rwa [← vL hx,tY]at this)⟩
theorem aa5{ld:List CD}(hx:toXO rg=some xr)(h:VY P cfg ah ld (Cl (Q .normal)) xr σ):WA P N cfg (.eE ah ld) Q rg σ:=
 ⟨rfl,NH cfg (by have:=h.h;rwa [← vL hx,tY]at this)⟩
theorem aa2(hx:toXO rg=some xr)(h:VY P cfg [] (bare l) (Cl (Q .normal)) xr σ):WA P N cfg (.dF l) Q rg σ:=
 ⟨rfl,HG cfg (by have:=h.h;rwa [← vL hx,tY]at this)⟩
theorem aaw(h:K (den xr) σ):VX P cfg [] K E xr σ:=⟨h⟩
theorem aaz(_h0:AD cfg c.op=false)(h:C3 cfg (c::l) xr σ []=some (ps,cZ,σ',rest))(hp:OB ps)(k:VX P cfg rest K E cZ σ'):VX P cfg (c::l) K E xr σ:=
 ⟨(UC h).2 hp.all k.h⟩
theorem aaj(h:vH cfg (fun _ _=>true) c xr σ [] (fun ps xr σ=>some (ps,xr,σ))=some (ps,cZ,σ'))(hp:OB ps)(k:VX P cfg l K E cZ σ'):VX P cfg (c::l) K E xr σ:=by
 constructor
 obtain⟨FW,Nl,aK,b,h,h2,hc,h3⟩:=Gm h
 cases h
 obtain⟨s1,s2⟩:=h3 hp.all
 refine hc _ _ (fun hg=> ?_) (fun hg=> ?_)
 ·obtain⟨v,ho,hd⟩:=s1 hg
  exact TA ho (by rw[← hd];exact k.h)
 ·obtain⟨e,hd⟩:=s2 hg
  rw[← hd,← e];exact k.h
theorem Ux{α:Type}[Inhabited α]{f:α→List AV}{ls:List α}{n:Int}(h:0≤n∧n<ls.length):(ls.map f).getD n.toNat []=f (ls.getD n.toNat default):=by
 grind
theorem jt(hc:tG xr g og)(h1:og.getD true=true→al P cfg (some d) (den xr) σ (fun x σ'=>dD P cfg l K E ((d,x)::den xr) σ') E op)(h2:og.getD true=false→dD P cfg l K E ((d,.v undef)::den xr) σ):VX P cfg (⟨some d,op,g⟩::l) K E xr σ:=by
 constructor
 exact hc _ _ h1 h2
theorem NM{f:FuncId}{r:AV}(h:aD xr g args=some (og,as,ps))(hp:og.getD true=true→Pure P f as r)(aq:OB ps)(k:VX P cfg l K E (bI og d r xr) σ):VX P cfg (⟨some d,.call f args,g⟩::l) K E xr σ:=by
 obtain⟨hc,he⟩:=bZ h
 refine jt hc (fun hg=> ?_) (fun hg=> ?_)
 ·simp only[al,he aq hg]
  refine rA (hp hg) ?_
  rw[← fq hg];exact k.h
 ·rw[← fm hg (v:=r)];exact k.h
theorem yL{f:FuncId}{r fv:AV}{fo:Operand}{a c:Array Value}(h:aD xr g (fo::args)=some (og,fv::as,ps))(hf:wR fv=some (f,a,c))(bE:ij P f=true)(hp:og.getD true=true→Pure P f (a.toList.map .v++as++c.toList.map .v) r)(aq:OB ps)(k:VX P cfg l K E (bI og d r xr) σ):
  VX P cfg (⟨some d,.fR fo args,g⟩::l) K E xr σ:=by
 obtain⟨hc,he⟩:=bZ h
 refine jt hc (fun hg=> ?_) (fun hg=> ?_)
 ·have:=he aq hg
  simp only[aE,Z3]at this
  simp only[al,this.1,this.2,BG hf]
  refine⟨bE,rA (hp hg) ?_⟩
  rw[← fq hg];exact k.h
 ·rw[← fm hg (v:=r)];exact k.h
theorem A8{f:FuncId}{R:eQ→Store→Prop}(h:aD xr none args=some (og,as,ps))(hp:Spec P f as σ R)(aq:OB ps)(k:∀ x σ',R (.ret x) σ'→VX P cfg l K E ((d,.s x)::xr) σ')(e:∀ ch σ',R (.gL ch) σ'→E ch σ'):
  VX P cfg (⟨some d,.call f args,none⟩::l) K E xr σ:=by
 obtain⟨hc,he⟩:=bZ h
 obtain⟨bz,h',_,_⟩:=fY h
 have cE:og=none:=by grind
 subst cE
 refine jt hc (fun hg=> ?_) (fun hg=>nomatch hg)
 simp only[al,he aq hg]
 exact⟨R,hp,fun x σ' hr=>(k x σ' hr).h,e⟩
theorem aap{α:Type}{f:α→List AV}{ls:List α}{e:Nat}{x:Operand}(h:aD xr g [x]=some (og,[v],ps))(hx:jJ v=some (e,ls.map f))(aq:OB ps)(k:(og.getD true=true→ls.length≤maxLen)→VX P cfg l K E (bI og d (.v (.int .i64 ls.length)) xr) σ):
  VX P cfg (⟨some d,.len false x,g⟩::l) K E xr σ:=by
 obtain⟨hc,he⟩:=bZ h
 refine jt hc (fun hg=> ?_) (fun hg=> ?_)
 ·have:=he aq hg
  simp only[aE,Z3,Zn]at this
  rcases qN hx with⟨nn,e2⟩|⟨t,b,u,c,e2⟩<;>simp only[al,this,e2,Z4]<;>(intro hl;rw[← fq hg];exact(k fun _=>hl).h)
 ·rw[← fm hg (v:= .v (.int .i64 ls.length))];exact(k fun rQ=>by grind).h
theorem aaq{rows:List (List AV)}{e:Nat}{x:Operand}(h:aD xr g [x]=some (og,[v],ps))(hx:jJ v=some (e,rows))(aq:OB ps)(k:(og.getD true=true→rows.length≤maxLen)→VX P cfg l K E (bI og d (.v (.int .i64 rows.length)) xr) σ):
  VX P cfg (⟨some d,.len false x,g⟩::l) K E xr σ:=by
 obtain⟨hc,he⟩:=bZ h
 refine jt hc (fun hg=> ?_) (fun hg=> ?_)
 ·have:=he aq hg
  simp only[aE,Z3,Zn]at this
  rcases qN hx with⟨nn,e2⟩|⟨t,b,u,c,e2⟩<;>simp only[al,this,e2]<;>(intro hl;rw[← fq hg];exact(k fun _=>hl).h)
 ·rw[← fm hg (v:= .v (.int .i64 rows.length))];exact(k fun rQ=>by rw[hg]at rQ;cases rQ).h
theorem aam{α:Type}[Inhabited α]{f:α→List AV}{ls:List α}{e:Nat}{x i:Operand}{iv:AV}{n:Int}(h:aD xr g [x,i]=some (og,[v,iv],ps))(hi:iJ iv=some n)(hx:jJ v=some (e,ls.map f))(aq:OB ps)
  (k:VX P cfg l K E (bI og d (.pc (f (ls.getD n.toNat default))) xr) σ) (hb:og.getD true=true→0≤n∧n<ls.length):
  VX P cfg (⟨some d,.iz e x i,g⟩::l) K E xr σ:=by
 obtain⟨hc,he⟩:=bZ h
 refine jt hc (fun hg=> ?_) (fun hg=> ?_)
 ·have:=he aq hg
  simp only[aE,Z3,Zn]at this
  obtain⟨q,hq⟩:=pq hi
  have hb:=hb hg
  have Kh:=Ux (f:=f) hb
  rcases qN hx with⟨nn,e2⟩|⟨t,b,u,c,e2⟩<;>simp only[al,this.1,this.2,e2,hq,Z4,Kh]<;>(rw[← fq hg];exact⟨trivial,hb.1,hb.2,k.h⟩)
 ·rw[← fm hg (v:= .pc (f (ls.getD n.toNat default)))];exact k.h
theorem WX{t:TypeId}{z:Value}{cs:List AV}(h:jf (z.cells.toList.map .v) some=some cs)(k:∀ b,VX P cfg l K E ((d,.s (.lp d b 0))::xr) ((d,b,.cells cs)::σ)):VX P cfg (⟨some d,.alloc t z,none⟩::l) K E xr σ:=by
 constructor
 have h:=iT h
 cases h
 exact fun b=>(k b).h
theorem aae{t:TypeId}{x:Operand}{cs:List AV}(h:aD xr none [x]=some (og,[v],ps))(hc:pZ v=some cs)(aq:OB ps)(k:∀ b,VX P cfg l K E ((d,.s (.lp d b 0))::xr) ((d,b,.cells cs)::σ)):VX P cfg (⟨some d,.box t x,none⟩::l) K E xr σ:=by
 obtain⟨_,he⟩:=bZ h
 obtain⟨bz,h',_,_⟩:=fY h
 have cE:og=none:=by grind
 subst cE
 have:=he aq rfl
 simp only[aE,Z3,Zn]at this
 constructor
 simp only[dD,bY,al,this,yV hc];exact fun b=>(k b).h
theorem aat{t:TypeId}{ag:Nat}(hc:cfg d=1)(he:0<ag)(k:∀ b,VX P cfg l K E ((d,.s (.own ag d b 0 0 []))::xr) ((d,b,.tail 0 0)::σ)):VX P cfg (⟨some d,.dZ t ag [],none⟩::l) K E xr σ:=by
 constructor
 simp only[dD,bY,al,aE,rowsOf,Zk,hc,Z0,Nat.zero_mul]
 exact⟨ZL _,he,fun b=>(k b).h⟩
theorem aad{t:TypeId}{ag bytes:Nat}{z:List Value}{x y:Operand}{w:AV}{rows:List (List AV)}(h:aD xr none [x,y]=some (og,[.v (.slice none 0 0),w],ps))(hw:dR ag w=some rows)(aq:OB ps)(hn:rows≠[])(hb:rows.length * bytes≤35184372088832)
  (k:∀ b u c,VX P cfg l K E ((d,.s (.own ag d b u c rows))::xr) ((d,b,.tail u c)::σ)):VX P cfg (⟨some d,.append t ag bytes z x y,none⟩::l) K E xr σ:=by
 obtain⟨_,he⟩:=bZ h
 obtain⟨bz,h',_,_⟩:=fY h
 have cE:og=none:=by grind
 subst cE
 have:=he aq rfl
 simp only[aE,Z3,Zn]at this
 constructor
 simp only[dD,bY,al,this.1,this.2,hw]
 exact⟨hb,fun e=>absurd e hn,fun _ b u c _=>(k b u c).h⟩
theorem aac{t:TypeId}{ag bytes tg b u c:Nat}{z:List Value}{x y:Operand}{w:AV}{rows rows':List (List AV)}(h:aD xr none [x,y]=some (og,[.own ag tg b u c rows,w],ps))(hw:dR ag w=some rows')(hl:aM σ tg=some (b,.tail u c))(aq:OB ps)
  (hb:(rows.length+rows'.length) * bytes≤35184372088832) (h1:rows'.all (fun r=>r.all AV.one)=true)
  (k:∀ b' u' c',VX P cfg l K E ((d,.s (.own ag tg b' u' c' (rows++rows')))::xr) (dx σ tg b' (.tail u' c'))):VX P cfg (⟨some d,.append t ag bytes z x y,none⟩::l) K E xr σ:=by
 obtain⟨_,he⟩:=bZ h
 obtain⟨bz,h',_,_⟩:=fY h
 have cE:og=none:=by grind
 subst cE
 have:=he aq rfl
 simp only[aE,Z3,Zn]at this
 constructor
 simp only[dD,bY,al,this.1,this.2,hw]
 exact⟨trivial,hl,hb,h1,fun b' u' c' _=>(k b' u' c').h⟩
theorem NL{t:TypeId}{ag bytes:Nat}{z:List Value}{x y:Operand}{w:AV}{rows rows':List (List AV)}(h:aD xr none [x,y]=some (og,[.fl ag rows,w],ps))(hw:dR ag w=some rows')(aq:OB ps)
  (hb:(rows.length+rows'.length) * bytes≤35184372088832) (k0:rows'=[]→VX P cfg l K E ((d,.s (.fl ag rows))::xr) σ)
  (k:rows'≠[]→∀ b u c,VX P cfg l K E ((d,.s (.own ag d b u c (rows++rows')))::xr) ((d,b,.tail u c)::σ)):VX P cfg (⟨some d,.append t ag bytes z x y,none⟩::l) K E xr σ:=by
 obtain⟨_,he⟩:=bZ h
 obtain⟨bz,h',_,_⟩:=fY h
 have cE:og=none:=by grind
 subst cE
 have:=he aq rfl
 simp only[aE,Z3,Zn]at this
 constructor
 simp only[dD,bY,al,this.1,this.2,hw]
 exact⟨trivial,hb,fun e=>(k0 e).h,fun e b u c=>(k e b u c).h⟩
theorem aaX(h:K (den xr) σ):VY P cfg ah [] (Cl K) xr σ:=⟨Cl.intro h⟩
theorem aaY(_h0:AD cfg cd.c.op=false)(h:runM cfg ah (cd::ld) xr σ []=some (ps,cZ,σ',C1))(hp:OB ps)(k:VY P cfg ah C1 K cZ σ'):VY P cfg ah (cd::ld) K xr σ:=
 ⟨(UE h).2 hp.all k.h⟩
theorem aaO(h:vH cfg (j5 ah cd.cf) cd.c xr σ [] (fun ps xr σ=>some (ps,xr,σ))=some (ps,cZ,σ'))(hp:OB ps)(k:VY P cfg ah ld K cZ σ'):VY P cfg ah (cd::ld) K xr σ:=by
 constructor
 obtain⟨FW,Nl,aK,b,h,h2,hc,h3⟩:=Gm h
 cases h
 obtain⟨s1,s2⟩:=h3 hp.all
 refine hc _ _ (fun hg=> ?_) (fun hg=> ?_)
 ·obtain⟨v,ho,hd⟩:=s1 hg
  exact TC ho (by rw[← hd];exact k.h)
 ·obtain⟨e,hd⟩:=s2 hg
  rw[← hd,← e];exact k.h
theorem nC(hc:tG xr g og)(h1:og.getD true=true→bQ P cfg ah cf (some d) (den xr) σ (fun x σ'=>bG P cfg ah ld K ((d,x)::den xr) σ') op)(h2:og.getD true=false→bG P cfg ah ld K ((d,.v undef)::den xr) σ):VY P cfg ah (⟨ix,⟨some d,op,g⟩,cf⟩::ld) K xr σ:=by
 constructor
 exact hc _ _ h1 h2
theorem NS{f:FuncId}{r:AV}(h:aD xr g args=some (og,as,ps))(hp:og.getD true=true→Pure P f as r)(aq:OB ps)(k:VY P cfg ah ld K (bI og d r xr) σ):VY P cfg ah (⟨ix,⟨some d,.call f args,g⟩,cf⟩::ld) K xr σ:=by
 obtain⟨hc,he⟩:=bZ h
 refine nC hc (fun hg=> ?_) (fun hg=> ?_)
 ·simp only[bQ,aw.cls,aJ,he aq hg]
  refine⟨r,hp hg,?_⟩
  have:=k.h;rw[fq hg]at this;grind
 ·rw[← fm hg (v:=r)];exact k.h
theorem aaK{f:FuncId}{r fv:AV}{fo:Operand}{a c:Array Value}(h:aD xr g (fo::args)=some (og,fv::as,ps))(hf:wR fv=some (f,a,c))(bE:ij P f=true)(hp:og.getD true=true→Pure P f (a.toList.map .v++as++c.toList.map .v) r)(aq:OB ps)(k:VY P cfg ah ld K (bI og d r xr) σ):
  VY P cfg ah (⟨ix,⟨some d,.fR fo args,g⟩,cf⟩::ld) K xr σ:=by
 obtain⟨hc,he⟩:=bZ h
 refine nC hc (fun hg=> ?_) (fun hg=> ?_)
 ·have:=he aq hg
  simp only[aE,Z3]at this
  simp only[bQ,aw.cls,aJ,this.1,this.2,BG hf]
  refine⟨bE,r,hp hg,?_⟩
  have:=k.h;rw[fq hg]at this;grind
 ·rw[← fm hg (v:=r)];exact k.h
theorem aaT{α:Type}{f:α→List AV}{ls:List α}{e:Nat}{x:Operand}(h:aD xr g [x]=some (og,[v],ps))(hx:jJ v=some (e,ls.map f))(aq:OB ps)(k:VY P cfg ah ld K (bI og d (.v (.int .i64 ls.length)) xr) σ):
  VY P cfg ah (⟨ix,⟨some d,.len false x,g⟩,cf⟩::ld) K xr σ:=by
 obtain⟨hc,he⟩:=bZ h
 refine nC hc (fun hg=> ?_) (fun hg=> ?_)
 ·have:=he aq hg
  simp only[aE,Z3,Zn]at this
  rcases qN hx with⟨nn,e2⟩|⟨t,b,u,c,e2⟩<;>simp only[bQ,aw.cls,aJ,this,e2,Z4]<;>(rw[← fq hg];exact k.h)
 ·rw[← fm hg (v:= .v (.int .i64 ls.length))];exact k.h
theorem aaU{rows:List (List AV)}{e:Nat}{x:Operand}(h:aD xr g [x]=some (og,[v],ps))(hx:jJ v=some (e,rows))(aq:OB ps)(k:VY P cfg ah ld K (bI og d (.v (.int .i64 rows.length)) xr) σ):
  VY P cfg ah (⟨ix,⟨some d,.len false x,g⟩,cf⟩::ld) K xr σ:=by
 obtain⟨hc,he⟩:=bZ h
 refine nC hc (fun hg=> ?_) (fun hg=> ?_)
 ·have:=he aq hg
  simp only[aE,Z3,Zn]at this
  rcases qN hx with⟨nn,e2⟩|⟨t,b,u,c,e2⟩<;>simp only[bQ,aw.cls,aJ,this,e2]<;>(rw[← fq hg];exact k.h)
 ·rw[← fm hg (v:= .v (.int .i64 rows.length))];exact k.h
theorem aaR{α:Type}[Inhabited α]{f:α→List AV}{ls:List α}{e:Nat}{x i:Operand}{iv:AV}{n:Int}(h:aD xr g [x,i]=some (og,[v,iv],ps))(hi:iJ iv=some n)(hx:jJ v=some (e,ls.map f))(aq:OB ps)
  (k:VY P cfg ah ld K (bI og d (.pc (f (ls.getD n.toNat default))) xr) σ) (hb:og.getD true=true→0≤n∧n<ls.length):
  VY P cfg ah (⟨ix,⟨some d,.iz e x i,g⟩,cf⟩::ld) K xr σ:=by
 obtain⟨hc,he⟩:=bZ h
 refine nC hc (fun hg=> ?_) (fun hg=> ?_)
 ·have:=he aq hg
  simp only[aE,Z3,Zn]at this
  obtain⟨q,hq⟩:=pq hi
  have hb:=hb hg
  have Kh:=Ux (f:=f) hb
  rcases qN hx with⟨nn,e2⟩|⟨t,b,u,c,e2⟩<;>simp only[bQ,aw.cls,aJ,al,this.1,this.2,e2,hq,Z4,Kh]<;>(rw[← fq hg];exact⟨trivial,hb.1,hb.2,k.h⟩)
 ·rw[← fm hg (v:= .pc (f (ls.getD n.toNat default)))];exact k.h
theorem aaF{t:TypeId}{z:Value}{cs:List AV}(h:jf (z.cells.toList.map .v) some=some cs)(k:∀ b,VY P cfg ah ld K ((d,.s (.lp d b 0))::xr) ((d,b,.cells cs)::σ)):VY P cfg ah (⟨ix,⟨some d,.alloc t z,none⟩,cf⟩::ld) K xr σ:=by
 constructor
 have h:=iT h
 cases h
 exact fun b=>(k b).h
theorem aaI{t:TypeId}{ag bytes:Nat}{z:List Value}{x y:Operand}{w:AV}{rows:List (List AV)}(h:aD xr none [x,y]=some (og,[.v (.slice none 0 0),w],ps))(hw:dR ag w=some rows)(hl:ah.elem d=true)(aq:OB ps)(hn:rows≠[])(hb:rows.length * bytes≤35184372088832)
  (k:∀ b u c,VY P cfg ah ld K ((d,.s (.own ag d b u c rows))::xr) ((d,b,.tail u c)::σ)):VY P cfg ah (⟨ix,⟨some d,.append t ag bytes z x y,none⟩,cf⟩::ld) K xr σ:=by
 obtain⟨_,he⟩:=bZ h
 obtain⟨bz,h',_,_⟩:=fY h
 have cE:og=none:=by grind
 subst cE
 have:=he aq rfl
 simp only[aE,Z3,Zn]at this
 constructor
 simp only[bG,cm,bQ,aw.cls,al,this.1,this.2,hw,isApp,Zk,hl]
 exact⟨rfl,hb,fun e=>absurd e hn,fun _ b u c _=>(k b u c).h⟩
theorem aaH{t:TypeId}{ag bytes tg b u c:Nat}{z:List Value}{x y:Operand}{w:AV}{rows rows':List (List AV)}(h:aD xr none [x,y]=some (og,[.own ag tg b u c rows,w],ps))(hw:dR ag w=some rows')(hl:aM σ tg=some (b,.tail u c))(ha:ah.elem d=true)(aq:OB ps)
  (hb:(rows.length+rows'.length) * bytes≤35184372088832) (h1:rows'.all (fun r=>r.all AV.one)=true)
  (k:∀ b' u' c',VY P cfg ah ld K ((d,.s (.own ag tg b' u' c' (rows++rows')))::xr) (dx σ tg b' (.tail u' c'))):VY P cfg ah (⟨ix,⟨some d,.append t ag bytes z x y,none⟩,cf⟩::ld) K xr σ:=by
 obtain⟨_,he⟩:=bZ h
 obtain⟨bz,h',_,_⟩:=fY h
 have cE:og=none:=by grind
 subst cE
 have:=he aq rfl
 simp only[aE,Z3,Zn]at this
 constructor
 simp only[bG,cm,bQ,aw.cls,al,this.1,this.2,hw,isApp,Zk,ha]
 exact⟨rfl,trivial,hl,hb,h1,fun b' u' c' _=>(k b' u' c').h⟩
theorem NR{t:TypeId}{ag bytes:Nat}{z:List Value}{x y:Operand}{w:AV}{rows rows':List (List AV)}(h:aD xr none [x,y]=some (og,[.fl ag rows,w],ps))(hw:dR ag w=some rows')(ha:ah.elem d=true)(aq:OB ps)
  (hb:(rows.length+rows'.length) * bytes≤35184372088832) (k0:rows'=[]→VY P cfg ah ld K ((d,.s (.fl ag rows))::xr) σ)
  (k:rows'≠[]→∀ b u c,VY P cfg ah ld K ((d,.s (.own ag d b u c (rows++rows')))::xr) ((d,b,.tail u c)::σ)):VY P cfg ah (⟨ix,⟨some d,.append t ag bytes z x y,none⟩,cf⟩::ld) K xr σ:=by
 obtain⟨_,he⟩:=bZ h
 obtain⟨bz,h',_,_⟩:=fY h
 have cE:og=none:=by grind
 subst cE
 have:=he aq rfl
 simp only[aE,Z3,Zn]at this
 constructor
 simp only[bG,cm,bQ,aw.cls,al,this.1,this.2,hw,isApp,Zk,ha]
 exact⟨rfl,trivial,hb,fun e=>(k0 e).h,fun e b u c=>(k e b u c).h⟩
theorem aaJ{t:TypeId}{x:Operand}{cs:List AV}(h:aD xr none [x]=some (og,[v],ps))(hc:pZ v=some cs)(aq:OB ps)(k:∀ b,VY P cfg ah ld K ((d,.s (.lp d b 0))::xr) ((d,b,.cells cs)::σ)):VY P cfg ah (⟨ix,⟨some d,.box t x,none⟩,cf⟩::ld) K xr σ:=by
 obtain⟨_,he⟩:=bZ h
 obtain⟨bz,h',_,_⟩:=fY h
 have cE:og=none:=by grind
 subst cE
 have:=he aq rfl
 simp only[aE,Z3,Zn]at this
 constructor
 simp only[bG,cm,bQ,aw.cls,al,this,yV hc];exact fun b=>(k b).h
end
def vF(x:AV):Option (Bool×Nat×List (List AV)):=match x with
 | .sl nn e rows=>some (nn,e,rows)
 |_=>none
theorem Mr{x:AV}{nn:Bool}{e:Nat}{rows:List (List AV)}(h:vF x=some (nn,e,rows)):x= .sl nn e rows:=by
 unfold vF at h
 split at h
 ·cases h;rfl
 ·cases h
section
variable {P:Program}[Glob P]{cfg:Nat→Nat}{K:af→Store→Prop}{E:List PanicEntry→Store→Prop}{σ:Store}{l:List CI}{d:Nat}{v:AV}{xr:XR}{ps:List Prop}{g:Option (Nat×Bool)}{og:Option Bool}
theorem aaB{α:Type}{f:α→List AV}{ls:List α}{e:Nat}{nn:Bool}{x y:Operand}{hv:AV}{h:Int}(ha:aD xr g [x,y]=some (og,[v,hv],ps))(hi:iJ hv=some h)(hx:vF v=some (nn,e,ls.map f))(aq:OB ps)
  (hb:og.getD true=true→0≤h∧h≤ls.length) (k:VX P cfg l K E (bI og d (.sl nn e ((ls.take h.toNat).map f)) xr) σ):VX P cfg (⟨some d,.slice e x none (some y),g⟩::l) K E xr σ:=by
 obtain⟨hc,he⟩:=bZ ha
 refine jt hc (fun hg=> ?_) (fun hg=> ?_)
 ·have:=he aq hg
  simp only[aE,Z3,Zn]at this
  obtain⟨q,hq⟩:=pq hi
  simp only[al,Option.map_none,ZD,this.1,this.2,jl,hq,Mr hx,Xk,Zk,Z4]
  have:=k.h
  rw[fq hg]at this
  simp_all
 ·rw[← fm hg (v:= .sl nn e ((ls.take h.toNat).map f))];exact k.h
theorem aaC{α:Type}{f:α→List AV}{ls:List α}{e:Nat}{nn:Bool}{x y:Operand}{hv:AV}{h:Int}(ha:aD xr g [x,y]=some (og,[v,hv],ps))(hi:iJ hv=some h)(hx:vF v=some (nn,e,ls.map f))(aq:OB ps)
  (hb:og.getD true=true→0≤h∧h≤ls.length) (k:VX P cfg l K E (bI og d (.sl nn e ((ls.drop h.toNat).map f)) xr) σ):VX P cfg (⟨some d,.slice e x (some y) none,g⟩::l) K E xr σ:=by
 obtain⟨hc,he⟩:=bZ ha
 refine jt hc (fun hg=> ?_) (fun hg=> ?_)
 ·have:=he aq hg
  simp only[aE,Z3,Zn]at this
  obtain⟨q,hq⟩:=pq hi
  simp only[al,Option.map_none,ZD,this.1,this.2,jl,hq,Mr hx,Xk,Zk,Z4]
  have:=k.h
  rw[fq hg]at this
  rw[XF,Zq (by simp),← Xu]
  grind
 ·rw[← fm hg (v:= .sl nn e ((ls.drop h.toNat).map f))];exact k.h
theorem aaA{α:Type}{f:α→List AV}{ls:List α}{e:Nat}{nn:Bool}{x y z:Operand}{lv hv:AV}{lo h:Int}(ha:aD xr g [x,y,z]=some (og,[v,lv,hv],ps))(hl:iJ lv=some lo)(hi:iJ hv=some h)(hx:vF v=some (nn,e,ls.map f))(aq:OB ps)
  (hb:og.getD true=true→0≤lo∧lo≤h∧h≤ls.length) (k:VX P cfg l K E (bI og d (.sl nn e (((ls.take h.toNat).drop lo.toNat).map f)) xr) σ):VX P cfg (⟨some d,.slice e x (some y) (some z),g⟩::l) K E xr σ:=by
 obtain⟨hc,he⟩:=bZ ha
 refine jt hc (fun hg=> ?_) (fun hg=> ?_)
 ·have:=he aq hg
  simp only[aE,Z3,Zn]at this
  obtain⟨q,hq⟩:=pq hi
  obtain⟨q2,xm⟩:=pq hl
  simp only[al,ZD,this.1,this.2.1,this.2.2,jl,hq,xm,Mr hx,Zk,Z4]
  have:=k.h
  rw[fq hg]at this
  simp_all
 ·rw[← fm hg (v:= .sl nn e (((ls.take h.toNat).drop lo.toNat).map f))];exact k.h
end
inductive gd:af→af→Prop
 |nil:gd [] []
 |cons {i:Nat} {x y:AV} {r r':af} (h:Wk x y) (t:gd r r'):gd ((i,x)::r) ((i,y)::r')
theorem gd.lk{r r':af}(h:gd r r')(j:Nat):Wk (Sx.lk r j) (Sx.lk r' j):=by
 induction h with
 |nil=>exact Wk.refl _
 |cons h _ ih=>
  simp only[Sx.lk]
  grind
theorem gd.refl:∀ r:af,gd r r
 |[]=> .nil
 |(_,_)::r=> .cons (Wk.refl _) (gd.refl r)
theorem Wk.tag{ez t t' b u c:Nat}{rows:List (List AV)}:Wk (.own ez t b u c rows) (.own ez t' b u c rows):=fun _ _ h=>by
 obtain⟨off,cap,cs,rfl,hr,h4,h5,h6,h8⟩:=h.qH
 exact R.sF hr h4 h5 h6 h8
theorem Wk.LO{ez t b u c:Nat}{rows rows':List (List AV)}{nn:Bool}(h:rows=rows'):Wk (.own ez t b u c rows) (.sl nn ez rows'):=h ▸ Wk.own nn
theorem SW.wk{P:Program}[Glob P]{N:Nat}{s:SC}{Q:Exit→af→Store→Prop}{rg ak:af}{σ σ':Store}(h:SW P N s Q ak σ')(hr:gd rg ak)(hs:Sub σ' σ):SW P N s Q rg σ:=
 fun c hc M w0 a w hI hR hN hD=>h c hc M w0 a w (hI.sub hs) (fun i=>hr.lk i _ _ (hR i)) hN hD
def we(I:Nat→af→Store→Prop)(n:Nat)(ks:List Nat)(rg:af)(σ:Store):Prop:=∃ bh,je ks rg=some bh∧∃ n',n'<n∧∃ ak σ',gd bh ak∧Sub σ' σ∧I n' ak σ'
theorem we.intro{I:Nat→af→Store→Prop}{n:Nat}{ks:List Nat}{rg bh:af}{σ:Store}(hk:je ks rg=some bh)(h:∃ n',n'<n∧∃ ak σ',gd bh ak∧Sub σ' σ∧I n' ak σ'):we I n ks rg σ:=⟨bh,hk,h⟩
theorem aa4{P:Program}[Glob P]{N:Nat}{cfg:Nat→Nat}{Q:Exit→af→Store→Prop}{rg ef:af}{σ:Store}{ks:List Nat}{b:AC}(I:Nat→af→Store→Prop)(n:Nat)(hk:je ks rg=some ef)(h0:∃ ak σ',gd ef ak∧Sub σ' σ∧I n ak σ')
  (h:∀ n rg σ,I n rg σ→WA P N cfg b (mr (we I n ks) Q) rg σ):WA P N cfg (.loop (.aQ ks b)) Q rg σ:=by
 refine NT (fun n rg σ=>∃ bh,je ks rg=some bh∧∃ ak σ',gd bh ak∧Sub σ' σ∧I n ak σ') n ⟨ef,hk,h0⟩ fun n rg σ ⟨bh,hf,ak,σ',hw,hs,hi⟩=>Ib hf ⟨rfl,SW.wk ((h n ak σ' hi).mono fun e bJ aC he=> ?_).h hw hs⟩
 cases e with
 |normal=>obtain⟨eg,h1,n',h2,h3⟩:=he;exact⟨n',h2,eg,h1,h3⟩
 |_=>exact he
theorem aba{P:Program}[Glob P]{N:Nat}{cfg:Nat→Nat}{Q:Exit→af→Store→Prop}{rg ak:af}{σ σ':Store}{a:AC}(h:WA P N cfg a Q ak σ')(hr:gd rg ak)(hs:Sub σ' σ):WA P N cfg a Q rg σ:=⟨rfl,SW.wk h.h hr hs⟩
section
variable {α:Type}
def Ma(rg:af)(σ:Store)(r:RC)(ps:List Prop)(k:List Prop→AV→Option α):Option α:=match r with
 | .tmp t=>fo (lk rg t) fun x=>k ps x
 | .cell t g n=>match lk rg t with
  | .lp tg b o=>match aM σ tg with
   |some (b',.cells l)=>match g with
    |true=>bif Nat.ble (o+n) l.length then jf ((l.drop o).take n) (fun l2=>k ((b=b')::ps) (.agg l2))else none
    |false=>match l[o]? with
     |some y=>fo y fun x=>k ((b=b')::ps) x
     |none=>none
   |_=>none
  |_=>none
def F5(rg:af)(σ:Store):List RC→List Prop→(List Prop→List AV→Option α)→Option α
 |[],ps,k=>k ps []
 |r::l,ps,k=>Ma rg σ r ps fun ps x=>F5 rg σ l ps fun ps xs=>k ps (x::xs)
theorem ai0{rg:af}{σ:Store}{rc:RC}{ps:List Prop}{k:List Prop→AV→Option α}{r:α}(h:Ma rg σ rc ps k=some r):
  ∃ bz x,k bz x=some r∧(∀ p∈ps,p∈bz)∧((∀ p∈bz,p)→ou rg σ rc=some x):=by
 unfold Ma at h
 split at h
 ·exact⟨_,_,jg h,fun _ h=>h,fun _=>rfl⟩
 ·split at h
  ·rename_i e1
   split at h
   ·rename_i e2
    split at h
    ·obtain⟨h1,h⟩:=se h
     refine⟨_,_,iT h,fun p hp=>ZO _ hp,fun ha=> ?_⟩
     have hb:=ha _ (ZC ..)
     simp only[ou,e1,e2,hb,Y2,ZR h1]
    ·split at h
     ·rename_i e3
      refine⟨_,_,jg h,fun p hp=>ZO _ hp,fun ha=> ?_⟩
      have hb:=ha _ (ZC ..)
      simp only[ou,e1,e2,hb,Y2,ZV,Y8,e3]
     grind
   grind
  grind
theorem Us{rg:af}{σ:Store}:∀ {l:List RC} {ps:List Prop} {k:List Prop→List AV→Option α} {r:α},F5 rg σ l ps k=some r→
  ∃ bz xs,k bz xs=some r∧(∀ p∈ps,p∈bz)∧((∀ p∈bz,p)→nw rg σ l=some xs)
 |[],ps,k,r,h=>⟨ps,[],h,fun _ h=>h,fun _=>rfl⟩
 |rc::l,ps,k,r,h=>by
  obtain⟨FW,x,h,h1,h2⟩:=ai0 h
  obtain⟨ps2,xs,h,h3,h4⟩:=Us h
  refine⟨ps2,_,h,fun p hp=>h3 p (h1 p hp),fun ha=> ?_⟩
  simp only[nw,h2 fun p hp=>ha p (h3 p hp),h4 ha,ZD]
end
def Vq(ps:List Prop)(xs:List AV):Option (List Prop×AV):=match xs with
 |[x]=>some (ps,x)
 |xs=>some (ps,.aP xs)
def sO(rg:af)(σ:Store)(l:List RC):Option (List Prop×AV):=F5 rg σ l [] Vq
theorem F4{rg:af}{σ:Store}{l:List RC}{ps:List Prop}{x:AV}(h:sO rg σ l=some (ps,x))(hp:OB ps):db rg σ l=some x:=by
 obtain⟨bz,xs,h,_,h2⟩:=Us h
 unfold Vq at h
 unfold db
 split at h
 ·cases h;rw[h2 hp.all]
 ·cases h
  rw[h2 hp.all]
  split
  ·grind
  ·grind
  grind
theorem ai3{rg:af}{σ:Store}{v:AV}{ps:List Prop}{res:List RC}{R:eQ→Store→Prop}(e:sO rg σ res=some (ps,v))(hp:OB ps)(h:R (.ret v) σ):j8 res R .normal rg σ:=⟨v,F4 e hp,h⟩
theorem ai4{rg:af}{σ:Store}{v:AV}{ps:List Prop}{res:List RC}{R:eQ→Store→Prop}(e:sO rg σ res=some (ps,v))(hp:OB ps)(h:R (.ret v) σ):j8 res R .ret rg σ:=⟨v,F4 e hp,h⟩
theorem aiJ{rg:af}{σ eG:Store}{v r:AV}{ps:List Prop}{res:List RC}(e:sO rg σ res=some (ps,v))(hp:OB ps)(h:Fin eG r v σ):kO res r eG .normal rg σ:=⟨v,F4 e hp,h.1,h.2⟩
theorem aiK{rg:af}{σ eG:Store}{v r:AV}{ps:List Prop}{res:List RC}(e:sO rg σ res=some (ps,v))(hp:OB ps)(h:Fin eG r v σ):kO res r eG .ret rg σ:=⟨v,F4 e hp,h.1,h.2⟩
theorem bd{p:Prop}[Decidable p]{b:Bool}(h:b=true↔p):AV.v (.bool b)=AV.v (.bool (decide p)):=by
 have:b=decide p:=by rw[YJ,h];simp
 rw[this]
theorem eu{n:Int}(h: -9223372036854775808≤n∧n≤9223372036854775807):IntKind.i64.wrap n=n:=Go.IntWalk.i64_in n h
theorem cu{i n:Nat}(h:i<n)(hn:n≤maxLen):IntKind.i64.wrap ((i:Int)+1)=((i+1:Nat):Int):=by
 rw[eu]
 ·rfl
 ·unfold maxLen at hn;omega
theorem getD_eq{α:Type}[Inhabited α]{l:List α}{i:Nat}(h:i<l.length):l.getD i default=l[i]:=by simp[ZU,h]
theorem dt{α:Type}[Inhabited α]{l:List α}{i:Nat}(h:i<l.length):l.getD i default∈l:=by rw[getD_eq h];exact Zc h
theorem uc{α:Type}[Inhabited α]{l:List α}{i:Nat}(h:i<l.length):l.drop i=l.getD i default::l.drop (i+1):=by
 simp_all
theorem LW{i:Nat}(h:0<i)(hn:i≤maxLen):IntKind.i64.wrap ((i:Int)-1)=((i-1:Nat):Int):=by
 rw[eu (by unfold maxLen at hn;omega)];omega
inductive Fr where
 |seq (b:AC)
 |kW (id:Nat)
 |fn (K:af→Store→Prop)
def post(P:Program)[Glob P](N:Nat)(cfg:Nat→Nat)(Q:Exit→af→Store→Prop):List Fr→Exit→af→Store→Prop
 |[]=>Q
 | .seq b::k=>mr (fun rg σ=>WA P N cfg b (post P N cfg Q k) rg σ) (post P N cfg Q k)
 | .kW id::k=>mH id (post P N cfg Q k)
 | .fn K::k=>mr K (post P N cfg Q k)
structure WK(P:Program)[Glob P](N:Nat)(cfg:Nat→Nat)(Q:Exit→af→Store→Prop)(a:AC)(k:List Fr)(rg:af)(σ:Store):Prop where
 h:WA P N cfg a (post P N cfg Q k) rg σ
structure FK(P:Program)[Glob P](N:Nat)(cfg:Nat→Nat)(Q:Exit→af→Store→Prop)(e:Exit)(k:List Fr)(rg:af)(σ:Store):Prop where
 h:post P N cfg Q k e rg σ
def AG:List Fr→Nat→Option (List Fr)
 |[],_=>none
 | .kW id::k,i=>match Nat.beq i id with
  |true=>some k
  |false=>AG k i
 | .seq _::k,i=>AG k i
 | .fn _::k,i=>AG k i
section
variable {P:Program}[Glob P]{N:Nat}{cfg:Nat→Nat}{Q:Exit→af→Store→Prop}{rg ak:af}{σ σ':Store}{l:List CI}{a b:AC}{k k':List Fr}{xr:XR}{ah:List Nat}{ld:List CD}{ks:List Nat}{id:Nat}
theorem abn(h:WK P N cfg Q a (.seq b::k) rg σ):WK P N cfg Q (.seq a b) k rg σ:=⟨aa8 h.h⟩
theorem abb(h:WK P N cfg Q a (.kW id::k) rg σ):WK P N cfg Q (.block id a) k rg σ:=⟨aa0 h.h⟩
theorem abj(hk:je ks rg=some ak)(h:WK P N cfg Q a k ak σ):WK P N cfg Q (.aQ ks a) k rg σ:=⟨Ib hk h.h⟩
theorem abo(h:FK P N cfg Q .normal k rg σ):WK P N cfg Q .skip k rg σ:=⟨aa9 h.h⟩
theorem abm(h:Q .ret rg σ):WK P N cfg Q .ret k rg σ:=by
 refine⟨aa7 ?_⟩
 induction k with
 |nil=>exact h
 |cons f k ih=>cases f<;>exact ih
theorem abh(hu:AG k id=some k')(h:FK P N cfg Q .normal k' rg σ):WK P N cfg Q (.exit id) k rg σ:=by
 refine⟨aa3 ?_⟩
 induction k with
 |nil=>cases hu
 |cons f k ih=>
  cases f with
  |seq b=>exact ih hu
  |fn K=>exact ih hu
  |kW i=>
   simp only[AG]at hu
   split at hu
   ·rename_i e;cases hu;exact ab3 e h.h
   ·rename_i e;exact ab2 e (ih hu)
theorem abd{x:Operand}{c:Bool}(hx:wB rg x=some c)(h1:c=true→WK P N cfg Q a k rg σ)(h2:c=false→WK P N cfg Q b k rg σ):WK P N cfg Q (.cond x a b) k rg σ:=
 ⟨aa1 hx (fun e=>(h1 e).h) (fun e=>(h2 e).h)⟩
theorem abl(hx:toXO rg=some xr)(h:VX P cfg l (FK P N cfg Q .normal k) (fun ch σ'=>FK P N cfg Q (.panic ch) k [] σ') xr σ):WK P N cfg Q (.ck l) k rg σ:=
 ⟨(aa6 (Q:=fun e=>FK P N cfg Q e k) hx h).mono fun _ _ _ h=>h.h⟩
theorem abk(hx:toXO rg=some xr)(h:VY P cfg ah ld (Cl (FK P N cfg Q .normal k)) xr σ):WK P N cfg Q (.eE ah ld) k rg σ:=
 ⟨(aa5 (Q:=fun e=>FK P N cfg Q e k) hx h).mono fun _ _ _ h=>h.h⟩
theorem abe(hx:toXO rg=some xr)(h:VY P cfg [] (bare l) (Cl (FK P N cfg Q .normal k)) xr σ):WK P N cfg Q (.dF l) k rg σ:=
 ⟨(aa2 (Q:=fun e=>FK P N cfg Q e k) hx h).mono fun _ _ _ h=>h.h⟩
theorem bO{ef:af}(I:Nat→af→Store→Prop)(n:Nat)(hk:je ks rg=some ef)(h0:∃ ak σ',gd ef ak∧Sub σ' σ∧I n ak σ')
  (h:∀ n rg σ,I n rg σ→WK P N cfg Q b (.fn (we I n ks)::k) rg σ):WK P N cfg Q (.loop (.aQ ks b)) k rg σ:=
 ⟨aa4 I n hk h0 fun n rg σ hi=>(h n rg σ hi).h⟩
theorem abp(h:WK P N cfg Q a k ak σ')(hr:gd rg ak)(hs:Sub σ' σ):WK P N cfg Q a k rg σ:=⟨aba h.h hr hs⟩
theorem Wr(h:WK P N cfg Q b k rg σ):FK P N cfg Q .normal (.seq b::k) rg σ:=⟨h.h⟩
theorem Wn(h:FK P N cfg Q .normal k rg σ):FK P N cfg Q .normal (.kW id::k) rg σ:=⟨h.h⟩
theorem Wo{K:af→Store→Prop}(h:K rg σ):FK P N cfg Q .normal (.fn K::k) rg σ:=⟨h⟩
theorem Wp(h:Q .normal rg σ):FK P N cfg Q .normal [] rg σ:=⟨h⟩
def qC:AC→Nat→Option AC
 | .seq a b,l=>match qC a l with
  |some r=>some (.seq r b)
  |none=>qC b l
 | .aQ _ a,l=>qC a l
 | .stop a,l=>qC a l
 | .label l',l=>if l' == l then some .skip else none
 |_,_=>none
theorem zZ{l:Nat}:∀ (a:AC),mL a.erase l=(qC a l).map AC.erase
 | .seq a b=>by
  have h1:=zZ (l:=l) a
  have h2:=zZ (l:=l) b
  simp only[AC.erase,mL,qC,h1,h2]
  cases qC a l<;>rfl
 | .aQ _ a=>zZ (l:=l) a
 | .stop a=>zZ (l:=l) a
 | .label l'=>by simp only[AC.erase,mL,qC];split<;>rfl
 | .skip=>rfl
 | .ck _=>rfl
 | .dF _=>rfl
 | .eE _ _=>rfl
 | .cond _ _ _=>rfl
 | .block _ _=>rfl
 | .loop _=>rfl
 | .exit _=>rfl
 | .ret=>rfl
 | .scope _=>rfl
 | .goto _=>rfl
theorem Pure.C4{P:Program}[Glob P][ie P]{f:FuncId}{fn:Func}{fc:FC}{as:List AV}{r:AV}{a:AC}(cfg:Nat→Nat)(hf:P.funcs[f]? =some fn)(hc:jP P fn=some fc)(ha:fc.code=a.erase)(hlen:as.length≤fc.N)
  (h:∀ σ,WK P fc.N cfg (kO fc.res r σ) a [] (fF 0 as) σ):Pure P f as r:=Pure.run cfg hf hc ha hlen fun σ=>(h σ).h
theorem Spec.C4{P:Program}[Glob P][ie P]{f:FuncId}{fn:Func}{fc:FC}{as:List AV}{σ:Store}{Q:eQ→Store→Prop}{a:AC}(cfg:Nat→Nat)(hf:P.funcs[f]? =some fn)(hc:jP P fn=some fc)(ha:fc.code=a.erase)(hlen:as.length≤fc.N)
  (h:WK P fc.N cfg (j8 fc.res Q) a [] (fF 0 as) σ):Spec P f as σ Q:=Spec.run cfg hf hc ha hlen h.h
theorem Dc{p:Prop}(h:p:=by constructor<;>first|kernel_rfl|(intro;kernel_rfl)|(constructor<;>first|kernel_rfl|(intro;kernel_rfl)|(constructor<;>first|kernel_rfl|(intro;kernel_rfl)))):p:=h
structure js(P:Program)[Glob P](f:FuncId)(N:Nat)(a:AC)(res:List RC):Type where
 ex:∃ fn,P.funcs[f]? =some fn∧jP P fn=some ⟨N,a.erase,res⟩
def js.i{P:Program}[Glob P]{f:FuncId}{fn:Func}{N:Nat}{a:AC}{res:List RC}(hf:P.funcs[f]? =some fn)(hc:jP P fn=some ⟨N,a.erase,res⟩:=by kernel_rfl):js P f N a res:=⟨fn,hf,hc⟩
section
variable {P:Program}[Glob P][ie P]{f:FuncId}{N:Nat}{res:List RC}{as:List AV}{r:AV}{σ:Store}{Q:eQ→Store→Prop}{a:AC}
theorem js.pc(k:js P f N a res)(cfg:Nat→Nat)(h:∀ σ,WK P N cfg (kO res r σ) a [] (fF 0 as) σ)(hl:Nat.ble as.length N=true:=by exact rfl):Pure P f as r:=by
 obtain⟨fn,h1,h2⟩:=k.ex
 exact Pure.C4 (fc:=⟨N,a.erase,res⟩) (a:=a) cfg h1 h2 rfl (ZR hl) h
theorem js.p(k:js P f N a res)(h:∀ σ,WK P N (fun _=>0) (kO res r σ) a [] (fF 0 as) σ)(hl:Nat.ble as.length N=true:=by exact rfl):Pure P f as r:=k.pc _ h hl
theorem js.sc(k:js P f N a res)(cfg:Nat→Nat)(h:WK P N cfg (j8 res Q) a [] (fF 0 as) σ)(hl:Nat.ble as.length N=true:=by exact rfl):Spec P f as σ Q:=by
 obtain⟨fn,h1,h2⟩:=k.ex
 exact Spec.C4 (fc:=⟨N,a.erase,res⟩) (a:=a) cfg h1 h2 rfl (ZR hl) h
theorem js.s(k:js P f N a res)(h:WK P N (fun _=>0) (j8 res Q) a [] (fF 0 as) σ)(hl:Nat.ble as.length N=true:=by exact rfl):Spec P f as σ Q:=k.sc _ h hl
end
end
section
variable {P:Program}[Glob P]{N:Nat}{cfg:Nat→Nat}{K:af→Store→Prop}{E:List PanicEntry→Store→Prop}{σ:Store}{l:List CI}{d n:Nat}{v y:AV}{xr:XR}{ps:List Prop}{g:Option (Nat×Bool)}{og:Option Bool}{ah cf:List Nat}{ix:Nat}{ld:List CD}
 {t b b' o:Nat} {cs bP ys l':List AV} {x z:Operand}
theorem CS{op:aw}(uD:cf.all (Gq xr)=true)(h1:∀ t∈tmpsOf op.opers,lk (raw xr) t=lk (den xr) t):
  kM ah cf (raw xr) op=kM ah cf (den xr) op∧oy ah cf (raw xr) op=oy ah cf (den xr) op:=by
 have hc:∀ t∈cf,lk (raw xr) t=lk (den xr) t:=fun t ht=>by
  have:=ZB.1 uD t ht
  unfold Gq at this
  rw[z8,pz]
  split at this
  ·rename_i e;rw[e];rfl
  grind
 exact⟨SI h1 hc,U4 h1 hc⟩
theorem Bd{args:List Operand}{as:List AV}(h:aD xr g args=some (og,as,ps))(hp:OB ps)(hg:og.getD true=true):∀ t∈tmpsOf args,lk (raw xr) t=lk (den xr) t:=by
 obtain⟨b,h,_,_⟩:=Jr h
 obtain⟨bz,h,_,h3⟩:=fY h
 split at h
 ·cases h;exact h3 hp.all hg
 grind
theorem aak{gv:Nat}(h:aD xr g [x]=some (og,[.v (.pointer (some ⟨gv,0,none⟩))],ps))(hl:Glob.av P gv=some cs)(hy:cs[0]? =some y)(aq:OB ps)(k:VX P cfg l K E (bI og d y xr) σ):
  VX P cfg (⟨some d,.load false n x,g⟩::l) K E xr σ:=by
 obtain⟨hc,he⟩:=bZ h
 refine jt hc (fun hg=> ?_) (fun hg=> ?_)
 ·have:=he aq hg
  simp only[aE,Z3,Zn]at this
  simp only[al,this,hl,hy,ZV,Y8]
  have:=k.h
  rw[fq hg]at this
  grind
 ·rw[← fm hg (v:=y)];exact k.h
theorem aal{gv:Nat}(h:aD xr g [x]=some (og,[.v (.pointer (some ⟨gv,0,none⟩))],ps))(hl:Glob.av P gv=some cs)(hy:cs.take n=ys∧n≤cs.length)(aq:OB ps)(k:VX P cfg l K E (bI og d (.agg ys) xr) σ):
  VX P cfg (⟨some d,.load true n x,g⟩::l) K E xr σ:=by
 obtain⟨hc,he⟩:=bZ h
 refine jt hc (fun hg=> ?_) (fun hg=> ?_)
 ·have:=he aq hg
  simp only[aE,Z3,Zn]at this
  simp only[al,this,hl,Y2,hy.1]
  have:=k.h
  rw[fq hg]at this
  grind
 ·rw[← fm hg (v:= .agg ys)];exact k.h
theorem aaP{gv:Nat}(h:aD xr g [x]=some (og,[.v (.pointer (some ⟨gv,0,none⟩))],ps))(hl:Glob.av P gv=some cs)(hy:cs[0]? =some y)(bM:j5 ah cf xr (.load false n x)=true)(aq:OB ps)(k:VY P cfg ah ld K (bI og d y xr) σ):
  VY P cfg ah (⟨ix,⟨some d,.load false n x,g⟩,cf⟩::ld) K xr σ:=by
 obtain⟨hc,he⟩:=bZ h
 unfold j5 at bM
 rw[Z6]at bM
 refine nC hc (fun hg=> ?_) (fun hg=> ?_)
 ·have:=he aq hg
  simp only[aE,Z3,Zn]at this
  refine⟨by rw[← (CS bM.1 (op:= .load false n x) (Bd h aq hg)).1];exact bM.2,?_⟩
  simp only[al,this,hl,hy,ZV,Y8]
  have:=k.h
  rw[fq hg]at this
  grind
 ·rw[← fm hg (v:=y)];exact k.h
theorem aaQ{gv:Nat}(h:aD xr g [x]=some (og,[.v (.pointer (some ⟨gv,0,none⟩))],ps))(hl:Glob.av P gv=some cs)(hy:cs.take n=ys∧n≤cs.length)(bM:j5 ah cf xr (.load true n x)=true)(aq:OB ps)(k:VY P cfg ah ld K (bI og d (.agg ys) xr) σ):
  VY P cfg ah (⟨ix,⟨some d,.load true n x,g⟩,cf⟩::ld) K xr σ:=by
 obtain⟨hc,he⟩:=bZ h
 unfold j5 at bM
 rw[Z6]at bM
 refine nC hc (fun hg=> ?_) (fun hg=> ?_)
 ·have:=he aq hg
  simp only[aE,Z3,Zn]at this
  refine⟨by rw[← (CS bM.1 (op:= .load true n x) (Bd h aq hg)).1];exact bM.2,?_⟩
  simp only[al,this,hl,Y2,hy.1]
  have:=k.h
  rw[fq hg]at this
  grind
 ·rw[← fm hg (v:= .agg ys)];exact k.h
end
end Go.Sx
