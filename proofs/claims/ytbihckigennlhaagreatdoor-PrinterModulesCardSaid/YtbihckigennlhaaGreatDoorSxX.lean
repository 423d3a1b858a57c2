/-
  The layer Sx, eighteenth part: whole runs of operations, computed; an operation under a guard yields a value under a condition (no case is split).
-/
import Derived.Test.YtbihckigennlhaaGreatDoorSxMix3
set_option linter.unusedVariables false
set_option linter.unusedSimpArgs false
set_option linter.unusedSectionVars false
namespace Go.Sx
open Go.RowKit
inductive XV where
 |s (x:AV)
 |o (c:Bool) (x:AV)
abbrev XR:=List (Nat×XV)
def XV.den:XV→AV
 | .s x=>x
 | .o c x=>bif c then x else .v undef
def XV.val:XV→AV
 | .s x=>x
 | .o _ x=>x
def lR:XR→Nat→XV
 |[],_=> .s .any
 |(i,x)::r,j=>bif Nat.beq i j then x else lR r j
def den:XR→ae
 |[]=>[]
 |(i,x)::r=>(i,x.den)::den r
def raw:XR→ae
 |[]=>[]
 |(i,x)::r=>(i,x.val)::raw r
def toX:ae→XR
 |[]=>[]
 |(i,x)::r=>(i,.s x)::toX r
theorem mN(t:Nat):∀ xr:XR,lk (den xr) t=(lR xr t).den
 |[]=>rfl
 |(i,x)::r=>by simp only[den,lk,lR];cases Nat.beq i t<;>simp only[cond_true,XW,mN t r]
theorem vM(t:Nat):∀ xr:XR,lk (raw xr) t=(lR xr t).val
 |[]=>rfl
 |(i,x)::r=>by simp only[raw,lk,lR];cases Nat.beq i t<;>simp only[cond_true,XW,vM t r]
theorem sq:∀ rg:ae,den (toX rg)=rg
 |[]=>rfl
 |(i,x)::r=>by simp only[toX,den,XV.den,sq r]
inductive OB:List Prop→Prop
 |nil:OB []
 |cons {p:Prop} {ps:List Prop} (h:p) (t:OB ps):OB (p::ps)
theorem OB.all{ps:List Prop}(h:OB ps):∀ p∈ps,p:=by
 induction h with
 |nil=>grind
 |cons h _ ih=>
  grind
theorem OB.rfl{α:Type}{a:α}{ps:List Prop}(t:OB ps):OB ((a=a)::ps):= .cons _root_.rfl t
theorem OB.WV{α:Type}{a:α}{c:Bool}{ps:List Prop}(t:OB ps):OB ((c=true→a=a)::ps):= .cons (fun _=>_root_.rfl) t
theorem OB.gtr{c:Bool}{ps:List Prop}(t:OB ps):OB ((c=true→True)::ps):= .cons (fun _=>trivial) t
theorem OB.self{a:Prop}{ps:List Prop}(t:OB ps):OB ((a→a)::ps):= .cons (fun h=>h) t
theorem OB.tr{ps:List Prop}(t:OB ps):OB (True::ps):= .cons trivial t
theorem OB.and{a b:Bool}{ps:List Prop}(t:OB ps):OB (((a && b)=true→a=true)::ps):= .cons (fun h=>by simp at h;exact h.1) t
def gX{α:Type}(xr:XR)(g:Option (Nat×Bool))(k:Option Bool→Option α):Option α:=
 match g with
 |none=>k none
 |some (t,true)=>match lR xr t with
  | .s (.v (.bool b))=>k (some b)
  | .o c (.v (.bool b))=>k (some (c && b))
  |_=>none
 |some (t,false)=>match lR xr t with
  | .s (.v (.bool b))=>k (some !b)
  | .o c (.v (.bool b))=>k (some (c && !b))
  |_=>none
def tB{α:Type}(g:Option Bool)(xr:XR):List Nat→List Prop→(List Prop→Option α)→Option α
 |[],ps,k=>k ps
 |t::ts,ps,k=>match lR xr t with
  | .s _=>tB g xr ts ps k
  | .o c _=>match g with
   |none=>tB g xr ts ((c=true)::ps) k
   |some b=>tB g xr ts ((b=true→c=true)::ps) k
def uU(xr:XR):Operand→XV
 | .tmp t=>lR xr t
 | .const v=> .s (.v v)
 | .global g=> .s (.v (.pointer (some ⟨g,0,none⟩)))
 | .func f=> .s (.v (.func (.func f) #[] #[]))
def F3{α:Type}(g:Option Bool)(xr:XR)(c a b:Operand)(ps:List Prop)(k:List Prop→Bool→Option α):Option α:=
 match uU xr c with
 | .s (.v (.bool t))=>match a,b with
  | .const (.bool true),b=>match uU xr b with
   | .s (.v (.bool y))=>k ps (t || y)
   | .o cb (.v (.bool y))=>match g with
    |none=>k ((!t=true→cb=true)::ps) (t || y)
    |some g=>k (((g && !t)=true→cb=true)::ps) (t || y)
   |_=>none
  |a,.const (.bool false)=>match uU xr a with
   | .s (.v (.bool y))=>k ps (t && y)
   | .o cb (.v (.bool y))=>match g with
    |none=>k ((t=true→cb=true)::ps) (t && y)
    |some g=>k (((g && t)=true→cb=true)::ps) (t && y)
   |_=>none
  |_,_=>none
 | .o cc (.v (.bool t))=>match g with
  |none=>none
  |some g=>match a,b with
   | .const (.bool true),b=>match uU xr b with
    | .s (.v (.bool y))=>k ((g=true→cc=true)::ps) (t || y)
    | .o cb (.v (.bool y))=>k ((g=true→cc=true)::((g && !t)=true→cb=true)::ps) (t || y)
    |_=>none
   |a,.const (.bool false)=>match uU xr a with
    | .s (.v (.bool y))=>k ((g=true→cc=true)::ps) (t && y)
    | .o cb (.v (.bool y))=>k ((g=true→cc=true)::((g && t)=true→cb=true)::ps) (t && y)
    |_=>none
   |_,_=>none
 |_=>none
def Cn:aw→Bool
 | .mv .. | .build .. | .j6 .. | .gZ .. | .eqs .. | .un .. | .ly .. | .oU .. | .lT .. | .gi .. | .iS .. | .field .. | .extract .. | .len .. | .max2 .. | .min2 .. =>true
 | .bin op _ _=>match op with
  | .quo| .rem| .shl| .shr| .add=>false
  |_=>true
 |_=>false
def push(g:Option Bool)(op:aw)(p:Prop)(ps:List Prop):List Prop:=
 match Cn op with
 |true=>ps
 |false=>match g with
  |none=>p::ps
  |some b=>(b=true→p)::ps
def ayh:aw→Bool
 | .call .. | .dA .. | .alloc .. | .box .. | .append .. | .len false _| .eH .. | .idxs .. | .slice .. | .cp .. | .exts .. | .panic .. =>true
 | .aZ _ _ []=>true
 |_=>false
def wz(cfg:Nat→Nat)(op:aw):Bool:=match ayh op with
 |true=>true
 |false=>match op with
  | .load _ _ (.tmp s)=>Nat.beq (cfg (1000000+s)) 1
  | .load _ _ (.global _)=>true
  | .store _ (.tmp s) _=>Nat.beq (cfg (1000000+s)) 1
  |_=>false
def BS{α:Type}(g:Option Bool)(d:Option Nat)(v:AV)(xr:XR)(k:XR→Option α):Option α:=
 match d with
 |some d=>match g with
  |none=>k ((d,.s v)::xr)
  |some t=>k ((d,.o t v)::xr)
 |none=>match g with
  |none=>k xr
  |some _=>none
def Ul(g:Option Bool)(op:aw):Bool:=match g with
 |none=>true
 |some _=>Nat.ble op.cls 1
def Cb{α:Type}(cfg:Nat→Nat)(ok:XR→aw→Bool)(d:Option Nat)(op:aw)(g:Option Bool)(xr:XR)(σ:Store)(ps:List Prop)(k:List Prop→XR→Store→Option α):Option α:=
 tB g xr (tmpsOf op.opers) ps fun ps=>match ok xr op with
  |true=>match Ul g op with
   |true=>match cR cfg d (raw xr) σ op with
    |some (p,v,σ')=>BS g d v xr fun xr=>k (push g op p ps) xr σ'
    |none=>none
   |false=>none
  |false=>none
def rE{α:Type}(cfg:Nat→Nat)(ok:XR→aw→Bool)(c:CI)(xr:XR)(σ:Store)(ps:List Prop)(k:List Prop→XR→Store→Option α):Option α:=
 gX xr c.g fun g=>match c.op with
  | .pick x a b=>F3 g xr x a b ps fun ps v=>BS g c.d (.v (.bool v)) xr fun xr=>k ps xr σ
  |op=>Cb cfg ok c.d op g xr σ ps k
def yY(cfg:Nat→Nat):List CI→XR→Store→List Prop→Option (List Prop×XR×Store×List CI)
 |[],xr,σ,ps=>some (ps,xr,σ,[])
 |c::l,xr,σ,ps=>match wz cfg c.op with
  |true=>some (ps,xr,σ,c::l)
  |false=>rE cfg (fun _ _=>true) c xr σ ps fun ps xr σ=>yY cfg l xr σ ps
def Ce(xr:XR)(t:Nat):Bool:=match lR xr t with
 | .s _=>true
 | .o _ _=>false
def kL(ah cf:List Nat)(xr:XR)(op:aw):Bool:=cf.all (Ce xr) && Ns ah cf (raw xr) op
def runM(cfg:Nat→Nat)(ah:List Nat):List CD→XR→Store→List Prop→Option (List Prop×XR×Store×List CD)
 |[],xr,σ,ps=>some (ps,xr,σ,[])
 |c::l,xr,σ,ps=>match wz cfg c.c.op with
  |true=>some (ps,xr,σ,c::l)
  |false=>rE cfg (kL ah c.cf) c.c xr σ ps fun ps xr σ=>runM cfg ah l xr σ ps
def dW(P:Program)[Glob P](cfg:Nat→Nat):List CI→(K:ae→Store→Prop)→(E:List PanicEntry→Store→Prop)→ae→Store→Prop
 |[],K,_,rg,σ=>K rg σ
 |c::l,K,E,rg,σ=>di P cfg c (fun x σ'=>dW P cfg l K E (bM c.d x rg) σ') E rg σ
def GM(rg:ae)(t:Nat)(want:Bool)(A B:Prop):Prop:=match lk rg t with
 | .v (.bool b)=>(b=want→A)∧(b= !want→B)
 | .v (.tuple _)=>B
 |_=>False
def GG(rg:ae)(g:Option (Nat×Bool))(A B:Prop):Prop:=match g with
 |none=>A
 |some (t,want)=>GM rg t want A B
section
variable {P:Program}[Glob P]{M:Mem}{w0:Base}{w:World}{σ σ':Store}{rg:ae}{a:Act}{cfg:Nat→Nat}{N:Nat}{xr cu:XR}{c:CI}{K K':AV→Store→Prop}{E:List PanicEntry→Store→Prop}
theorem G1:di P cfg c K E rg σ↔GG rg c.g (aj P cfg c.d rg σ K E c.op) (K (.v undef) σ):=by
 rfl
theorem G0{ah:List Nat}{c:CD}:hU P cfg ah c K rg σ↔GG rg c.c.g (cO P cfg ah c.cf c.c.d rg σ K c.c.op) (K (.v undef) σ):=by
 rfl
def qe(xr:XR)(g:Option (Nat×Bool))(b:Option Bool):Prop:=∀ A B:Prop,(b.getD true=true→A)→(b.getD true=false→B)→GG (den xr) g A B
theorem DW{α:Type}{g:Option (Nat×Bool)}{k:Option Bool→Option α}{r:α}(h:gX xr g k=some r):∃ b,k b=some r∧qe xr g b∧(b=none→g=none):=by
 unfold gX at h
 split at h
 ·exact⟨none,h,fun A B h1 _=>h1 rfl,fun _=>rfl⟩
 ·split at h
  ·rename_i b e
   refine⟨_,h,fun A B h1 h2=> ?_,fun e=>nomatch e⟩
   simp only[GG,GM,mN,e,XV.den]
   grind
  ·rename_i cc b e
   refine⟨_,h,fun A B h1 h2=> ?_,fun e=>nomatch e⟩
   simp only[GG,GM,mN,e,XV.den]
   cases cc with
   |true=>grind
   |false=>exact h2 rfl
  grind
 ·split at h
  ·rename_i b e
   refine⟨_,h,fun A B h1 h2=> ?_,fun e=>nomatch e⟩
   simp only[GG,GM,mN,e,XV.den]
   grind
  ·rename_i cc b e
   refine⟨_,h,fun A B h1 h2=> ?_,fun e=>nomatch e⟩
   simp only[GG,GM,mN,e,XV.den]
   cases cc with
   |true=>grind
   |false=>exact h2 rfl
  grind
theorem fD{α:Type}{g:Option Bool}:∀ {ts:List Nat} {ps:List Prop} {k:List Prop→Option α} {r:α},tB g xr ts ps k=some r→
  ∃ bg,k bg=some r∧(∀ p∈ps,p∈bg)∧((∀ p∈bg,p)→g.getD true=true→∀ t∈ts,lk (raw xr) t=lk (den xr) t)
 |[],ps,k,r,h=>⟨ps,h,fun _ h=>h,fun _ _ _ h=>by cases h⟩
 |t::ts,ps,k,r,h=>by
  simp only[tB]at h
  split at h
  ·rename_i x e
   obtain⟨bg,h1,h2,h3⟩:=fD h
   refine⟨bg,h1,h2,fun ha hg u hu=> ?_⟩
   rcases ZV.1 hu with rfl|hu
   ·rw[vM,mN,e];rfl
   grind
  ·rename_i cc x e
   split at h
   ·obtain⟨bg,h1,h2,h3⟩:=fD h
    refine⟨bg,h1,fun p hp=>h2 p (ZX _ hp),fun ha hg u hu=> ?_⟩
    rcases ZV.1 hu with rfl|hu
    ·have:=ha _ (h2 _ (ZU ..))
     rw[vM,mN,e,this];rfl
    grind
   ·obtain⟨bg,h1,h2,h3⟩:=fD h
    refine⟨bg,h1,fun p hp=>h2 p (ZX _ hp),fun ha hg u hu=> ?_⟩
    rcases ZV.1 hu with rfl|hu
    ·have:=ha _ (h2 _ (ZU ..)) hg
     rw[vM,mN,e,this];rfl
    grind
theorem Wb(x:Operand):ev (den xr) x=(uU xr x).den:=by
 cases x with
 |tmp t=>exact mN t xr
 |const v=>rfl
 |global g=>rfl
 |func f=>rfl
theorem adr{α:Type}{g:Option Bool}{c a b:Operand}{ps:List Prop}{k:List Prop→Bool→Option α}{r:α}(h:F3 g xr c a b ps k=some r):
  ∃ bg v,k bg v=some r∧(∀ p∈ps,p∈bg)∧((∀ p∈bg,p)→g.getD true=true→∃ t,ev (den xr) c= .v (.bool t)∧(if t then ev (den xr) a else ev (den xr) b)= .v (.bool v)):=by
 simp only[Wb]
 unfold F3 at h
 split at h
 ·rename_i t ec
  rw[ec]
  split at h
  ·split at h
   ·rename_i y eb
    refine⟨_,_,h,fun _ h=>h,fun _ _=>⟨t,rfl,?_⟩⟩
    rw[eb];cases t<;>rfl
   ·rename_i cb y eb
    split at h
    ·refine⟨_,_,h,fun p hp=>ZX _ hp,fun ha hg=>⟨t,rfl,?_⟩⟩
     rw[eb]
     have:=ha _ (ZU ..)
     cases t with
     |true=>rfl
     |false=>rw[this rfl];rfl
    ·rename_i g
     refine⟨_,_,h,fun p hp=>ZX _ hp,fun ha hg=>⟨t,rfl,?_⟩⟩
     rw[eb]
     have:=ha _ (ZU ..)
     have hg:g=true:=hg
     cases t with
     |true=>rfl
     |false=>rw[this (by grind)];rfl
   grind
  ·split at h
   ·rename_i y eb
    refine⟨_,_,h,fun _ h=>h,fun _ _=>⟨t,rfl,?_⟩⟩
    rw[eb];cases t<;>rfl
   ·rename_i cb y eb
    split at h
    ·refine⟨_,_,h,fun p hp=>ZX _ hp,fun ha hg=>⟨t,rfl,?_⟩⟩
     rw[eb]
     have:=ha _ (ZU ..)
     cases t with
     |false=>rfl
     |true=>rw[this rfl];rfl
    ·rename_i g
     refine⟨_,_,h,fun p hp=>ZX _ hp,fun ha hg=>⟨t,rfl,?_⟩⟩
     rw[eb]
     have:=ha _ (ZU ..)
     have hg:g=true:=hg
     cases t with
     |false=>rfl
     |true=>rw[this (by rw[hg];rfl)];rfl
   grind
  grind
 ·rename_i cc t ec
  rw[ec]
  split at h
  ·cases h
  ·rename_i g
   split at h
   ·split at h
    ·rename_i y eb
     refine⟨_,_,h,fun p hp=>ZX _ hp,fun ha hg=> ?_⟩
     have:=ha _ (ZU ..) hg
     subst this
     refine⟨t,rfl,?_⟩
     rw[eb];cases t<;>rfl
    ·rename_i cb y eb
     refine⟨_,_,h,fun p hp=>ZX _ (ZX _ hp),fun ha hg=> ?_⟩
     have hg:g=true:=hg
     have h1:=ha _ (ZU ..) hg
     have h2:=ha _ (ZX _ (ZU ..))
     subst h1
     refine⟨t,rfl,?_⟩
     rw[eb]
     cases t with
     |true=>rfl
     |false=>rw[h2 (by rw[hg];rfl)];rfl
    ·cases h
   ·split at h
    ·rename_i y eb
     refine⟨_,_,h,fun p hp=>ZX _ hp,fun ha hg=> ?_⟩
     have:=ha _ (ZU ..) hg
     subst this
     refine⟨t,rfl,?_⟩
     rw[eb];cases t<;>rfl
    ·rename_i cb y eb
     refine⟨_,_,h,fun p hp=>ZX _ (ZX _ hp),fun ha hg=> ?_⟩
     have hg:g=true:=hg
     have h1:=ha _ (ZU ..) hg
     have h2:=ha _ (ZX _ (ZU ..))
     subst h1
     refine⟨t,rfl,?_⟩
     rw[eb]
     cases t with
     |false=>rfl
     |true=>rw[h2 (by rw[hg];rfl)];rfl
    ·cases h
   ·cases h
 grind
theorem ayO{d:Option Nat}{op:aw}{p:Prop}{v:AV}(ht:Cn op=true)(h:cR cfg d rg σ op=some (p,v,σ')):p:=by
 cases op<;>simp only[Cn,ZS]at ht
 case bin op x y=>
  simp only[cR]at h
  split at h
  ·split at h
   ·rename_i p' r e
    cases h
    unfold Av at e
    split at e
    ·grind
    ·grind
    grind
   grind
  grind
 case len s x=>cases s<;>(simp only[cR]at h;grind)<;>cases h<;>trivial
 all_goals simp only[cR,reduceCtorEq]at h
 all_goals(repeat' split at h)
 all_goals first
  |grind
  |grind
  |(have:=wZ h;cases this;trivial)
  |(have:=iT h;cases this;trivial)
  |(have:=sB h;cases this;trivial)
  |(have h2:=(po h).2;(repeat' split at h2)<;>first|(cases h2;done)|(cases h2;trivial)|(have:=wZ h2;cases this;trivial)|(have:=iT h2;cases this;trivial))
theorem NV{g:Option Bool}{op:aw}{p q:Prop}{ps:List Prop}(h:q∈ps):q∈push g op p ps:=by
 unfold push
 grind
theorem adO{g:Option Bool}{d:Option Nat}{op:aw}{p:Prop}{v:AV}{ps:List Prop}(h:cR cfg d rg σ op=some (p,v,σ'))(ha:∀ q∈push g op p ps,q)(hg:g.getD true=true):p:=by
 unfold push at ha
 cases ht:Cn op with
 |true=>exact ayO ht h
 |false=>
  rw[ht]at ha
  cases g with
  |none=>simp_all
  |some b=>exact ha _ (ZU ..) hg
theorem Vq{d:Option Nat}{op:aw}{p:Prop}{v:AV}(hc:Nat.ble op.cls 1=true)(h:cR cfg d rg σ op=some (p,v,σ')):σ'=σ:=by
 have hc:=Z8 hc
 cases e:op.cls with
 |zero=>exact JL e h
 |succ n=>
  cases op<;>simp only[aw.cls,reduceCtorEq]at e
  case load g n x=>
   simp only[cR]at h
   repeat' split at h
   all_goals first
    |grind
    |(have:=wZ h;grind)
    |(have h2:=(po h).2;have:=iT h2;grind)
  all_goals(simp only[aw.cls]at hc;omega)
theorem NY{α:Type}{g:Option Bool}{d:Option Nat}{v:AV}{k:XR→Option α}{r:α}(h:BS g d v xr k=some r):
  ∃ cu,k cu=some r∧(g.getD true=true→den cu=bM d v (den xr))∧(g.getD true=false→den cu=bM d (.v undef) (den xr)):=by
 unfold BS at h
 split at h
 ·split at h
  ·exact⟨_,h,fun _=>rfl,fun e=>nomatch e⟩
  ·rename_i t
   exact⟨_,h,fun(e:t=true)=>by subst e;rfl,fun(e:t=false)=>by subst e;rfl⟩
 ·split at h
  ·exact⟨_,h,fun _=>rfl,fun e=>nomatch e⟩
  grind
def Out(cfg:Nat→Nat)(ok:XR→aw→Bool)(d:Option Nat)(op:aw)(xr:XR)(σ:Store)(v:AV)(σ':Store):Prop:=
 (∃ p,cR cfg d (raw xr) σ op=some (p,v,σ')∧p∧ok xr op=true∧∀ t∈tmpsOf op.opers,lk (raw xr) t=lk (den xr) t)∨
 (∃ x y z t,op= .pick x y z∧σ'=σ∧ev (den xr) x= .v (.bool t)∧(if t then ev (den xr) y else ev (den xr) z)=v)
def C2(cfg:Nat→Nat)(ok:XR→aw→Bool)(d:Option Nat)(op:aw)(b:Option Bool)(xr:XR)(σ:Store)(cu:XR)(σ':Store):Prop:=
 (b.getD true=true→∃ v,Out cfg ok d op xr σ v σ'∧den cu=bM d v (den xr))∧(b.getD true=false→σ'=σ∧den cu=bM d (.v undef) (den xr))
theorem aye{α:Type}{ok:XR→aw→Bool}{d:Option Nat}{op:aw}{g:Option Bool}{ps:List Prop}{k:List Prop→XR→Store→Option α}{r:α}(h:Cb cfg ok d op g xr σ ps k=some r):
  ∃ bg cu σ',k bg cu σ'=some r∧(∀ p∈ps,p∈bg)∧((∀ p∈bg,p)→C2 cfg ok d op g xr σ cu σ'):=by
 obtain⟨bg,h,h2,h3⟩:=fD h
 split at h
 case h_2=>cases h
 rename_i hok
 split at h
 case h_2=>cases h
 rename_i cX
 split at h
 case h_2=>cases h
 rename_i p v σ' Ep
 obtain⟨cu,h,h4,h5⟩:=NY h
 refine⟨_,cu,σ',h,fun p hp=>NV (h2 p hp),fun ha=>⟨fun hg=>⟨v,.inl ⟨p,Ep,adO Ep ha hg,hok,h3 (fun q hq=>ha q (NV hq)) hg⟩,h4 hg⟩,fun hg=>⟨?_,h5 hg⟩⟩⟩
 cases g with
 |none=>cases hg
 |some t=>exact Vq cX Ep
theorem Cd{α:Type}{ok:XR→aw→Bool}{ps:List Prop}{k:List Prop→XR→Store→Option α}{r:α}(h:rE cfg ok c xr σ ps k=some r):
  ∃ bg cu σ' b,k bg cu σ'=some r∧(∀ p∈ps,p∈bg)∧qe xr c.g b∧((∀ p∈bg,p)→C2 cfg ok c.d c.op b xr σ cu σ'):=by
 obtain⟨g,h,xX,_⟩:=DW h
 obtain⟨d,op,cg⟩:=c
 have hd:Cb cfg ok d op g xr σ ps k=some r→∃ bg cu σ' b,k bg cu σ'=some r∧(∀ p∈ps,p∈bg)∧qe xr cg b∧((∀ p∈bg,p)→C2 cfg ok d op b xr σ cu σ'):=fun h=>by
  obtain⟨bg,cu,σ',h1,h2,h3⟩:=aye h
  grind
 cases op with
 |pick x a b=>
  obtain⟨bg,v,h,h2,h3⟩:=adr h
  obtain⟨cu,h,h4,h5⟩:=NY h
  refine⟨bg,cu,σ,g,h,h2,xX,fun ha=>⟨fun hg=> ?_,fun hg=>⟨rfl,h5 hg⟩⟩⟩
  obtain⟨t,e1,e2⟩:=h3 ha hg
  exact⟨_,.inr ⟨x,a,b,t,rfl,rfl,e1,e2⟩,h4 hg⟩
 |_=>exact hd h
theorem Nw{ok:XR→aw→Bool}{d:Option Nat}{op:aw}{v:AV}(h:Out cfg ok d op xr σ v σ')(hk:K v σ'):aj P cfg d (den xr) σ K E op:=by
 rcases h with⟨p,h1,h2,_,h4⟩|⟨x,y,z,t,rfl,rfl,h2,rfl⟩
 ·rw[← pV h4];exact AE h1 h2 hk
 ·simp only[aj,h2];grind
theorem Nx{ah cf:List Nat}{d:Option Nat}{op:aw}{v:AV}(h:Out cfg (kL ah cf) d op xr σ v σ')(hk:K v σ'):cO P cfg ah cf d (den xr) σ K op:=by
 rcases h with⟨p,h1,h2,h3,h4⟩|⟨x,y,z,t,rfl,rfl,h2,rfl⟩
 ·unfold kL at h3
  simp at h3
  have hcf:∀ t∈cf,lk (raw xr) t=lk (den xr) t:=fun t ht=>by
   have:=h3.1 t ht
   unfold Ce at this
   rw[vM,mN]
   split at this
   ·rename_i e;rw[e];rfl
   grind
  rw[← PJ h4 hcf]
  have ho:=h3.2
  unfold cO
  cases hc:op.cls with
  |zero=>
   have:=JL hc h1
   subst this
   exact Vp hc h1 h2 hk
  |succ n=>
   cases op<;>simp only[aw.cls,reduceCtorEq,Nat.reduceEqDiff,Nat.zero_ne_add_one]at hc<;>simp only[Ns,reduceCtorEq]at ho<;>first|simp|skip
   ·cases hc;exact⟨ho,AE h1 h2 hk⟩
   ·cases hc;exact⟨ho,AE h1 h2 hk⟩
 ·simp only[cO,aw.cls,aG,aj,h2];grind
structure VX(P:Program)[Glob P](cfg:Nat→Nat)(l:List CI)(K:ae→Store→Prop)(E:List PanicEntry→Store→Prop)(xr:XR)(σ:Store):Prop where
 h:dW P cfg l K E (den xr) σ
structure VY(P:Program)[Glob P](cfg:Nat→Nat)(ah:List Nat)(l:List CD)(K:ae→Store→Prop)(xr:XR)(σ:Store):Prop where
 h:cD P cfg ah l K (den xr) σ
theorem On{Kc:ae→Store→Prop}{bg:List Prop}{rest:List CI}:∀ {l:List CI} {xr:XR} {σ:Store} {ps:List Prop},yY cfg l xr σ ps=some (bg,cu,σ',rest)→
  (∀ p∈ps,p∈bg)∧((∀ p∈bg,p)→dW P cfg rest Kc E (den cu) σ'→dW P cfg l Kc E (den xr) σ)
 |[],xr,σ,ps,h=>by cases h;grind
 |c::l,xr,σ,ps,h=>by
  simp only[yY]at h
  split at h
  ·grind
  ·obtain⟨BR,Hf,br,b,h,h2,hc,h3⟩:=Cd h
   obtain⟨i1,i2⟩:=On h
   refine⟨fun p hp=>i1 p (h2 p hp),fun ha hk=> ?_⟩
   have hn:=i2 ha hk
   obtain⟨s1,s2⟩:=h3 fun p hp=>ha p (i1 p hp)
   refine hc _ _ (fun hg=> ?_) (fun hg=> ?_)
   ·obtain⟨v,ho,hd⟩:=s1 hg
    exact Nw ho (by grind)
   grind
theorem Oo{ah:List Nat}{Kc:ae→Store→Prop}{bg:List Prop}{rest:List CD}:∀ {l:List CD} {xr:XR} {σ:Store} {ps:List Prop},runM cfg ah l xr σ ps=some (bg,cu,σ',rest)→
  (∀ p∈ps,p∈bg)∧((∀ p∈bg,p)→cD P cfg ah rest Kc (den cu) σ'→cD P cfg ah l Kc (den xr) σ)
 |[],xr,σ,ps,h=>by cases h;grind
 |c::l,xr,σ,ps,h=>by
  simp only[runM]at h
  split at h
  ·grind
  ·obtain⟨BR,Hf,br,b,h,h2,hc,h3⟩:=Cd h
   obtain⟨i1,i2⟩:=Oo h
   refine⟨fun p hp=>i1 p (h2 p hp),fun ha hk=> ?_⟩
   have hn:=i2 ha hk
   obtain⟨s1,s2⟩:=h3 fun p hp=>ha p (i1 p hp)
   refine hc _ _ (fun hg=> ?_) (fun hg=> ?_)
   ·obtain⟨v,ho,hd⟩:=s1 hg
    exact Nx ho (by grind)
   grind
theorem PQ(ops:Array Oper){Q:Exit→ae→Store→Prop}{K:ae→Store→Prop}(hK:∀ rg σ,K rg σ→Q .normal rg σ):
  ∀ (os:List Oper) (k:Nat) (l:List CI),gE P N ops os=some l→(∀ i,i<os.length→ops[k+i]? =os[i]?)→
  ∀ (M:Mem) (w0:Base) (w:World) (a:Act) (rg:ae) (σ:Store),dW P cfg l K (fun ch σ'=>Q (.panic ch) [] σ') rg σ→Inv P M w0 σ w→bE M rg a→a.tmps.size=N→a.defers=Glob.df P→
   wpOps P ops (gF P M w0 N Q) (List.range' k os.length) a w
 |[],k,l,hl,_,M,w0,w,a,rg,σ,h,hI,hR,hN,hD=>by
  simp only[gE,Z5]at hl
  subst hl
  exact⟨M,rg,σ,Mem.le.refl _,hI,hR,hN,hD,hK rg σ h⟩
 |o::os,k,l,hl,ho,M,w0,w,a,rg,σ,h,hI,hR,hN,hD=>by
  simp only[gE]at hl
  split at hl
  ·rename_i c hc
   obtain⟨l',gd,rfl⟩:=ZR.1 hl
   have EN:ops[k]? =some o:=by simpa using ho 0 (by simp)
   obtain⟨iZ,aH⟩:=xy hc
   simp only[Z9,List.range'_succ,wpOps,EN]
   refine sD hc h hI hR ⟨fun M' x σ' v w' hM hI' hx hk=> ?_,fun M' ch σ' w' hM hI' hk=> ?_⟩
   ·have ih:=PQ ops hK os (k+1) l' gd (fun i hi=>by have:=ho (i+1) (by grind);grind) M' w0 w' (a.put o.dst v) (bM c.d x rg) σ' hk hI'
     (by rw[iZ];exact(hR.mono hM).put o.dst (fun t ht=>by grind) hx) (by rw[Act.size_put];grind) (by rw[Act.xB];grind)
    refine ue.pX ?_ _ _ _ ih
    rintro e a2 w2 ⟨M2,bP,σ2,h1,h2⟩
    exact⟨M2,bP,σ2,hM.trans h1,h2⟩
   ·exact⟨M',[],σ',hM,hI',fun i=> .any _,hN,hD,hk⟩
  grind
theorem QF{l:List CI}{Q:Exit→ae→Store→Prop}(cfg:Nat→Nat)(h:dW P cfg l (Q .normal) (fun ch σ'=>Q (.panic ch) [] σ') rg σ):SW P N (.cj l) Q rg σ:=by
 intro c hc M w0 a w hI hR hN hD
 obtain⟨id,ops,rfl,hl⟩:=dO hc
 show wpOps _ _ _ _ _ _
 have:=PQ (P:=P) (N:=N) (cfg:=cfg) ops (Q:=Q) (K:=Q .normal) (fun _ _ h=>h) ops.toList 0 l hl (fun i hi=>by simp) M w0 w a rg σ h hI hR hN hD
 rw[X5]
 grind
end
end Go.Sx
