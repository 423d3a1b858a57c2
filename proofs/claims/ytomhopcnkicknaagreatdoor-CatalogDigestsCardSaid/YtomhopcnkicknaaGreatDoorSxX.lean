/-
  The layer Sx, eighteenth part: whole runs of operations, computed; an operation under a guard yields a value under a condition (no case is split).
-/
import Derived.Test.YtomhopcnkicknaaGreatDoorSxMix3
import Derived.IntWalk
import Derived.KernelRfl
set_option linter.unusedVariables false
set_option linter.unusedSimpArgs false
set_option linter.unusedSectionVars false
namespace Go.Sx
open Go.RowKit
inductive XV where
 |s (x:AV)
 |o (c:Bool) (x:AV)
abbrev XR:=List (Nat×XV)
def XV.den:XV→AV
 | .s x=>x
 | .o c x=>bif c then x else .v undef
def XV.val:XV→AV
 | .s x=>x
 | .o _ x=>x
def oU:XR→Nat→XV
 |[],_=> .s .any
 |(i,x)::r,j=>bif Nat.beq i j then x else oU r j
def den:XR→ah
 |[]=>[]
 |(i,x)::r=>(i,x.den)::den r
def raw:XR→ah
 |[]=>[]
 |(i,x)::r=>(i,x.val)::raw r
def toX:ah→XR
 |[]=>[]
 |(i,x)::r=>(i,.s x)::toX r
theorem nF(t:Nat):∀ xr:XR,lk (den xr) t=(oU xr t).den
 |[]=>rfl
 |(i,x)::r=>by simp only[den,lk,oU];cases Nat.beq i t<;>simp only[cond_true,cond_false,nF t r]
theorem wh(t:Nat):∀ xr:XR,lk (raw xr) t=(oU xr t).val
 |[]=>rfl
 |(i,x)::r=>by simp only[raw,lk,oU];cases Nat.beq i t<;>simp only[cond_true,cond_false,wh t r]
theorem vd:∀ rg:ah,den (toX rg)=rg
 |[]=>rfl
 |(i,x)::r=>by simp only[toX,den,XV.den,vd r]
inductive OB:List Prop→Prop
 |nil:OB []
 |cons {p:Prop} {ps:List Prop} (h:p) (t:OB ps):OB (p::ps)
theorem OB.all{ps:List Prop}(h:OB ps):∀ p∈ps,p:=by
 induction h with
 |nil=>grind
 |cons h _ ih=>
  grind
theorem OB.rfl{α:Type}{a:α}{ps:List Prop}(t:OB ps):OB ((a=a)::ps):= .cons _root_.rfl t
theorem OB.acw{α:Type}{a:α}{c:Bool}{ps:List Prop}(t:OB ps):OB ((c=true→a=a)::ps):= .cons (fun _=>_root_.rfl) t
theorem OB.gtr{c:Bool}{ps:List Prop}(t:OB ps):OB ((c=true→True)::ps):= .cons (fun _=>trivial) t
theorem OB.self{a:Prop}{ps:List Prop}(t:OB ps):OB ((a→a)::ps):= .cons (fun h=>h) t
theorem OB.tr{ps:List Prop}(t:OB ps):OB (True::ps):= .cons trivial t
theorem OB.and{a b:Bool}{ps:List Prop}(t:OB ps):OB (((a && b)=true→a=true)::ps):= .cons (fun h=>by simp at h;exact h.1) t
def gX{α:Type}(xr:XR)(g:Option (Nat×Bool))(k:Option Bool→Option α):Option α:=
 match g with
 |none=>k none
 |some (t,true)=>match oU xr t with
  | .s (.v (.bool b))=>k (some b)
  | .o c (.v (.bool b))=>k (some (c && b))
  |_=>none
 |some (t,false)=>match oU xr t with
  | .s (.v (.bool b))=>k (some !b)
  | .o c (.v (.bool b))=>k (some (c && !b))
  |_=>none
def tY{α:Type}(g:Option Bool)(xr:XR):List Nat→List Prop→(List Prop→Option α)→Option α
 |[],ps,k=>k ps
 |t::ts,ps,k=>match oU xr t with
  | .s _=>tY g xr ts ps k
  | .o c _=>match g with
   |none=>tY g xr ts ((c=true)::ps) k
   |some b=>tY g xr ts ((b=true→c=true)::ps) k
def vh(xr:XR):Operand→XV
 | .tmp t=>oU xr t
 | .const v=> .s (.v v)
 | .global g=> .s (.v (.pointer (some ⟨g,0,none⟩)))
 | .func f=> .s (.v (.func (.func f) #[] #[]))
def H9{α:Type}(g:Option Bool)(xr:XR)(c a b:Operand)(ps:List Prop)(k:List Prop→Bool→Option α):Option α:=
 match vh xr c with
 | .s (.v (.bool t))=>match a,b with
  | .const (.bool true),b=>match vh xr b with
   | .s (.v (.bool y))=>k ps (t || y)
   | .o cb (.v (.bool y))=>match g with
    |none=>k ((!t=true→cb=true)::ps) (t || y)
    |some g=>k (((g && !t)=true→cb=true)::ps) (t || y)
   |_=>none
  |a,.const (.bool false)=>match vh xr a with
   | .s (.v (.bool y))=>k ps (t && y)
   | .o cb (.v (.bool y))=>match g with
    |none=>k ((t=true→cb=true)::ps) (t && y)
    |some g=>k (((g && t)=true→cb=true)::ps) (t && y)
   |_=>none
  |_,_=>none
 | .o cc (.v (.bool t))=>match g with
  |none=>none
  |some g=>match a,b with
   | .const (.bool true),b=>match vh xr b with
    | .s (.v (.bool y))=>k ((g=true→cc=true)::ps) (t || y)
    | .o cb (.v (.bool y))=>k ((g=true→cc=true)::((g && !t)=true→cb=true)::ps) (t || y)
    |_=>none
   |a,.const (.bool false)=>match vh xr a with
    | .s (.v (.bool y))=>k ((g=true→cc=true)::ps) (t && y)
    | .o cb (.v (.bool y))=>k ((g=true→cc=true)::((g && t)=true→cb=true)::ps) (t && y)
    |_=>none
   |_,_=>none
 |_=>none
def DE:aB→Bool
 | .mv .. | .build .. | .oY .. | .ic .. | .eqs .. | .un .. | .lq .. | .pG .. | .qh .. | .er .. | .kE .. | .field .. | .extract .. | .len .. | .max2 .. | .min2 .. =>true
 | .bin op _ _=>match op with
  | .quo| .rem| .shl| .shr| .add=>false
  |_=>true
 |_=>false
def push(g:Option Bool)(op:aB)(p:Prop)(ps:List Prop):List Prop:=
 match DE op with
 |true=>ps
 |false=>match g with
  |none=>p::ps
  |some b=>(b=true→p)::ps
def aLP:aB→Bool
 | .call .. | .gz .. | .alloc .. | .box .. | .append .. | .len false _| .eY .. | .idxs .. | .slice .. | .bS .. | .exts .. | .panic .. =>true
 | .br _ _ []=>true
 |_=>false
def wS(cfg:Nat→Nat)(op:aB):Bool:=match aLP op with
 |true=>true
 |false=>match op with
  | .load _ _ (.tmp s)=>Nat.beq (cfg (1000000+s)) 1
  | .load _ _ (.global _)=>true
  | .store _ (.tmp s) _=>Nat.beq (cfg (1000000+s)) 1
  |_=>false
def Dc{α:Type}(g:Option Bool)(d:Option Nat)(v:AV)(xr:XR)(k:XR→Option α):Option α:=
 match d with
 |some d=>match g with
  |none=>k ((d,.s v)::xr)
  |some t=>k ((d,.o t v)::xr)
 |none=>match g with
  |none=>k xr
  |some _=>none
def Xc(g:Option Bool)(op:aB):Bool:=match g with
 |none=>true
 |some _=>Nat.ble op.cls 1
def IH{α:Type}(cfg:Nat→Nat)(ok:XR→aB→Bool)(d:Option Nat)(op:aB)(g:Option Bool)(xr:XR)(σ:Store)(ps:List Prop)(k:List Prop→XR→Store→Option α):Option α:=
 tY g xr (tmpsOf op.opers) ps fun ps=>match ok xr op with
  |true=>match Xc g op with
   |true=>match cV cfg d (raw xr) σ op with
    |some (p,v,af)=>Dc g d v xr fun xr=>k (push g op p ps) xr af
    |none=>none
   |false=>none
  |false=>none
def uk{α:Type}(cfg:Nat→Nat)(ok:XR→aB→Bool)(c:CI)(xr:XR)(σ:Store)(ps:List Prop)(k:List Prop→XR→Store→Option α):Option α:=
 gX xr c.g fun g=>match c.op with
  | .pick x a b=>H9 g xr x a b ps fun ps v=>Dc g c.d (.v (.bool v)) xr fun xr=>k ps xr σ
  |op=>IH cfg ok c.d op g xr σ ps k
def z8(cfg:Nat→Nat):List CI→XR→Store→List Prop→Option (List Prop×XR×Store×List CI)
 |[],xr,σ,ps=>some (ps,xr,σ,[])
 |c::l,xr,σ,ps=>match wS cfg c.op with
  |true=>some (ps,xr,σ,c::l)
  |false=>uk cfg (fun _ _=>true) c xr σ ps fun ps xr σ=>z8 cfg l xr σ ps
def Dx(xr:XR)(t:Nat):Bool:=match oU xr t with
 | .s _=>true
 | .o _ _=>false
def mE(al cf:List Nat)(xr:XR)(op:aB):Bool:=cf.all (Dx xr) && Pm al cf (raw xr) op
def runM(cfg:Nat→Nat)(al:List Nat):List CD→XR→Store→List Prop→Option (List Prop×XR×Store×List CD)
 |[],xr,σ,ps=>some (ps,xr,σ,[])
 |c::l,xr,σ,ps=>match wS cfg c.c.op with
  |true=>some (ps,xr,σ,c::l)
  |false=>uk cfg (mE al c.cf) c.c xr σ ps fun ps xr σ=>runM cfg al l xr σ ps
def fF(P:Program)[Glob P](cfg:Nat→Nat):List CI→(K:ah→Store→Prop)→(E:List PanicEntry→Store→Prop)→ah→Store→Prop
 |[],K,_,rg,σ=>K rg σ
 |c::l,K,E,rg,σ=>dP P cfg c (fun x af=>fF P cfg l K E (cr c.d x rg) af) E rg σ
def GM(rg:ah)(t:Nat)(want:Bool)(A B:Prop):Prop:=match lk rg t with
 | .v (.bool b)=>(b=want→A)∧(b= !want→B)
 | .v (.tuple _)=>B
 |_=>False
def GG(rg:ah)(g:Option (Nat×Bool))(A B:Prop):Prop:=match g with
 |none=>A
 |some (t,want)=>GM rg t want A B
section
variable {P:Program}[Glob P]{M:Mem}{w0:Base}{w:World}{σ af:Store}{rg:ah}{a:Act}{cfg:Nat→Nat}{N:Nat}{xr cJ:XR}{c:CI}{K K':AV→Store→Prop}{E:List PanicEntry→Store→Prop}
theorem aNx:dP P cfg c K E rg σ↔GG rg c.g (ak P cfg c.d rg σ K E c.op) (K (.v undef) σ):=by
 rfl
theorem aNw{al:List Nat}{c:CD}:dm P cfg al c K rg σ↔GG rg c.c.g (di P cfg al c.cf c.c.d rg σ K c.c.op) (K (.v undef) σ):=by
 rfl
def uI(xr:XR)(g:Option (Nat×Bool))(b:Option Bool):Prop:=∀ A B:Prop,(b.getD true=true→A)→(b.getD true=false→B)→GG (den xr) g A B
theorem Fp{α:Type}{g:Option (Nat×Bool)}{k:Option Bool→Option α}{r:α}(h:gX xr g k=some r):∃ b,k b=some r∧uI xr g b∧(b=none→g=none):=by
 unfold gX at h
 split at h
 ·exact⟨none,h,fun A B h1 _=>h1 rfl,fun _=>rfl⟩
 ·split at h
  ·rename_i b e
   refine⟨_,h,fun A B h1 h2=> ?_,fun e=>nomatch e⟩
   simp only[GG,GM,nF,e,XV.den]
   grind
  ·rename_i cc b e
   refine⟨_,h,fun A B h1 h2=> ?_,fun e=>nomatch e⟩
   simp only[GG,GM,nF,e,XV.den]
   cases cc with
   |true=>grind
   |false=>exact h2 rfl
  grind
 ·split at h
  ·rename_i b e
   refine⟨_,h,fun A B h1 h2=> ?_,fun e=>nomatch e⟩
   simp only[GG,GM,nF,e,XV.den]
   grind
  ·rename_i cc b e
   refine⟨_,h,fun A B h1 h2=> ?_,fun e=>nomatch e⟩
   simp only[GG,GM,nF,e,XV.den]
   cases cc with
   |true=>grind
   |false=>exact h2 rfl
  grind
theorem gE{α:Type}{g:Option Bool}:∀ {ts:List Nat} {ps:List Prop} {k:List Prop→Option α} {r:α},tY g xr ts ps k=some r→
  ∃ bJ,k bJ=some r∧(∀ p∈ps,p∈bJ)∧((∀ p∈bJ,p)→g.getD true=true→∀ t∈ts,lk (raw xr) t=lk (den xr) t)
 |[],ps,k,r,h=>⟨ps,h,fun _ h=>h,fun _ _ _ h=>by cases h⟩
 |t::ts,ps,k,r,h=>by
  simp only[tY]at h
  split at h
  ·rename_i x e
   obtain⟨bJ,h1,h2,h3⟩:=gE h
   refine⟨bJ,h1,h2,fun ha hg u hu=> ?_⟩
   rcases ZQ.1 hu with rfl|hu
   ·rw[wh,nF,e];rfl
   grind
  ·rename_i cc x e
   split at h
   ·obtain⟨bJ,h1,h2,h3⟩:=gE h
    refine⟨bJ,h1,fun p hp=>h2 p (ZL _ hp),fun ha hg u hu=> ?_⟩
    rcases ZQ.1 hu with rfl|hu
    ·have:=ha _ (h2 _ (Zv ..))
     rw[wh,nF,e,this];rfl
    grind
   ·obtain⟨bJ,h1,h2,h3⟩:=gE h
    refine⟨bJ,h1,fun p hp=>h2 p (ZL _ hp),fun ha hg u hu=> ?_⟩
    rcases ZQ.1 hu with rfl|hu
    ·have:=ha _ (h2 _ (Zv ..)) hg
     rw[wh,nF,e,this];rfl
    grind
theorem aa7(x:Operand):ev (den xr) x=(vh xr x).den:=by
 cases x with
 |tmp t=>exact nF t xr
 |const v=>rfl
 |global g=>rfl
 |func f=>rfl
theorem ahn{α:Type}{g:Option Bool}{c a b:Operand}{ps:List Prop}{k:List Prop→Bool→Option α}{r:α}(h:H9 g xr c a b ps k=some r):
  ∃ bJ v,k bJ v=some r∧(∀ p∈ps,p∈bJ)∧((∀ p∈bJ,p)→g.getD true=true→∃ t,ev (den xr) c= .v (.bool t)∧(if t then ev (den xr) a else ev (den xr) b)= .v (.bool v)):=by
 simp only[aa7]
 unfold H9 at h
 split at h
 ·rename_i t ec
  rw[ec]
  split at h
  ·split at h
   ·rename_i y eb
    refine⟨_,_,h,fun _ h=>h,fun _ _=>⟨t,rfl,?_⟩⟩
    rw[eb];cases t<;>rfl
   ·rename_i cb y eb
    split at h
    ·refine⟨_,_,h,fun p hp=>ZL _ hp,fun ha hg=>⟨t,rfl,?_⟩⟩
     rw[eb]
     have:=ha _ (Zv ..)
     cases t with
     |true=>rfl
     |false=>rw[this rfl];rfl
    ·rename_i g
     refine⟨_,_,h,fun p hp=>ZL _ hp,fun ha hg=>⟨t,rfl,?_⟩⟩
     rw[eb]
     have:=ha _ (Zv ..)
     have hg:g=true:=hg
     cases t with
     |true=>rfl
     |false=>rw[this (by grind)];rfl
   grind
  ·split at h
   ·rename_i y eb
    refine⟨_,_,h,fun _ h=>h,fun _ _=>⟨t,rfl,?_⟩⟩
    rw[eb];cases t<;>rfl
   ·rename_i cb y eb
    split at h
    ·refine⟨_,_,h,fun p hp=>ZL _ hp,fun ha hg=>⟨t,rfl,?_⟩⟩
     rw[eb]
     have:=ha _ (Zv ..)
     cases t with
     |false=>rfl
     |true=>rw[this rfl];rfl
    ·rename_i g
     refine⟨_,_,h,fun p hp=>ZL _ hp,fun ha hg=>⟨t,rfl,?_⟩⟩
     rw[eb]
     have:=ha _ (Zv ..)
     have hg:g=true:=hg
     cases t with
     |false=>rfl
     |true=>rw[this (by rw[hg];rfl)];rfl
   grind
  grind
 ·rename_i cc t ec
  rw[ec]
  split at h
  ·cases h
  ·rename_i g
   split at h
   ·split at h
    ·rename_i y eb
     refine⟨_,_,h,fun p hp=>ZL _ hp,fun ha hg=> ?_⟩
     have:=ha _ (Zv ..) hg
     subst this
     refine⟨t,rfl,?_⟩
     rw[eb];cases t<;>rfl
    ·rename_i cb y eb
     refine⟨_,_,h,fun p hp=>ZL _ (ZL _ hp),fun ha hg=> ?_⟩
     have hg:g=true:=hg
     have h1:=ha _ (Zv ..) hg
     have h2:=ha _ (ZL _ (Zv ..))
     subst h1
     refine⟨t,rfl,?_⟩
     rw[eb]
     cases t with
     |true=>rfl
     |false=>rw[h2 (by rw[hg];rfl)];rfl
    ·cases h
   ·split at h
    ·rename_i y eb
     refine⟨_,_,h,fun p hp=>ZL _ hp,fun ha hg=> ?_⟩
     have:=ha _ (Zv ..) hg
     subst this
     refine⟨t,rfl,?_⟩
     rw[eb];cases t<;>rfl
    ·rename_i cb y eb
     refine⟨_,_,h,fun p hp=>ZL _ (ZL _ hp),fun ha hg=> ?_⟩
     have hg:g=true:=hg
     have h1:=ha _ (Zv ..) hg
     have h2:=ha _ (ZL _ (Zv ..))
     subst h1
     refine⟨t,rfl,?_⟩
     rw[eb]
     cases t with
     |false=>rfl
     |true=>rw[h2 (by rw[hg];rfl)];rfl
    ·cases h
   ·cases h
 grind
theorem aMn{d:Option Nat}{op:aB}{p:Prop}{v:AV}(ht:DE op=true)(h:cV cfg d rg σ op=some (p,v,af)):p:=by
 cases op<;>simp only[DE,ZG]at ht
 case bin op x y=>
  simp only[cV]at h
  split at h
  ·split at h
   ·rename_i p' r e
    cases h
    unfold Be at e
    split at e
    ·grind
    ·grind
    grind
   grind
  grind
 case len s x=>cases s<;>(simp only[cV]at h;grind)<;>cases h<;>trivial
 all_goals simp only[cV,reduceCtorEq]at h
 all_goals(repeat' split at h)
 all_goals first
  |grind
  |grind
  |(have:=ij h;cases this;trivial)
  |(have:=jn h;cases this;trivial)
  |(have:=sZ h;cases this;trivial)
  |(have h2:=(rG h).2;(repeat' split at h2)<;>first|(cases h2;done)|(cases h2;trivial)|(have:=ij h2;cases this;trivial)|(have:=jn h2;cases this;trivial))
theorem PK{g:Option Bool}{op:aB}{p q:Prop}{ps:List Prop}(h:q∈ps):q∈push g op p ps:=by
 unfold push
 grind
theorem ahx{g:Option Bool}{d:Option Nat}{op:aB}{p:Prop}{v:AV}{ps:List Prop}(h:cV cfg d rg σ op=some (p,v,af))(ha:∀ q∈push g op p ps,q)(hg:g.getD true=true):p:=by
 unfold push at ha
 cases ht:DE op with
 |true=>exact aMn ht h
 |false=>
  rw[ht]at ha
  cases g with
  |none=>simp_all
  |some b=>exact ha _ (Zv ..) hg
theorem aaA{d:Option Nat}{op:aB}{p:Prop}{v:AV}(hc:Nat.ble op.cls 1=true)(h:cV cfg d rg σ op=some (p,v,af)):af=σ:=by
 have hc:=ZW hc
 cases e:op.cls with
 |zero=>exact K6 e h
 |succ n=>
  cases op<;>simp only[aB.cls,reduceCtorEq]at e
  case load g n x=>
   simp only[cV]at h
   repeat' split at h
   all_goals first
    |grind
    |(have:=ij h;grind)
    |(have h2:=(rG h).2;have:=jn h2;grind)
  all_goals(simp only[aB.cls]at hc;omega)
theorem PR{α:Type}{g:Option Bool}{d:Option Nat}{v:AV}{k:XR→Option α}{r:α}(h:Dc g d v xr k=some r):
  ∃ cJ,k cJ=some r∧(g.getD true=true→den cJ=cr d v (den xr))∧(g.getD true=false→den cJ=cr d (.v undef) (den xr)):=by
 unfold Dc at h
 split at h
 ·split at h
  ·exact⟨_,h,fun _=>rfl,fun e=>nomatch e⟩
  ·rename_i t
   exact⟨_,h,fun(e:t=true)=>by subst e;rfl,fun(e:t=false)=>by subst e;rfl⟩
 ·split at h
  ·exact⟨_,h,fun _=>rfl,fun e=>nomatch e⟩
  grind
def Out(cfg:Nat→Nat)(ok:XR→aB→Bool)(d:Option Nat)(op:aB)(xr:XR)(σ:Store)(v:AV)(af:Store):Prop:=
 (∃ p,cV cfg d (raw xr) σ op=some (p,v,af)∧p∧ok xr op=true∧∀ t∈tmpsOf op.opers,lk (raw xr) t=lk (den xr) t)∨
 (∃ x y z t,op= .pick x y z∧af=σ∧ev (den xr) x= .v (.bool t)∧(if t then ev (den xr) y else ev (den xr) z)=v)
def eC(cfg:Nat→Nat)(ok:XR→aB→Bool)(d:Option Nat)(op:aB)(b:Option Bool)(xr:XR)(σ:Store)(cJ:XR)(af:Store):Prop:=
 (b.getD true=true→∃ v,Out cfg ok d op xr σ v af∧den cJ=cr d v (den xr))∧(b.getD true=false→af=σ∧den cJ=cr d (.v undef) (den xr))
theorem aLL{α:Type}{ok:XR→aB→Bool}{d:Option Nat}{op:aB}{g:Option Bool}{ps:List Prop}{k:List Prop→XR→Store→Option α}{r:α}(h:IH cfg ok d op g xr σ ps k=some r):
  ∃ bJ cJ af,k bJ cJ af=some r∧(∀ p∈ps,p∈bJ)∧((∀ p∈bJ,p)→eC cfg ok d op g xr σ cJ af):=by
 obtain⟨bJ,h,h2,h3⟩:=gE h
 split at h
 case h_2=>cases h
 rename_i cy
 split at h
 case h_2=>cases h
 rename_i c8
 split at h
 case h_2=>cases h
 rename_i p v af F3
 obtain⟨cJ,h,h4,h5⟩:=PR h
 refine⟨_,cJ,af,h,fun p hp=>PK (h2 p hp),fun ha=>⟨fun hg=>⟨v,.inl ⟨p,F3,ahx F3 ha hg,cy,h3 (fun q hq=>ha q (PK hq)) hg⟩,h4 hg⟩,fun hg=>⟨?_,h5 hg⟩⟩⟩
 cases g with
 |none=>cases hg
 |some t=>exact aaA c8 F3
theorem Du{α:Type}{ok:XR→aB→Bool}{ps:List Prop}{k:List Prop→XR→Store→Option α}{r:α}(h:uk cfg ok c xr σ ps k=some r):
  ∃ bJ cJ af b,k bJ cJ af=some r∧(∀ p∈ps,p∈bJ)∧uI xr c.g b∧((∀ p∈bJ,p)→eC cfg ok c.d c.op b xr σ cJ af):=by
 obtain⟨g,h,acN,_⟩:=Fp h
 obtain⟨d,op,cg⟩:=c
 have hd:IH cfg ok d op g xr σ ps k=some r→∃ bJ cJ af b,k bJ cJ af=some r∧(∀ p∈ps,p∈bJ)∧uI xr cg b∧((∀ p∈bJ,p)→eC cfg ok d op b xr σ cJ af):=fun h=>by
  obtain⟨bJ,cJ,af,h1,h2,h3⟩:=aLL h
  grind
 cases op with
 |pick x a b=>
  obtain⟨bJ,v,h,h2,h3⟩:=ahn h
  obtain⟨cJ,h,h4,h5⟩:=PR h
  refine⟨bJ,cJ,σ,g,h,h2,acN,fun ha=>⟨fun hg=> ?_,fun hg=>⟨rfl,h5 hg⟩⟩⟩
  obtain⟨t,e1,e2⟩:=h3 ha hg
  exact⟨_,.inr ⟨x,a,b,t,rfl,rfl,e1,e2⟩,h4 hg⟩
 |_=>exact hd h
theorem Pt{ok:XR→aB→Bool}{d:Option Nat}{op:aB}{v:AV}(h:Out cfg ok d op xr σ v af)(hk:K v af):ak P cfg d (den xr) σ K E op:=by
 rcases h with⟨p,h1,h2,_,h4⟩|⟨x,y,z,t,rfl,rfl,h2,rfl⟩
 ·rw[← qB h4];exact Bq h1 h2 hk
 ·simp only[ak,h2];grind
theorem Pu{al cf:List Nat}{d:Option Nat}{op:aB}{v:AV}(h:Out cfg (mE al cf) d op xr σ v af)(hk:K v af):di P cfg al cf d (den xr) σ K op:=by
 rcases h with⟨p,h1,h2,h3,h4⟩|⟨x,y,z,t,rfl,rfl,h2,rfl⟩
 ·unfold mE at h3
  simp at h3
  have yw:∀ t∈cf,lk (raw xr) t=lk (den xr) t:=fun t ht=>by
   have:=h3.1 t ht
   unfold Dx at this
   rw[wh,nF]
   split at this
   ·rename_i e;rw[e];rfl
   grind
  rw[← RD h4 yw]
  have ho:=h3.2
  unfold di
  cases hc:op.cls with
  |zero=>
   have:=K6 hc h1
   subst this
   exact aaz hc h1 h2 hk
  |succ n=>
   cases op<;>simp only[aB.cls,reduceCtorEq,Nat.reduceEqDiff,Nat.zero_ne_add_one]at hc<;>simp only[Pm,reduceCtorEq]at ho<;>first|simp|skip
   ·cases hc;exact⟨ho,Bq h1 h2 hk⟩
   ·cases hc;exact⟨ho,Bq h1 h2 hk⟩
 ·simp only[di,aB.cls,aK,ak,h2];grind
structure VX(P:Program)[Glob P](cfg:Nat→Nat)(l:List CI)(K:ah→Store→Prop)(E:List PanicEntry→Store→Prop)(xr:XR)(σ:Store):Prop where
 h:fF P cfg l K E (den xr) σ
structure VY(P:Program)[Glob P](cfg:Nat→Nat)(al:List Nat)(l:List CD)(K:ah→Store→Prop)(xr:XR)(σ:Store):Prop where
 h:ef P cfg al l K (den xr) σ
theorem Qe{Kc:ah→Store→Prop}{bJ:List Prop}{rest:List CI}:∀ {l:List CI} {xr:XR} {σ:Store} {ps:List Prop},z8 cfg l xr σ ps=some (bJ,cJ,af,rest)→
  (∀ p∈ps,p∈bJ)∧((∀ p∈bJ,p)→fF P cfg rest Kc E (den cJ) af→fF P cfg l Kc E (den xr) σ)
 |[],xr,σ,ps,h=>by cases h;grind
 |c::l,xr,σ,ps,h=>by
  simp only[z8]at h
  split at h
  ·grind
  ·obtain⟨Da,Jr,eR,b,h,h2,hc,h3⟩:=Du h
   obtain⟨i1,i2⟩:=Qe h
   refine⟨fun p hp=>i1 p (h2 p hp),fun ha hk=> ?_⟩
   have hn:=i2 ha hk
   obtain⟨s1,s2⟩:=h3 fun p hp=>ha p (i1 p hp)
   refine hc _ _ (fun hg=> ?_) (fun hg=> ?_)
   ·obtain⟨v,ho,hd⟩:=s1 hg
    exact Pt ho (by grind)
   grind
theorem Qf{al:List Nat}{Kc:ah→Store→Prop}{bJ:List Prop}{rest:List CD}:∀ {l:List CD} {xr:XR} {σ:Store} {ps:List Prop},runM cfg al l xr σ ps=some (bJ,cJ,af,rest)→
  (∀ p∈ps,p∈bJ)∧((∀ p∈bJ,p)→ef P cfg al rest Kc (den cJ) af→ef P cfg al l Kc (den xr) σ)
 |[],xr,σ,ps,h=>by cases h;grind
 |c::l,xr,σ,ps,h=>by
  simp only[runM]at h
  split at h
  ·grind
  ·obtain⟨Da,Jr,eR,b,h,h2,hc,h3⟩:=Du h
   obtain⟨i1,i2⟩:=Qf h
   refine⟨fun p hp=>i1 p (h2 p hp),fun ha hk=> ?_⟩
   have hn:=i2 ha hk
   obtain⟨s1,s2⟩:=h3 fun p hp=>ha p (i1 p hp)
   refine hc _ _ (fun hg=> ?_) (fun hg=> ?_)
   ·obtain⟨v,ho,hd⟩:=s1 hg
    exact Pu ho (by grind)
   grind
theorem RJ(ops:Array Oper){Q:Exit→ah→Store→Prop}{K:ah→Store→Prop}(hK:∀ rg σ,K rg σ→Q .normal rg σ):
  ∀ (os:List Oper) (k:Nat) (l:List CI),gL P N ops os=some l→(∀ i,i<os.length→ops[k+i]? =os[i]?)→
  ∀ (M:Mem) (w0:Base) (w:World) (a:Act) (rg:ah) (σ:Store),fF P cfg l K (fun ch af=>Q (.panic ch) [] af) rg σ→Inv P M w0 σ w→bW M rg a→a.tmps.size=N→a.defers=Glob.df P→
   wpOps P ops (jJ P M w0 N Q) (List.range' k os.length) a w
 |[],k,l,hl,_,M,w0,w,a,rg,σ,h,hI,hR,hN,hD=>by
  simp only[gL,ZN]at hl
  subst hl
  exact⟨M,rg,σ,Mem.le.refl _,hI,hR,hN,hD,hK rg σ h⟩
 |o::os,k,l,hl,ho,M,w0,w,a,rg,σ,h,hI,hR,hN,hD=>by
  simp only[gL]at hl
  split at hl
  ·rename_i c hc
   obtain⟨l',fj,rfl⟩:=ZO.1 hl
   have Gs:ops[k]? =some o:=by simpa using ho 0 (by simp)
   obtain⟨jO,ax⟩:=xW hc
   simp only[Z8,List.range'_succ,wpOps,Gs]
   refine s4 hc h hI hR ⟨fun M' x af v w' hM aS hx hk=> ?_,fun M' ch af w' hM aS hk=> ?_⟩
   ·have ih:=RJ ops hK os (k+1) l' fj (fun i hi=>by have:=ho (i+1) (by grind);grind) M' w0 w' (a.put o.dst v) (cr c.d x rg) af hk aS
     (by rw[jO];exact(hR.mono hM).put o.dst (fun t ht=>by grind) hx) (by rw[Act.size_put];grind) (by rw[Act.x2];grind)
    refine uw.qD ?_ _ _ _ ih
    rintro e a2 w2 ⟨M2,dA,bE,h1,h2⟩
    exact⟨M2,dA,bE,hM.trans h1,h2⟩
   ·exact⟨M',[],af,hM,aS,fun i=> .any _,hN,hD,hk⟩
  grind
theorem SX{l:List CI}{Q:Exit→ah→Store→Prop}(cfg:Nat→Nat)(h:fF P cfg l (Q .normal) (fun ch af=>Q (.panic ch) [] af) rg σ):SW P N (.eZ l) Q rg σ:=by
 intro c hc M w0 a w hI hR hN hD
 obtain⟨id,ops,rfl,hl⟩:=kC hc
 show wpOps _ _ _ _ _ _
 have:=RJ (P:=P) (N:=N) (cfg:=cfg) ops (Q:=Q) (K:=Q .normal) (fun _ _ h=>h) ops.toList 0 l hl (fun i hi=>by simp) M w0 w a rg σ h hI hR hN hD
 rw[XY]
 grind
end
def toXO:ah→Option XR
 |[]=>some []
 |(i,x)::r=>match toXO r with
  |some l=>some ((i,.s x)::l)
  |none=>none
theorem wV:∀ {rg:ah} {xr:XR},toXO rg=some xr→toX rg=xr
 |[],_,h=>by cases h;rfl
 |(i,x)::r,xr,h=>by
  simp only[toXO]at h
  split at h
  ·rename_i e;cases h;rw[toX,wV e]
  grind
def bM(og:Option Bool)(d:Nat)(v:AV)(xr:XR):XR:=(d,match og with
 |none=> .s v
 |some b=> .o b v)::xr
def aL(xr:XR)(g:Option (Nat×Bool))(args:List Operand):Option (Option Bool×List AV×List Prop):=
 gX xr g fun og=>tY og xr (tmpsOf args) [] fun ps=>match E2 (raw xr) args with
  |some as=>some (og,as,ps)
  |none=>none
section
variable {P:Program}[Glob P]{N:Nat}{cfg:Nat→Nat}{Q:Exit→ah→Store→Prop}{K:ah→Store→Prop}{E:List PanicEntry→Store→Prop}{rg:ah}{σ af:Store}{l rest:List CI}{d:Nat}{op:aB}{p:Prop}{v:AV}{xr cJ:XR}{ps:List Prop}{c:CI}
 {al cf:List Nat} {ix:Nat} {ld z6:List CD} {cd:CD} {g:Option (Nat×Bool)} {og:Option Bool} {as:List AV} {args:List Operand}
theorem fu(h:og.getD true=true):den (bM og d v xr)=(d,v)::den xr:=by
 cases og with
 |none=>rfl
 |some b=>have h:b=true:=h;subst h;rfl
theorem ft(h:og.getD true=false):den (bM og d v xr)=(d,.v undef)::den xr:=by
 cases og with
 |none=>cases h
 |some b=>have h:b=false:=h;subst h;rfl
theorem cE(h:aL xr g args=some (og,as,ps)):uI xr g og∧(OB ps→og.getD true=true→bD (den xr) args=as):=by
 obtain⟨b,h,hc,_⟩:=Fp h
 obtain⟨bJ,h,_,h3⟩:=gE h
 split at h
 ·rename_i as' e
  cases h
  refine⟨hc,fun hp hg=> ?_⟩
  rw[← lz args (h3 hp.all hg)]
  exact Lu e
 grind
theorem T4(hx:toXO rg=some xr)(h:VX P cfg l (Q .normal) (fun ch af=>Q (.panic ch) [] af) xr σ):WA P N cfg (.eZ l) Q rg σ:=
 ⟨rfl,SX cfg (by have:=h.h;rwa [← wV hx,vd]at this)⟩
theorem T3{ld:List CD}(hx:toXO rg=some xr)(h:VY P cfg al ld (Cl (Q .normal)) xr σ):WA P N cfg (.dx al ld) Q rg σ:=
 ⟨rfl,SU cfg (by have:=h.h;rwa [← wV hx,vd]at this)⟩
theorem TY(hx:toXO rg=some xr)(h:VY P cfg [] (bare l) (Cl (Q .normal)) xr σ):WA P N cfg (.cG l) Q rg σ:=
 ⟨rfl,aNG cfg (by have:=h.h;rwa [← wV hx,vd]at this)⟩
theorem Tp(h:K (den xr) σ):VX P cfg [] K E xr σ:=⟨h⟩
theorem Tr(_h0:wS cfg c.op=false)(h:z8 cfg (c::l) xr σ []=some (ps,cJ,af,rest))(hp:OB ps)(k:VX P cfg rest K E cJ af):VX P cfg (c::l) K E xr σ:=
 ⟨(Qe h).2 hp.all k.h⟩
theorem Td(h:uk cfg (fun _ _=>true) c xr σ [] (fun ps xr σ=>some (ps,xr,σ))=some (ps,cJ,af))(hp:OB ps)(k:VX P cfg l K E cJ af):VX P cfg (c::l) K E xr σ:=by
 constructor
 obtain⟨Da,Jr,eR,b,h,h2,hc,h3⟩:=Du h
 cases h
 obtain⟨s1,s2⟩:=h3 hp.all
 refine hc _ _ (fun hg=> ?_) (fun hg=> ?_)
 ·obtain⟨v,ho,hd⟩:=s1 hg
  exact Pt ho (by rw[← hd];exact k.h)
 ·obtain⟨e,hd⟩:=s2 hg
  rw[← hd,← e];exact k.h
theorem P8{α:Type}[Inhabited α]{f:α→List AV}{ls:List α}{n:Int}(h:0≤n∧n<ls.length):(ls.map f).getD n.toNat []=f (ls.getD n.toNat default):=by
 grind
theorem jh(hc:uI xr g og)(h1:og.getD true=true→ak P cfg (some d) (den xr) σ (fun x af=>fF P cfg l K E ((d,x)::den xr) af) E op)(h2:og.getD true=false→fF P cfg l K E ((d,.v undef)::den xr) σ):VX P cfg (⟨some d,op,g⟩::l) K E xr σ:=by
 constructor
 exact hc _ _ h1 h2
theorem S3{f:FuncId}{r:AV}(h:aL xr g args=some (og,as,ps))(hp:og.getD true=true→Pure P f as r)(aw:OB ps)(k:VX P cfg l K E (bM og d r xr) σ):VX P cfg (⟨some d,.call f args,g⟩::l) K E xr σ:=by
 obtain⟨hc,he⟩:=cE h
 refine jh hc (fun hg=> ?_) (fun hg=> ?_)
 ·simp only[ak,he aw hg]
  refine uX (hp hg) ?_
  rw[← fu hg];exact k.h
 ·rw[← ft hg (v:=r)];exact k.h
theorem S5{f:FuncId}{r fv:AV}{fo:Operand}{a c:Array Value}(h:aL xr g (fo::args)=some (og,fv::as,ps))(hf:yb fv=some (f,a,c))(dJ:jI P f=true)(hp:og.getD true=true→Pure P f (a.toList.map .v++as++c.toList.map .v) r)(aw:OB ps)(k:VX P cfg l K E (bM og d r xr) σ):
  VX P cfg (⟨some d,.gz fo args,g⟩::l) K E xr σ:=by
 obtain⟨hc,he⟩:=cE h
 refine jh hc (fun hg=> ?_) (fun hg=> ?_)
 ·have:=he aw hg
  simp only[bD,ZS]at this
  simp only[ak,this.1,this.2,Fi hf]
  refine⟨dJ,uX (hp hg) ?_⟩
  rw[← fu hg];exact k.h
 ·rw[← ft hg (v:=r)];exact k.h
theorem A3{f:FuncId}{R:jg→Store→Prop}(h:aL xr none args=some (og,as,ps))(hp:Spec P f as σ R)(aw:OB ps)(k:∀ x af,R (.ret x) af→VX P cfg l K E ((d,.s x)::xr) af)(e:∀ ch af,R (.lP ch) af→E ch af):
  VX P cfg (⟨some d,.call f args,none⟩::l) K E xr σ:=by
 obtain⟨hc,he⟩:=cE h
 obtain⟨bJ,h',_,_⟩:=gE h
 have cY:og=none:=by grind
 subst cY
 refine jh hc (fun hg=> ?_) (fun hg=>nomatch hg)
 simp only[ak,he aw hg]
 exact⟨R,hp,fun x af hr=>(k x af hr).h,e⟩
theorem Ti{α:Type}{f:α→List AV}{ls:List α}{e:Nat}{x:Operand}(h:aL xr g [x]=some (og,[v],ps))(hx:kS v=some (e,ls.map f))(aw:OB ps)(k:(og.getD true=true→ls.length≤maxLen)→VX P cfg l K E (bM og d (.v (.int .i64 ls.length)) xr) σ):
  VX P cfg (⟨some d,.len false x,g⟩::l) K E xr σ:=by
 obtain⟨hc,he⟩:=cE h
 refine jh hc (fun hg=> ?_) (fun hg=> ?_)
 ·have:=he aw hg
  simp only[bD,ZS,Zk]at this
  rcases wJ hx with⟨nn,e2⟩|⟨t,b,u,c,e2⟩<;>simp only[ak,this,e2,Z7]<;>(intro hl;rw[← fu hg];exact(k fun _=>hl).h)
 ·rw[← ft hg (v:= .v (.int .i64 ls.length))];exact(k fun Gb=>by grind).h
theorem Tj{rows:List (List AV)}{e:Nat}{x:Operand}(h:aL xr g [x]=some (og,[v],ps))(hx:kS v=some (e,rows))(aw:OB ps)(k:(og.getD true=true→rows.length≤maxLen)→VX P cfg l K E (bM og d (.v (.int .i64 rows.length)) xr) σ):
  VX P cfg (⟨some d,.len false x,g⟩::l) K E xr σ:=by
 obtain⟨hc,he⟩:=cE h
 refine jh hc (fun hg=> ?_) (fun hg=> ?_)
 ·have:=he aw hg
  simp only[bD,ZS,Zk]at this
  rcases wJ hx with⟨nn,e2⟩|⟨t,b,u,c,e2⟩<;>simp only[ak,this,e2]<;>(intro hl;rw[← fu hg];exact(k fun _=>hl).h)
 ·rw[← ft hg (v:= .v (.int .i64 rows.length))];exact(k fun Gb=>by rw[hg]at Gb;cases Gb).h
theorem Tf{α:Type}[Inhabited α]{f:α→List AV}{ls:List α}{e:Nat}{x i:Operand}{iv:AV}{n:Int}(h:aL xr g [x,i]=some (og,[v,iv],ps))(hi:gT iv=some n)(hx:kS v=some (e,ls.map f))(aw:OB ps)
  (k:VX P cfg l K E (bM og d (.pc (f (ls.getD n.toNat default))) xr) σ) (hb:og.getD true=true→0≤n∧n<ls.length):
  VX P cfg (⟨some d,.eY e x i,g⟩::l) K E xr σ:=by
 obtain⟨hc,he⟩:=cE h
 refine jh hc (fun hg=> ?_) (fun hg=> ?_)
 ·have:=he aw hg
  simp only[bD,ZS,Zk]at this
  obtain⟨q,hq⟩:=qb hi
  have hb:=hb hg
  have Gc:=P8 (f:=f) hb
  rcases wJ hx with⟨nn,e2⟩|⟨t,b,u,c,e2⟩<;>simp only[ak,this.1,this.2,e2,hq,Z7,Gc]<;>(rw[← fu hg];exact⟨trivial,hb.1,hb.2,k.h⟩)
 ·rw[← ft hg (v:= .pc (f (ls.getD n.toNat default)))];exact k.h
theorem SY{t:TypeId}{z:Value}{cs:List AV}(h:jL (z.cells.toList.map .v) some=some cs)(k:∀ b,VX P cfg l K E ((d,.s (.lp d b 0))::xr) ((d,b,.cells cs)::σ)):VX P cfg (⟨some d,.alloc t z,none⟩::l) K E xr σ:=by
 constructor
 have h:=jn h
 cases h
 exact fun b=>(k b).h
theorem S2{t:TypeId}{x:Operand}{cs:List AV}(h:aL xr none [x]=some (og,[v],ps))(hc:qX v=some cs)(aw:OB ps)(k:∀ b,VX P cfg l K E ((d,.s (.lp d b 0))::xr) ((d,b,.cells cs)::σ)):VX P cfg (⟨some d,.box t x,none⟩::l) K E xr σ:=by
 obtain⟨_,he⟩:=cE h
 obtain⟨bJ,h',_,_⟩:=gE h
 have cY:og=none:=by grind
 subst cY
 have:=he aw rfl
 simp only[bD,ZS,Zk]at this
 constructor
 simp only[fF,dP,ak,this,Bh hc];exact fun b=>(k b).h
theorem Tm{t:TypeId}{ag:Nat}(hc:cfg d=1)(he:0<ag)(k:∀ b,VX P cfg l K E ((d,.s (.own ag d b 0 0 []))::xr) ((d,b,.tail 0 0)::σ)):VX P cfg (⟨some d,.br t ag [],none⟩::l) K E xr σ:=by
 constructor
 simp only[fF,dP,ak,bD,rowsOf,Zu,hc,Z5,Nat.zero_mul]
 exact⟨Z1 _,he,fun b=>(k b).h⟩
theorem S1{t:TypeId}{ag bytes:Nat}{z:List Value}{x y:Operand}{w:AV}{rows:List (List AV)}(h:aL xr none [x,y]=some (og,[.v (.slice none 0 0),w],ps))(hw:ew ag w=some rows)(aw:OB ps)(hn:rows≠[])(hb:rows.length * bytes≤35184372088832)
  (k:∀ b u c,VX P cfg l K E ((d,.s (.own ag d b u c rows))::xr) ((d,b,.tail u c)::σ)):VX P cfg (⟨some d,.append t ag bytes z x y,none⟩::l) K E xr σ:=by
 obtain⟨_,he⟩:=cE h
 obtain⟨bJ,h',_,_⟩:=gE h
 have cY:og=none:=by grind
 subst cY
 have:=he aw rfl
 simp only[bD,ZS,Zk]at this
 constructor
 simp only[fF,dP,ak,this.1,this.2,hw]
 exact⟨hb,fun e=>absurd e hn,fun _ b u c _=>(k b u c).h⟩
theorem S0{t:TypeId}{ag bytes tg b u c:Nat}{z:List Value}{x y:Operand}{w:AV}{rows rows':List (List AV)}(h:aL xr none [x,y]=some (og,[.own ag tg b u c rows,w],ps))(hw:ew ag w=some rows')(hl:bo σ tg=some (b,.tail u c))(aw:OB ps)
  (hb:(rows.length+rows'.length) * bytes≤35184372088832) (h1:rows'.all (fun r=>r.all AV.one)=true)
  (k:∀ b' u' c',VX P cfg l K E ((d,.s (.own ag tg b' u' c' (rows++rows')))::xr) (eB σ tg b' (.tail u' c'))):VX P cfg (⟨some d,.append t ag bytes z x y,none⟩::l) K E xr σ:=by
 obtain⟨_,he⟩:=cE h
 obtain⟨bJ,h',_,_⟩:=gE h
 have cY:og=none:=by grind
 subst cY
 have:=he aw rfl
 simp only[bD,ZS,Zk]at this
 constructor
 simp only[fF,dP,ak,this.1,this.2,hw]
 exact⟨trivial,hl,hb,h1,fun b' u' c' _=>(k b' u' c').h⟩
theorem J6{t:TypeId}{ag bytes:Nat}{z:List Value}{x y:Operand}{w:AV}{rows rows':List (List AV)}(h:aL xr none [x,y]=some (og,[.fl ag rows,w],ps))(hw:ew ag w=some rows')(aw:OB ps)
  (hb:(rows.length+rows'.length) * bytes≤35184372088832) (k0:rows'=[]→VX P cfg l K E ((d,.s (.fl ag rows))::xr) σ)
  (k:rows'≠[]→∀ b u c,VX P cfg l K E ((d,.s (.own ag d b u c (rows++rows')))::xr) ((d,b,.tail u c)::σ)):VX P cfg (⟨some d,.append t ag bytes z x y,none⟩::l) K E xr σ:=by
 obtain⟨_,he⟩:=cE h
 obtain⟨bJ,h',_,_⟩:=gE h
 have cY:og=none:=by grind
 subst cY
 have:=he aw rfl
 simp only[bD,ZS,Zk]at this
 constructor
 simp only[fF,dP,ak,this.1,this.2,hw]
 exact⟨trivial,hb,fun e=>(k0 e).h,fun e b u c=>(k e b u c).h⟩
theorem TT(h:K (den xr) σ):VY P cfg al [] (Cl K) xr σ:=⟨Cl.intro h⟩
theorem TU(_h0:wS cfg cd.c.op=false)(h:runM cfg al (cd::ld) xr σ []=some (ps,cJ,af,z6))(hp:OB ps)(k:VY P cfg al z6 K cJ af):VY P cfg al (cd::ld) K xr σ:=
 ⟨(Qf h).2 hp.all k.h⟩
theorem TL(h:uk cfg (mE al cd.cf) cd.c xr σ [] (fun ps xr σ=>some (ps,xr,σ))=some (ps,cJ,af))(hp:OB ps)(k:VY P cfg al ld K cJ af):VY P cfg al (cd::ld) K xr σ:=by
 constructor
 obtain⟨Da,Jr,eR,b,h,h2,hc,h3⟩:=Du h
 cases h
 obtain⟨s1,s2⟩:=h3 hp.all
 refine hc _ _ (fun hg=> ?_) (fun hg=> ?_)
 ·obtain⟨v,ho,hd⟩:=s1 hg
  exact Pu ho (by rw[← hd];exact k.h)
 ·obtain⟨e,hd⟩:=s2 hg
  rw[← hd,← e];exact k.h
theorem od(hc:uI xr g og)(h1:og.getD true=true→di P cfg al cf (some d) (den xr) σ (fun x af=>ef P cfg al ld K ((d,x)::den xr) af) op)(h2:og.getD true=false→ef P cfg al ld K ((d,.v undef)::den xr) σ):VY P cfg al (⟨ix,⟨some d,op,g⟩,cf⟩::ld) K xr σ:=by
 constructor
 exact hc _ _ h1 h2
theorem TF{f:FuncId}{r:AV}(h:aL xr g args=some (og,as,ps))(hp:og.getD true=true→Pure P f as r)(aw:OB ps)(k:VY P cfg al ld K (bM og d r xr) σ):VY P cfg al (⟨ix,⟨some d,.call f args,g⟩,cf⟩::ld) K xr σ:=by
 obtain⟨hc,he⟩:=cE h
 refine od hc (fun hg=> ?_) (fun hg=> ?_)
 ·simp only[di,aB.cls,aK,he aw hg]
  refine⟨r,hp hg,?_⟩
  have:=k.h;rw[fu hg]at this;grind
 ·rw[← ft hg (v:=r)];exact k.h
theorem TG{f:FuncId}{r fv:AV}{fo:Operand}{a c:Array Value}(h:aL xr g (fo::args)=some (og,fv::as,ps))(hf:yb fv=some (f,a,c))(dJ:jI P f=true)(hp:og.getD true=true→Pure P f (a.toList.map .v++as++c.toList.map .v) r)(aw:OB ps)(k:VY P cfg al ld K (bM og d r xr) σ):
  VY P cfg al (⟨ix,⟨some d,.gz fo args,g⟩,cf⟩::ld) K xr σ:=by
 obtain⟨hc,he⟩:=cE h
 refine od hc (fun hg=> ?_) (fun hg=> ?_)
 ·have:=he aw hg
  simp only[bD,ZS]at this
  simp only[di,aB.cls,aK,this.1,this.2,Fi hf]
  refine⟨dJ,r,hp hg,?_⟩
  have:=k.h;rw[fu hg]at this;grind
 ·rw[← ft hg (v:=r)];exact k.h
theorem TP{α:Type}{f:α→List AV}{ls:List α}{e:Nat}{x:Operand}(h:aL xr g [x]=some (og,[v],ps))(hx:kS v=some (e,ls.map f))(aw:OB ps)(k:VY P cfg al ld K (bM og d (.v (.int .i64 ls.length)) xr) σ):
  VY P cfg al (⟨ix,⟨some d,.len false x,g⟩,cf⟩::ld) K xr σ:=by
 obtain⟨hc,he⟩:=cE h
 refine od hc (fun hg=> ?_) (fun hg=> ?_)
 ·have:=he aw hg
  simp only[bD,ZS,Zk]at this
  rcases wJ hx with⟨nn,e2⟩|⟨t,b,u,c,e2⟩<;>simp only[di,aB.cls,aK,this,e2,Z7]<;>(rw[← fu hg];exact k.h)
 ·rw[← ft hg (v:= .v (.int .i64 ls.length))];exact k.h
theorem TQ{rows:List (List AV)}{e:Nat}{x:Operand}(h:aL xr g [x]=some (og,[v],ps))(hx:kS v=some (e,rows))(aw:OB ps)(k:VY P cfg al ld K (bM og d (.v (.int .i64 rows.length)) xr) σ):
  VY P cfg al (⟨ix,⟨some d,.len false x,g⟩,cf⟩::ld) K xr σ:=by
 obtain⟨hc,he⟩:=cE h
 refine od hc (fun hg=> ?_) (fun hg=> ?_)
 ·have:=he aw hg
  simp only[bD,ZS,Zk]at this
  rcases wJ hx with⟨nn,e2⟩|⟨t,b,u,c,e2⟩<;>simp only[di,aB.cls,aK,this,e2]<;>(rw[← fu hg];exact k.h)
 ·rw[← ft hg (v:= .v (.int .i64 rows.length))];exact k.h
theorem TN{α:Type}[Inhabited α]{f:α→List AV}{ls:List α}{e:Nat}{x i:Operand}{iv:AV}{n:Int}(h:aL xr g [x,i]=some (og,[v,iv],ps))(hi:gT iv=some n)(hx:kS v=some (e,ls.map f))(aw:OB ps)
  (k:VY P cfg al ld K (bM og d (.pc (f (ls.getD n.toNat default))) xr) σ) (hb:og.getD true=true→0≤n∧n<ls.length):
  VY P cfg al (⟨ix,⟨some d,.eY e x i,g⟩,cf⟩::ld) K xr σ:=by
 obtain⟨hc,he⟩:=cE h
 refine od hc (fun hg=> ?_) (fun hg=> ?_)
 ·have:=he aw hg
  simp only[bD,ZS,Zk]at this
  obtain⟨q,hq⟩:=qb hi
  have hb:=hb hg
  have Gc:=P8 (f:=f) hb
  rcases wJ hx with⟨nn,e2⟩|⟨t,b,u,c,e2⟩<;>simp only[di,aB.cls,aK,ak,this.1,this.2,e2,hq,Z7,Gc]<;>(rw[← fu hg];exact⟨trivial,hb.1,hb.2,k.h⟩)
 ·rw[← ft hg (v:= .pc (f (ls.getD n.toNat default)))];exact k.h
theorem Tz{t:TypeId}{z:Value}{cs:List AV}(h:jL (z.cells.toList.map .v) some=some cs)(k:∀ b,VY P cfg al ld K ((d,.s (.lp d b 0))::xr) ((d,b,.cells cs)::σ)):VY P cfg al (⟨ix,⟨some d,.alloc t z,none⟩,cf⟩::ld) K xr σ:=by
 constructor
 have h:=jn h
 cases h
 exact fun b=>(k b).h
theorem TD{t:TypeId}{ag bytes:Nat}{z:List Value}{x y:Operand}{w:AV}{rows:List (List AV)}(h:aL xr none [x,y]=some (og,[.v (.slice none 0 0),w],ps))(hw:ew ag w=some rows)(hl:al.elem d=true)(aw:OB ps)(hn:rows≠[])(hb:rows.length * bytes≤35184372088832)
  (k:∀ b u c,VY P cfg al ld K ((d,.s (.own ag d b u c rows))::xr) ((d,b,.tail u c)::σ)):VY P cfg al (⟨ix,⟨some d,.append t ag bytes z x y,none⟩,cf⟩::ld) K xr σ:=by
 obtain⟨_,he⟩:=cE h
 obtain⟨bJ,h',_,_⟩:=gE h
 have cY:og=none:=by grind
 subst cY
 have:=he aw rfl
 simp only[bD,ZS,Zk]at this
 constructor
 simp only[ef,dm,di,aB.cls,ak,this.1,this.2,hw,isApp,Zu,hl]
 exact⟨rfl,hb,fun e=>absurd e hn,fun _ b u c _=>(k b u c).h⟩
theorem TC{t:TypeId}{ag bytes tg b u c:Nat}{z:List Value}{x y:Operand}{w:AV}{rows rows':List (List AV)}(h:aL xr none [x,y]=some (og,[.own ag tg b u c rows,w],ps))(hw:ew ag w=some rows')(hl:bo σ tg=some (b,.tail u c))(ha:al.elem d=true)(aw:OB ps)
  (hb:(rows.length+rows'.length) * bytes≤35184372088832) (h1:rows'.all (fun r=>r.all AV.one)=true)
  (k:∀ b' u' c',VY P cfg al ld K ((d,.s (.own ag tg b' u' c' (rows++rows')))::xr) (eB σ tg b' (.tail u' c'))):VY P cfg al (⟨ix,⟨some d,.append t ag bytes z x y,none⟩,cf⟩::ld) K xr σ:=by
 obtain⟨_,he⟩:=cE h
 obtain⟨bJ,h',_,_⟩:=gE h
 have cY:og=none:=by grind
 subst cY
 have:=he aw rfl
 simp only[bD,ZS,Zk]at this
 constructor
 simp only[ef,dm,di,aB.cls,ak,this.1,this.2,hw,isApp,Zu,ha]
 exact⟨rfl,trivial,hl,hb,h1,fun b' u' c' _=>(k b' u' c').h⟩
theorem J9{t:TypeId}{ag bytes:Nat}{z:List Value}{x y:Operand}{w:AV}{rows rows':List (List AV)}(h:aL xr none [x,y]=some (og,[.fl ag rows,w],ps))(hw:ew ag w=some rows')(ha:al.elem d=true)(aw:OB ps)
  (hb:(rows.length+rows'.length) * bytes≤35184372088832) (k0:rows'=[]→VY P cfg al ld K ((d,.s (.fl ag rows))::xr) σ)
  (k:rows'≠[]→∀ b u c,VY P cfg al ld K ((d,.s (.own ag d b u c (rows++rows')))::xr) ((d,b,.tail u c)::σ)):VY P cfg al (⟨ix,⟨some d,.append t ag bytes z x y,none⟩,cf⟩::ld) K xr σ:=by
 obtain⟨_,he⟩:=cE h
 obtain⟨bJ,h',_,_⟩:=gE h
 have cY:og=none:=by grind
 subst cY
 have:=he aw rfl
 simp only[bD,ZS,Zk]at this
 constructor
 simp only[ef,dm,di,aB.cls,ak,this.1,this.2,hw,isApp,Zu,ha]
 exact⟨rfl,trivial,hb,fun e=>(k0 e).h,fun e b u c=>(k e b u c).h⟩
theorem TE{t:TypeId}{x:Operand}{cs:List AV}(h:aL xr none [x]=some (og,[v],ps))(hc:qX v=some cs)(aw:OB ps)(k:∀ b,VY P cfg al ld K ((d,.s (.lp d b 0))::xr) ((d,b,.cells cs)::σ)):VY P cfg al (⟨ix,⟨some d,.box t x,none⟩,cf⟩::ld) K xr σ:=by
 obtain⟨_,he⟩:=cE h
 obtain⟨bJ,h',_,_⟩:=gE h
 have cY:og=none:=by grind
 subst cY
 have:=he aw rfl
 simp only[bD,ZS,Zk]at this
 constructor
 simp only[ef,dm,di,aB.cls,ak,this,Bh hc];exact fun b=>(k b).h
end
def rQ(x:AV):Option (Bool×Nat×List (List AV)):=match x with
 | .sl nn e rows=>some (nn,e,rows)
 |_=>none
theorem IE{x:AV}{nn:Bool}{e:Nat}{rows:List (List AV)}(h:rQ x=some (nn,e,rows)):x= .sl nn e rows:=by
 unfold rQ at h
 split at h
 ·cases h;rfl
 ·cases h
section
variable {P:Program}[Glob P]{cfg:Nat→Nat}{K:ah→Store→Prop}{E:List PanicEntry→Store→Prop}{σ:Store}{l:List CI}{d:Nat}{v:AV}{xr:XR}{ps:List Prop}{g:Option (Nat×Bool)}{og:Option Bool}
theorem Tt{α:Type}{f:α→List AV}{ls:List α}{e:Nat}{nn:Bool}{x y:Operand}{hv:AV}{h:Int}(ha:aL xr g [x,y]=some (og,[v,hv],ps))(hi:gT hv=some h)(hx:rQ v=some (nn,e,ls.map f))(aw:OB ps)
  (hb:og.getD true=true→0≤h∧h≤ls.length) (k:VX P cfg l K E (bM og d (.sl nn e ((ls.take h.toNat).map f)) xr) σ):VX P cfg (⟨some d,.slice e x none (some y),g⟩::l) K E xr σ:=by
 obtain⟨hc,he⟩:=cE ha
 refine jh hc (fun hg=> ?_) (fun hg=> ?_)
 ·have:=he aw hg
  simp only[bD,ZS,Zk]at this
  obtain⟨q,hq⟩:=qb hi
  simp only[ak,Option.map_none,Zc,this.1,this.2,nD,hq,IE hx,XT,Zu,Z7]
  have:=k.h
  rw[fu hg]at this
  simp_all
 ·rw[← ft hg (v:= .sl nn e ((ls.take h.toNat).map f))];exact k.h
theorem Tv{α:Type}{f:α→List AV}{ls:List α}{e:Nat}{nn:Bool}{x y:Operand}{hv:AV}{h:Int}(ha:aL xr g [x,y]=some (og,[v,hv],ps))(hi:gT hv=some h)(hx:rQ v=some (nn,e,ls.map f))(aw:OB ps)
  (hb:og.getD true=true→0≤h∧h≤ls.length) (k:VX P cfg l K E (bM og d (.sl nn e ((ls.drop h.toNat).map f)) xr) σ):VX P cfg (⟨some d,.slice e x (some y) none,g⟩::l) K E xr σ:=by
 obtain⟨hc,he⟩:=cE ha
 refine jh hc (fun hg=> ?_) (fun hg=> ?_)
 ·have:=he aw hg
  simp only[bD,ZS,Zk]at this
  obtain⟨q,hq⟩:=qb hi
  simp only[ak,Option.map_none,Zc,this.1,this.2,nD,hq,IE hx,XT,Zu,Z7]
  have:=k.h
  rw[fu hg]at this
  rw[YJ,ZU (by simp),← List.map_drop]
  grind
 ·rw[← ft hg (v:= .sl nn e ((ls.drop h.toNat).map f))];exact k.h
theorem Ts{α:Type}{f:α→List AV}{ls:List α}{e:Nat}{nn:Bool}{x y z:Operand}{lv hv:AV}{lo h:Int}(ha:aL xr g [x,y,z]=some (og,[v,lv,hv],ps))(hl:gT lv=some lo)(hi:gT hv=some h)(hx:rQ v=some (nn,e,ls.map f))(aw:OB ps)
  (hb:og.getD true=true→0≤lo∧lo≤h∧h≤ls.length) (k:VX P cfg l K E (bM og d (.sl nn e (((ls.take h.toNat).drop lo.toNat).map f)) xr) σ):VX P cfg (⟨some d,.slice e x (some y) (some z),g⟩::l) K E xr σ:=by
 obtain⟨hc,he⟩:=cE ha
 refine jh hc (fun hg=> ?_) (fun hg=> ?_)
 ·have:=he aw hg
  simp only[bD,ZS,Zk]at this
  obtain⟨q,hq⟩:=qb hi
  obtain⟨q2,iq⟩:=qb hl
  simp only[ak,Zc,this.1,this.2.1,this.2.2,nD,hq,iq,IE hx,Zu,Z7]
  have:=k.h
  rw[fu hg]at this
  simp_all
 ·rw[← ft hg (v:= .sl nn e (((ls.take h.toNat).drop lo.toNat).map f))];exact k.h
end
inductive iK:ah→ah→Prop
 |nil:iK [] []
 |cons {i:Nat} {x y:AV} {r r':ah} (h:Wk x y) (t:iK r r'):iK ((i,x)::r) ((i,y)::r')
theorem iK.lk{r r':ah}(h:iK r r')(j:Nat):Wk (Sx.lk r j) (Sx.lk r' j):=by
 induction h with
 |nil=>exact Wk.refl _
 |cons h _ ih=>
  simp only[Sx.lk]
  grind
theorem iK.refl:∀ r:ah,iK r r
 |[]=> .nil
 |(_,_)::r=> .cons (Wk.refl _) (iK.refl r)
theorem Wk.tag{ez t t' b u c:Nat}{rows:List (List AV)}:Wk (.own ez t b u c rows) (.own ez t' b u c rows):=fun _ _ h=>by
 obtain⟨off,cap,cs,rfl,hr,h4,h5,h6,h8⟩:=h.nJ
 exact R.qg hr h4 h5 h6 h8
theorem Wk.C9{ez t b u c:Nat}{rows rows':List (List AV)}{nn:Bool}(h:rows=rows'):Wk (.own ez t b u c rows) (.sl nn ez rows'):=h ▸ Wk.own nn
theorem SW.wk{P:Program}[Glob P]{N:Nat}{s:SC}{Q:Exit→ah→Store→Prop}{rg ay:ah}{σ af:Store}(h:SW P N s Q ay af)(hr:iK rg ay)(hs:Sub af σ):SW P N s Q rg σ:=
 fun c hc M w0 a w hI hR hN hD=>h c hc M w0 a w (hI.sub hs) (fun i=>hr.lk i _ _ (hR i)) hN hD
def su(I:Nat→ah→Store→Prop)(n:Nat)(ks:List Nat)(rg:ah)(σ:Store):Prop:=∃ jy,lB ks rg=some jy∧∃ n',n'<n∧∃ ay af,iK jy ay∧Sub af σ∧I n' ay af
theorem su.intro{I:Nat→ah→Store→Prop}{n:Nat}{ks:List Nat}{rg jy:ah}{σ:Store}(hk:lB ks rg=some jy)(h:∃ n',n'<n∧∃ ay af,iK jy ay∧Sub af σ∧I n' ay af):su I n ks rg σ:=⟨jy,hk,h⟩
theorem T2{P:Program}[Glob P]{N:Nat}{cfg:Nat→Nat}{Q:Exit→ah→Store→Prop}{rg fD:ah}{σ:Store}{ks:List Nat}{b:AC}(I:Nat→ah→Store→Prop)(n:Nat)(hk:lB ks rg=some fD)(h0:∃ ay af,iK fD ay∧Sub af σ∧I n ay af)
  (h:∀ n rg σ,I n rg σ→WA P N cfg b (qw (su I n ks) Q) rg σ):WA P N cfg (.loop (.bY ks b)) Q rg σ:=by
 refine T0 (fun n rg σ=>∃ jy,lB ks rg=some jy∧∃ ay af,iK jy ay∧Sub af σ∧I n ay af) n ⟨fD,hk,h0⟩ fun n rg σ ⟨jy,hf,ay,af,hw,hs,hi⟩=>Kd hf ⟨rfl,SW.wk ((h n ay af hi).mono fun e dA bE he=> ?_).h hw hs⟩
 cases e with
 |normal=>obtain⟨mG,h1,n',h2,h3⟩:=he;exact⟨n',h2,mG,h1,h3⟩
 |_=>exact he
section
variable {α:Type}
def Io(rg:ah)(σ:Store)(r:RC)(ps:List Prop)(k:List Prop→AV→Option α):Option α:=match r with
 | .tmp t=>fo (lk rg t) fun x=>k ps x
 | .cell t g n=>match lk rg t with
  | .lp tg b o=>match bo σ tg with
   |some (b',.cells l)=>match g with
    |true=>bif Nat.ble (o+n) l.length then jL ((l.drop o).take n) (fun l2=>k ((b=b')::ps) (.agg l2))else none
    |false=>match l[o]? with
     |some y=>fo y fun x=>k ((b=b')::ps) x
     |none=>none
   |_=>none
  |_=>none
def Ip(rg:ah)(σ:Store):List RC→List Prop→(List Prop→List AV→Option α)→Option α
 |[],ps,k=>k ps []
 |r::l,ps,k=>Io rg σ r ps fun ps x=>Ip rg σ l ps fun ps xs=>k ps (x::xs)
theorem ahL{rg:ah}{σ:Store}{rc:RC}{ps:List Prop}{k:List Prop→AV→Option α}{r:α}(h:Io rg σ rc ps k=some r):
  ∃ bJ x,k bJ x=some r∧(∀ p∈ps,p∈bJ)∧((∀ p∈bJ,p)→uf rg σ rc=some x):=by
 unfold Io at h
 split at h
 ·exact⟨_,_,ij h,fun _ h=>h,fun _=>rfl⟩
 ·split at h
  ·rename_i e1
   split at h
   ·rename_i e2
    split at h
    ·obtain⟨h1,h⟩:=rG h
     refine⟨_,_,jn h,fun p hp=>ZL _ hp,fun ha=> ?_⟩
     have hb:=ha _ (Zv ..)
     simp only[uf,e1,e2,hb,YV,ZW h1]
    ·split at h
     ·rename_i e3
      refine⟨_,_,ij h,fun p hp=>ZL _ hp,fun ha=> ?_⟩
      have hb:=ha _ (Zv ..)
      simp only[uf,e1,e2,hb,YV,ZG,Za,e3]
     grind
   grind
  grind
theorem P4{rg:ah}{σ:Store}:∀ {l:List RC} {ps:List Prop} {k:List Prop→List AV→Option α} {r:α},Ip rg σ l ps k=some r→
  ∃ bJ xs,k bJ xs=some r∧(∀ p∈ps,p∈bJ)∧((∀ p∈bJ,p)→rN rg σ l=some xs)
 |[],ps,k,r,h=>⟨ps,[],h,fun _ h=>h,fun _=>rfl⟩
 |rc::l,ps,k,r,h=>by
  obtain⟨Da,x,h,h1,h2⟩:=ahL h
  obtain⟨ps2,xs,h,h3,h4⟩:=P4 h
  refine⟨ps2,_,h,fun p hp=>h3 p (h1 p hp),fun ha=> ?_⟩
  simp only[rN,h2 fun p hp=>ha p (h3 p hp),h4 ha,Zc]
end
def Q9(ps:List Prop)(xs:List AV):Option (List Prop×AV):=match xs with
 |[x]=>some (ps,x)
 |xs=>some (ps,.aE xs)
def ql(rg:ah)(σ:Store)(l:List RC):Option (List Prop×AV):=Ip rg σ l [] Q9
theorem De{rg:ah}{σ:Store}{l:List RC}{ps:List Prop}{x:AV}(h:ql rg σ l=some (ps,x))(hp:OB ps):wI rg σ l=some x:=by
 obtain⟨bJ,xs,h,_,h2⟩:=P4 h
 unfold Q9 at h
 unfold wI
 split at h
 ·cases h;rw[h2 hp.all]
 ·cases h
  rw[h2 hp.all]
  split
  ·grind
  ·grind
  grind
theorem ahN{rg:ah}{σ:Store}{v:AV}{ps:List Prop}{res:List RC}{R:jg→Store→Prop}(e:ql rg σ res=some (ps,v))(hp:OB ps)(h:R (.ret v) σ):nN res R .normal rg σ:=⟨v,De e hp,h⟩
theorem ahO{rg:ah}{σ:Store}{v:AV}{ps:List Prop}{res:List RC}{R:jg→Store→Prop}(e:ql rg σ res=some (ps,v))(hp:OB ps)(h:R (.ret v) σ):nN res R .ret rg σ:=⟨v,De e hp,h⟩
theorem ahu{rg:ah}{σ fa:Store}{v r:AV}{ps:List Prop}{res:List RC}(e:ql rg σ res=some (ps,v))(hp:OB ps)(h:Fin fa r v σ):mF res r fa .normal rg σ:=⟨v,De e hp,h.1,h.2⟩
theorem ahv{rg:ah}{σ fa:Store}{v r:AV}{ps:List Prop}{res:List RC}(e:ql rg σ res=some (ps,v))(hp:OB ps)(h:Fin fa r v σ):mF res r fa .ret rg σ:=⟨v,De e hp,h.1,h.2⟩
theorem bd{p:Prop}[Decidable p]{b:Bool}(h:b=true↔p):AV.v (.bool b)=AV.v (.bool (decide p)):=by
 have:b=decide p:=by rw[Yy,h];simp
 rw[this]
theorem aM{n:Int}(h: -9223372036854775808≤n∧n≤9223372036854775807):IntKind.i64.wrap n=n:=Go.IntWalk.i64_in n h
theorem aO{i n:Nat}(h:i<n)(hn:n≤maxLen):IntKind.i64.wrap ((i:Int)+1)=((i+1:Nat):Int):=by
 rw[aM]
 ·rfl
 ·unfold maxLen at hn;omega
theorem getD_eq{α:Type}[Inhabited α]{l:List α}{i:Nat}(h:i<l.length):l.getD i default=l[i]:=by simp[ZY,h]
theorem bu{α:Type}[Inhabited α]{l:List α}{i:Nat}(h:i<l.length):l.getD i default∈l:=by rw[getD_eq h];exact Zf h
theorem sV{α:Type}[Inhabited α]{l:List α}{i:Nat}(h:i<l.length):l.drop i=l.getD i default::l.drop (i+1):=by
 simp_all
theorem wF{i:Nat}(h:0<i)(hn:i≤maxLen):IntKind.i64.wrap ((i:Int)-1)=((i-1:Nat):Int):=by
 rw[aM (by unfold maxLen at hn;omega)];omega
inductive Fr where
 |seq (b:AC)
 |pA (id:Nat)
 |fn (K:ah→Store→Prop)
def post(P:Program)[Glob P](N:Nat)(cfg:Nat→Nat)(Q:Exit→ah→Store→Prop):List Fr→Exit→ah→Store→Prop
 |[]=>Q
 | .seq b::k=>qw (fun rg σ=>WA P N cfg b (post P N cfg Q k) rg σ) (post P N cfg Q k)
 | .pA id::k=>pB id (post P N cfg Q k)
 | .fn K::k=>qw K (post P N cfg Q k)
structure WK(P:Program)[Glob P](N:Nat)(cfg:Nat→Nat)(Q:Exit→ah→Store→Prop)(a:AC)(k:List Fr)(rg:ah)(σ:Store):Prop where
 h:WA P N cfg a (post P N cfg Q k) rg σ
structure FK(P:Program)[Glob P](N:Nat)(cfg:Nat→Nat)(Q:Exit→ah→Store→Prop)(e:Exit)(k:List Fr)(rg:ah)(σ:Store):Prop where
 h:post P N cfg Q k e rg σ
def xc:List Fr→Nat→Option (List Fr)
 |[],_=>none
 | .pA id::k,i=>match Nat.beq i id with
  |true=>some k
  |false=>xc k i
 | .seq _::k,i=>xc k i
 | .fn _::k,i=>xc k i
section
variable {P:Program}[Glob P]{N:Nat}{cfg:Nat→Nat}{Q:Exit→ah→Store→Prop}{rg ay:ah}{σ af:Store}{l:List CI}{a b:AC}{k k':List Fr}{xr:XR}{al:List Nat}{ld:List CD}{ks:List Nat}{id:Nat}
theorem Uj(h:WK P N cfg Q a (.seq b::k) rg σ):WK P N cfg Q (.seq a b) k rg σ:=⟨T6 h.h⟩
theorem T8(h:WK P N cfg Q a (.pA id::k) rg σ):WK P N cfg Q (.block id a) k rg σ:=⟨TW h.h⟩
theorem Uf(hk:lB ks rg=some ay)(h:WK P N cfg Q a k ay σ):WK P N cfg Q (.bY ks a) k rg σ:=⟨Kd hk h.h⟩
theorem Uk(h:FK P N cfg Q .normal k rg σ):WK P N cfg Q .skip k rg σ:=⟨T7 h.h⟩
theorem Ui(h:Q .ret rg σ):WK P N cfg Q .ret k rg σ:=by
 refine⟨T5 ?_⟩
 induction k with
 |nil=>exact h
 |cons f k ih=>cases f<;>exact ih
theorem Ue(hu:xc k id=some k')(h:FK P N cfg Q .normal k' rg σ):WK P N cfg Q (.exit id) k rg σ:=by
 refine⟨TZ ?_⟩
 induction k with
 |nil=>cases hu
 |cons f k ih=>
  cases f with
  |seq b=>exact ih hu
  |fn K=>exact ih hu
  |pA i=>
   simp only[xc]at hu
   split at hu
   ·rename_i e;cases hu;exact WL e h.h
   ·rename_i e;exact WJ e (ih hu)
theorem T9{x:Operand}{c:Bool}(hx:xR rg x=some c)(h1:c=true→WK P N cfg Q a k rg σ)(h2:c=false→WK P N cfg Q b k rg σ):WK P N cfg Q (.cond x a b) k rg σ:=
 ⟨TX hx (fun e=>(h1 e).h) (fun e=>(h2 e).h)⟩
theorem Uh(hx:toXO rg=some xr)(h:VX P cfg l (FK P N cfg Q .normal k) (fun ch af=>FK P N cfg Q (.panic ch) k [] af) xr σ):WK P N cfg Q (.eZ l) k rg σ:=
 ⟨(T4 (Q:=fun e=>FK P N cfg Q e k) hx h).mono fun _ _ _ h=>h.h⟩
theorem Ug(hx:toXO rg=some xr)(h:VY P cfg al ld (Cl (FK P N cfg Q .normal k)) xr σ):WK P N cfg Q (.dx al ld) k rg σ:=
 ⟨(T3 (Q:=fun e=>FK P N cfg Q e k) hx h).mono fun _ _ _ h=>h.h⟩
theorem Ub(hx:toXO rg=some xr)(h:VY P cfg [] (bare l) (Cl (FK P N cfg Q .normal k)) xr σ):WK P N cfg Q (.cG l) k rg σ:=
 ⟨(TY (Q:=fun e=>FK P N cfg Q e k) hx h).mono fun _ _ _ h=>h.h⟩
theorem aH{fD:ah}(I:Nat→ah→Store→Prop)(n:Nat)(hk:lB ks rg=some fD)(h0:∃ ay af,iK fD ay∧Sub af σ∧I n ay af)
  (h:∀ n rg σ,I n rg σ→WK P N cfg Q b (.fn (su I n ks)::k) rg σ):WK P N cfg Q (.loop (.bY ks b)) k rg σ:=
 ⟨T2 I n hk h0 fun n rg σ hi=>(h n rg σ hi).h⟩
theorem Sm(h:WK P N cfg Q b k rg σ):FK P N cfg Q .normal (.seq b::k) rg σ:=⟨h.h⟩
theorem Sj(h:FK P N cfg Q .normal k rg σ):FK P N cfg Q .normal (.pA id::k) rg σ:=⟨h.h⟩
theorem Sk{K:ah→Store→Prop}(h:K rg σ):FK P N cfg Q .normal (.fn K::k) rg σ:=⟨h⟩
theorem Sl(h:Q .normal rg σ):FK P N cfg Q .normal [] rg σ:=⟨h⟩
theorem Pure.nO{P:Program}[Glob P][ku P]{f:FuncId}{fn:Func}{fc:FC}{as:List AV}{r:AV}{a:AC}(cfg:Nat→Nat)(hf:P.funcs[f]? =some fn)(hc:iN P fn=some fc)(ha:fc.code=a.erase)(hlen:as.length≤fc.N)
  (h:∀ σ,WK P fc.N cfg (mF fc.res r σ) a [] (kv 0 as) σ):Pure P f as r:=Pure.run cfg hf hc ha hlen fun σ=>(h σ).h
theorem Spec.nO{P:Program}[Glob P][ku P]{f:FuncId}{fn:Func}{fc:FC}{as:List AV}{σ:Store}{Q:jg→Store→Prop}{a:AC}(cfg:Nat→Nat)(hf:P.funcs[f]? =some fn)(hc:iN P fn=some fc)(ha:fc.code=a.erase)(hlen:as.length≤fc.N)
  (h:WK P fc.N cfg (nN fc.res Q) a [] (kv 0 as) σ):Spec P f as σ Q:=Spec.run cfg hf hc ha hlen h.h
theorem Af{p:Prop}(h:p:=by constructor<;>first|kernel_rfl|(intro;kernel_rfl)|(constructor<;>first|kernel_rfl|(intro;kernel_rfl)|(constructor<;>first|kernel_rfl|(intro;kernel_rfl)))):p:=h
structure au(P:Program)[Glob P](f:FuncId)(N:Nat)(a:AC)(res:List RC):Prop where
 ex:∃ fn,P.funcs[f]? =some fn∧iN P fn=some ⟨N,a.erase,res⟩
theorem au.i{P:Program}[Glob P]{f:FuncId}{fn:Func}{N:Nat}{a:AC}{res:List RC}(hf:P.funcs[f]? =some fn)(hc:iN P fn=some ⟨N,a.erase,res⟩:=by kernel_rfl):au P f N a res:=⟨fn,hf,hc⟩
section
variable {P:Program}[Glob P][ku P]{f:FuncId}{N:Nat}{res:List RC}{as:List AV}{r:AV}{σ:Store}{Q:jg→Store→Prop}{a:AC}
theorem au.pc(k:au P f N a res)(cfg:Nat→Nat)(h:∀ σ,WK P N cfg (mF res r σ) a [] (kv 0 as) σ)(hl:Nat.ble as.length N=true:=by exact rfl):Pure P f as r:=by
 obtain⟨fn,h1,h2⟩:=k.ex
 exact Pure.nO (fc:=⟨N,a.erase,res⟩) (a:=a) cfg h1 h2 rfl (ZW hl) h
theorem au.p(k:au P f N a res)(h:∀ σ,WK P N (fun _=>0) (mF res r σ) a [] (kv 0 as) σ)(hl:Nat.ble as.length N=true:=by exact rfl):Pure P f as r:=k.pc _ h hl
theorem au.sc(k:au P f N a res)(cfg:Nat→Nat)(h:WK P N cfg (nN res Q) a [] (kv 0 as) σ)(hl:Nat.ble as.length N=true:=by exact rfl):Spec P f as σ Q:=by
 obtain⟨fn,h1,h2⟩:=k.ex
 exact Spec.nO (fc:=⟨N,a.erase,res⟩) (a:=a) cfg h1 h2 rfl (ZW hl) h
theorem au.s(k:au P f N a res)(h:WK P N (fun _=>0) (nN res Q) a [] (kv 0 as) σ)(hl:Nat.ble as.length N=true:=by exact rfl):Spec P f as σ Q:=k.sc _ h hl
end
end
section
variable {P:Program}[Glob P]{N:Nat}{cfg:Nat→Nat}{K:ah→Store→Prop}{E:List PanicEntry→Store→Prop}{σ:Store}{l:List CI}{d n:Nat}{v y:AV}{xr:XR}{ps:List Prop}{g:Option (Nat×Bool)}{og:Option Bool}{al cf:List Nat}{ix:Nat}{ld:List CD}
 {t b b' o:Nat} {cs cs' ys l':List AV} {x z:Operand}
theorem Ep(h:aL xr g [x]=some (og,[.lp t b o],ps))(hl:bo σ t=some (b',.cells cs))(hb:b=b')(hy:cs[o]? =some y)(aw:OB ps)(k:VX P cfg l K E (bM og d y xr) σ):
  VX P cfg (⟨some d,.load false n x,g⟩::l) K E xr σ:=by
 obtain⟨hc,he⟩:=cE h
 refine jh hc (fun hg=> ?_) (fun hg=> ?_)
 ·have:=he aw hg
  simp only[bD,ZS,Zk]at this
  simp only[ak,this,hl,hy,hb,ZG,Za]
  have:=k.h
  rw[fu hg]at this
  exact⟨trivial,this⟩
 ·rw[← ft hg (v:=y)];exact k.h
theorem A4(h:aL xr none [x,z]=some (og,[.lp t b o,v],ps))(hc:qX v=some l')(hl:bo σ t=some (b',.cells cs))(hb:b=b')(hn:(Nat.beq l'.length n && l'.all AV.one)=true)(hu:over cs o l'=cs'∧o+n≤cs.length)(aw:OB ps)
  (k:VX P cfg l K E xr (eB σ t b (.cells cs'))):VX P cfg (⟨none,.store n x z,none⟩::l) K E xr σ:=by
 obtain⟨_,he⟩:=cE h
 obtain⟨bJ,h',_,_⟩:=gE h
 have cY:og=none:=by grind
 subst cY
 have:=he aw rfl
 simp only[bD,ZS,Zk]at this
 simp only[ZP]at hn
 constructor
 simp only[fF,dP,ak,this.1,this.2,Bh hc,hl]
 exact⟨hb,Zm hn.1,hn.2,hu.2,by rw[hu.1];exact k.h⟩
theorem HW{op:aB}(yw:cf.all (Dx xr)=true)(h1:∀ t∈tmpsOf op.opers,lk (raw xr) t=lk (den xr) t):
  qc al cf (raw xr) op=qc al cf (den xr) op∧rS al cf (raw xr) op=rS al cf (den xr) op:=by
 have hc:∀ t∈cf,lk (raw xr) t=lk (den xr) t:=fun t ht=>by
  have:=Zx.1 yw t ht
  unfold Dx at this
  rw[wh,nF]
  split at this
  ·rename_i e;rw[e];rfl
  grind
 exact⟨Ov h1 hc,QG h1 hc⟩
theorem EC{args:List Operand}{as:List AV}(h:aL xr g args=some (og,as,ps))(hp:OB ps)(hg:og.getD true=true):∀ t∈tmpsOf args,lk (raw xr) t=lk (den xr) t:=by
 obtain⟨b,h,_,_⟩:=Fp h
 obtain⟨bJ,h,_,h3⟩:=gE h
 split at h
 ·cases h;exact h3 hp.all hg
 grind
theorem Ka(h:aL xr g [x]=some (og,[.lp t b o],ps))(hl:bo σ t=some (b',.cells cs))(hb:b=b')(hy:cs[o]? =some y)(cy:mE al cf xr (.load false n x)=true)(aw:OB ps)(k:VY P cfg al ld K (bM og d y xr) σ):
  VY P cfg al (⟨ix,⟨some d,.load false n x,g⟩,cf⟩::ld) K xr σ:=by
 obtain⟨hc,he⟩:=cE h
 unfold mE at cy
 rw[ZP]at cy
 refine od hc (fun hg=> ?_) (fun hg=> ?_)
 ·have:=he aw hg
  simp only[bD,ZS,Zk]at this
  simp only[di,aB.cls]
  refine⟨by rw[← (HW cy.1 (op:= .load false n x) (EC h aw hg)).1];exact cy.2,?_⟩
  simp only[ak,this,hl,hy,hb,ZG,Za]
  have:=k.h
  rw[fu hg]at this
  exact⟨trivial,this⟩
 ·rw[← ft hg (v:=y)];exact k.h
theorem Kb(h:aL xr none [x,z]=some (og,[.lp t b o,v],ps))(hc:qX v=some l')(hl:bo σ t=some (b',.cells cs))(hb:b=b')(hn:(Nat.beq l'.length n && l'.all AV.one)=true)(hu:over cs o l'=cs'∧o+n≤cs.length)
  (cy:mE al cf xr (.store n x z)=true) (aw:OB ps) (k:VY P cfg al ld K xr (eB σ t b (.cells cs'))):VY P cfg al (⟨ix,⟨none,.store n x z,none⟩,cf⟩::ld) K xr σ:=by
 have h0:=h
 obtain⟨_,he⟩:=cE h
 unfold aL gX at h
 obtain⟨bJ,h',_,_⟩:=gE h
 have cY:og=none:=by split at h'<;>cases h';rfl
 subst cY
 have:=he aw rfl
 simp only[bD,ZS,Zk]at this
 simp only[ZP]at hn
 unfold mE at cy
 rw[ZP]at cy
 constructor
 simp only[ef,dm,di,aB.cls]
 refine⟨by rw[← (HW cy.1 (op:= .store n x z) (EC h0 aw rfl)).2];exact cy.2,?_⟩
 simp only[ak,this.1,this.2,Bh hc,hl]
 exact⟨hb,Zm hn.1,hn.2,hu.2,by rw[hu.1];exact k.h⟩
theorem Te{gv:Nat}(h:aL xr g [x]=some (og,[.v (.pointer (some ⟨gv,0,none⟩))],ps))(hl:Glob.av P gv=some cs)(hy:cs[0]? =some y)(aw:OB ps)(k:VX P cfg l K E (bM og d y xr) σ):
  VX P cfg (⟨some d,.load false n x,g⟩::l) K E xr σ:=by
 obtain⟨hc,he⟩:=cE h
 refine jh hc (fun hg=> ?_) (fun hg=> ?_)
 ·have:=he aw hg
  simp only[bD,ZS,Zk]at this
  simp only[ak,this,hl,hy,ZG,Za]
  have:=k.h
  rw[fu hg]at this
  grind
 ·rw[← ft hg (v:=y)];exact k.h
theorem TM{gv:Nat}(h:aL xr g [x]=some (og,[.v (.pointer (some ⟨gv,0,none⟩))],ps))(hl:Glob.av P gv=some cs)(hy:cs[0]? =some y)(cy:mE al cf xr (.load false n x)=true)(aw:OB ps)(k:VY P cfg al ld K (bM og d y xr) σ):
  VY P cfg al (⟨ix,⟨some d,.load false n x,g⟩,cf⟩::ld) K xr σ:=by
 obtain⟨hc,he⟩:=cE h
 unfold mE at cy
 rw[ZP]at cy
 refine od hc (fun hg=> ?_) (fun hg=> ?_)
 ·have:=he aw hg
  simp only[bD,ZS,Zk]at this
  refine⟨by rw[← (HW cy.1 (op:= .load false n x) (EC h aw hg)).1];exact cy.2,?_⟩
  simp only[ak,this,hl,hy,ZG,Za]
  have:=k.h
  rw[fu hg]at this
  grind
 ·rw[← ft hg (v:=y)];exact k.h
end
end Go.Sx
