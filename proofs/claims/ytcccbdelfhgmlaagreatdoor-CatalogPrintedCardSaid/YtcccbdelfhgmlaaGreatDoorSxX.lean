/-
  The layer Sx, eighteenth part: whole runs of operations, computed; an operation under a guard yields a value under a condition (no case is split).
-/
import Derived.Test.YtcccbdelfhgmlaaGreatDoorSxMix3
import Derived.IntWalk
import Derived.KernelRfl
set_option linter.unusedVariables false
set_option linter.unusedSimpArgs false
set_option linter.unusedSectionVars false
namespace Go.Sx
open Go.RowKit
inductive XV where
 |s (x:AV)
 |o (c:Bool) (x:AV)
abbrev XR:=List (Nat×XV)
def XV.den:XV→AV
 | .s x=>x
 | .o c x=>bif c then x else .v undef
def XV.val:XV→AV
 | .s x=>x
 | .o _ x=>x
def qa:XR→Nat→XV
 |[],_=> .s .any
 |(i,x)::r,j=>bif Nat.beq i j then x else qa r j
def den:XR→ag
 |[]=>[]
 |(i,x)::r=>(i,x.den)::den r
def raw:XR→ag
 |[]=>[]
 |(i,x)::r=>(i,x.val)::raw r
def toX:ag→XR
 |[]=>[]
 |(i,x)::r=>(i,.s x)::toX r
theorem oG(t:Nat):∀ xr:XR,lk (den xr) t=(qa xr t).den
 |[]=>rfl
 |(i,x)::r=>by simp only[den,lk,qa];cases Nat.beq i t<;>simp only[cond_true,cond_false,oG t r]
theorem yB(t:Nat):∀ xr:XR,lk (raw xr) t=(qa xr t).val
 |[]=>rfl
 |(i,x)::r=>by simp only[raw,lk,qa];cases Nat.beq i t<;>simp only[cond_true,cond_false,yB t r]
theorem uS:∀ rg:ag,den (toX rg)=rg
 |[]=>rfl
 |(i,x)::r=>by simp only[toX,den,XV.den,uS r]
inductive OB:List Prop→Prop
 |nil:OB []
 |cons {p:Prop} {ps:List Prop} (h:p) (t:OB ps):OB (p::ps)
theorem OB.all{ps:List Prop}(h:OB ps):∀ p∈ps,p:=by
 induction h with
 |nil=>grind
 |cons h _ ih=>
  grind
theorem OB.rfl{α:Type}{a:α}{ps:List Prop}(t:OB ps):OB ((a=a)::ps):= .cons _root_.rfl t
theorem OB.aes{α:Type}{a:α}{c:Bool}{ps:List Prop}(t:OB ps):OB ((c=true→a=a)::ps):= .cons (fun _=>_root_.rfl) t
theorem OB.gtr{c:Bool}{ps:List Prop}(t:OB ps):OB ((c=true→True)::ps):= .cons (fun _=>trivial) t
theorem OB.self{a:Prop}{ps:List Prop}(t:OB ps):OB ((a→a)::ps):= .cons (fun h=>h) t
theorem OB.tr{ps:List Prop}(t:OB ps):OB (True::ps):= .cons trivial t
theorem OB.and{a b:Bool}{ps:List Prop}(t:OB ps):OB (((a && b)=true→a=true)::ps):= .cons (fun h=>by simp at h;exact h.1) t
def gX{α:Type}(xr:XR)(g:Option (Nat×Bool))(k:Option Bool→Option α):Option α:=
 match g with
 |none=>k none
 |some (t,true)=>match qa xr t with
  | .s (.v (.bool b))=>k (some b)
  | .o c (.v (.bool b))=>k (some (c && b))
  |_=>none
 |some (t,false)=>match qa xr t with
  | .s (.v (.bool b))=>k (some !b)
  | .o c (.v (.bool b))=>k (some (c && !b))
  |_=>none
def vQ{α:Type}(g:Option Bool)(xr:XR):List Nat→List Prop→(List Prop→Option α)→Option α
 |[],ps,k=>k ps
 |t::ts,ps,k=>match qa xr t with
  | .s _=>vQ g xr ts ps k
  | .o c _=>match g with
   |none=>vQ g xr ts ((c=true)::ps) k
   |some b=>vQ g xr ts ((b=true→c=true)::ps) k
def xz(xr:XR):Operand→XV
 | .tmp t=>qa xr t
 | .const v=> .s (.v v)
 | .global g=> .s (.v (.pointer (some ⟨g,0,none⟩)))
 | .func f=> .s (.v (.func (.func f) #[] #[]))
def Kt{α:Type}(g:Option Bool)(xr:XR)(c a b:Operand)(ps:List Prop)(k:List Prop→Bool→Option α):Option α:=
 match xz xr c with
 | .s (.v (.bool t))=>match a,b with
  | .const (.bool true),b=>match xz xr b with
   | .s (.v (.bool y))=>k ps (t || y)
   | .o cb (.v (.bool y))=>match g with
    |none=>k ((!t=true→cb=true)::ps) (t || y)
    |some g=>k (((g && !t)=true→cb=true)::ps) (t || y)
   |_=>none
  |a,.const (.bool false)=>match xz xr a with
   | .s (.v (.bool y))=>k ps (t && y)
   | .o cb (.v (.bool y))=>match g with
    |none=>k ((t=true→cb=true)::ps) (t && y)
    |some g=>k (((g && t)=true→cb=true)::ps) (t && y)
   |_=>none
  |_,_=>none
 | .o cc (.v (.bool t))=>match g with
  |none=>none
  |some g=>match a,b with
   | .const (.bool true),b=>match xz xr b with
    | .s (.v (.bool y))=>k ((g=true→cc=true)::ps) (t || y)
    | .o cb (.v (.bool y))=>k ((g=true→cc=true)::((g && !t)=true→cb=true)::ps) (t || y)
    |_=>none
   |a,.const (.bool false)=>match xz xr a with
    | .s (.v (.bool y))=>k ((g=true→cc=true)::ps) (t && y)
    | .o cb (.v (.bool y))=>k ((g=true→cc=true)::((g && t)=true→cb=true)::ps) (t && y)
    |_=>none
   |_,_=>none
 |_=>none
def FL:aw→Bool
 | .mv .. | .build .. | .kZ .. | .iX .. | .eqs .. | .un .. | .mO .. | .qN .. | .nA .. | .gG .. | .jI .. | .field .. | .extract .. | .len .. | .max2 .. | .min2 .. =>true
 | .bin op _ _=>match op with
  | .quo| .rem| .shl| .shr| .add=>false
  |_=>true
 |_=>false
def push(g:Option Bool)(op:aw)(p:Prop)(ps:List Prop):List Prop:=
 match FL op with
 |true=>ps
 |false=>match g with
  |none=>p::ps
  |some b=>(b=true→p)::ps
def awJ:aw→Bool
 | .call .. | .dY .. | .alloc .. | .box .. | .append .. | .len false _| .gE .. | .idxs .. | .slice .. | .cH .. | .exts .. | .panic .. =>true
 | .bM _ _ []=>true
 |_=>false
def y9(cfg:Nat→Nat)(op:aw):Bool:=match awJ op with
 |true=>true
 |false=>match op with
  | .load _ _ (.tmp s)=>Nat.beq (cfg (1000000+s)) 1
  | .load _ _ (.global _)=>true
  | .store _ (.tmp s) _=>Nat.beq (cfg (1000000+s)) 1
  |_=>false
def E5{α:Type}(g:Option Bool)(d:Option Nat)(v:AV)(xr:XR)(k:XR→Option α):Option α:=
 match d with
 |some d=>match g with
  |none=>k ((d,.s v)::xr)
  |some t=>k ((d,.o t v)::xr)
 |none=>match g with
  |none=>k xr
  |some _=>none
def abN(g:Option Bool)(op:aw):Bool:=match g with
 |none=>true
 |some _=>Nat.ble op.cls 1
def K2{α:Type}(cfg:Nat→Nat)(ok:XR→aw→Bool)(d:Option Nat)(op:aw)(g:Option Bool)(xr:XR)(σ:Store)(ps:List Prop)(k:List Prop→XR→Store→Option α):Option α:=
 vQ g xr (tmpsOf op.opers) ps fun ps=>match ok xr op with
  |true=>match abN g op with
   |true=>match dr cfg d (raw xr) σ op with
    |some (p,v,σ')=>E5 g d v xr fun xr=>k (push g op p ps) xr σ'
    |none=>none
   |false=>none
  |false=>none
def wm{α:Type}(cfg:Nat→Nat)(ok:XR→aw→Bool)(c:CI)(xr:XR)(σ:Store)(ps:List Prop)(k:List Prop→XR→Store→Option α):Option α:=
 gX xr c.g fun g=>match c.op with
  | .pick x a b=>Kt g xr x a b ps fun ps v=>E5 g c.d (.v (.bool v)) xr fun xr=>k ps xr σ
  |op=>K2 cfg ok c.d op g xr σ ps k
def Cm(cfg:Nat→Nat):List CI→XR→Store→List Prop→Option (List Prop×XR×Store×List CI)
 |[],xr,σ,ps=>some (ps,xr,σ,[])
 |c::l,xr,σ,ps=>match y9 cfg c.op with
  |true=>some (ps,xr,σ,c::l)
  |false=>wm cfg (fun _ _=>true) c xr σ ps fun ps xr σ=>Cm cfg l xr σ ps
def FD(xr:XR)(t:Nat):Bool:=match qa xr t with
 | .s _=>true
 | .o _ _=>false
def my(ah cf:List Nat)(xr:XR)(op:aw):Bool:=cf.all (FD xr) && SY ah cf (raw xr) op
def runM(cfg:Nat→Nat)(ah:List Nat):List CD→XR→Store→List Prop→Option (List Prop×XR×Store×List CD)
 |[],xr,σ,ps=>some (ps,xr,σ,[])
 |c::l,xr,σ,ps=>match y9 cfg c.c.op with
  |true=>some (ps,xr,σ,c::l)
  |false=>wm cfg (my ah c.cf) c.c xr σ ps fun ps xr σ=>runM cfg ah l xr σ ps
def fg(P:Program)[Glob P](cfg:Nat→Nat):List CI→(K:ag→Store→Prop)→(E:List PanicEntry→Store→Prop)→ag→Store→Prop
 |[],K,_,rg,σ=>K rg σ
 |c::l,K,E,rg,σ=>dO P cfg c (fun x σ'=>fg P cfg l K E (cm c.d x rg) σ') E rg σ
def GM(rg:ag)(t:Nat)(want:Bool)(A B:Prop):Prop:=match lk rg t with
 | .v (.bool b)=>(b=want→A)∧(b= !want→B)
 | .v (.tuple _)=>B
 |_=>False
def GG(rg:ag)(g:Option (Nat×Bool))(A B:Prop):Prop:=match g with
 |none=>A
 |some (t,want)=>GM rg t want A B
section
variable {P:Program}[Glob P]{M:Mem}{w0:Base}{w:World}{σ σ':Store}{rg:ag}{a:Act}{cfg:Nat→Nat}{N:Nat}{xr cT:XR}{c:CI}{K K':AV→Store→Prop}{E:List PanicEntry→Store→Prop}
theorem Vp:dO P cfg c K E rg σ↔GG rg c.g (aj P cfg c.d rg σ K E c.op) (K (.v undef) σ):=by
 rfl
theorem Vn{ah:List Nat}{c:CD}:du P cfg ah c K rg σ↔GG rg c.c.g (de P cfg ah c.cf c.c.d rg σ K c.c.op) (K (.v undef) σ):=by
 rfl
def wR(xr:XR)(g:Option (Nat×Bool))(b:Option Bool):Prop:=∀ A B:Prop,(b.getD true=true→A)→(b.getD true=false→B)→GG (den xr) g A B
theorem H7{α:Type}{g:Option (Nat×Bool)}{k:Option Bool→Option α}{r:α}(h:gX xr g k=some r):∃ b,k b=some r∧wR xr g b∧(b=none→g=none):=by
 unfold gX at h
 split at h
 ·exact⟨none,h,fun A B h1 _=>h1 rfl,fun _=>rfl⟩
 ·split at h
  ·rename_i b e
   refine⟨_,h,fun A B h1 h2=> ?_,fun e=>nomatch e⟩
   simp only[GG,GM,oG,e,XV.den]
   grind
  ·rename_i cc b e
   refine⟨_,h,fun A B h1 h2=> ?_,fun e=>nomatch e⟩
   simp only[GG,GM,oG,e,XV.den]
   cases cc with
   |true=>grind
   |false=>exact h2 rfl
  grind
 ·split at h
  ·rename_i b e
   refine⟨_,h,fun A B h1 h2=> ?_,fun e=>nomatch e⟩
   simp only[GG,GM,oG,e,XV.den]
   grind
  ·rename_i cc b e
   refine⟨_,h,fun A B h1 h2=> ?_,fun e=>nomatch e⟩
   simp only[GG,GM,oG,e,XV.den]
   cases cc with
   |true=>grind
   |false=>exact h2 rfl
  grind
theorem fS{α:Type}{g:Option Bool}:∀ {ts:List Nat} {ps:List Prop} {k:List Prop→Option α} {r:α},vQ g xr ts ps k=some r→
  ∃ bC,k bC=some r∧(∀ p∈ps,p∈bC)∧((∀ p∈bC,p)→g.getD true=true→∀ t∈ts,lk (raw xr) t=lk (den xr) t)
 |[],ps,k,r,h=>⟨ps,h,fun _ h=>h,fun _ _ _ h=>by cases h⟩
 |t::ts,ps,k,r,h=>by
  simp only[vQ]at h
  split at h
  ·rename_i x e
   obtain⟨bC,h1,h2,h3⟩:=fS h
   refine⟨bC,h1,h2,fun ha hg u hu=> ?_⟩
   rcases ZV.1 hu with rfl|hu
   ·rw[yB,oG,e];rfl
   grind
  ·rename_i cc x e
   split at h
   ·obtain⟨bC,h1,h2,h3⟩:=fS h
    refine⟨bC,h1,fun p hp=>h2 p (ZU _ hp),fun ha hg u hu=> ?_⟩
    rcases ZV.1 hu with rfl|hu
    ·have:=ha _ (h2 _ (ZJ ..))
     rw[yB,oG,e,this];rfl
    grind
   ·obtain⟨bC,h1,h2,h3⟩:=fS h
    refine⟨bC,h1,fun p hp=>h2 p (ZU _ hp),fun ha hg u hu=> ?_⟩
    rcases ZV.1 hu with rfl|hu
    ·have:=ha _ (h2 _ (ZJ ..)) hg
     rw[yB,oG,e,this];rfl
    grind
theorem adE(x:Operand):ev (den xr) x=(xz xr x).den:=by
 cases x with
 |tmp t=>exact oG t xr
 |const v=>rfl
 |global g=>rfl
 |func f=>rfl
theorem ahl{α:Type}{g:Option Bool}{c a b:Operand}{ps:List Prop}{k:List Prop→Bool→Option α}{r:α}(h:Kt g xr c a b ps k=some r):
  ∃ bC v,k bC v=some r∧(∀ p∈ps,p∈bC)∧((∀ p∈bC,p)→g.getD true=true→∃ t,ev (den xr) c= .v (.bool t)∧(if t then ev (den xr) a else ev (den xr) b)= .v (.bool v)):=by
 simp only[adE]
 unfold Kt at h
 split at h
 ·rename_i t ec
  rw[ec]
  split at h
  ·split at h
   ·rename_i y eb
    refine⟨_,_,h,fun _ h=>h,fun _ _=>⟨t,rfl,?_⟩⟩
    rw[eb];cases t<;>rfl
   ·rename_i cb y eb
    split at h
    ·refine⟨_,_,h,fun p hp=>ZU _ hp,fun ha hg=>⟨t,rfl,?_⟩⟩
     rw[eb]
     have:=ha _ (ZJ ..)
     cases t with
     |true=>rfl
     |false=>rw[this rfl];rfl
    ·rename_i g
     refine⟨_,_,h,fun p hp=>ZU _ hp,fun ha hg=>⟨t,rfl,?_⟩⟩
     rw[eb]
     have:=ha _ (ZJ ..)
     have hg:g=true:=hg
     cases t with
     |true=>rfl
     |false=>rw[this (by grind)];rfl
   grind
  ·split at h
   ·rename_i y eb
    refine⟨_,_,h,fun _ h=>h,fun _ _=>⟨t,rfl,?_⟩⟩
    rw[eb];cases t<;>rfl
   ·rename_i cb y eb
    split at h
    ·refine⟨_,_,h,fun p hp=>ZU _ hp,fun ha hg=>⟨t,rfl,?_⟩⟩
     rw[eb]
     have:=ha _ (ZJ ..)
     cases t with
     |false=>rfl
     |true=>rw[this rfl];rfl
    ·rename_i g
     refine⟨_,_,h,fun p hp=>ZU _ hp,fun ha hg=>⟨t,rfl,?_⟩⟩
     rw[eb]
     have:=ha _ (ZJ ..)
     have hg:g=true:=hg
     cases t with
     |false=>rfl
     |true=>rw[this (by rw[hg];rfl)];rfl
   grind
  grind
 ·rename_i cc t ec
  rw[ec]
  split at h
  ·cases h
  ·rename_i g
   split at h
   ·split at h
    ·rename_i y eb
     refine⟨_,_,h,fun p hp=>ZU _ hp,fun ha hg=> ?_⟩
     have:=ha _ (ZJ ..) hg
     subst this
     refine⟨t,rfl,?_⟩
     rw[eb];cases t<;>rfl
    ·rename_i cb y eb
     refine⟨_,_,h,fun p hp=>ZU _ (ZU _ hp),fun ha hg=> ?_⟩
     have hg:g=true:=hg
     have h1:=ha _ (ZJ ..) hg
     have h2:=ha _ (ZU _ (ZJ ..))
     subst h1
     refine⟨t,rfl,?_⟩
     rw[eb]
     cases t with
     |true=>rfl
     |false=>rw[h2 (by rw[hg];rfl)];rfl
    ·cases h
   ·split at h
    ·rename_i y eb
     refine⟨_,_,h,fun p hp=>ZU _ hp,fun ha hg=> ?_⟩
     have:=ha _ (ZJ ..) hg
     subst this
     refine⟨t,rfl,?_⟩
     rw[eb];cases t<;>rfl
    ·rename_i cb y eb
     refine⟨_,_,h,fun p hp=>ZU _ (ZU _ hp),fun ha hg=> ?_⟩
     have hg:g=true:=hg
     have h1:=ha _ (ZJ ..) hg
     have h2:=ha _ (ZU _ (ZJ ..))
     subst h1
     refine⟨t,rfl,?_⟩
     rw[eb]
     cases t with
     |false=>rfl
     |true=>rw[h2 (by rw[hg];rfl)];rfl
    ·cases h
   ·cases h
 grind
theorem axk{d:Option Nat}{op:aw}{p:Prop}{v:AV}(ht:FL op=true)(h:dr cfg d rg σ op=some (p,v,σ')):p:=by
 cases op<;>simp only[FL,ZM]at ht
 case bin op x y=>
  simp only[dr]at h
  split at h
  ·split at h
   ·rename_i p' r e
    cases h
    unfold Di at e
    split at e
    ·grind
    ·grind
    grind
   grind
  grind
 case len s x=>cases s<;>(simp only[dr]at h;grind)<;>cases h<;>trivial
 all_goals simp only[dr,reduceCtorEq]at h
 all_goals(repeat' split at h)
 all_goals first
  |grind
  |grind
  |(have:=iZ h;cases this;trivial)
  |(have:=jJ h;cases this;trivial)
  |(have:=uX h;cases this;trivial)
  |(have h2:=(tG h).2;(repeat' split at h2)<;>first|(cases h2;done)|(cases h2;trivial)|(have:=iZ h2;cases this;trivial)|(have:=jJ h2;cases this;trivial))
theorem Tt{g:Option Bool}{op:aw}{p q:Prop}{ps:List Prop}(h:q∈ps):q∈push g op p ps:=by
 unfold push
 grind
theorem ahw{g:Option Bool}{d:Option Nat}{op:aw}{p:Prop}{v:AV}{ps:List Prop}(h:dr cfg d rg σ op=some (p,v,σ'))(ha:∀ q∈push g op p ps,q)(hg:g.getD true=true):p:=by
 unfold push at ha
 cases ht:FL op with
 |true=>exact axk ht h
 |false=>
  rw[ht]at ha
  cases g with
  |none=>simp_all
  |some b=>exact ha _ (ZJ ..) hg
theorem acV{d:Option Nat}{op:aw}{p:Prop}{v:AV}(hc:Nat.ble op.cls 1=true)(h:dr cfg d rg σ op=some (p,v,σ')):σ'=σ:=by
 have hc:=Z7 hc
 cases e:op.cls with
 |zero=>exact OJ e h
 |succ n=>
  cases op<;>simp only[aw.cls,reduceCtorEq]at e
  case load g n x=>
   simp only[dr]at h
   repeat' split at h
   all_goals first
    |grind
    |(have:=iZ h;grind)
    |(have h2:=(tG h).2;have:=jJ h2;grind)
  all_goals(simp only[aw.cls]at hc;omega)
theorem TA{α:Type}{g:Option Bool}{d:Option Nat}{v:AV}{k:XR→Option α}{r:α}(h:E5 g d v xr k=some r):
  ∃ cT,k cT=some r∧(g.getD true=true→den cT=cm d v (den xr))∧(g.getD true=false→den cT=cm d (.v undef) (den xr)):=by
 unfold E5 at h
 split at h
 ·split at h
  ·exact⟨_,h,fun _=>rfl,fun e=>nomatch e⟩
  ·rename_i t
   exact⟨_,h,fun(e:t=true)=>by subst e;rfl,fun(e:t=false)=>by subst e;rfl⟩
 ·split at h
  ·exact⟨_,h,fun _=>rfl,fun e=>nomatch e⟩
  grind
def Out(cfg:Nat→Nat)(ok:XR→aw→Bool)(d:Option Nat)(op:aw)(xr:XR)(σ:Store)(v:AV)(σ':Store):Prop:=
 (∃ p,dr cfg d (raw xr) σ op=some (p,v,σ')∧p∧ok xr op=true∧∀ t∈tmpsOf op.opers,lk (raw xr) t=lk (den xr) t)∨
 (∃ x y z t,op= .pick x y z∧σ'=σ∧ev (den xr) x= .v (.bool t)∧(if t then ev (den xr) y else ev (den xr) z)=v)
def jB(cfg:Nat→Nat)(ok:XR→aw→Bool)(d:Option Nat)(op:aw)(b:Option Bool)(xr:XR)(σ:Store)(cT:XR)(σ':Store):Prop:=
 (b.getD true=true→∃ v,Out cfg ok d op xr σ v σ'∧den cT=cm d v (den xr))∧(b.getD true=false→σ'=σ∧den cT=cm d (.v undef) (den xr))
theorem awD{α:Type}{ok:XR→aw→Bool}{d:Option Nat}{op:aw}{g:Option Bool}{ps:List Prop}{k:List Prop→XR→Store→Option α}{r:α}(h:K2 cfg ok d op g xr σ ps k=some r):
  ∃ bC cT σ',k bC cT σ'=some r∧(∀ p∈ps,p∈bC)∧((∀ p∈bC,p)→jB cfg ok d op g xr σ cT σ'):=by
 obtain⟨bC,h,h2,h3⟩:=fS h
 split at h
 case h_2=>cases h
 rename_i bK
 split at h
 case h_2=>cases h
 rename_i dw
 split at h
 case h_2=>cases h
 rename_i p v σ' IM
 obtain⟨cT,h,h4,h5⟩:=TA h
 refine⟨_,cT,σ',h,fun p hp=>Tt (h2 p hp),fun ha=>⟨fun hg=>⟨v,.inl ⟨p,IM,ahw IM ha hg,bK,h3 (fun q hq=>ha q (Tt hq)) hg⟩,h4 hg⟩,fun hg=>⟨?_,h5 hg⟩⟩⟩
 cases g with
 |none=>cases hg
 |some t=>exact acV dw IM
theorem FA{α:Type}{ok:XR→aw→Bool}{ps:List Prop}{k:List Prop→XR→Store→Option α}{r:α}(h:wm cfg ok c xr σ ps k=some r):
  ∃ bC cT σ' b,k bC cT σ'=some r∧(∀ p∈ps,p∈bC)∧wR xr c.g b∧((∀ p∈bC,p)→jB cfg ok c.d c.op b xr σ cT σ'):=by
 obtain⟨g,h,IH,_⟩:=H7 h
 obtain⟨d,op,cg⟩:=c
 have hd:K2 cfg ok d op g xr σ ps k=some r→∃ bC cT σ' b,k bC cT σ'=some r∧(∀ p∈ps,p∈bC)∧wR xr cg b∧((∀ p∈bC,p)→jB cfg ok d op b xr σ cT σ'):=fun h=>by
  obtain⟨bC,cT,σ',h1,h2,h3⟩:=awD h
  grind
 cases op with
 |pick x a b=>
  obtain⟨bC,v,h,h2,h3⟩:=ahl h
  obtain⟨cT,h,h4,h5⟩:=TA h
  refine⟨bC,cT,σ,g,h,h2,IH,fun ha=>⟨fun hg=> ?_,fun hg=>⟨rfl,h5 hg⟩⟩⟩
  obtain⟨t,e1,e2⟩:=h3 ha hg
  exact⟨_,.inr ⟨x,a,b,t,rfl,rfl,e1,e2⟩,h4 hg⟩
 |_=>exact hd h
theorem S2{ok:XR→aw→Bool}{d:Option Nat}{op:aw}{v:AV}(h:Out cfg ok d op xr σ v σ')(hk:K v σ'):aj P cfg d (den xr) σ K E op:=by
 rcases h with⟨p,h1,h2,_,h4⟩|⟨x,y,z,t,rfl,rfl,h2,rfl⟩
 ·rw[← rV h4];exact Ds h1 h2 hk
 ·simp only[aj,h2];grind
theorem S3{ah cf:List Nat}{d:Option Nat}{op:aw}{v:AV}(h:Out cfg (my ah cf) d op xr σ v σ')(hk:K v σ'):de P cfg ah cf d (den xr) σ K op:=by
 rcases h with⟨p,h1,h2,h3,h4⟩|⟨x,y,z,t,rfl,rfl,h2,rfl⟩
 ·unfold my at h3
  simp at h3
  have xV:∀ t∈cf,lk (raw xr) t=lk (den xr) t:=fun t ht=>by
   have:=h3.1 t ht
   unfold FD at this
   rw[yB,oG]
   split at this
   ·rename_i e;rw[e];rfl
   grind
  rw[← Vr h4 xV]
  have ho:=h3.2
  unfold de
  cases hc:op.cls with
  |zero=>
   have:=OJ hc h1
   subst this
   exact acU hc h1 h2 hk
  |succ n=>
   cases op<;>simp only[aw.cls,reduceCtorEq,Nat.reduceEqDiff,Nat.zero_ne_add_one]at hc<;>simp only[SY,reduceCtorEq]at ho<;>first|simp|skip
   ·cases hc;exact⟨ho,Ds h1 h2 hk⟩
   ·cases hc;exact⟨ho,Ds h1 h2 hk⟩
 ·simp only[de,aw.cls,aG,aj,h2];grind
structure VX(P:Program)[Glob P](cfg:Nat→Nat)(l:List CI)(K:ag→Store→Prop)(E:List PanicEntry→Store→Prop)(xr:XR)(σ:Store):Prop where
 h:fg P cfg l K E (den xr) σ
structure VY(P:Program)[Glob P](cfg:Nat→Nat)(ah:List Nat)(l:List CD)(K:ag→Store→Prop)(xr:XR)(σ:Store):Prop where
 h:cZ P cfg ah l K (den xr) σ
theorem T4{Kc:ag→Store→Prop}{bC:List Prop}{rest:List CI}:∀ {l:List CI} {xr:XR} {σ:Store} {ps:List Prop},Cm cfg l xr σ ps=some (bC,cT,σ',rest)→
  (∀ p∈ps,p∈bC)∧((∀ p∈bC,p)→fg P cfg rest Kc E (den cT) σ'→fg P cfg l Kc E (den xr) σ)
 |[],xr,σ,ps,h=>by cases h;grind
 |c::l,xr,σ,ps,h=>by
  simp only[Cm]at h
  split at h
  ·grind
  ·obtain⟨E3,LI,bI,b,h,h2,hc,h3⟩:=FA h
   obtain⟨i1,i2⟩:=T4 h
   refine⟨fun p hp=>i1 p (h2 p hp),fun ha hk=> ?_⟩
   have hn:=i2 ha hk
   obtain⟨s1,s2⟩:=h3 fun p hp=>ha p (i1 p hp)
   refine hc _ _ (fun hg=> ?_) (fun hg=> ?_)
   ·obtain⟨v,ho,hd⟩:=s1 hg
    exact S2 ho (by grind)
   grind
theorem T5{ah:List Nat}{Kc:ag→Store→Prop}{bC:List Prop}{rest:List CD}:∀ {l:List CD} {xr:XR} {σ:Store} {ps:List Prop},runM cfg ah l xr σ ps=some (bC,cT,σ',rest)→
  (∀ p∈ps,p∈bC)∧((∀ p∈bC,p)→cZ P cfg ah rest Kc (den cT) σ'→cZ P cfg ah l Kc (den xr) σ)
 |[],xr,σ,ps,h=>by cases h;grind
 |c::l,xr,σ,ps,h=>by
  simp only[runM]at h
  split at h
  ·grind
  ·obtain⟨E3,LI,bI,b,h,h2,hc,h3⟩:=FA h
   obtain⟨i1,i2⟩:=T5 h
   refine⟨fun p hp=>i1 p (h2 p hp),fun ha hk=> ?_⟩
   have hn:=i2 ha hk
   obtain⟨s1,s2⟩:=h3 fun p hp=>ha p (i1 p hp)
   refine hc _ _ (fun hg=> ?_) (fun hg=> ?_)
   ·obtain⟨v,ho,hd⟩:=s1 hg
    exact S3 ho (by grind)
   grind
theorem Vw(ops:Array Oper){Q:Exit→ag→Store→Prop}{K:ag→Store→Prop}(hK:∀ rg σ,K rg σ→Q .normal rg σ):
  ∀ (os:List Oper) (k:Nat) (l:List CI),iA P N ops os=some l→(∀ i,i<os.length→ops[k+i]? =os[i]?)→
  ∀ (M:Mem) (w0:Base) (w:World) (a:Act) (rg:ag) (σ:Store),fg P cfg l K (fun ch σ'=>Q (.panic ch) [] σ') rg σ→Inv P M w0 σ w→bQ M rg a→a.tmps.size=N→a.defers=Glob.df P→
   wpOps P ops (iB P M w0 N Q) (List.range' k os.length) a w
 |[],k,l,hl,_,M,w0,w,a,rg,σ,h,hI,hR,hN,hD=>by
  simp only[iA,Z1]at hl
  subst hl
  exact⟨M,rg,σ,Mem.le.refl _,hI,hR,hN,hD,hK rg σ h⟩
 |o::os,k,l,hl,ho,M,w0,w,a,rg,σ,h,hI,hR,hN,hD=>by
  simp only[iA]at hl
  split at hl
  ·rename_i c hc
   obtain⟨l',gg,rfl⟩:=ZQ.1 hl
   have Jg:ops[k]? =some o:=by simpa using ho 0 (by simp)
   obtain⟨j6,ax⟩:=AD hc
   simp only[Z6,List.range'_succ,wpOps,Jg]
   refine uY hc h hI hR ⟨fun M' x σ' v w' hM aP hx hk=> ?_,fun M' ch σ' w' hM aP hk=> ?_⟩
   ·have ih:=Vw ops hK os (k+1) l' gg (fun i hi=>by have:=ho (i+1) (by grind);grind) M' w0 w' (a.put o.dst v) (cm c.d x rg) σ' hk aP
     (by rw[j6];exact(hR.mono hM).put o.dst (fun t ht=>by grind) hx) (by rw[Act.size_put];grind) (by rw[Act.AG];grind)
    refine wB.rX ?_ _ _ _ ih
    rintro e a2 w2 ⟨M2,cq,az,h1,h2⟩
    exact⟨M2,cq,az,hM.trans h1,h2⟩
   ·exact⟨M',[],σ',hM,aP,fun i=> .any _,hN,hD,hk⟩
  grind
theorem WG{l:List CI}{Q:Exit→ag→Store→Prop}(cfg:Nat→Nat)(h:fg P cfg l (Q .normal) (fun ch σ'=>Q (.panic ch) [] σ') rg σ):SW P N (.cE l) Q rg σ:=by
 intro c hc M w0 a w hI hR hN hD
 obtain⟨id,ops,rfl,hl⟩:=eD hc
 show wpOps _ _ _ _ _ _
 have:=Vw (P:=P) (N:=N) (cfg:=cfg) ops (Q:=Q) (K:=Q .normal) (fun _ _ h=>h) ops.toList 0 l hl (fun i hi=>by simp) M w0 w a rg σ h hI hR hN hD
 rw[X0]
 grind
end
def toXO:ag→Option XR
 |[]=>some []
 |(i,x)::r=>match toXO r with
  |some l=>some ((i,.s x)::l)
  |none=>none
theorem wq:∀ {rg:ag} {xr:XR},toXO rg=some xr→toX rg=xr
 |[],_,h=>by cases h;rfl
 |(i,x)::r,xr,h=>by
  simp only[toXO]at h
  split at h
  ·rename_i e;cases h;rw[toX,wq e]
  ·cases h
def bR(og:Option Bool)(d:Nat)(v:AV)(xr:XR):XR:=(d,match og with
 |none=> .s v
 |some b=> .o b v)::xr
def aB(xr:XR)(g:Option (Nat×Bool))(args:List Operand):Option (Option Bool×List AV×List Prop):=
 gX xr g fun og=>vQ og xr (tmpsOf args) [] fun ps=>match Ho (raw xr) args with
  |some as=>some (og,as,ps)
  |none=>none
section
variable {P:Program}[Glob P]{N:Nat}{cfg:Nat→Nat}{Q:Exit→ag→Store→Prop}{K:ag→Store→Prop}{E:List PanicEntry→Store→Prop}{rg:ag}{σ σ':Store}{l rest:List CI}{d:Nat}{op:aw}{p:Prop}{v:AV}{xr cT:XR}{ps:List Prop}{c:CI}
 {ah cf:List Nat} {ix:Nat} {ld Cj:List CD} {cd:CD} {g:Option (Nat×Bool)} {og:Option Bool} {as:List AV} {args:List Operand}
theorem fC(h:og.getD true=true):den (bR og d v xr)=(d,v)::den xr:=by
 cases og with
 |none=>rfl
 |some b=>have h:b=true:=h;subst h;rfl
theorem fB(h:og.getD true=false):den (bR og d v xr)=(d,.v undef)::den xr:=by
 cases og with
 |none=>cases h
 |some b=>have h:b=false:=h;subst h;rfl
theorem cz(h:aB xr g args=some (og,as,ps)):wR xr g og∧(OB ps→og.getD true=true→bo (den xr) args=as):=by
 unfold aB at h
 obtain⟨b,h,hc,_⟩:=H7 h
 obtain⟨bC,h,_,h3⟩:=fS h
 split at h
 ·rename_i as' e
  cases h
  refine⟨hc,fun hp hg=> ?_⟩
  rw[← j3 args (h3 hp.all hg)]
  exact OZ e
 ·cases h
theorem aat(hx:toXO rg=some xr)(h:VX P cfg l (Q .normal) (fun ch σ'=>Q (.panic ch) [] σ') xr σ):WA P N cfg (.cE l) Q rg σ:=
 ⟨rfl,WG cfg (by have:=h.h;rwa [← wq hx,uS]at this)⟩
theorem aas{ld:List CD}(hx:toXO rg=some xr)(h:VY P cfg ah ld (Cl (Q .normal)) xr σ):WA P N cfg (.dC ah ld) Q rg σ:=
 ⟨rfl,WD cfg (by have:=h.h;rwa [← wq hx,uS]at this)⟩
theorem aao(hx:toXO rg=some xr)(h:VY P cfg [] (bare l) (Cl (Q .normal)) xr σ):WA P N cfg (.dV l) Q rg σ:=
 ⟨rfl,Wz cfg (by have:=h.h;rwa [← wq hx,uS]at this)⟩
theorem Xi(h:K (den xr) σ):VX P cfg [] K E xr σ:=⟨h⟩
theorem Xl(_h0:y9 cfg c.op=false)(h:Cm cfg (c::l) xr σ []=some (ps,cT,σ',rest))(hp:OB ps)(k:VX P cfg rest K E cT σ'):VX P cfg (c::l) K E xr σ:=
 ⟨(T4 h).2 hp.all k.h⟩
theorem W5(h:wm cfg (fun _ _=>true) c xr σ [] (fun ps xr σ=>some (ps,xr,σ))=some (ps,cT,σ'))(hp:OB ps)(k:VX P cfg l K E cT σ'):VX P cfg (c::l) K E xr σ:=by
 constructor
 obtain⟨E3,LI,bI,b,h,h2,hc,h3⟩:=FA h
 cases h
 obtain⟨s1,s2⟩:=h3 hp.all
 simp only[fg]
 rw[Vp]
 refine hc _ _ (fun hg=> ?_) (fun hg=> ?_)
 ·obtain⟨v,ho,hd⟩:=s1 hg
  exact S2 ho (by rw[← hd];exact k.h)
 ·obtain⟨e,hd⟩:=s2 hg
  rw[← hd,← e];exact k.h
theorem T2{α:Type}[Inhabited α]{f:α→List AV}{ls:List α}{n:Int}(h:0≤n∧n<ls.length):(ls.map f).getD n.toNat []=f (ls.getD n.toNat default):=by
 have ax:n.toNat<ls.length:=by omega
 simp[ZY,ax]
theorem iT(hc:wR xr g og)(h1:og.getD true=true→aj P cfg (some d) (den xr) σ (fun x σ'=>fg P cfg l K E ((d,x)::den xr) σ') E op)(h2:og.getD true=false→fg P cfg l K E ((d,.v undef)::den xr) σ):VX P cfg (⟨some d,op,g⟩::l) K E xr σ:=by
 constructor
 simp only[fg]
 rw[Vp]
 exact hc _ _ h1 h2
theorem WY{f:FuncId}{r:AV}(h:aB xr g args=some (og,as,ps))(hp:og.getD true=true→Pure P f as r)(ak:OB ps)(k:VX P cfg l K E (bR og d r xr) σ):VX P cfg (⟨some d,.call f args,g⟩::l) K E xr σ:=by
 obtain⟨hc,he⟩:=cz h
 refine iT hc (fun hg=> ?_) (fun hg=> ?_)
 ·simp only[aj,he ak hg]
  refine xo (hp hg) ?_
  rw[← fC hg];exact k.h
 ·rw[← fB hg (v:=r)];exact k.h
theorem W0{f:FuncId}{r fv:AV}{fo:Operand}{a c:Array Value}(h:aB xr g (fo::args)=some (og,fv::as,ps))(hf:xF fv=some (f,a,c))(b7:iU P f=true)(hp:og.getD true=true→Pure P f (a.toList.map .v++as++c.toList.map .v) r)(ak:OB ps)(k:VX P cfg l K E (bR og d r xr) σ):
  VX P cfg (⟨some d,.dY fo args,g⟩::l) K E xr σ:=by
 obtain⟨hc,he⟩:=cz h
 refine iT hc (fun hg=> ?_) (fun hg=> ?_)
 ·have:=he ak hg
  simp only[bo,ZT]at this
  simp only[aj,this.1,this.2,DH hf]
  refine⟨b7,xo (hp hg) ?_⟩
  rw[← fC hg];exact k.h
 ·rw[← fB hg (v:=r)];exact k.h
theorem uL{f:FuncId}{R:dH→Store→Prop}(h:aB xr none args=some (og,as,ps))(hp:Spec P f as σ R)(ak:OB ps)(k:∀ x σ',R (.ret x) σ'→VX P cfg l K E ((d,.s x)::xr) σ')(e:∀ ch σ',R (.dn ch) σ'→E ch σ'):
  VX P cfg (⟨some d,.call f args,none⟩::l) K E xr σ:=by
 obtain⟨hc,he⟩:=cz h
 unfold aB gX at h
 obtain⟨bC,h',_,_⟩:=fS h
 have cP:og=none:=by split at h'<;>cases h';rfl
 subst cP
 refine iT hc (fun hg=> ?_) (fun hg=>nomatch hg)
 simp only[aj,he ak hg]
 exact⟨R,hp,fun x σ' hr=>(k x σ' hr).h,e⟩
theorem Gt{d:Option Nat}{x:Operand}{t:TypeId}{y:AV}{v:Value}(h:aB xr none [x]=some (og,[.iK t y],ps))(hv:mR [y]=some [v])(ak:OB ps)(e:E [{v:= .iface t v,recovered:=false}] σ):
  VX P cfg (⟨d,.panic x,none⟩::l) K E xr σ:=by
 obtain⟨hc,he⟩:=cz h
 unfold aB gX at h
 obtain⟨bC,h',_,_⟩:=fS h
 have cP:og=none:=by split at h'<;>cases h';rfl
 subst cP
 constructor
 have:=he ak rfl
 simp only[bo,ZT,Zd]at this
 simp only[fg,dO,aj,this,hv]
 exact e
theorem Xb{α:Type}{f:α→List AV}{ls:List α}{e:Nat}{x:Operand}(h:aB xr g [x]=some (og,[v],ps))(hx:nF v=some (e,ls.map f))(ak:OB ps)(k:(og.getD true=true→ls.length≤maxLen)→VX P cfg l K E (bR og d (.v (.int .i64 ls.length)) xr) σ):
  VX P cfg (⟨some d,.len false x,g⟩::l) K E xr σ:=by
 obtain⟨hc,he⟩:=cz h
 refine iT hc (fun hg=> ?_) (fun hg=> ?_)
 ·have:=he ak hg
  simp only[bo,ZT,Zd]at this
  rcases Ck hx with⟨nn,e2⟩|⟨t,b,u,c,e2⟩<;>simp only[aj,this,e2,Z3]<;>(intro hl;rw[← fC hg];exact(k fun _=>hl).h)
 ·rw[← fB hg (v:= .v (.int .i64 ls.length))];exact(k fun Bk=>by rw[hg]at Bk;cases Bk).h
theorem Xc{rows:List (List AV)}{e:Nat}{x:Operand}(h:aB xr g [x]=some (og,[v],ps))(hx:nF v=some (e,rows))(ak:OB ps)(k:(og.getD true=true→rows.length≤maxLen)→VX P cfg l K E (bR og d (.v (.int .i64 rows.length)) xr) σ):
  VX P cfg (⟨some d,.len false x,g⟩::l) K E xr σ:=by
 obtain⟨hc,he⟩:=cz h
 refine iT hc (fun hg=> ?_) (fun hg=> ?_)
 ·have:=he ak hg
  simp only[bo,ZT,Zd]at this
  rcases Ck hx with⟨nn,e2⟩|⟨t,b,u,c,e2⟩<;>simp only[aj,this,e2]<;>(intro hl;rw[← fC hg];exact(k fun _=>hl).h)
 ·rw[← fB hg (v:= .v (.int .i64 rows.length))];exact(k fun Bk=>by rw[hg]at Bk;cases Bk).h
theorem W8{α:Type}[Inhabited α]{f:α→List AV}{ls:List α}{e:Nat}{x i:Operand}{iv:AV}{n:Int}(h:aB xr g [x,i]=some (og,[v,iv],ps))(hi:iL iv=some n)(hx:nF v=some (e,ls.map f))(ak:OB ps)
  (k:VX P cfg l K E (bR og d (.pc (f (ls.getD n.toNat default))) xr) σ) (hb:og.getD true=true→0≤n∧n<ls.length):
  VX P cfg (⟨some d,.gE e x i,g⟩::l) K E xr σ:=by
 obtain⟨hc,he⟩:=cz h
 refine iT hc (fun hg=> ?_) (fun hg=> ?_)
 ·have:=he ak hg
  simp only[bo,ZT,Zd]at this
  obtain⟨q,hq⟩:=rA hi
  have hb:=hb hg
  have I3:=T2 (f:=f) hb
  rcases Ck hx with⟨nn,e2⟩|⟨t,b,u,c,e2⟩<;>simp only[aj,this.1,this.2,e2,hq,Z3,I3]<;>(rw[← fC hg];exact⟨trivial,hb.1,hb.2,k.h⟩)
 ·rw[← fB hg (v:= .pc (f (ls.getD n.toNat default)))];exact k.h
theorem Ak{t:TypeId}{z:Value}{cs:List AV}(h:j4 (z.cells.toList.map .v) some=some cs)(k:∀ b,VX P cfg l K E ((d,.s (.lp d b 0))::xr) ((d,b,.cells cs)::σ)):VX P cfg (⟨some d,.alloc t z,none⟩::l) K E xr σ:=by
 constructor
 have h:=jJ h
 cases h
 simp only[fg,dO,aj];exact fun b=>(k b).h
theorem WX{t:TypeId}{x:Operand}{cs:List AV}(h:aB xr none [x]=some (og,[v],ps))(hc:uQ v=some cs)(ak:OB ps)(k:∀ b,VX P cfg l K E ((d,.s (.lp d b 0))::xr) ((d,b,.cells cs)::σ)):VX P cfg (⟨some d,.box t x,none⟩::l) K E xr σ:=by
 obtain⟨_,he⟩:=cz h
 unfold aB gX at h
 obtain⟨bC,h',_,_⟩:=fS h
 have cP:og=none:=by split at h'<;>cases h';rfl
 subst cP
 have:=he ak rfl
 simp only[bo,ZT,Zd]at this
 constructor
 simp only[fg,dO,aj,this,G1 hc];exact fun b=>(k b).h
theorem Xf{t:TypeId}{af:Nat}(hc:cfg d=1)(he:0<af)(k:∀ b,VX P cfg l K E ((d,.s (.own af d b 0 0 []))::xr) ((d,b,.tail 0 0)::σ)):VX P cfg (⟨some d,.bM t af [],none⟩::l) K E xr σ:=by
 constructor
 simp only[fg,dO,aj,bo,rowsOf,Zx,hc,ZW,Nat.zero_mul]
 exact⟨ZH _,he,fun b=>(k b).h⟩
theorem WU{t:TypeId}{af bytes:Nat}{z:List Value}{x y:Operand}{w:AV}{rows:List (List AV)}(h:aB xr none [x,y]=some (og,[.v (.slice none 0 0),w],ps))(hw:fb af w=some rows)(ak:OB ps)(hn:rows≠[])(hb:rows.length * bytes≤35184372088832)
  (k:∀ b u c,VX P cfg l K E ((d,.s (.own af d b u c rows))::xr) ((d,b,.tail u c)::σ)):VX P cfg (⟨some d,.append t af bytes z x y,none⟩::l) K E xr σ:=by
 obtain⟨_,he⟩:=cz h
 unfold aB gX at h
 obtain⟨bC,h',_,_⟩:=fS h
 have cP:og=none:=by split at h'<;>cases h';rfl
 subst cP
 have:=he ak rfl
 simp only[bo,ZT,Zd]at this
 constructor
 simp only[fg,dO,aj,this.1,this.2,hw]
 exact⟨hb,fun e=>absurd e hn,fun _ b u c _=>(k b u c).h⟩
theorem WT{t:TypeId}{af bytes tg b u c:Nat}{z:List Value}{x y:Operand}{w:AV}{rows rows':List (List AV)}(h:aB xr none [x,y]=some (og,[.own af tg b u c rows,w],ps))(hw:fb af w=some rows')(hl:aR σ tg=some (b,.tail u c))(ak:OB ps)
  (hb:(rows.length+rows'.length) * bytes≤35184372088832) (h1:rows'.all (fun r=>r.all AV.one)=true)
  (k:∀ b' u' c',VX P cfg l K E ((d,.s (.own af tg b' u' c' (rows++rows')))::xr) (cM σ tg b' (.tail u' c'))):VX P cfg (⟨some d,.append t af bytes z x y,none⟩::l) K E xr σ:=by
 obtain⟨_,he⟩:=cz h
 unfold aB gX at h
 obtain⟨bC,h',_,_⟩:=fS h
 have cP:og=none:=by split at h'<;>cases h';rfl
 subst cP
 have:=he ak rfl
 simp only[bo,ZT,Zd]at this
 constructor
 simp only[fg,dO,aj,this.1,this.2,hw]
 exact⟨trivial,hl,hb,h1,fun b' u' c' _=>(k b' u' c').h⟩
theorem WV{t:TypeId}{af bytes:Nat}{z:List Value}{x y:Operand}{w:AV}{rows:List (List AV)}(h:aB xr none [x,y]=some (og,[.v (.slice none 0 0),w],ps))(hw:fb af w=some rows)(ak:OB ps)(hn:rows≠[])(hb:rows.length * bytes≤35184372088832)
  (k:∀ b u c,u=rows.length * af→VX P cfg l K E ((d,.s (.own af d b u c rows))::xr) ((d,b,.tail u c)::σ)):VX P cfg (⟨some d,.append t af bytes z x y,none⟩::l) K E xr σ:=by
 obtain⟨_,he⟩:=cz h
 unfold aB gX at h
 obtain⟨bC,h',_,_⟩:=fS h
 have cP:og=none:=by split at h'<;>cases h';rfl
 subst cP
 have:=he ak rfl
 simp only[bo,ZT,Zd]at this
 constructor
 simp only[fg,dO,aj,this.1,this.2,hw]
 exact⟨hb,fun e=>absurd e hn,fun _ b u c hu=>(k b u c hu).h⟩
theorem WW{t:TypeId}{af bytes tg b u c:Nat}{z:List Value}{x y:Operand}{w:AV}{rows rows':List (List AV)}(h:aB xr none [x,y]=some (og,[.own af tg b u c rows,w],ps))(hw:fb af w=some rows')(hl:aR σ tg=some (b,.tail u c))(ak:OB ps)
  (hb:(rows.length+rows'.length) * bytes≤35184372088832) (h1:rows'.all (fun r=>r.all AV.one)=true)
  (k:∀ b' u' c',(u=rows.length * af→u'=(rows.length+rows'.length) * af)→VX P cfg l K E ((d,.s (.own af tg b' u' c' (rows++rows')))::xr) (cM σ tg b' (.tail u' c'))):VX P cfg (⟨some d,.append t af bytes z x y,none⟩::l) K E xr σ:=by
 obtain⟨_,he⟩:=cz h
 unfold aB gX at h
 obtain⟨bC,h',_,_⟩:=fS h
 have cP:og=none:=by split at h'<;>cases h';rfl
 subst cP
 have:=he ak rfl
 simp only[bo,ZT,Zd]at this
 constructor
 simp only[fg,dO,aj,this.1,this.2,hw]
 exact⟨trivial,hl,hb,h1,fun b' u' c' hu=>(k b' u' c' hu).h⟩
theorem MD{t:TypeId}{af bytes:Nat}{z:List Value}{x y:Operand}{w:AV}{rows rows':List (List AV)}(h:aB xr none [x,y]=some (og,[.fl af rows,w],ps))(hw:fb af w=some rows')(ak:OB ps)
  (hb:(rows.length+rows'.length) * bytes≤35184372088832) (k0:rows'=[]→VX P cfg l K E ((d,.s (.fl af rows))::xr) σ)
  (k:rows'≠[]→∀ b u c,VX P cfg l K E ((d,.s (.own af d b u c (rows++rows')))::xr) ((d,b,.tail u c)::σ)):VX P cfg (⟨some d,.append t af bytes z x y,none⟩::l) K E xr σ:=by
 obtain⟨_,he⟩:=cz h
 unfold aB gX at h
 obtain⟨bC,h',_,_⟩:=fS h
 have cP:og=none:=by split at h'<;>cases h';rfl
 subst cP
 have:=he ak rfl
 simp only[bo,ZT,Zd]at this
 constructor
 simp only[fg,dO,aj,this.1,this.2,hw]
 exact⟨trivial,hb,fun e=>(k0 e).h,fun e b u c=>(k e b u c).h⟩
theorem aaj(h:K (den xr) σ):VY P cfg ah [] (Cl K) xr σ:=⟨Cl.intro h⟩
theorem aak(_h0:y9 cfg cd.c.op=false)(h:runM cfg ah (cd::ld) xr σ []=some (ps,cT,σ',Cj))(hp:OB ps)(k:VY P cfg ah Cj K cT σ'):VY P cfg ah (cd::ld) K xr σ:=
 ⟨(T5 h).2 hp.all k.h⟩
theorem XC(h:wm cfg (my ah cd.cf) cd.c xr σ [] (fun ps xr σ=>some (ps,xr,σ))=some (ps,cT,σ'))(hp:OB ps)(k:VY P cfg ah ld K cT σ'):VY P cfg ah (cd::ld) K xr σ:=by
 constructor
 obtain⟨E3,LI,bI,b,h,h2,hc,h3⟩:=FA h
 cases h
 obtain⟨s1,s2⟩:=h3 hp.all
 simp only[cZ]
 rw[Vn]
 refine hc _ _ (fun hg=> ?_) (fun hg=> ?_)
 ·obtain⟨v,ho,hd⟩:=s1 hg
  exact S3 ho (by rw[← hd];exact k.h)
 ·obtain⟨e,hd⟩:=s2 hg
  rw[← hd,← e];exact k.h
theorem o8(hc:wR xr g og)(h1:og.getD true=true→de P cfg ah cf (some d) (den xr) σ (fun x σ'=>cZ P cfg ah ld K ((d,x)::den xr) σ') op)(h2:og.getD true=false→cZ P cfg ah ld K ((d,.v undef)::den xr) σ):VY P cfg ah (⟨ix,⟨some d,op,g⟩,cf⟩::ld) K xr σ:=by
 constructor
 simp only[cZ]
 rw[Vn]
 exact hc _ _ h1 h2
theorem Xx{f:FuncId}{r:AV}(h:aB xr g args=some (og,as,ps))(hp:og.getD true=true→Pure P f as r)(ak:OB ps)(k:VY P cfg ah ld K (bR og d r xr) σ):VY P cfg ah (⟨ix,⟨some d,.call f args,g⟩,cf⟩::ld) K xr σ:=by
 obtain⟨hc,he⟩:=cz h
 refine o8 hc (fun hg=> ?_) (fun hg=> ?_)
 ·simp only[de,aw.cls,aG,he ak hg]
  refine⟨r,hp hg,?_⟩
  have:=k.h;rw[fC hg]at this;exact this
 ·rw[← fB hg (v:=r)];exact k.h
theorem Xz{f:FuncId}{r fv:AV}{fo:Operand}{a c:Array Value}(h:aB xr g (fo::args)=some (og,fv::as,ps))(hf:xF fv=some (f,a,c))(b7:iU P f=true)(hp:og.getD true=true→Pure P f (a.toList.map .v++as++c.toList.map .v) r)(ak:OB ps)(k:VY P cfg ah ld K (bR og d r xr) σ):
  VY P cfg ah (⟨ix,⟨some d,.dY fo args,g⟩,cf⟩::ld) K xr σ:=by
 obtain⟨hc,he⟩:=cz h
 refine o8 hc (fun hg=> ?_) (fun hg=> ?_)
 ·have:=he ak hg
  simp only[bo,ZT]at this
  simp only[de,aw.cls,aG,this.1,this.2,DH hf]
  refine⟨b7,r,hp hg,?_⟩
  have:=k.h;rw[fC hg]at this;exact this
 ·rw[← fB hg (v:=r)];exact k.h
theorem aaf{α:Type}{f:α→List AV}{ls:List α}{e:Nat}{x:Operand}(h:aB xr g [x]=some (og,[v],ps))(hx:nF v=some (e,ls.map f))(ak:OB ps)(k:VY P cfg ah ld K (bR og d (.v (.int .i64 ls.length)) xr) σ):
  VY P cfg ah (⟨ix,⟨some d,.len false x,g⟩,cf⟩::ld) K xr σ:=by
 obtain⟨hc,he⟩:=cz h
 refine o8 hc (fun hg=> ?_) (fun hg=> ?_)
 ·have:=he ak hg
  simp only[bo,ZT,Zd]at this
  rcases Ck hx with⟨nn,e2⟩|⟨t,b,u,c,e2⟩<;>simp only[de,aw.cls,aG,this,e2,Z3]<;>(rw[← fC hg];exact k.h)
 ·rw[← fB hg (v:= .v (.int .i64 ls.length))];exact k.h
theorem aad{α:Type}[Inhabited α]{f:α→List AV}{ls:List α}{e:Nat}{x i:Operand}{iv:AV}{n:Int}(h:aB xr g [x,i]=some (og,[v,iv],ps))(hi:iL iv=some n)(hx:nF v=some (e,ls.map f))(ak:OB ps)
  (k:VY P cfg ah ld K (bR og d (.pc (f (ls.getD n.toNat default))) xr) σ) (hb:og.getD true=true→0≤n∧n<ls.length):
  VY P cfg ah (⟨ix,⟨some d,.gE e x i,g⟩,cf⟩::ld) K xr σ:=by
 obtain⟨hc,he⟩:=cz h
 refine o8 hc (fun hg=> ?_) (fun hg=> ?_)
 ·have:=he ak hg
  simp only[bo,ZT,Zd]at this
  obtain⟨q,hq⟩:=rA hi
  have hb:=hb hg
  have I3:=T2 (f:=f) hb
  rcases Ck hx with⟨nn,e2⟩|⟨t,b,u,c,e2⟩<;>simp only[de,aw.cls,aG,aj,this.1,this.2,e2,hq,Z3,I3]<;>(rw[← fC hg];exact⟨trivial,hb.1,hb.2,k.h⟩)
 ·rw[← fB hg (v:= .pc (f (ls.getD n.toNat default)))];exact k.h
theorem Xr{t:TypeId}{z:Value}{cs:List AV}(h:j4 (z.cells.toList.map .v) some=some cs)(k:∀ b,VY P cfg ah ld K ((d,.s (.lp d b 0))::xr) ((d,b,.cells cs)::σ)):VY P cfg ah (⟨ix,⟨some d,.alloc t z,none⟩,cf⟩::ld) K xr σ:=by
 constructor
 have h:=jJ h
 cases h
 exact fun b=>(k b).h
theorem Xv{t:TypeId}{af bytes:Nat}{z:List Value}{x y:Operand}{w:AV}{rows:List (List AV)}(h:aB xr none [x,y]=some (og,[.v (.slice none 0 0),w],ps))(hw:fb af w=some rows)(hl:ah.elem d=true)(ak:OB ps)(hn:rows≠[])(hb:rows.length * bytes≤35184372088832)
  (k:∀ b u c,VY P cfg ah ld K ((d,.s (.own af d b u c rows))::xr) ((d,b,.tail u c)::σ)):VY P cfg ah (⟨ix,⟨some d,.append t af bytes z x y,none⟩,cf⟩::ld) K xr σ:=by
 obtain⟨_,he⟩:=cz h
 unfold aB gX at h
 obtain⟨bC,h',_,_⟩:=fS h
 have cP:og=none:=by split at h'<;>cases h';rfl
 subst cP
 have:=he ak rfl
 simp only[bo,ZT,Zd]at this
 constructor
 simp only[cZ,du,de,aw.cls,aj,this.1,this.2,hw,isApp,Zx,hl]
 exact⟨rfl,hb,fun e=>absurd e hn,fun _ b u c _=>(k b u c).h⟩
theorem Xu{t:TypeId}{af bytes tg b u c:Nat}{z:List Value}{x y:Operand}{w:AV}{rows rows':List (List AV)}(h:aB xr none [x,y]=some (og,[.own af tg b u c rows,w],ps))(hw:fb af w=some rows')(hl:aR σ tg=some (b,.tail u c))(ha:ah.elem d=true)(ak:OB ps)
  (hb:(rows.length+rows'.length) * bytes≤35184372088832) (h1:rows'.all (fun r=>r.all AV.one)=true)
  (k:∀ b' u' c',VY P cfg ah ld K ((d,.s (.own af tg b' u' c' (rows++rows')))::xr) (cM σ tg b' (.tail u' c'))):VY P cfg ah (⟨ix,⟨some d,.append t af bytes z x y,none⟩,cf⟩::ld) K xr σ:=by
 obtain⟨_,he⟩:=cz h
 unfold aB gX at h
 obtain⟨bC,h',_,_⟩:=fS h
 have cP:og=none:=by split at h'<;>cases h';rfl
 subst cP
 have:=he ak rfl
 simp only[bo,ZT,Zd]at this
 constructor
 simp only[cZ,du,de,aw.cls,aj,this.1,this.2,hw,isApp,Zx,ha]
 exact⟨rfl,trivial,hl,hb,h1,fun b' u' c' _=>(k b' u' c').h⟩
theorem MH{t:TypeId}{af bytes:Nat}{z:List Value}{x y:Operand}{w:AV}{rows rows':List (List AV)}(h:aB xr none [x,y]=some (og,[.fl af rows,w],ps))(hw:fb af w=some rows')(ha:ah.elem d=true)(ak:OB ps)
  (hb:(rows.length+rows'.length) * bytes≤35184372088832) (k0:rows'=[]→VY P cfg ah ld K ((d,.s (.fl af rows))::xr) σ)
  (k:rows'≠[]→∀ b u c,VY P cfg ah ld K ((d,.s (.own af d b u c (rows++rows')))::xr) ((d,b,.tail u c)::σ)):VY P cfg ah (⟨ix,⟨some d,.append t af bytes z x y,none⟩,cf⟩::ld) K xr σ:=by
 obtain⟨_,he⟩:=cz h
 unfold aB gX at h
 obtain⟨bC,h',_,_⟩:=fS h
 have cP:og=none:=by split at h'<;>cases h';rfl
 subst cP
 have:=he ak rfl
 simp only[bo,ZT,Zd]at this
 constructor
 simp only[cZ,du,de,aw.cls,aj,this.1,this.2,hw,isApp,Zx,ha]
 exact⟨rfl,trivial,hb,fun e=>(k0 e).h,fun e b u c=>(k e b u c).h⟩
theorem Xw{t:TypeId}{x:Operand}{cs:List AV}(h:aB xr none [x]=some (og,[v],ps))(hc:uQ v=some cs)(ak:OB ps)(k:∀ b,VY P cfg ah ld K ((d,.s (.lp d b 0))::xr) ((d,b,.cells cs)::σ)):VY P cfg ah (⟨ix,⟨some d,.box t x,none⟩,cf⟩::ld) K xr σ:=by
 obtain⟨_,he⟩:=cz h
 unfold aB gX at h
 obtain⟨bC,h',_,_⟩:=fS h
 have cP:og=none:=by split at h'<;>cases h';rfl
 subst cP
 have:=he ak rfl
 simp only[bo,ZT,Zd]at this
 constructor
 simp only[cZ,du,de,aw.cls,aj,this,G1 hc];exact fun b=>(k b).h
end
def ud(x:AV):Option (Bool×Nat×List (List AV)):=match x with
 | .sl nn e rows=>some (nn,e,rows)
 |_=>none
theorem KY{x:AV}{nn:Bool}{e:Nat}{rows:List (List AV)}(h:ud x=some (nn,e,rows)):x= .sl nn e rows:=by
 unfold ud at h
 split at h
 ·cases h;rfl
 ·cases h
section
variable {P:Program}[Glob P]{cfg:Nat→Nat}{K:ag→Store→Prop}{E:List PanicEntry→Store→Prop}{σ:Store}{l:List CI}{d:Nat}{v:AV}{xr:XR}{ps:List Prop}{g:Option (Nat×Bool)}{og:Option Bool}
theorem Xn{α:Type}{f:α→List AV}{ls:List α}{e:Nat}{nn:Bool}{x y:Operand}{hv:AV}{h:Int}(ha:aB xr g [x,y]=some (og,[v,hv],ps))(hi:iL hv=some h)(hx:ud v=some (nn,e,ls.map f))(ak:OB ps)
  (hb:og.getD true=true→0≤h∧h≤ls.length) (k:VX P cfg l K E (bR og d (.sl nn e ((ls.take h.toNat).map f)) xr) σ):VX P cfg (⟨some d,.slice e x none (some y),g⟩::l) K E xr σ:=by
 obtain⟨hc,he⟩:=cz ha
 refine iT hc (fun hg=> ?_) (fun hg=> ?_)
 ·have:=he ak hg
  simp only[bo,ZT,Zd]at this
  obtain⟨q,hq⟩:=rA hi
  obtain⟨b1,b2⟩:=hb hg
  simp only[aj,Option.map_none,Zh,this.1,this.2,oD,hq,KY hx,XW,Zx,Z3]
  refine⟨trivial,Int.le_refl _,b1,b2,?_⟩
  have:=k.h
  rw[fC hg]at this
  simpa using this
 ·rw[← fB hg (v:= .sl nn e ((ls.take h.toNat).map f))];exact k.h
theorem Xo{α:Type}{f:α→List AV}{ls:List α}{e:Nat}{nn:Bool}{x y:Operand}{hv:AV}{h:Int}(ha:aB xr g [x,y]=some (og,[v,hv],ps))(hi:iL hv=some h)(hx:ud v=some (nn,e,ls.map f))(ak:OB ps)
  (hb:og.getD true=true→0≤h∧h≤ls.length) (k:VX P cfg l K E (bR og d (.sl nn e ((ls.drop h.toNat).map f)) xr) σ):VX P cfg (⟨some d,.slice e x (some y) none,g⟩::l) K E xr σ:=by
 obtain⟨hc,he⟩:=cz ha
 refine iT hc (fun hg=> ?_) (fun hg=> ?_)
 ·have:=he ak hg
  simp only[bo,ZT,Zd]at this
  obtain⟨q,hq⟩:=rA hi
  obtain⟨b1,b2⟩:=hb hg
  simp only[aj,Option.map_none,Zh,this.1,this.2,oD,hq,KY hx,XW,Zx,Z3]
  refine⟨trivial,b1,b2,Int.le_refl _,?_⟩
  have:=k.h
  rw[fC hg]at this
  rw[YN,ZD (by simp),← List.map_drop]
  exact this
 ·rw[← fB hg (v:= .sl nn e ((ls.drop h.toNat).map f))];exact k.h
theorem Xm{α:Type}{f:α→List AV}{ls:List α}{e:Nat}{nn:Bool}{x y z:Operand}{lv hv:AV}{lo h:Int}(ha:aB xr g [x,y,z]=some (og,[v,lv,hv],ps))(hl:iL lv=some lo)(hi:iL hv=some h)(hx:ud v=some (nn,e,ls.map f))(ak:OB ps)
  (hb:og.getD true=true→0≤lo∧lo≤h∧h≤ls.length) (k:VX P cfg l K E (bR og d (.sl nn e (((ls.take h.toNat).drop lo.toNat).map f)) xr) σ):VX P cfg (⟨some d,.slice e x (some y) (some z),g⟩::l) K E xr σ:=by
 obtain⟨hc,he⟩:=cz ha
 refine iT hc (fun hg=> ?_) (fun hg=> ?_)
 ·have:=he ak hg
  simp only[bo,ZT,Zd]at this
  obtain⟨q,hq⟩:=rA hi
  obtain⟨q2,eG⟩:=rA hl
  obtain⟨b1,b2,b3⟩:=hb hg
  simp only[aj,Zh,this.1,this.2.1,this.2.2,oD,hq,eG,KY hx,Zx,Z3]
  refine⟨trivial,b1,b2,b3,?_⟩
  have:=k.h
  rw[fC hg]at this
  simpa[List.map_drop,XM]using this
 ·rw[← fB hg (v:= .sl nn e (((ls.take h.toNat).drop lo.toNat).map f))];exact k.h
end
inductive fm:ag→ag→Prop
 |nil:fm [] []
 |cons {i:Nat} {x y:AV} {r r':ag} (h:Wk x y) (t:fm r r'):fm ((i,x)::r) ((i,y)::r')
theorem fm.lk{r r':ag}(h:fm r r')(j:Nat):Wk (Sx.lk r j) (Sx.lk r' j):=by
 induction h with
 |nil=>exact Wk.refl _
 |cons h _ ih=>
  simp only[Sx.lk]
  rename_i i _ _ _ _ _
  cases Nat.beq i j with
  |true=>exact h
  |false=>exact ih
theorem fm.refl:∀ r:ag,fm r r
 |[]=> .nil
 |(_,_)::r=> .cons (Wk.refl _) (fm.refl r)
theorem Wk.tag{ez t t' b u c:Nat}{rows:List (List AV)}:Wk (.own ez t b u c rows) (.own ez t' b u c rows):=fun _ _ h=>by
 obtain⟨off,cap,cs,rfl,hr,h4,h5,h6,h8⟩:=h.qe
 exact R.rG hr h4 h5 h6 h8
theorem Wk.S6{ez t b u c:Nat}{rows rows':List (List AV)}{nn:Bool}(h:rows=rows'):Wk (.own ez t b u c rows) (.sl nn ez rows'):=h ▸ Wk.own nn
theorem SW.wk{P:Program}[Glob P]{N:Nat}{s:SC}{Q:Exit→ag→Store→Prop}{rg ao:ag}{σ σ':Store}(h:SW P N s Q ao σ')(hr:fm rg ao)(hs:Sub σ' σ):SW P N s Q rg σ:=
 fun c hc M w0 a w hI hR hN hD=>h c hc M w0 a w (hI.sub hs) (fun i=>hr.lk i _ _ (hR i)) hN hD
def uF(I:Nat→ag→Store→Prop)(n:Nat)(ks:List Nat)(rg:ag)(σ:Store):Prop:=∃ cQ,iE ks rg=some cQ∧∃ n',n'<n∧∃ ao σ',fm cQ ao∧Sub σ' σ∧I n' ao σ'
theorem uF.intro{I:Nat→ag→Store→Prop}{n:Nat}{ks:List Nat}{rg cQ:ag}{σ:Store}(hk:iE ks rg=some cQ)(h:∃ n',n'<n∧∃ ao σ',fm cQ ao∧Sub σ' σ∧I n' ao σ'):uF I n ks rg σ:=⟨cQ,hk,h⟩
theorem aar{P:Program}[Glob P]{N:Nat}{cfg:Nat→Nat}{Q:Exit→ag→Store→Prop}{rg fV:ag}{σ:Store}{ks:List Nat}{b:AC}(I:Nat→ag→Store→Prop)(n:Nat)(hk:iE ks rg=some fV)(h0:∃ ao σ',fm fV ao∧Sub σ' σ∧I n ao σ')
  (h:∀ n rg σ,I n rg σ→WA P N cfg b (nH (uF I n ks) Q) rg σ):WA P N cfg (.loop (.keep ks b)) Q rg σ:=by
 refine aaq (fun n rg σ=>∃ cQ,iE ks rg=some cQ∧∃ ao σ',fm cQ ao∧Sub σ' σ∧I n ao σ') n ⟨fV,hk,h0⟩ fun n rg σ ⟨cQ,hf,ao,σ',hw,hs,hi⟩=>MI hf ⟨rfl,SW.wk ((h n ao σ' hi).mono fun e cq az he=> ?_).h hw hs⟩
 cases e with
 |normal=>obtain⟨eJ,h1,n',h2,h3⟩:=he;exact⟨n',h2,eJ,h1,h3⟩
 |_=>exact he
theorem aaw{P:Program}[Glob P]{N:Nat}{cfg:Nat→Nat}{Q:Exit→ag→Store→Prop}{rg ao:ag}{σ σ':Store}{a:AC}(h:WA P N cfg a Q ao σ')(hr:fm rg ao)(hs:Sub σ' σ):WA P N cfg a Q rg σ:=⟨rfl,SW.wk h.h hr hs⟩
section
variable {α:Type}
def KG(rg:ag)(σ:Store)(r:RC)(ps:List Prop)(k:List Prop→AV→Option α):Option α:=match r with
 | .tmp t=>fo (lk rg t) fun x=>k ps x
 | .cell t g n=>match lk rg t with
  | .lp tg b o=>match aR σ tg with
   |some (b',.cells l)=>match g with
    |true=>bif Nat.ble (o+n) l.length then j4 ((l.drop o).take n) (fun l2=>k ((b=b')::ps) (.agg l2))else none
    |false=>match l[o]? with
     |some y=>fo y fun x=>k ((b=b')::ps) x
     |none=>none
   |_=>none
  |_=>none
def Fb(rg:ag)(σ:Store):List RC→List Prop→(List Prop→List AV→Option α)→Option α
 |[],ps,k=>k ps []
 |r::l,ps,k=>KG rg σ r ps fun ps x=>Fb rg σ l ps fun ps xs=>k ps (x::xs)
theorem ah1{rg:ag}{σ:Store}{rc:RC}{ps:List Prop}{k:List Prop→AV→Option α}{r:α}(h:KG rg σ rc ps k=some r):
  ∃ bC x,k bC x=some r∧(∀ p∈ps,p∈bC)∧((∀ p∈bC,p)→vX rg σ rc=some x):=by
 unfold KG at h
 split at h
 ·exact⟨_,_,iZ h,fun _ h=>h,fun _=>rfl⟩
 ·split at h
  ·rename_i e1
   split at h
   ·rename_i e2
    split at h
    ·obtain⟨h1,h⟩:=tG h
     refine⟨_,_,jJ h,fun p hp=>ZU _ hp,fun ha=> ?_⟩
     have hb:=ha _ (ZJ ..)
     simp only[vX,e1,e2,hb,Y4,Z7 h1]
    ·split at h
     ·rename_i e3
      refine⟨_,_,iZ h,fun p hp=>ZU _ hp,fun ha=> ?_⟩
      have hb:=ha _ (ZJ ..)
      simp only[vX,e1,e2,hb,Y4,ZM,Zf,e3]
     ·cases h
   ·cases h
  ·cases h
theorem TV{rg:ag}{σ:Store}:∀ {l:List RC} {ps:List Prop} {k:List Prop→List AV→Option α} {r:α},Fb rg σ l ps k=some r→
  ∃ bC xs,k bC xs=some r∧(∀ p∈ps,p∈bC)∧((∀ p∈bC,p)→ua rg σ l=some xs)
 |[],ps,k,r,h=>⟨ps,[],h,fun _ h=>h,fun _=>rfl⟩
 |rc::l,ps,k,r,h=>by
  simp only[Fb]at h
  obtain⟨E3,x,h,h1,h2⟩:=ah1 h
  obtain⟨ps2,xs,h,h3,h4⟩:=TV h
  refine⟨ps2,_,h,fun p hp=>h3 p (h1 p hp),fun ha=> ?_⟩
  simp only[ua,h2 fun p hp=>ha p (h3 p hp),h4 ha,Zh]
end
def U6(ps:List Prop)(xs:List AV):Option (List Prop×AV):=match xs with
 |[x]=>some (ps,x)
 |xs=>some (ps,.aT xs)
def rK(rg:ag)(σ:Store)(l:List RC):Option (List Prop×AV):=Fb rg σ l [] U6
theorem Fa{rg:ag}{σ:Store}{l:List RC}{ps:List Prop}{x:AV}(h:rK rg σ l=some (ps,x))(hp:OB ps):yW rg σ l=some x:=by
 obtain⟨bC,xs,h,_,h2⟩:=TV h
 unfold U6 at h
 unfold yW
 split at h
 ·cases h;rw[h2 hp.all]
 ·rename_i aJ
  cases h
  rw[h2 hp.all]
  split
  ·rename_i e;cases e;exact absurd rfl (aJ _)
  ·rename_i e;cases e;rfl
  ·rename_i e;cases e
theorem ah3{rg:ag}{σ:Store}{v:AV}{ps:List Prop}{res:List RC}{R:dH→Store→Prop}(e:rK rg σ res=some (ps,v))(hp:OB ps)(h:R (.ret v) σ):mD res R .normal rg σ:=⟨v,Fa e hp,h⟩
theorem ah4{rg:ag}{σ:Store}{v:AV}{ps:List Prop}{res:List RC}{R:dH→Store→Prop}(e:rK rg σ res=some (ps,v))(hp:OB ps)(h:R (.ret v) σ):mD res R .ret rg σ:=⟨v,Fa e hp,h⟩
theorem ahu{rg:ag}{σ fY:Store}{v r:AV}{ps:List Prop}{res:List RC}(e:rK rg σ res=some (ps,v))(hp:OB ps)(h:Fin fY r v σ):nE res r fY .normal rg σ:=⟨v,Fa e hp,h.1,h.2⟩
theorem ahv{rg:ag}{σ fY:Store}{v r:AV}{ps:List Prop}{res:List RC}(e:rK rg σ res=some (ps,v))(hp:OB ps)(h:Fin fY r v σ):nE res r fY .ret rg σ:=⟨v,Fa e hp,h.1,h.2⟩
theorem bd{p:Prop}[Decidable p]{b:Bool}(h:b=true↔p):AV.v (.bool b)=AV.v (.bool (decide p)):=by
 have:b=decide p:=by rw[YF,h];simp
 rw[this]
theorem bG{n:Int}(h: -9223372036854775808≤n∧n≤9223372036854775807):IntKind.i64.wrap n=n:=Go.IntWalk.i64_in n h
theorem iQ{i n:Nat}(h:i<n)(hn:n≤maxLen):IntKind.i64.wrap ((i:Int)+1)=((i+1:Nat):Int):=by
 rw[bG]
 ·rfl
 ·unfold maxLen at hn;omega
theorem getD_eq{α:Type}[Inhabited α]{l:List α}{i:Nat}(h:i<l.length):l.getD i default=l[i]:=by simp[ZY,h]
theorem gb{α:Type}[Inhabited α]{l:List α}{i:Nat}(h:i<l.length):l.getD i default∈l:=by rw[getD_eq h];exact Zp h
theorem OQ{α:Type}[Inhabited α]{l:List α}{i:Nat}(h:i<l.length):l.drop i=l.getD i default::l.drop (i+1):=by
 rw[getD_eq h];exact Y8 h
theorem Ky{i:Nat}(h:0<i)(hn:i≤maxLen):IntKind.i64.wrap ((i:Int)-1)=((i-1:Nat):Int):=by
 rw[bG (by unfold maxLen at hn;omega)];omega
inductive Fr where
 |seq (b:AC)
 |jF (id:Nat)
 |fn (K:ag→Store→Prop)
def post(P:Program)[Glob P](N:Nat)(cfg:Nat→Nat)(Q:Exit→ag→Store→Prop):List Fr→Exit→ag→Store→Prop
 |[]=>Q
 | .seq b::k=>nH (fun rg σ=>WA P N cfg b (post P N cfg Q k) rg σ) (post P N cfg Q k)
 | .jF id::k=>qH id (post P N cfg Q k)
 | .fn K::k=>nH K (post P N cfg Q k)
structure WK(P:Program)[Glob P](N:Nat)(cfg:Nat→Nat)(Q:Exit→ag→Store→Prop)(a:AC)(k:List Fr)(rg:ag)(σ:Store):Prop where
 h:WA P N cfg a (post P N cfg Q k) rg σ
structure FK(P:Program)[Glob P](N:Nat)(cfg:Nat→Nat)(Q:Exit→ag→Store→Prop)(e:Exit)(k:List Fr)(rg:ag)(σ:Store):Prop where
 h:post P N cfg Q k e rg σ
def zJ:List Fr→Nat→Option (List Fr)
 |[],_=>none
 | .jF id::k,i=>match Nat.beq i id with
  |true=>some k
  |false=>zJ k i
 | .seq _::k,i=>zJ k i
 | .fn _::k,i=>zJ k i
section
variable {P:Program}[Glob P]{N:Nat}{cfg:Nat→Nat}{Q:Exit→ag→Store→Prop}{rg ao:ag}{σ σ':Store}{l:List CI}{a b:AC}{k k':List Fr}{xr:XR}{ah:List Nat}{ld:List CD}{ks:List Nat}{id:Nat}
theorem xg(h:WK P N cfg Q a (.seq b::k) rg σ):WK P N cfg Q (.seq a b) k rg σ:=⟨MJ h.h⟩
theorem aax(h:WK P N cfg Q a (.jF id::k) rg σ):WK P N cfg Q (.block id a) k rg σ:=⟨aam h.h⟩
theorem kH(hk:iE ks rg=some ao)(h:WK P N cfg Q a k ao σ):WK P N cfg Q (.keep ks a) k rg σ:=⟨MI hk h.h⟩
theorem Gz(h:FK P N cfg Q .normal k rg σ):WK P N cfg Q .skip k rg σ:=⟨aav h.h⟩
theorem aaF(h:Q .ret rg σ):WK P N cfg Q .ret k rg σ:=by
 refine⟨aau ?_⟩
 induction k with
 |nil=>exact h
 |cons f k ih=>cases f<;>exact ih
theorem aaC(hu:zJ k id=some k')(h:FK P N cfg Q .normal k' rg σ):WK P N cfg Q (.exit id) k rg σ:=by
 refine⟨aap ?_⟩
 induction k with
 |nil=>cases hu
 |cons f k ih=>
  cases f with
  |seq b=>exact ih hu
  |fn K=>exact ih hu
  |jF i=>
   simp only[zJ]at hu
   split at hu
   ·rename_i e;cases hu;exact abt e h.h
   ·rename_i e;exact abr e (ih hu)
theorem aay{x:Operand}{c:Bool}(hx:Ax rg x=some c)(h1:c=true→WK P N cfg Q a k rg σ)(h2:c=false→WK P N cfg Q b k rg σ):WK P N cfg Q (.cond x a b) k rg σ:=
 ⟨aan hx (fun e=>(h1 e).h) (fun e=>(h2 e).h)⟩
theorem aaE(hx:toXO rg=some xr)(h:VX P cfg l (FK P N cfg Q .normal k) (fun ch σ'=>FK P N cfg Q (.panic ch) k [] σ') xr σ):WK P N cfg Q (.cE l) k rg σ:=
 ⟨(aat (Q:=fun e=>FK P N cfg Q e k) hx h).mono fun _ _ _ h=>h.h⟩
theorem aaD(hx:toXO rg=some xr)(h:VY P cfg ah ld (Cl (FK P N cfg Q .normal k)) xr σ):WK P N cfg Q (.dC ah ld) k rg σ:=
 ⟨(aas (Q:=fun e=>FK P N cfg Q e k) hx h).mono fun _ _ _ h=>h.h⟩
theorem aaz(hx:toXO rg=some xr)(h:VY P cfg [] (bare l) (Cl (FK P N cfg Q .normal k)) xr σ):WK P N cfg Q (.dV l) k rg σ:=
 ⟨(aao (Q:=fun e=>FK P N cfg Q e k) hx h).mono fun _ _ _ h=>h.h⟩
theorem dU{fV:ag}(I:Nat→ag→Store→Prop)(n:Nat)(hk:iE ks rg=some fV)(h0:∃ ao σ',fm fV ao∧Sub σ' σ∧I n ao σ')
  (h:∀ n rg σ,I n rg σ→WK P N cfg Q b (.fn (uF I n ks)::k) rg σ):WK P N cfg Q (.loop (.keep ks b)) k rg σ:=
 ⟨aar I n hk h0 fun n rg σ hi=>(h n rg σ hi).h⟩
theorem aaG(h:WK P N cfg Q a k ao σ')(hr:fm rg ao)(hs:Sub σ' σ):WK P N cfg Q a k rg σ:=⟨aaw h.h hr hs⟩
theorem zY(h:WK P N cfg Q b k rg σ):FK P N cfg Q .normal (.seq b::k) rg σ:=⟨h.h⟩
theorem V6(h:FK P N cfg Q .normal k rg σ):FK P N cfg Q .normal (.jF id::k) rg σ:=⟨h.h⟩
theorem V7{K:ag→Store→Prop}(h:K rg σ):FK P N cfg Q .normal (.fn K::k) rg σ:=⟨h⟩
theorem V8(h:Q .normal rg σ):FK P N cfg Q .normal [] rg σ:=⟨h⟩
def pZ:AC→Nat→Option AC
 | .seq a b,l=>match pZ a l with
  |some r=>some (.seq r b)
  |none=>pZ b l
 | .keep _ a,l=>pZ a l
 | .stop a,l=>pZ a l
 | .label l',l=>if l' == l then some .skip else none
 |_,_=>none
theorem BU{l:Nat}:∀ (a:AC),mS a.erase l=(pZ a l).map AC.erase
 | .seq a b=>by
  have h1:=BU (l:=l) a
  have h2:=BU (l:=l) b
  simp only[AC.erase,mS,pZ,h1,h2]
  cases pZ a l<;>rfl
 | .keep _ a=>BU (l:=l) a
 | .stop a=>BU (l:=l) a
 | .label l'=>by simp only[AC.erase,mS,pZ];split<;>rfl
 | .skip=>rfl
 | .cE _=>rfl
 | .dV _=>rfl
 | .dC _ _=>rfl
 | .cond _ _ _=>rfl
 | .block _ _=>rfl
 | .loop _=>rfl
 | .exit _=>rfl
 | .ret=>rfl
 | .scope _=>rfl
 | .goto _=>rfl
theorem MK{l:Nat}(h:FK P N cfg Q .normal k rg σ):WK P N cfg Q (.label l) k rg σ:=⟨⟨rfl,Mu h.h⟩⟩
theorem sw{l:Nat}(h:Q (.goto l) rg σ):WK P N cfg Q (.goto l) k rg σ:=by
 refine⟨⟨rfl,Mt ?_⟩⟩
 induction k with
 |nil=>exact h
 |cons f k ih=>cases f<;>exact ih
def wX(J:Nat→Nat→ag→Store→Prop)(ks:Nat→List Nat)(n:Option Nat)(l:Nat)(rg:ag)(σ:Store):Prop:=
 ∃ cQ,iE (ks l) rg=some cQ∧∃ n',(∀ m,n=some m→n'<m)∧∃ ao σ',fm cQ ao∧Sub σ' σ∧J l n' ao σ'
theorem Gy(J:Nat→Nat→ag→Store→Prop)(ks:Nat→List Nat)(h0:WK P N cfg (tH (wX J ks none) (fun e=>FK P N cfg Q e k)) a [] rg σ)
  (h:∀ l n rg σ,J l n rg σ→∃ r,pZ a l=some r∧WK P N cfg (tH (wX J ks (some n)) (fun e=>FK P N cfg Q e k)) r [] rg σ):WK P N cfg Q (.scope a) k rg σ:=by
 refine⟨⟨rfl,WH (fun l n rg σ=>∃ cQ,iE (ks l) rg=some cQ∧∃ ao σ',fm cQ ao∧Sub σ' σ∧J l n ao σ') (h0.h.h.mono fun e cq az he=> ?_) fun l n rg σ ⟨cQ,hk,ao,σ',hw,hs,hJ⟩=> ?_⟩⟩
 ·cases e with
  |goto l=>obtain⟨cQ,h1,n',_,eJ,dS,h2,h3,h4⟩:=he;exact⟨n',cQ,h1,eJ,dS,h2,h3,h4⟩
  |normal=>exact he.h
  |exit id=>exact he.h
  |ret=>exact he.h
  |panic ch=>exact he.h
  |outgrown=>exact he.h
 ·obtain⟨r,hr,hW⟩:=h l n ao σ' hJ
  have hW2:SW P N r.erase (tH (fun l' ao σ'=>∃ n',n'<n∧∃ cQ,iE (ks l') ao=some cQ∧∃ cq az,fm cQ cq∧Sub az σ'∧J l' n' cq az) (post P N cfg Q k)) ao σ':=by
   refine hW.h.h.mono fun e cq az he=> ?_
   cases e with
   |goto l'=>obtain⟨cQ,h1,n',hn,eJ,dS,h2,h3,h4⟩:=he;exact⟨n',hn n rfl,cQ,h1,eJ,dS,h2,h3,h4⟩
   |normal=>exact he.h
   |exit id=>exact he.h
   |ret=>exact he.h
   |panic ch=>exact he.h
   |outgrown=>exact he.h
  refine⟨r.erase,?_,SW.fG (ks l) ?_⟩
  ·show mS a.erase l=_
   rw[BU,hr];rfl
  ·rw[HJ hk];exact SW.wk hW2 hw hs
theorem V9(h:Q .ret rg σ):FK P N cfg Q .ret k rg σ:=by
 refine⟨?_⟩
 induction k with
 |nil=>exact h
 |cons f k ih=>cases f<;>exact ih
theorem vG{J:Nat→ag→Store→Prop}(h:Q .ret rg σ):tH J (fun e=>FK P N cfg Q e k) .ret rg σ:=V9 h
theorem Pure.dF{P:Program}[Glob P][kG P]{f:FuncId}{fn:Func}{fc:FC}{as:List AV}{r:AV}{a:AC}(cfg:Nat→Nat)(hf:P.funcs[f]? =some fn)(hc:cK P fn=some fc)(ha:fc.code=a.erase)(hlen:as.length≤fc.N)
  (h:∀ σ,WK P fc.N cfg (nE fc.res r σ) a [] (jZ 0 as) σ):Pure P f as r:=Pure.run cfg hf hc ha hlen fun σ=>(h σ).h
theorem Spec.dF{P:Program}[Glob P][kG P]{f:FuncId}{fn:Func}{fc:FC}{as:List AV}{σ:Store}{Q:dH→Store→Prop}{a:AC}(cfg:Nat→Nat)(hf:P.funcs[f]? =some fn)(hc:cK P fn=some fc)(ha:fc.code=a.erase)(hlen:as.length≤fc.N)
  (h:WK P fc.N cfg (mD fc.res Q) a [] (jZ 0 as) σ):Spec P f as σ Q:=Spec.run cfg hf hc ha hlen h.h
theorem rN{p:Prop}(h:p:=by constructor<;>first|kernel_rfl|(intro;kernel_rfl)|(constructor<;>first|kernel_rfl|(intro;kernel_rfl)|(constructor<;>first|kernel_rfl|(intro;kernel_rfl)))):p:=h
structure bu(P:Program)[Glob P](f:FuncId)(N:Nat)(a:AC)(res:List RC):Prop where
 ex:∃ fn,P.funcs[f]? =some fn∧cK P fn=some ⟨N,a.erase,res⟩
theorem bu.i{P:Program}[Glob P]{f:FuncId}{fn:Func}{N:Nat}{a:AC}{res:List RC}(hf:P.funcs[f]? =some fn)(hc:cK P fn=some ⟨N,a.erase,res⟩:=by kernel_rfl):bu P f N a res:=⟨fn,hf,hc⟩
section
variable {P:Program}[Glob P][kG P]{f:FuncId}{N:Nat}{res:List RC}{as:List AV}{r:AV}{σ:Store}{Q:dH→Store→Prop}{a:AC}
theorem bu.pc(k:bu P f N a res)(cfg:Nat→Nat)(h:∀ σ,WK P N cfg (nE res r σ) a [] (jZ 0 as) σ)(hl:Nat.ble as.length N=true:=by exact rfl):Pure P f as r:=by
 obtain⟨fn,h1,h2⟩:=k.ex
 exact Pure.dF (fc:=⟨N,a.erase,res⟩) (a:=a) cfg h1 h2 rfl (Z7 hl) h
theorem bu.p(k:bu P f N a res)(h:∀ σ,WK P N (fun _=>0) (nE res r σ) a [] (jZ 0 as) σ)(hl:Nat.ble as.length N=true:=by exact rfl):Pure P f as r:=k.pc _ h hl
theorem bu.sc(k:bu P f N a res)(cfg:Nat→Nat)(h:WK P N cfg (mD res Q) a [] (jZ 0 as) σ)(hl:Nat.ble as.length N=true:=by exact rfl):Spec P f as σ Q:=by
 obtain⟨fn,h1,h2⟩:=k.ex
 exact Spec.dF (fc:=⟨N,a.erase,res⟩) (a:=a) cfg h1 h2 rfl (Z7 hl) h
theorem bu.s(k:bu P f N a res)(h:WK P N (fun _=>0) (mD res Q) a [] (jZ 0 as) σ)(hl:Nat.ble as.length N=true:=by exact rfl):Spec P f as σ Q:=k.sc _ h hl
end
end
section
variable {P:Program}[Glob P]{N:Nat}{cfg:Nat→Nat}{K:ag→Store→Prop}{E:List PanicEntry→Store→Prop}{σ:Store}{l:List CI}{d n:Nat}{v y:AV}{xr:XR}{ps:List Prop}{g:Option (Nat×Bool)}{og:Option Bool}{ah cf:List Nat}{ix:Nat}{ld:List CD}
 {t b b' o:Nat} {cs cs' ys l':List AV} {x z:Operand}
theorem o7(h:aB xr none [x,z]=some (og,[.lp t b o,v],ps))(hc:uQ v=some l')(hl:aR σ t=some (b',.cells cs))(hb:b=b')(hn:(Nat.beq l'.length n && l'.all AV.one)=true)(hu:over cs o l'=cs'∧o+n≤cs.length)(ak:OB ps)
  (k:VX P cfg l K E xr (cM σ t b (.cells cs'))):VX P cfg (⟨none,.store n x z,none⟩::l) K E xr σ:=by
 obtain⟨_,he⟩:=cz h
 unfold aB gX at h
 obtain⟨bC,h',_,_⟩:=fS h
 have cP:og=none:=by split at h'<;>cases h';rfl
 subst cP
 have:=he ak rfl
 simp only[bo,ZT,Zd]at this
 simp only[Z0]at hn
 constructor
 simp only[fg,dO,aj,this.1,this.2,G1 hc,hl]
 exact⟨hb,ZB hn.1,hn.2,hu.2,by rw[hu.1];exact k.h⟩
theorem Kj{op:aw}(xV:cf.all (FD xr)=true)(h1:∀ t∈tmpsOf op.opers,lk (raw xr) t=lk (den xr) t):
  nu ah cf (raw xr) op=nu ah cf (den xr) op∧uh ah cf (raw xr) op=uh ah cf (den xr) op:=by
 have hc:∀ t∈cf,lk (raw xr) t=lk (den xr) t:=fun t ht=>by
  have:=ZA.1 xV t ht
  unfold FD at this
  rw[yB,oG]
  split at this
  ·rename_i e;rw[e];rfl
  ·cases this
 exact⟨Sa h1 hc,UG h1 hc⟩
theorem GL{args:List Operand}{as:List AV}(h:aB xr g args=some (og,as,ps))(hp:OB ps)(hg:og.getD true=true):∀ t∈tmpsOf args,lk (raw xr) t=lk (den xr) t:=by
 unfold aB at h
 obtain⟨b,h,_,_⟩:=H7 h
 obtain⟨bC,h,_,h3⟩:=fS h
 split at h
 ·cases h;exact h3 hp.all hg
 ·cases h
theorem W6{gv:Nat}(h:aB xr g [x]=some (og,[.v (.pointer (some ⟨gv,0,none⟩))],ps))(hl:Glob.av P gv=some cs)(hy:cs[0]? =some y)(ak:OB ps)(k:VX P cfg l K E (bR og d y xr) σ):
  VX P cfg (⟨some d,.load false n x,g⟩::l) K E xr σ:=by
 obtain⟨hc,he⟩:=cz h
 refine iT hc (fun hg=> ?_) (fun hg=> ?_)
 ·have:=he ak hg
  simp only[bo,ZT,Zd]at this
  simp only[aj,this,hl,hy,ZM,Zf]
  have:=k.h
  rw[fC hg]at this
  exact this
 ·rw[← fB hg (v:=y)];exact k.h
theorem W7{gv:Nat}(h:aB xr g [x]=some (og,[.v (.pointer (some ⟨gv,0,none⟩))],ps))(hl:Glob.av P gv=some cs)(hy:cs.take n=ys∧n≤cs.length)(ak:OB ps)(k:VX P cfg l K E (bR og d (.agg ys) xr) σ):
  VX P cfg (⟨some d,.load true n x,g⟩::l) K E xr σ:=by
 obtain⟨hc,he⟩:=cz h
 refine iT hc (fun hg=> ?_) (fun hg=> ?_)
 ·have:=he ak hg
  simp only[bo,ZT,Zd]at this
  simp only[aj,this,hl,Y4,hy.1]
  have:=k.h
  rw[fC hg]at this
  exact⟨hy.2,this⟩
 ·rw[← fB hg (v:= .agg ys)];exact k.h
theorem aab{gv:Nat}(h:aB xr g [x]=some (og,[.v (.pointer (some ⟨gv,0,none⟩))],ps))(hl:Glob.av P gv=some cs)(hy:cs[0]? =some y)(bK:my ah cf xr (.load false n x)=true)(ak:OB ps)(k:VY P cfg ah ld K (bR og d y xr) σ):
  VY P cfg ah (⟨ix,⟨some d,.load false n x,g⟩,cf⟩::ld) K xr σ:=by
 obtain⟨hc,he⟩:=cz h
 unfold my at bK
 rw[Z0]at bK
 refine o8 hc (fun hg=> ?_) (fun hg=> ?_)
 ·have:=he ak hg
  simp only[bo,ZT,Zd]at this
  simp only[de,aw.cls]
  refine⟨by rw[← (Kj bK.1 (op:= .load false n x) (GL h ak hg)).1];exact bK.2,?_⟩
  simp only[aj,this,hl,hy,ZM,Zf]
  have:=k.h
  rw[fC hg]at this
  exact this
 ·rw[← fB hg (v:=y)];exact k.h
theorem aac{gv:Nat}(h:aB xr g [x]=some (og,[.v (.pointer (some ⟨gv,0,none⟩))],ps))(hl:Glob.av P gv=some cs)(hy:cs.take n=ys∧n≤cs.length)(bK:my ah cf xr (.load true n x)=true)(ak:OB ps)(k:VY P cfg ah ld K (bR og d (.agg ys) xr) σ):
  VY P cfg ah (⟨ix,⟨some d,.load true n x,g⟩,cf⟩::ld) K xr σ:=by
 obtain⟨hc,he⟩:=cz h
 unfold my at bK
 rw[Z0]at bK
 refine o8 hc (fun hg=> ?_) (fun hg=> ?_)
 ·have:=he ak hg
  simp only[bo,ZT,Zd]at this
  simp only[de,aw.cls]
  refine⟨by rw[← (Kj bK.1 (op:= .load true n x) (GL h ak hg)).1];exact bK.2,?_⟩
  simp only[aj,this,hl,Y4,hy.1]
  have:=k.h
  rw[fC hg]at this
  exact⟨hy.2,this⟩
 ·rw[← fB hg (v:= .agg ys)];exact k.h
end
end Go.Sx
