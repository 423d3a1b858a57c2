/-
  The layer Sx, eighteenth part: whole runs of operations, computed; an operation under a guard yields a value under a condition (no case is split).
-/
import Derived.Test.YthdeaajdmdmfnaaGreatDoorSxMix3
import Derived.IntWalk
import Derived.KernelRfl
set_option linter.unusedVariables false
set_option linter.unusedSimpArgs false
set_option linter.unusedSectionVars false
namespace Go.Sx
open Go.RowKit
inductive XV where
 |s (x:AV)
 |o (c:Bool) (x:AV)
abbrev XR:=List (Nat×XV)
def XV.den:XV→AV
 | .s x=>x
 | .o c x=>bif c then x else .v undef
def XV.val:XV→AV
 | .s x=>x
 | .o _ x=>x
def pL:XR→Nat→XV
 |[],_=> .s .any
 |(i,x)::r,j=>bif Nat.beq i j then x else pL r j
def den:XR→ag
 |[]=>[]
 |(i,x)::r=>(i,x.den)::den r
def raw:XR→ag
 |[]=>[]
 |(i,x)::r=>(i,x.val)::raw r
def toX:ag→XR
 |[]=>[]
 |(i,x)::r=>(i,.s x)::toX r
theorem oC(t:Nat):∀ xr:XR,lk (den xr) t=(pL xr t).den
 |[]=>rfl
 |(i,x)::r=>by simp only[den,lk,pL];cases Nat.beq i t<;>simp only[Zc,YD,oC t r]
theorem x5(t:Nat):∀ xr:XR,lk (raw xr) t=(pL xr t).val
 |[]=>rfl
 |(i,x)::r=>by simp only[raw,lk,pL];cases Nat.beq i t<;>simp only[Zc,YD,x5 t r]
theorem w7:∀ rg:ag,den (toX rg)=rg
 |[]=>rfl
 |(i,x)::r=>by simp only[toX,den,XV.den,w7 r]
inductive OB:List Prop→Prop
 |nil:OB []
 |cons {p:Prop} {ps:List Prop} (h:p) (t:OB ps):OB (p::ps)
theorem OB.all{ps:List Prop}(h:OB ps):∀ p∈ps,p:=by
 induction h with
 |nil=>grind
 |cons h _ ih=>
  grind
theorem OB.rfl{α:Type}{a:α}{ps:List Prop}(t:OB ps):OB ((a=a)::ps):= .cons _root_.rfl t
theorem OB.abD{α:Type}{a:α}{c:Bool}{ps:List Prop}(t:OB ps):OB ((c=true→a=a)::ps):= .cons (fun _=>_root_.rfl) t
theorem OB.gtr{c:Bool}{ps:List Prop}(t:OB ps):OB ((c=true→True)::ps):= .cons (fun _=>trivial) t
theorem OB.self{a:Prop}{ps:List Prop}(t:OB ps):OB ((a→a)::ps):= .cons (fun h=>h) t
theorem OB.tr{ps:List Prop}(t:OB ps):OB (True::ps):= .cons trivial t
theorem OB.and{a b:Bool}{ps:List Prop}(t:OB ps):OB (((a && b)=true→a=true)::ps):= .cons (fun h=>by simp at h;exact h.1) t
def gX{α:Type}(xr:XR)(g:Option (Nat×Bool))(k:Option Bool→Option α):Option α:=
 match g with
 |none=>k none
 |some (t,true)=>match pL xr t with
  | .s (.v (.bool b))=>k (some b)
  | .o c (.v (.bool b))=>k (some (c && b))
  |_=>none
 |some (t,false)=>match pL xr t with
  | .s (.v (.bool b))=>k (some !b)
  | .o c (.v (.bool b))=>k (some (c && !b))
  |_=>none
def vB{α:Type}(g:Option Bool)(xr:XR):List Nat→List Prop→(List Prop→Option α)→Option α
 |[],ps,k=>k ps
 |t::ts,ps,k=>match pL xr t with
  | .s _=>vB g xr ts ps k
  | .o c _=>match g with
   |none=>vB g xr ts ((c=true)::ps) k
   |some b=>vB g xr ts ((b=true→c=true)::ps) k
def w8(xr:XR):Operand→XV
 | .tmp t=>pL xr t
 | .const v=> .s (.v v)
 | .global g=> .s (.v (.pointer (some ⟨g,0,none⟩)))
 | .func f=> .s (.v (.func (.func f) #[] #[]))
def JS{α:Type}(g:Option Bool)(xr:XR)(c a b:Operand)(ps:List Prop)(k:List Prop→Bool→Option α):Option α:=
 match w8 xr c with
 | .s (.v (.bool t))=>match a,b with
  | .const (.bool true),b=>match w8 xr b with
   | .s (.v (.bool y))=>k ps (t || y)
   | .o cb (.v (.bool y))=>match g with
    |none=>k ((!t=true→cb=true)::ps) (t || y)
    |some g=>k (((g && !t)=true→cb=true)::ps) (t || y)
   |_=>none
  |a,.const (.bool false)=>match w8 xr a with
   | .s (.v (.bool y))=>k ps (t && y)
   | .o cb (.v (.bool y))=>match g with
    |none=>k ((t=true→cb=true)::ps) (t && y)
    |some g=>k (((g && t)=true→cb=true)::ps) (t && y)
   |_=>none
  |_,_=>none
 | .o cc (.v (.bool t))=>match g with
  |none=>none
  |some g=>match a,b with
   | .const (.bool true),b=>match w8 xr b with
    | .s (.v (.bool y))=>k ((g=true→cc=true)::ps) (t || y)
    | .o cb (.v (.bool y))=>k ((g=true→cc=true)::((g && !t)=true→cb=true)::ps) (t || y)
    |_=>none
   |a,.const (.bool false)=>match w8 xr a with
    | .s (.v (.bool y))=>k ((g=true→cc=true)::ps) (t && y)
    | .o cb (.v (.bool y))=>k ((g=true→cc=true)::((g && t)=true→cb=true)::ps) (t && y)
    |_=>none
   |_,_=>none
 |_=>none
def EM:ax→Bool
 | .mv .. | .build .. | .mo .. | .ji .. | .eqs .. | .un .. | .lM .. | .mG .. | .nh .. | .ng .. | .aY .. | .field .. | .extract .. | .len .. | .max2 .. | .min2 .. =>true
 | .bin op _ _=>match op with
  | .quo| .rem| .shl| .shr| .add=>false
  |_=>true
 |_=>false
def push(g:Option Bool)(op:ax)(p:Prop)(ps:List Prop):List Prop:=
 match EM op with
 |true=>ps
 |false=>match g with
  |none=>p::ps
  |some b=>(b=true→p)::ps
def aiB:ax→Bool
 | .call .. | .fD .. | .alloc .. | .box .. | .append .. | .len false _| .fe .. | .idxs .. | .slice .. | .cu .. | .exts .. | .panic .. =>true
 | .dF _ _ []=>true
 |_=>false
def yt(cfg:Nat→Nat)(op:ax):Bool:=match aiB op with
 |true=>true
 |false=>match op with
  | .load _ _ (.tmp s)=>Nat.beq (cfg (1000000+s)) 1
  | .load _ _ (.global _)=>true
  | .store _ (.tmp s) _=>Nat.beq (cfg (1000000+s)) 1
  |_=>false
def Eg{α:Type}(g:Option Bool)(d:Option Nat)(v:AV)(xr:XR)(k:XR→Option α):Option α:=
 match d with
 |some d=>match g with
  |none=>k ((d,.s v)::xr)
  |some t=>k ((d,.o t v)::xr)
 |none=>match g with
  |none=>k xr
  |some _=>none
def Xe(g:Option Bool)(op:ax):Bool:=match g with
 |none=>true
 |some _=>Nat.ble op.cls 1
def Ku{α:Type}(cfg:Nat→Nat)(ok:XR→ax→Bool)(d:Option Nat)(op:ax)(g:Option Bool)(xr:XR)(σ:Store)(ps:List Prop)(k:List Prop→XR→Store→Option α):Option α:=
 vB g xr (tmpsOf op.opers) ps fun ps=>match ok xr op with
  |true=>match Xe g op with
   |true=>match c6 cfg d (raw xr) σ op with
    |some (p,v,σ')=>Eg g d v xr fun xr=>k (push g op p ps) xr σ'
    |none=>none
   |false=>none
  |false=>none
def vY{α:Type}(cfg:Nat→Nat)(ok:XR→ax→Bool)(c:CI)(xr:XR)(σ:Store)(ps:List Prop)(k:List Prop→XR→Store→Option α):Option α:=
 gX xr c.g fun g=>match c.op with
  | .pick x a b=>JS g xr x a b ps fun ps v=>Eg g c.d (.v (.bool v)) xr fun xr=>k ps xr σ
  |op=>Ku cfg ok c.d op g xr σ ps k
def Bb(cfg:Nat→Nat):List CI→XR→Store→List Prop→Option (List Prop×XR×Store×List CI)
 |[],xr,σ,ps=>some (ps,xr,σ,[])
 |c::l,xr,σ,ps=>match yt cfg c.op with
  |true=>some (ps,xr,σ,c::l)
  |false=>vY cfg (fun _ _=>true) c xr σ ps fun ps xr σ=>Bb cfg l xr σ ps
def EH(xr:XR)(t:Nat):Bool:=match pL xr t with
 | .s _=>true
 | .o _ _=>false
def oI(al cf:List Nat)(xr:XR)(op:ax):Bool:=cf.all (EH xr) && QZ al cf (raw xr) op
def runM(cfg:Nat→Nat)(al:List Nat):List CD→XR→Store→List Prop→Option (List Prop×XR×Store×List CD)
 |[],xr,σ,ps=>some (ps,xr,σ,[])
 |c::l,xr,σ,ps=>match yt cfg c.c.op with
  |true=>some (ps,xr,σ,c::l)
  |false=>vY cfg (oI al c.cf) c.c xr σ ps fun ps xr σ=>runM cfg al l xr σ ps
def fh(P:Program)[Glob P](cfg:Nat→Nat):List CI→(K:ag→Store→Prop)→(E:List PanicEntry→Store→Prop)→ag→Store→Prop
 |[],K,_,rg,σ=>K rg σ
 |c::l,K,E,rg,σ=>cK P cfg c (fun x σ'=>fh P cfg l K E (bz c.d x rg) σ') E rg σ
def GM(rg:ag)(t:Nat)(want:Bool)(A B:Prop):Prop:=match lk rg t with
 | .v (.bool b)=>(b=want→A)∧(b= !want→B)
 | .v (.tuple _)=>B
 |_=>False
def GG(rg:ag)(g:Option (Nat×Bool))(A B:Prop):Prop:=match g with
 |none=>A
 |some (t,want)=>GM rg t want A B
section
variable {P:Program}[Glob P]{M:Mem}{w0:Base}{w:World}{σ σ':Store}{rg:ag}{a:Act}{cfg:Nat→Nat}{N:Nat}{xr cL:XR}{c:CI}{K K':AV→Store→Prop}{E:List PanicEntry→Store→Prop}
theorem akj:cK P cfg c K E rg σ↔GG rg c.g (aj P cfg c.d rg σ K E c.op) (K (.v undef) σ):=by
 rfl
theorem aki{al:List Nat}{c:CD}:cY P cfg al c K rg σ↔GG rg c.c.g (cy P cfg al c.cf c.c.d rg σ K c.c.op) (K (.v undef) σ):=by
 rfl
def wy(xr:XR)(g:Option (Nat×Bool))(b:Option Bool):Prop:=∀ A B:Prop,(b.getD true=true→A)→(b.getD true=false→B)→GG (den xr) g A B
theorem GN{α:Type}{g:Option (Nat×Bool)}{k:Option Bool→Option α}{r:α}(h:gX xr g k=some r):∃ b,k b=some r∧wy xr g b∧(b=none→g=none):=by
 unfold gX at h
 split at h
 ·exact⟨none,h,fun A B h1 _=>h1 rfl,fun _=>rfl⟩
 ·split at h
  ·rename_i b e
   refine⟨_,h,fun A B h1 h2=> ?_,fun e=>nomatch e⟩
   simp only[GG,GM,oC,e,XV.den]
   grind
  ·rename_i cc b e
   refine⟨_,h,fun A B h1 h2=> ?_,fun e=>nomatch e⟩
   simp only[GG,GM,oC,e,XV.den]
   cases cc with
   |true=>grind
   |false=>exact h2 rfl
  grind
 ·split at h
  ·rename_i b e
   refine⟨_,h,fun A B h1 h2=> ?_,fun e=>nomatch e⟩
   simp only[GG,GM,oC,e,XV.den]
   grind
  ·rename_i cc b e
   refine⟨_,h,fun A B h1 h2=> ?_,fun e=>nomatch e⟩
   simp only[GG,GM,oC,e,XV.den]
   cases cc with
   |true=>grind
   |false=>exact h2 rfl
  grind
theorem iT{α:Type}{g:Option Bool}:∀ {ts:List Nat} {ps:List Prop} {k:List Prop→Option α} {r:α},vB g xr ts ps k=some r→
  ∃ bE,k bE=some r∧(∀ p∈ps,p∈bE)∧((∀ p∈bE,p)→g.getD true=true→∀ t∈ts,lk (raw xr) t=lk (den xr) t)
 |[],ps,k,r,h=>⟨ps,h,fun _ h=>h,fun _ _ _ h=>by cases h⟩
 |t::ts,ps,k,r,h=>by
  simp only[vB]at h
  split at h
  ·rename_i x e
   obtain⟨bE,h1,h2,h3⟩:=iT h
   refine⟨bE,h1,h2,fun ha hg u hu=> ?_⟩
   rcases ZK.1 hu with rfl|hu
   ·rw[x5,oC,e];rfl
   grind
  ·rename_i cc x e
   split at h
   ·obtain⟨bE,h1,h2,h3⟩:=iT h
    refine⟨bE,h1,fun p hp=>h2 p (ZL _ hp),fun ha hg u hu=> ?_⟩
    rcases ZK.1 hu with rfl|hu
    ·have:=ha _ (h2 _ (ZD ..))
     rw[x5,oC,e,this];rfl
    grind
   ·obtain⟨bE,h1,h2,h3⟩:=iT h
    refine⟨bE,h1,fun p hp=>h2 p (ZL _ hp),fun ha hg u hu=> ?_⟩
    rcases ZK.1 hu with rfl|hu
    ·have:=ha _ (h2 _ (ZD ..)) hg
     rw[x5,oC,e,this];rfl
    grind
theorem aaQ(x:Operand):ev (den xr) x=(w8 xr x).den:=by
 cases x with
 |tmp t=>exact oC t xr
 |const v=>rfl
 |global g=>rfl
 |func f=>rfl
theorem afy{α:Type}{g:Option Bool}{c a b:Operand}{ps:List Prop}{k:List Prop→Bool→Option α}{r:α}(h:JS g xr c a b ps k=some r):
  ∃ bE v,k bE v=some r∧(∀ p∈ps,p∈bE)∧((∀ p∈bE,p)→g.getD true=true→∃ t,ev (den xr) c= .v (.bool t)∧(if t then ev (den xr) a else ev (den xr) b)= .v (.bool v)):=by
 simp only[aaQ]
 unfold JS at h
 split at h
 ·rename_i t ec
  rw[ec]
  split at h
  ·split at h
   ·rename_i y eb
    refine⟨_,_,h,fun _ h=>h,fun _ _=>⟨t,rfl,?_⟩⟩
    rw[eb];cases t<;>rfl
   ·rename_i cb y eb
    split at h
    ·refine⟨_,_,h,fun p hp=>ZL _ hp,fun ha hg=>⟨t,rfl,?_⟩⟩
     rw[eb]
     have:=ha _ (ZD ..)
     cases t with
     |true=>rfl
     |false=>rw[this rfl];rfl
    ·rename_i g
     refine⟨_,_,h,fun p hp=>ZL _ hp,fun ha hg=>⟨t,rfl,?_⟩⟩
     rw[eb]
     have:=ha _ (ZD ..)
     have hg:g=true:=hg
     cases t with
     |true=>rfl
     |false=>rw[this (by grind)];rfl
   grind
  ·split at h
   ·rename_i y eb
    refine⟨_,_,h,fun _ h=>h,fun _ _=>⟨t,rfl,?_⟩⟩
    rw[eb];cases t<;>rfl
   ·rename_i cb y eb
    split at h
    ·refine⟨_,_,h,fun p hp=>ZL _ hp,fun ha hg=>⟨t,rfl,?_⟩⟩
     rw[eb]
     have:=ha _ (ZD ..)
     cases t with
     |false=>rfl
     |true=>rw[this rfl];rfl
    ·rename_i g
     refine⟨_,_,h,fun p hp=>ZL _ hp,fun ha hg=>⟨t,rfl,?_⟩⟩
     rw[eb]
     have:=ha _ (ZD ..)
     have hg:g=true:=hg
     cases t with
     |false=>rfl
     |true=>rw[this (by rw[hg];rfl)];rfl
   grind
  grind
 ·rename_i cc t ec
  rw[ec]
  split at h
  ·cases h
  ·rename_i g
   split at h
   ·split at h
    ·rename_i y eb
     refine⟨_,_,h,fun p hp=>ZL _ hp,fun ha hg=> ?_⟩
     have:=ha _ (ZD ..) hg
     subst this
     refine⟨t,rfl,?_⟩
     rw[eb];cases t<;>rfl
    ·rename_i cb y eb
     refine⟨_,_,h,fun p hp=>ZL _ (ZL _ hp),fun ha hg=> ?_⟩
     have hg:g=true:=hg
     have h1:=ha _ (ZD ..) hg
     have h2:=ha _ (ZL _ (ZD ..))
     subst h1
     refine⟨t,rfl,?_⟩
     rw[eb]
     cases t with
     |true=>rfl
     |false=>rw[h2 (by rw[hg];rfl)];rfl
    ·cases h
   ·split at h
    ·rename_i y eb
     refine⟨_,_,h,fun p hp=>ZL _ hp,fun ha hg=> ?_⟩
     have:=ha _ (ZD ..) hg
     subst this
     refine⟨t,rfl,?_⟩
     rw[eb];cases t<;>rfl
    ·rename_i cb y eb
     refine⟨_,_,h,fun p hp=>ZL _ (ZL _ hp),fun ha hg=> ?_⟩
     have hg:g=true:=hg
     have h1:=ha _ (ZD ..) hg
     have h2:=ha _ (ZL _ (ZD ..))
     subst h1
     refine⟨t,rfl,?_⟩
     rw[eb]
     cases t with
     |false=>rfl
     |true=>rw[h2 (by rw[hg];rfl)];rfl
    ·cases h
   ·cases h
 grind
theorem aiZ{d:Option Nat}{op:ax}{p:Prop}{v:AV}(ht:EM op=true)(h:c6 cfg d rg σ op=some (p,v,σ')):p:=by
 cases op<;>simp only[EM,ZU]at ht
 case bin op x y=>
  simp only[c6]at h
  split at h
  ·split at h
   ·rename_i p' r e
    cases h
    unfold B8 at e
    split at e
    ·grind
    ·grind
    grind
   grind
  grind
 case len s x=>cases s<;>(simp only[c6]at h;grind)<;>cases h<;>trivial
 all_goals simp only[c6,reduceCtorEq]at h
 all_goals(repeat' split at h)
 all_goals first
  |grind
  |grind
  |(have:=iN h;cases this;trivial)
  |(have:=jJ h;cases this;trivial)
  |(have:=uw h;cases this;trivial)
  |(have h2:=(sZ h).2;(repeat' split at h2)<;>first|(cases h2;done)|(cases h2;trivial)|(have:=iN h2;cases this;trivial)|(have:=jJ h2;cases this;trivial))
theorem Ro{g:Option Bool}{op:ax}{p q:Prop}{ps:List Prop}(h:q∈ps):q∈push g op p ps:=by
 unfold push
 grind
theorem afR{g:Option Bool}{d:Option Nat}{op:ax}{p:Prop}{v:AV}{ps:List Prop}(h:c6 cfg d rg σ op=some (p,v,σ'))(ha:∀ q∈push g op p ps,q)(hg:g.getD true=true):p:=by
 unfold push at ha
 cases ht:EM op with
 |true=>exact aiZ ht h
 |false=>
  rw[ht]at ha
  cases g with
  |none=>simp_all
  |some b=>exact ha _ (ZD ..) hg
theorem aau{d:Option Nat}{op:ax}{p:Prop}{v:AV}(hc:Nat.ble op.cls 1=true)(h:c6 cfg d rg σ op=some (p,v,σ')):σ'=σ:=by
 have hc:=ZF hc
 cases e:op.cls with
 |zero=>exact MF e h
 |succ n=>
  cases op<;>simp only[ax.cls,reduceCtorEq]at e
  case load g n x=>
   simp only[c6]at h
   repeat' split at h
   all_goals first
    |grind
    |(have:=iN h;grind)
    |(have h2:=(sZ h).2;have:=jJ h2;grind)
  all_goals(simp only[ax.cls]at hc;omega)
theorem Rs{α:Type}{g:Option Bool}{d:Option Nat}{v:AV}{k:XR→Option α}{r:α}(h:Eg g d v xr k=some r):
  ∃ cL,k cL=some r∧(g.getD true=true→den cL=bz d v (den xr))∧(g.getD true=false→den cL=bz d (.v undef) (den xr)):=by
 unfold Eg at h
 split at h
 ·split at h
  ·exact⟨_,h,fun _=>rfl,fun e=>nomatch e⟩
  ·rename_i t
   exact⟨_,h,fun(e:t=true)=>by subst e;rfl,fun(e:t=false)=>by subst e;rfl⟩
 ·split at h
  ·exact⟨_,h,fun _=>rfl,fun e=>nomatch e⟩
  grind
def Out(cfg:Nat→Nat)(ok:XR→ax→Bool)(d:Option Nat)(op:ax)(xr:XR)(σ:Store)(v:AV)(σ':Store):Prop:=
 (∃ p,c6 cfg d (raw xr) σ op=some (p,v,σ')∧p∧ok xr op=true∧∀ t∈tmpsOf op.opers,lk (raw xr) t=lk (den xr) t)∨
 (∃ x y z t,op= .pick x y z∧σ'=σ∧ev (den xr) x= .v (.bool t)∧(if t then ev (den xr) y else ev (den xr) z)=v)
def iI(cfg:Nat→Nat)(ok:XR→ax→Bool)(d:Option Nat)(op:ax)(b:Option Bool)(xr:XR)(σ:Store)(cL:XR)(σ':Store):Prop:=
 (b.getD true=true→∃ v,Out cfg ok d op xr σ v σ'∧den cL=bz d v (den xr))∧(b.getD true=false→σ'=σ∧den cL=bz d (.v undef) (den xr))
theorem aiv{α:Type}{ok:XR→ax→Bool}{d:Option Nat}{op:ax}{g:Option Bool}{ps:List Prop}{k:List Prop→XR→Store→Option α}{r:α}(h:Ku cfg ok d op g xr σ ps k=some r):
  ∃ bE cL σ',k bE cL σ'=some r∧(∀ p∈ps,p∈bE)∧((∀ p∈bE,p)→iI cfg ok d op g xr σ cL σ'):=by
 obtain⟨bE,h,h2,h3⟩:=iT h
 split at h
 case h_2=>cases h
 rename_i cw
 split at h
 case h_2=>cases h
 rename_i db
 split at h
 case h_2=>cases h
 rename_i p v σ' Ic
 obtain⟨cL,h,h4,h5⟩:=Rs h
 refine⟨_,cL,σ',h,fun p hp=>Ro (h2 p hp),fun ha=>⟨fun hg=>⟨v,.inl ⟨p,Ic,afR Ic ha hg,cw,h3 (fun q hq=>ha q (Ro hq)) hg⟩,h4 hg⟩,fun hg=>⟨?_,h5 hg⟩⟩⟩
 cases g with
 |none=>cases hg
 |some t=>exact aau db Ic
theorem ED{α:Type}{ok:XR→ax→Bool}{ps:List Prop}{k:List Prop→XR→Store→Option α}{r:α}(h:vY cfg ok c xr σ ps k=some r):
  ∃ bE cL σ' b,k bE cL σ'=some r∧(∀ p∈ps,p∈bE)∧wy xr c.g b∧((∀ p∈bE,p)→iI cfg ok c.d c.op b xr σ cL σ'):=by
 obtain⟨g,h,ab0,_⟩:=GN h
 obtain⟨d,op,cg⟩:=c
 have hd:Ku cfg ok d op g xr σ ps k=some r→∃ bE cL σ' b,k bE cL σ'=some r∧(∀ p∈ps,p∈bE)∧wy xr cg b∧((∀ p∈bE,p)→iI cfg ok d op b xr σ cL σ'):=fun h=>by
  obtain⟨bE,cL,σ',h1,h2,h3⟩:=aiv h
  grind
 cases op with
 |pick x a b=>
  obtain⟨bE,v,h,h2,h3⟩:=afy h
  obtain⟨cL,h,h4,h5⟩:=Rs h
  refine⟨bE,cL,σ,g,h,h2,ab0,fun ha=>⟨fun hg=> ?_,fun hg=>⟨rfl,h5 hg⟩⟩⟩
  obtain⟨t,e1,e2⟩:=h3 ha hg
  exact⟨_,.inr ⟨x,a,b,t,rfl,rfl,e1,e2⟩,h4 hg⟩
 |_=>exact hd h
theorem Q4{ok:XR→ax→Bool}{d:Option Nat}{op:ax}{v:AV}(h:Out cfg ok d op xr σ v σ')(hk:K v σ'):aj P cfg d (den xr) σ K E op:=by
 rcases h with⟨p,h1,h2,_,h4⟩|⟨x,y,z,t,rfl,rfl,h2,rfl⟩
 ·rw[← pZ h4];exact Co h1 h2 hk
 ·simp only[aj,h2];grind
theorem Q5{al cf:List Nat}{d:Option Nat}{op:ax}{v:AV}(h:Out cfg (oI al cf) d op xr σ v σ')(hk:K v σ'):cy P cfg al cf d (den xr) σ K op:=by
 rcases h with⟨p,h1,h2,h3,h4⟩|⟨x,y,z,t,rfl,rfl,h2,rfl⟩
 ·unfold oI at h3
  simp at h3
  have sC:∀ t∈cf,lk (raw xr) t=lk (den xr) t:=fun t ht=>by
   have:=h3.1 t ht
   unfold EH at this
   rw[x5,oC]
   split at this
   ·rename_i e;rw[e];rfl
   grind
  rw[← S0 h4 sC]
  have ho:=h3.2
  unfold cy
  cases hc:op.cls with
  |zero=>
   have:=MF hc h1
   subst this
   exact aat hc h1 h2 hk
  |succ n=>
   cases op<;>simp only[ax.cls,reduceCtorEq,Nat.reduceEqDiff,Nat.zero_ne_add_one]at hc<;>simp only[QZ,reduceCtorEq]at ho<;>first|simp|skip
   ·cases hc;exact⟨ho,Co h1 h2 hk⟩
   ·cases hc;exact⟨ho,Co h1 h2 hk⟩
 ·simp only[cy,ax.cls,aK,aj,h2];grind
structure VX(P:Program)[Glob P](cfg:Nat→Nat)(l:List CI)(K:ag→Store→Prop)(E:List PanicEntry→Store→Prop)(xr:XR)(σ:Store):Prop where
 h:fh P cfg l K E (den xr) σ
structure VY(P:Program)[Glob P](cfg:Nat→Nat)(al:List Nat)(l:List CD)(K:ag→Store→Prop)(xr:XR)(σ:Store):Prop where
 h:cZ P cfg al l K (den xr) σ
theorem R2{Kc:ag→Store→Prop}{bE:List Prop}{rest:List CI}:∀ {l:List CI} {xr:XR} {σ:Store} {ps:List Prop},Bb cfg l xr σ ps=some (bE,cL,σ',rest)→
  (∀ p∈ps,p∈bE)∧((∀ p∈bE,p)→fh P cfg rest Kc E (den cL) σ'→fh P cfg l Kc E (den xr) σ)
 |[],xr,σ,ps,h=>by cases h;grind
 |c::l,xr,σ,ps,h=>by
  simp only[Bb]at h
  split at h
  ·grind
  ·obtain⟨Ee,Le,aP,b,h,h2,hc,h3⟩:=ED h
   obtain⟨i1,i2⟩:=R2 h
   refine⟨fun p hp=>i1 p (h2 p hp),fun ha hk=> ?_⟩
   have hn:=i2 ha hk
   obtain⟨s1,s2⟩:=h3 fun p hp=>ha p (i1 p hp)
   refine hc _ _ (fun hg=> ?_) (fun hg=> ?_)
   ·obtain⟨v,ho,hd⟩:=s1 hg
    exact Q4 ho (by grind)
   grind
theorem R3{al:List Nat}{Kc:ag→Store→Prop}{bE:List Prop}{rest:List CD}:∀ {l:List CD} {xr:XR} {σ:Store} {ps:List Prop},runM cfg al l xr σ ps=some (bE,cL,σ',rest)→
  (∀ p∈ps,p∈bE)∧((∀ p∈bE,p)→cZ P cfg al rest Kc (den cL) σ'→cZ P cfg al l Kc (den xr) σ)
 |[],xr,σ,ps,h=>by cases h;grind
 |c::l,xr,σ,ps,h=>by
  simp only[runM]at h
  split at h
  ·grind
  ·obtain⟨Ee,Le,aP,b,h,h2,hc,h3⟩:=ED h
   obtain⟨i1,i2⟩:=R3 h
   refine⟨fun p hp=>i1 p (h2 p hp),fun ha hk=> ?_⟩
   have hn:=i2 ha hk
   obtain⟨s1,s2⟩:=h3 fun p hp=>ha p (i1 p hp)
   refine hc _ _ (fun hg=> ?_) (fun hg=> ?_)
   ·obtain⟨v,ho,hd⟩:=s1 hg
    exact Q5 ho (by grind)
   grind
theorem S5(ops:Array Oper){Q:Exit→ag→Store→Prop}{K:ag→Store→Prop}(hK:∀ rg σ,K rg σ→Q .normal rg σ):
  ∀ (os:List Oper) (k:Nat) (l:List CI),ia P N ops os=some l→(∀ i,i<os.length→ops[k+i]? =os[i]?)→
  ∀ (M:Mem) (w0:Base) (w:World) (a:Act) (rg:ag) (σ:Store),fh P cfg l K (fun ch σ'=>Q (.panic ch) [] σ') rg σ→Inv P M w0 σ w→bQ M rg a→a.tmps.size=N→a.defers=Glob.df P→
   wpOps P ops (jh P M w0 N Q) (List.range' k os.length) a w
 |[],k,l,hl,_,M,w0,w,a,rg,σ,h,hI,hR,hN,hD=>by
  simp only[ia,ZY]at hl
  subst hl
  exact⟨M,rg,σ,Mem.le.refl _,hI,hR,hN,hD,hK rg σ h⟩
 |o::os,k,l,hl,ho,M,w0,w,a,rg,σ,h,hI,hR,hN,hD=>by
  simp only[ia]at hl
  split at hl
  ·rename_i c hc
   obtain⟨l',fq,rfl⟩:=Z9.1 hl
   have ID:ops[k]? =some o:=by simpa using ho 0 (by simp)
   obtain⟨ko,aw⟩:=zi hc
   simp only[ZS,List.range'_succ,wpOps,ID]
   refine uy hc h hI hR ⟨fun M' x σ' v w' hM bp hx hk=> ?_,fun M' ch σ' w' hM bp hk=> ?_⟩
   ·have ih:=S5 ops hK os (k+1) l' fq (fun i hi=>by have:=ho (i+1) (by grind);grind) M' w0 w' (a.put o.dst v) (bz c.d x rg) σ' hk bp
     (by rw[ko];exact(hR.mono hM).put o.dst (fun t ht=>by grind) hx) (by rw[Act.size_put];grind) (by rw[Act.zk];grind)
    refine wh.ru ?_ _ _ _ ih
    rintro e a2 w2 ⟨M2,bI,aJ,h1,h2⟩
    exact⟨M2,bI,aJ,hM.trans h1,h2⟩
   ·exact⟨M',[],σ',hM,bp,fun i=> .any _,hN,hD,hk⟩
  grind
theorem T3{l:List CI}{Q:Exit→ag→Store→Prop}(cfg:Nat→Nat)(h:fh P cfg l (Q .normal) (fun ch σ'=>Q (.panic ch) [] σ') rg σ):SW P N (.aQ l) Q rg σ:=by
 intro c hc M w0 a w hI hR hN hD
 obtain⟨id,ops,rfl,hl⟩:=eX hc
 show wpOps _ _ _ _ _ _
 have:=S5 (P:=P) (N:=N) (cfg:=cfg) ops (Q:=Q) (K:=Q .normal) (fun _ _ h=>h) ops.toList 0 l hl (fun i hi=>by simp) M w0 w a rg σ h hI hR hN hD
 rw[XF]
 grind
end
def toXO:ag→Option XR
 |[]=>some []
 |(i,x)::r=>match toXO r with
  |some l=>some ((i,.s x)::l)
  |none=>none
theorem yv:∀ {rg:ag} {xr:XR},toXO rg=some xr→toX rg=xr
 |[],_,h=>by cases h;rfl
 |(i,x)::r,xr,h=>by
  simp only[toXO]at h
  split at h
  ·rename_i e;cases h;rw[toX,yv e]
  grind
def bH(og:Option Bool)(d:Nat)(v:AV)(xr:XR):XR:=(d,match og with
 |none=> .s v
 |some b=> .o b v)::xr
def aS(xr:XR)(g:Option (Nat×Bool))(args:List Operand):Option (Option Bool×List AV×List Prop):=
 gX xr g fun og=>vB og xr (tmpsOf args) [] fun ps=>match Gh (raw xr) args with
  |some as=>some (og,as,ps)
  |none=>none
section
variable {P:Program}[Glob P]{N:Nat}{cfg:Nat→Nat}{Q:Exit→ag→Store→Prop}{K:ag→Store→Prop}{E:List PanicEntry→Store→Prop}{rg:ag}{σ σ':Store}{l rest:List CI}{d:Nat}{op:ax}{p:Prop}{v:AV}{xr cL:XR}{ps:List Prop}{c:CI}
 {al cf:List Nat} {ix:Nat} {ld A9:List CD} {cd:CD} {g:Option (Nat×Bool)} {og:Option Bool} {as:List AV} {args:List Operand}
theorem fx(h:og.getD true=true):den (bH og d v xr)=(d,v)::den xr:=by
 cases og with
 |none=>rfl
 |some b=>have h:b=true:=h;subst h;rfl
theorem fw(h:og.getD true=false):den (bH og d v xr)=(d,.v undef)::den xr:=by
 cases og with
 |none=>cases h
 |some b=>have h:b=false:=h;subst h;rfl
theorem cM(h:aS xr g args=some (og,as,ps)):wy xr g og∧(OB ps→og.getD true=true→aL (den xr) args=as):=by
 obtain⟨b,h,hc,_⟩:=GN h
 obtain⟨bE,h,_,h3⟩:=iT h
 split at h
 ·rename_i as' e
  cases h
  refine⟨hc,fun hp hg=> ?_⟩
  rw[← lP args (h3 hp.all hg)]
  exact MX e
 grind
theorem Va(hx:toXO rg=some xr)(h:VX P cfg l (Q .normal) (fun ch σ'=>Q (.panic ch) [] σ') xr σ):WA P N cfg (.aQ l) Q rg σ:=
 ⟨rfl,T3 cfg (by have:=h.h;rwa [← yv hx,w7]at this)⟩
theorem U9{ld:List CD}(hx:toXO rg=some xr)(h:VY P cfg al ld (Cl (Q .normal)) xr σ):WA P N cfg (.eA al ld) Q rg σ:=
 ⟨rfl,T2 cfg (by have:=h.h;rwa [← yv hx,w7]at this)⟩
theorem U5(hx:toXO rg=some xr)(h:VY P cfg [] (bare l) (Cl (Q .normal)) xr σ):WA P N cfg (.c8 l) Q rg σ:=
 ⟨rfl,Ly cfg (by have:=h.h;rwa [← yv hx,w7]at this)⟩
theorem Ut(h:K (den xr) σ):VX P cfg [] K E xr σ:=⟨h⟩
theorem Uw(_h0:yt cfg c.op=false)(h:Bb cfg (c::l) xr σ []=some (ps,cL,σ',rest))(hp:OB ps)(k:VX P cfg rest K E cL σ'):VX P cfg (c::l) K E xr σ:=
 ⟨(R2 h).2 hp.all k.h⟩
theorem Ug(h:vY cfg (fun _ _=>true) c xr σ [] (fun ps xr σ=>some (ps,xr,σ))=some (ps,cL,σ'))(hp:OB ps)(k:VX P cfg l K E cL σ'):VX P cfg (c::l) K E xr σ:=by
 constructor
 obtain⟨Ee,Le,aP,b,h,h2,hc,h3⟩:=ED h
 cases h
 obtain⟨s1,s2⟩:=h3 hp.all
 refine hc _ _ (fun hg=> ?_) (fun hg=> ?_)
 ·obtain⟨v,ho,hd⟩:=s1 hg
  exact Q4 ho (by rw[← hd];exact k.h)
 ·obtain⟨e,hd⟩:=s2 hg
  rw[← hd,← e];exact k.h
theorem RX{α:Type}[Inhabited α]{f:α→List AV}{ls:List α}{n:Int}(h:0≤n∧n<ls.length):(ls.map f).getD n.toNat []=f (ls.getD n.toNat default):=by
 grind
theorem jD(hc:wy xr g og)(h1:og.getD true=true→aj P cfg (some d) (den xr) σ (fun x σ'=>fh P cfg l K E ((d,x)::den xr) σ') E op)(h2:og.getD true=false→fh P cfg l K E ((d,.v undef)::den xr) σ):VX P cfg (⟨some d,op,g⟩::l) K E xr σ:=by
 constructor
 exact hc _ _ h1 h2
theorem Ub{f:FuncId}{r:AV}(h:aS xr g args=some (og,as,ps))(hp:og.getD true=true→Pure P f as r)(hps:OB ps)(k:VX P cfg l K E (bH og d r xr) σ):VX P cfg (⟨some d,.call f args,g⟩::l) K E xr σ:=by
 obtain⟨hc,he⟩:=cM h
 refine jD hc (fun hg=> ?_) (fun hg=> ?_)
 ·simp only[aj,he hps hg]
  refine wS (hp hg) ?_
  rw[← fx hg];exact k.h
 ·rw[← fw hg (v:=r)];exact k.h
theorem wK{f:FuncId}{r fv:AV}{fo:Operand}{a c:Array Value}(h:aS xr g (fo::args)=some (og,fv::as,ps))(hf:zx fv=some (f,a,c))(bC:gR P f=true)(hp:og.getD true=true→Pure P f (a.toList.map .v++as++c.toList.map .v) r)(hps:OB ps)(k:VX P cfg l K E (bH og d r xr) σ):
  VX P cfg (⟨some d,.fD fo args,g⟩::l) K E xr σ:=by
 obtain⟨hc,he⟩:=cM h
 refine jD hc (fun hg=> ?_) (fun hg=> ?_)
 ·have:=he hps hg
  simp only[aL,Z2]at this
  simp only[aj,this.1,this.2,GJ hf]
  refine⟨bC,wS (hp hg) ?_⟩
  rw[← fx hg];exact k.h
 ·rw[← fw hg (v:=r)];exact k.h
theorem yW{f:FuncId}{R:gP→Store→Prop}(h:aS xr none args=some (og,as,ps))(hp:Spec P f as σ R)(hps:OB ps)(k:∀ x σ',R (.ret x) σ'→VX P cfg l K E ((d,.s x)::xr) σ')(e:∀ ch σ',R (.jW ch) σ'→E ch σ'):
  VX P cfg (⟨some d,.call f args,none⟩::l) K E xr σ:=by
 obtain⟨hc,he⟩:=cM h
 obtain⟨bE,h',_,_⟩:=iT h
 have dy:og=none:=by grind
 subst dy
 refine jD hc (fun hg=> ?_) (fun hg=>nomatch hg)
 simp only[aj,he hps hg]
 exact⟨R,hp,fun x σ' hr=>(k x σ' hr).h,e⟩
theorem Um{α:Type}{f:α→List AV}{ls:List α}{e:Nat}{x:Operand}(h:aS xr g [x]=some (og,[v],ps))(hx:lr v=some (e,ls.map f))(hps:OB ps)(k:(og.getD true=true→ls.length≤maxLen)→VX P cfg l K E (bH og d (.v (.int .i64 ls.length)) xr) σ):
  VX P cfg (⟨some d,.len false x,g⟩::l) K E xr σ:=by
 obtain⟨hc,he⟩:=cM h
 refine jD hc (fun hg=> ?_) (fun hg=> ?_)
 ·have:=he hps hg
  simp only[aL,Z2,Zn]at this
  rcases yi hx with⟨nn,e2⟩|⟨t,b,u,c,e2⟩<;>simp only[aj,this,e2,ZW]<;>(intro hl;rw[← fx hg];exact(k fun _=>hl).h)
 ·rw[← fw hg (v:= .v (.int .i64 ls.length))];exact(k fun uT=>by grind).h
theorem Un{rows:List (List AV)}{e:Nat}{x:Operand}(h:aS xr g [x]=some (og,[v],ps))(hx:lr v=some (e,rows))(hps:OB ps)(k:(og.getD true=true→rows.length≤maxLen)→VX P cfg l K E (bH og d (.v (.int .i64 rows.length)) xr) σ):
  VX P cfg (⟨some d,.len false x,g⟩::l) K E xr σ:=by
 obtain⟨hc,he⟩:=cM h
 refine jD hc (fun hg=> ?_) (fun hg=> ?_)
 ·have:=he hps hg
  simp only[aL,Z2,Zn]at this
  rcases yi hx with⟨nn,e2⟩|⟨t,b,u,c,e2⟩<;>simp only[aj,this,e2]<;>(intro hl;rw[← fx hg];exact(k fun _=>hl).h)
 ·rw[← fw hg (v:= .v (.int .i64 rows.length))];exact(k fun uT=>by rw[hg]at uT;cases uT).h
theorem Uj{α:Type}[Inhabited α]{f:α→List AV}{ls:List α}{e:Nat}{x i:Operand}{iv:AV}{n:Int}(h:aS xr g [x,i]=some (og,[v,iv],ps))(hi:iz iv=some n)(hx:lr v=some (e,ls.map f))(hps:OB ps)
  (k:VX P cfg l K E (bH og d (.pc (f (ls.getD n.toNat default))) xr) σ) (hb:og.getD true=true→0≤n∧n<ls.length):
  VX P cfg (⟨some d,.fe e x i,g⟩::l) K E xr σ:=by
 obtain⟨hc,he⟩:=cM h
 refine jD hc (fun hg=> ?_) (fun hg=> ?_)
 ·have:=he hps hg
  simp only[aL,Z2,Zn]at this
  obtain⟨q,hq⟩:=qI hi
  have hb:=hb hg
  have Io:=RX (f:=f) hb
  rcases yi hx with⟨nn,e2⟩|⟨t,b,u,c,e2⟩<;>simp only[aj,this.1,this.2,e2,hq,ZW,Io]<;>(rw[← fx hg];exact⟨trivial,hb.1,hb.2,k.h⟩)
 ·rw[← fw hg (v:= .pc (f (ls.getD n.toNat default)))];exact k.h
theorem T6{t:TypeId}{z:Value}{cs:List AV}(h:j8 (z.cells.toList.map .v) some=some cs)(k:∀ b,VX P cfg l K E ((d,.s (.lp d b 0))::xr) ((d,b,.cells cs)::σ)):VX P cfg (⟨some d,.alloc t z,none⟩::l) K E xr σ:=by
 constructor
 have h:=jJ h
 cases h
 exact fun b=>(k b).h
theorem Ua{t:TypeId}{x:Operand}{cs:List AV}(h:aS xr none [x]=some (og,[v],ps))(hc:wU v=some cs)(hps:OB ps)(k:∀ b,VX P cfg l K E ((d,.s (.lp d b 0))::xr) ((d,b,.cells cs)::σ)):VX P cfg (⟨some d,.box t x,none⟩::l) K E xr σ:=by
 obtain⟨_,he⟩:=cM h
 obtain⟨bE,h',_,_⟩:=iT h
 have dy:og=none:=by grind
 subst dy
 have:=he hps rfl
 simp only[aL,Z2,Zn]at this
 constructor
 simp only[fh,cK,aj,this,Mr hc];exact fun b=>(k b).h
theorem Uq{t:TypeId}{ah:Nat}(hc:cfg d=1)(he:0<ah)(k:∀ b,VX P cfg l K E ((d,.s (.own ah d b 0 0 []))::xr) ((d,b,.tail 0 0)::σ)):VX P cfg (⟨some d,.dF t ah [],none⟩::l) K E xr σ:=by
 constructor
 simp only[fh,cK,aj,aL,rowsOf,Zp,hc,ZA,Nat.zero_mul]
 exact⟨ZM _,he,fun b=>(k b).h⟩
theorem T9{t:TypeId}{ah bytes:Nat}{z:List Value}{x y:Operand}{w:AV}{rows:List (List AV)}(h:aS xr none [x,y]=some (og,[.v (.slice none 0 0),w],ps))(hw:dG ah w=some rows)(hps:OB ps)(hn:rows≠[])(hb:rows.length * bytes≤35184372088832)
  (k:∀ b u c,VX P cfg l K E ((d,.s (.own ah d b u c rows))::xr) ((d,b,.tail u c)::σ)):VX P cfg (⟨some d,.append t ah bytes z x y,none⟩::l) K E xr σ:=by
 obtain⟨_,he⟩:=cM h
 obtain⟨bE,h',_,_⟩:=iT h
 have dy:og=none:=by grind
 subst dy
 have:=he hps rfl
 simp only[aL,Z2,Zn]at this
 constructor
 simp only[fh,cK,aj,this.1,this.2,hw]
 exact⟨hb,fun e=>absurd e hn,fun _ b u c _=>(k b u c).h⟩
theorem T8{t:TypeId}{ah bytes tg b u c:Nat}{z:List Value}{x y:Operand}{w:AV}{rows rows':List (List AV)}(h:aS xr none [x,y]=some (og,[.own ah tg b u c rows,w],ps))(hw:dG ah w=some rows')(hl:aV σ tg=some (b,.tail u c))(hps:OB ps)
  (hb:(rows.length+rows'.length) * bytes≤35184372088832) (h1:rows'.all (fun r=>r.all AV.one)=true)
  (k:∀ b' u' c',VX P cfg l K E ((d,.s (.own ah tg b' u' c' (rows++rows')))::xr) (du σ tg b' (.tail u' c'))):VX P cfg (⟨some d,.append t ah bytes z x y,none⟩::l) K E xr σ:=by
 obtain⟨_,he⟩:=cM h
 obtain⟨bE,h',_,_⟩:=iT h
 have dy:og=none:=by grind
 subst dy
 have:=he hps rfl
 simp only[aL,Z2,Zn]at this
 constructor
 simp only[fh,cK,aj,this.1,this.2,hw]
 exact⟨trivial,hl,hb,h1,fun b' u' c' _=>(k b' u' c').h⟩
theorem LN{t:TypeId}{ah bytes:Nat}{z:List Value}{x y:Operand}{w:AV}{rows rows':List (List AV)}(h:aS xr none [x,y]=some (og,[.fl ah rows,w],ps))(hw:dG ah w=some rows')(hps:OB ps)
  (hb:(rows.length+rows'.length) * bytes≤35184372088832) (k0:rows'=[]→VX P cfg l K E ((d,.s (.fl ah rows))::xr) σ)
  (k:rows'≠[]→∀ b u c,VX P cfg l K E ((d,.s (.own ah d b u c (rows++rows')))::xr) ((d,b,.tail u c)::σ)):VX P cfg (⟨some d,.append t ah bytes z x y,none⟩::l) K E xr σ:=by
 obtain⟨_,he⟩:=cM h
 obtain⟨bE,h',_,_⟩:=iT h
 have dy:og=none:=by grind
 subst dy
 have:=he hps rfl
 simp only[aL,Z2,Zn]at this
 constructor
 simp only[fh,cK,aj,this.1,this.2,hw]
 exact⟨trivial,hb,fun e=>(k0 e).h,fun e b u c=>(k e b u c).h⟩
theorem U0(h:K (den xr) σ):VY P cfg al [] (Cl K) xr σ:=⟨Cl.intro h⟩
theorem U1(_h0:yt cfg cd.c.op=false)(h:runM cfg al (cd::ld) xr σ []=some (ps,cL,σ',A9))(hp:OB ps)(k:VY P cfg al A9 K cL σ'):VY P cfg al (cd::ld) K xr σ:=
 ⟨(R3 h).2 hp.all k.h⟩
theorem UP(h:vY cfg (oI al cd.cf) cd.c xr σ [] (fun ps xr σ=>some (ps,xr,σ))=some (ps,cL,σ'))(hp:OB ps)(k:VY P cfg al ld K cL σ'):VY P cfg al (cd::ld) K xr σ:=by
 constructor
 obtain⟨Ee,Le,aP,b,h,h2,hc,h3⟩:=ED h
 cases h
 obtain⟨s1,s2⟩:=h3 hp.all
 refine hc _ _ (fun hg=> ?_) (fun hg=> ?_)
 ·obtain⟨v,ho,hd⟩:=s1 hg
  exact Q5 ho (by rw[← hd];exact k.h)
 ·obtain⟨e,hd⟩:=s2 hg
  rw[← hd,← e];exact k.h
theorem oV(hc:wy xr g og)(h1:og.getD true=true→cy P cfg al cf (some d) (den xr) σ (fun x σ'=>cZ P cfg al ld K ((d,x)::den xr) σ') op)(h2:og.getD true=false→cZ P cfg al ld K ((d,.v undef)::den xr) σ):VY P cfg al (⟨ix,⟨some d,op,g⟩,cf⟩::ld) K xr σ:=by
 constructor
 exact hc _ _ h1 h2
theorem UJ{f:FuncId}{r:AV}(h:aS xr g args=some (og,as,ps))(hp:og.getD true=true→Pure P f as r)(hps:OB ps)(k:VY P cfg al ld K (bH og d r xr) σ):VY P cfg al (⟨ix,⟨some d,.call f args,g⟩,cf⟩::ld) K xr σ:=by
 obtain⟨hc,he⟩:=cM h
 refine oV hc (fun hg=> ?_) (fun hg=> ?_)
 ·simp only[cy,ax.cls,aK,he hps hg]
  refine⟨r,hp hg,?_⟩
  have:=k.h;rw[fx hg]at this;grind
 ·rw[← fw hg (v:=r)];exact k.h
theorem UK{f:FuncId}{r fv:AV}{fo:Operand}{a c:Array Value}(h:aS xr g (fo::args)=some (og,fv::as,ps))(hf:zx fv=some (f,a,c))(bC:gR P f=true)(hp:og.getD true=true→Pure P f (a.toList.map .v++as++c.toList.map .v) r)(hps:OB ps)(k:VY P cfg al ld K (bH og d r xr) σ):
  VY P cfg al (⟨ix,⟨some d,.fD fo args,g⟩,cf⟩::ld) K xr σ:=by
 obtain⟨hc,he⟩:=cM h
 refine oV hc (fun hg=> ?_) (fun hg=> ?_)
 ·have:=he hps hg
  simp only[aL,Z2]at this
  simp only[cy,ax.cls,aK,this.1,this.2,GJ hf]
  refine⟨bC,r,hp hg,?_⟩
  have:=k.h;rw[fx hg]at this;grind
 ·rw[← fw hg (v:=r)];exact k.h
theorem UW{α:Type}{f:α→List AV}{ls:List α}{e:Nat}{x:Operand}(h:aS xr g [x]=some (og,[v],ps))(hx:lr v=some (e,ls.map f))(hps:OB ps)(k:VY P cfg al ld K (bH og d (.v (.int .i64 ls.length)) xr) σ):
  VY P cfg al (⟨ix,⟨some d,.len false x,g⟩,cf⟩::ld) K xr σ:=by
 obtain⟨hc,he⟩:=cM h
 refine oV hc (fun hg=> ?_) (fun hg=> ?_)
 ·have:=he hps hg
  simp only[aL,Z2,Zn]at this
  rcases yi hx with⟨nn,e2⟩|⟨t,b,u,c,e2⟩<;>simp only[cy,ax.cls,aK,this,e2,ZW]<;>(rw[← fx hg];exact k.h)
 ·rw[← fw hg (v:= .v (.int .i64 ls.length))];exact k.h
theorem UX{rows:List (List AV)}{e:Nat}{x:Operand}(h:aS xr g [x]=some (og,[v],ps))(hx:lr v=some (e,rows))(hps:OB ps)(k:VY P cfg al ld K (bH og d (.v (.int .i64 rows.length)) xr) σ):
  VY P cfg al (⟨ix,⟨some d,.len false x,g⟩,cf⟩::ld) K xr σ:=by
 obtain⟨hc,he⟩:=cM h
 refine oV hc (fun hg=> ?_) (fun hg=> ?_)
 ·have:=he hps hg
  simp only[aL,Z2,Zn]at this
  rcases yi hx with⟨nn,e2⟩|⟨t,b,u,c,e2⟩<;>simp only[cy,ax.cls,aK,this,e2]<;>(rw[← fx hg];exact k.h)
 ·rw[← fw hg (v:= .v (.int .i64 rows.length))];exact k.h
theorem UT{α:Type}[Inhabited α]{f:α→List AV}{ls:List α}{e:Nat}{x i:Operand}{iv:AV}{n:Int}(h:aS xr g [x,i]=some (og,[v,iv],ps))(hi:iz iv=some n)(hx:lr v=some (e,ls.map f))(hps:OB ps)
  (k:VY P cfg al ld K (bH og d (.pc (f (ls.getD n.toNat default))) xr) σ) (hb:og.getD true=true→0≤n∧n<ls.length):
  VY P cfg al (⟨ix,⟨some d,.fe e x i,g⟩,cf⟩::ld) K xr σ:=by
 obtain⟨hc,he⟩:=cM h
 refine oV hc (fun hg=> ?_) (fun hg=> ?_)
 ·have:=he hps hg
  simp only[aL,Z2,Zn]at this
  obtain⟨q,hq⟩:=qI hi
  have hb:=hb hg
  have Io:=RX (f:=f) hb
  rcases yi hx with⟨nn,e2⟩|⟨t,b,u,c,e2⟩<;>simp only[cy,ax.cls,aK,aj,this.1,this.2,e2,hq,ZW,Io]<;>(rw[← fx hg];exact⟨trivial,hb.1,hb.2,k.h⟩)
 ·rw[← fw hg (v:= .pc (f (ls.getD n.toNat default)))];exact k.h
theorem UC{t:TypeId}{z:Value}{cs:List AV}(h:j8 (z.cells.toList.map .v) some=some cs)(k:∀ b,VY P cfg al ld K ((d,.s (.lp d b 0))::xr) ((d,b,.cells cs)::σ)):VY P cfg al (⟨ix,⟨some d,.alloc t z,none⟩,cf⟩::ld) K xr σ:=by
 constructor
 have h:=jJ h
 cases h
 exact fun b=>(k b).h
theorem UG{t:TypeId}{ah bytes:Nat}{z:List Value}{x y:Operand}{w:AV}{rows:List (List AV)}(h:aS xr none [x,y]=some (og,[.v (.slice none 0 0),w],ps))(hw:dG ah w=some rows)(hl:al.elem d=true)(hps:OB ps)(hn:rows≠[])(hb:rows.length * bytes≤35184372088832)
  (k:∀ b u c,VY P cfg al ld K ((d,.s (.own ah d b u c rows))::xr) ((d,b,.tail u c)::σ)):VY P cfg al (⟨ix,⟨some d,.append t ah bytes z x y,none⟩,cf⟩::ld) K xr σ:=by
 obtain⟨_,he⟩:=cM h
 obtain⟨bE,h',_,_⟩:=iT h
 have dy:og=none:=by grind
 subst dy
 have:=he hps rfl
 simp only[aL,Z2,Zn]at this
 constructor
 simp only[cZ,cY,cy,ax.cls,aj,this.1,this.2,hw,isApp,Zp,hl]
 exact⟨rfl,hb,fun e=>absurd e hn,fun _ b u c _=>(k b u c).h⟩
theorem UF{t:TypeId}{ah bytes tg b u c:Nat}{z:List Value}{x y:Operand}{w:AV}{rows rows':List (List AV)}(h:aS xr none [x,y]=some (og,[.own ah tg b u c rows,w],ps))(hw:dG ah w=some rows')(hl:aV σ tg=some (b,.tail u c))(ha:al.elem d=true)(hps:OB ps)
  (hb:(rows.length+rows'.length) * bytes≤35184372088832) (h1:rows'.all (fun r=>r.all AV.one)=true)
  (k:∀ b' u' c',VY P cfg al ld K ((d,.s (.own ah tg b' u' c' (rows++rows')))::xr) (du σ tg b' (.tail u' c'))):VY P cfg al (⟨ix,⟨some d,.append t ah bytes z x y,none⟩,cf⟩::ld) K xr σ:=by
 obtain⟨_,he⟩:=cM h
 obtain⟨bE,h',_,_⟩:=iT h
 have dy:og=none:=by grind
 subst dy
 have:=he hps rfl
 simp only[aL,Z2,Zn]at this
 constructor
 simp only[cZ,cY,cy,ax.cls,aj,this.1,this.2,hw,isApp,Zp,ha]
 exact⟨rfl,trivial,hl,hb,h1,fun b' u' c' _=>(k b' u' c').h⟩
theorem LR{t:TypeId}{ah bytes:Nat}{z:List Value}{x y:Operand}{w:AV}{rows rows':List (List AV)}(h:aS xr none [x,y]=some (og,[.fl ah rows,w],ps))(hw:dG ah w=some rows')(ha:al.elem d=true)(hps:OB ps)
  (hb:(rows.length+rows'.length) * bytes≤35184372088832) (k0:rows'=[]→VY P cfg al ld K ((d,.s (.fl ah rows))::xr) σ)
  (k:rows'≠[]→∀ b u c,VY P cfg al ld K ((d,.s (.own ah d b u c (rows++rows')))::xr) ((d,b,.tail u c)::σ)):VY P cfg al (⟨ix,⟨some d,.append t ah bytes z x y,none⟩,cf⟩::ld) K xr σ:=by
 obtain⟨_,he⟩:=cM h
 obtain⟨bE,h',_,_⟩:=iT h
 have dy:og=none:=by grind
 subst dy
 have:=he hps rfl
 simp only[aL,Z2,Zn]at this
 constructor
 simp only[cZ,cY,cy,ax.cls,aj,this.1,this.2,hw,isApp,Zp,ha]
 exact⟨rfl,trivial,hb,fun e=>(k0 e).h,fun e b u c=>(k e b u c).h⟩
theorem UH{t:TypeId}{x:Operand}{cs:List AV}(h:aS xr none [x]=some (og,[v],ps))(hc:wU v=some cs)(hps:OB ps)(k:∀ b,VY P cfg al ld K ((d,.s (.lp d b 0))::xr) ((d,b,.cells cs)::σ)):VY P cfg al (⟨ix,⟨some d,.box t x,none⟩,cf⟩::ld) K xr σ:=by
 obtain⟨_,he⟩:=cM h
 obtain⟨bE,h',_,_⟩:=iT h
 have dy:og=none:=by grind
 subst dy
 have:=he hps rfl
 simp only[aL,Z2,Zn]at this
 constructor
 simp only[cZ,cY,cy,ax.cls,aj,this,Mr hc];exact fun b=>(k b).h
end
def tG(x:AV):Option (Bool×Nat×List (List AV)):=match x with
 | .sl nn e rows=>some (nn,e,rows)
 |_=>none
theorem Kq{x:AV}{nn:Bool}{e:Nat}{rows:List (List AV)}(h:tG x=some (nn,e,rows)):x= .sl nn e rows:=by
 unfold tG at h
 split at h
 ·cases h;rfl
 ·cases h
section
variable {P:Program}[Glob P]{cfg:Nat→Nat}{K:ag→Store→Prop}{E:List PanicEntry→Store→Prop}{σ:Store}{l:List CI}{d:Nat}{v:AV}{xr:XR}{ps:List Prop}{g:Option (Nat×Bool)}{og:Option Bool}
theorem Uy{α:Type}{f:α→List AV}{ls:List α}{e:Nat}{nn:Bool}{x y:Operand}{hv:AV}{h:Int}(ha:aS xr g [x,y]=some (og,[v,hv],ps))(hi:iz hv=some h)(hx:tG v=some (nn,e,ls.map f))(hps:OB ps)
  (hb:og.getD true=true→0≤h∧h≤ls.length) (k:VX P cfg l K E (bH og d (.sl nn e ((ls.take h.toNat).map f)) xr) σ):VX P cfg (⟨some d,.slice e x none (some y),g⟩::l) K E xr σ:=by
 obtain⟨hc,he⟩:=cM ha
 refine jD hc (fun hg=> ?_) (fun hg=> ?_)
 ·have:=he hps hg
  simp only[aL,Z2,Zn]at this
  obtain⟨q,hq⟩:=qI hi
  simp only[aj,Option.map_none,ZJ,this.1,this.2,iy,hq,Kq hx,XA,Zp,ZW]
  have:=k.h
  rw[fx hg]at this
  simp_all
 ·rw[← fw hg (v:= .sl nn e ((ls.take h.toNat).map f))];exact k.h
theorem Uz{α:Type}{f:α→List AV}{ls:List α}{e:Nat}{nn:Bool}{x y:Operand}{hv:AV}{h:Int}(ha:aS xr g [x,y]=some (og,[v,hv],ps))(hi:iz hv=some h)(hx:tG v=some (nn,e,ls.map f))(hps:OB ps)
  (hb:og.getD true=true→0≤h∧h≤ls.length) (k:VX P cfg l K E (bH og d (.sl nn e ((ls.drop h.toNat).map f)) xr) σ):VX P cfg (⟨some d,.slice e x (some y) none,g⟩::l) K E xr σ:=by
 obtain⟨hc,he⟩:=cM ha
 refine jD hc (fun hg=> ?_) (fun hg=> ?_)
 ·have:=he hps hg
  simp only[aL,Z2,Zn]at this
  obtain⟨q,hq⟩:=qI hi
  simp only[aj,Option.map_none,ZJ,this.1,this.2,iy,hq,Kq hx,XA,Zp,ZW]
  have:=k.h
  rw[fx hg]at this
  rw[XI,Zq (by simp),← Xx]
  grind
 ·rw[← fw hg (v:= .sl nn e ((ls.drop h.toNat).map f))];exact k.h
theorem Ux{α:Type}{f:α→List AV}{ls:List α}{e:Nat}{nn:Bool}{x y z:Operand}{lv hv:AV}{lo h:Int}(ha:aS xr g [x,y,z]=some (og,[v,lv,hv],ps))(hl:iz lv=some lo)(hi:iz hv=some h)(hx:tG v=some (nn,e,ls.map f))(hps:OB ps)
  (hb:og.getD true=true→0≤lo∧lo≤h∧h≤ls.length) (k:VX P cfg l K E (bH og d (.sl nn e (((ls.take h.toNat).drop lo.toNat).map f)) xr) σ):VX P cfg (⟨some d,.slice e x (some y) (some z),g⟩::l) K E xr σ:=by
 obtain⟨hc,he⟩:=cM ha
 refine jD hc (fun hg=> ?_) (fun hg=> ?_)
 ·have:=he hps hg
  simp only[aL,Z2,Zn]at this
  obtain⟨q,hq⟩:=qI hi
  obtain⟨q2,qE⟩:=qI hl
  simp only[aj,ZJ,this.1,this.2.1,this.2.2,iy,hq,qE,Kq hx,Zp,ZW]
  have:=k.h
  rw[fx hg]at this
  simp_all
 ·rw[← fw hg (v:= .sl nn e (((ls.take h.toNat).drop lo.toNat).map f))];exact k.h
end
inductive gi:ag→ag→Prop
 |nil:gi [] []
 |cons {i:Nat} {x y:AV} {r r':ag} (h:Wk x y) (t:gi r r'):gi ((i,x)::r) ((i,y)::r')
theorem gi.lk{r r':ag}(h:gi r r')(j:Nat):Wk (Sx.lk r j) (Sx.lk r' j):=by
 induction h with
 |nil=>exact Wk.refl _
 |cons h _ ih=>
  simp only[Sx.lk]
  grind
theorem gi.refl:∀ r:ag,gi r r
 |[]=> .nil
 |(_,_)::r=> .cons (Wk.refl _) (gi.refl r)
theorem Wk.tag{ez t t' b u c:Nat}{rows:List (List AV)}:Wk (.own ez t b u c rows) (.own ez t' b u c rows):=fun _ _ h=>by
 obtain⟨off,cap,cs,rfl,hr,h4,h5,h6,h8⟩:=h.pP
 exact R.qN hr h4 h5 h6 h8
theorem Wk.afw{ez t b u c:Nat}{rows rows':List (List AV)}{nn:Bool}(h:rows=rows'):Wk (.own ez t b u c rows) (.sl nn ez rows'):=h ▸ Wk.own nn
theorem SW.wk{P:Program}[Glob P]{N:Nat}{s:SC}{Q:Exit→ag→Store→Prop}{rg ak:ag}{σ σ':Store}(h:SW P N s Q ak σ')(hr:gi rg ak)(hs:Sub σ' σ):SW P N s Q rg σ:=
 fun c hc M w0 a w hI hR hN hD=>h c hc M w0 a w (hI.sub hs) (fun i=>hr.lk i _ _ (hR i)) hN hD
def tZ(I:Nat→ag→Store→Prop)(n:Nat)(ks:List Nat)(rg:ag)(σ:Store):Prop:=∃ bu,kP ks rg=some bu∧∃ n',n'<n∧∃ ak σ',gi bu ak∧Sub σ' σ∧I n' ak σ'
theorem tZ.intro{I:Nat→ag→Store→Prop}{n:Nat}{ks:List Nat}{rg bu:ag}{σ:Store}(hk:kP ks rg=some bu)(h:∃ n',n'<n∧∃ ak σ',gi bu ak∧Sub σ' σ∧I n' ak σ'):tZ I n ks rg σ:=⟨bu,hk,h⟩
theorem U8{P:Program}[Glob P]{N:Nat}{cfg:Nat→Nat}{Q:Exit→ag→Store→Prop}{rg ej:ag}{σ:Store}{ks:List Nat}{b:AC}(I:Nat→ag→Store→Prop)(n:Nat)(hk:kP ks rg=some ej)(h0:∃ ak σ',gi ej ak∧Sub σ' σ∧I n ak σ')
  (h:∀ n rg σ,I n rg σ→WA P N cfg b (pV (tZ I n ks) Q) rg σ):WA P N cfg (.loop (.az ks b)) Q rg σ:=by
 refine U7 (fun n rg σ=>∃ bu,kP ks rg=some bu∧∃ ak σ',gi bu ak∧Sub σ' σ∧I n ak σ') n ⟨ej,hk,h0⟩ fun n rg σ ⟨bu,hf,ak,σ',hw,hs,hi⟩=>LS hf ⟨rfl,SW.wk ((h n ak σ' hi).mono fun e bI aJ he=> ?_).h hw hs⟩
 cases e with
 |normal=>obtain⟨eF,h1,n',h2,h3⟩:=he;exact⟨n',h2,eF,h1,h3⟩
 |_=>exact he
theorem Ve{P:Program}[Glob P]{N:Nat}{cfg:Nat→Nat}{Q:Exit→ag→Store→Prop}{rg ak:ag}{σ σ':Store}{a:AC}(h:WA P N cfg a Q ak σ')(hr:gi rg ak)(hs:Sub σ' σ):WA P N cfg a Q rg σ:=⟨rfl,SW.wk h.h hr hs⟩
section
variable {α:Type}
def J2(rg:ag)(σ:Store)(r:RC)(ps:List Prop)(k:List Prop→AV→Option α):Option α:=match r with
 | .tmp t=>fo (lk rg t) fun x=>k ps x
 | .cell t g n=>match lk rg t with
  | .lp tg b o=>match aV σ tg with
   |some (b',.cells l)=>match g with
    |true=>bif Nat.ble (o+n) l.length then j8 ((l.drop o).take n) (fun l2=>k ((b=b')::ps) (.agg l2))else none
    |false=>match l[o]? with
     |some y=>fo y fun x=>k ((b=b')::ps) x
     |none=>none
   |_=>none
  |_=>none
def J4(rg:ag)(σ:Store):List RC→List Prop→(List Prop→List AV→Option α)→Option α
 |[],ps,k=>k ps []
 |r::l,ps,k=>J2 rg σ r ps fun ps x=>J4 rg σ l ps fun ps xs=>k ps (x::xs)
theorem agc{rg:ag}{σ:Store}{rc:RC}{ps:List Prop}{k:List Prop→AV→Option α}{r:α}(h:J2 rg σ rc ps k=some r):
  ∃ bE x,k bE x=some r∧(∀ p∈ps,p∈bE)∧((∀ p∈bE,p)→nu rg σ rc=some x):=by
 unfold J2 at h
 split at h
 ·exact⟨_,_,iN h,fun _ h=>h,fun _=>rfl⟩
 ·split at h
  ·rename_i e1
   split at h
   ·rename_i e2
    split at h
    ·obtain⟨h1,h⟩:=sZ h
     refine⟨_,_,jJ h,fun p hp=>ZL _ hp,fun ha=> ?_⟩
     have hb:=ha _ (ZD ..)
     simp only[nu,e1,e2,hb,YX,ZF h1]
    ·split at h
     ·rename_i e3
      refine⟨_,_,iN h,fun p hp=>ZL _ hp,fun ha=> ?_⟩
      have hb:=ha _ (ZD ..)
      simp only[nu,e1,e2,hb,YX,ZU,YV,e3]
     grind
   grind
  grind
theorem RV{rg:ag}{σ:Store}:∀ {l:List RC} {ps:List Prop} {k:List Prop→List AV→Option α} {r:α},J4 rg σ l ps k=some r→
  ∃ bE xs,k bE xs=some r∧(∀ p∈ps,p∈bE)∧((∀ p∈bE,p)→mw rg σ l=some xs)
 |[],ps,k,r,h=>⟨ps,[],h,fun _ h=>h,fun _=>rfl⟩
 |rc::l,ps,k,r,h=>by
  obtain⟨Ee,x,h,h1,h2⟩:=agc h
  obtain⟨ps2,xs,h,h3,h4⟩:=RV h
  refine⟨ps2,_,h,fun p hp=>h3 p (h1 p hp),fun ha=> ?_⟩
  simp only[mw,h2 fun p hp=>ha p (h3 p hp),h4 ha,ZJ]
end
def SF(ps:List Prop)(xs:List AV):Option (List Prop×AV):=match xs with
 |[x]=>some (ps,x)
 |xs=>some (ps,.bo xs)
def qW(rg:ag)(σ:Store)(l:List RC):Option (List Prop×AV):=J4 rg σ l [] SF
theorem Ek{rg:ag}{σ:Store}{l:List RC}{ps:List Prop}{x:AV}(h:qW rg σ l=some (ps,x))(hp:OB ps):cS rg σ l=some x:=by
 obtain⟨bE,xs,h,_,h2⟩:=RV h
 unfold SF at h
 unfold cS
 split at h
 ·cases h;rw[h2 hp.all]
 ·cases h
  rw[h2 hp.all]
  split
  ·grind
  ·grind
  grind
theorem agf{rg:ag}{σ:Store}{v:AV}{ps:List Prop}{res:List RC}{R:gP→Store→Prop}(e:qW rg σ res=some (ps,v))(hp:OB ps)(h:R (.ret v) σ):lq res R .normal rg σ:=⟨v,Ek e hp,h⟩
theorem agh{rg:ag}{σ:Store}{v:AV}{ps:List Prop}{res:List RC}{R:gP→Store→Prop}(e:qW rg σ res=some (ps,v))(hp:OB ps)(h:R (.ret v) σ):lq res R .ret rg σ:=⟨v,Ek e hp,h⟩
theorem afO{rg:ag}{σ eV:Store}{v r:AV}{ps:List Prop}{res:List RC}(e:qW rg σ res=some (ps,v))(hp:OB ps)(h:Fin eV r v σ):mr res r eV .normal rg σ:=⟨v,Ek e hp,h.1,h.2⟩
theorem afP{rg:ag}{σ eV:Store}{v r:AV}{ps:List Prop}{res:List RC}(e:qW rg σ res=some (ps,v))(hp:OB ps)(h:Fin eV r v σ):mr res r eV .ret rg σ:=⟨v,Ek e hp,h.1,h.2⟩
theorem bd{p:Prop}[Decidable p]{b:Bool}(h:b=true↔p):AV.v (.bool b)=AV.v (.bool (decide p)):=by
 have:b=decide p:=by rw[YN,h];simp
 rw[this]
theorem dN{n:Int}(h: -9223372036854775808≤n∧n≤9223372036854775807):IntKind.i64.wrap n=n:=Go.IntWalk.i64_in n h
theorem cm{i n:Nat}(h:i<n)(hn:n≤maxLen):IntKind.i64.wrap ((i:Int)+1)=((i+1:Nat):Int):=by
 rw[dN]
 ·rfl
 ·unfold maxLen at hn;omega
theorem getD_eq{α:Type}[Inhabited α]{l:List α}{i:Nat}(h:i<l.length):l.getD i default=l[i]:=by simp[Z3,h]
theorem dp{α:Type}[Inhabited α]{l:List α}{i:Nat}(h:i<l.length):l.getD i default∈l:=by rw[getD_eq h];exact Zf h
theorem zq{α:Type}[Inhabited α]{l:List α}{i:Nat}(h:i<l.length):l.drop i=l.getD i default::l.drop (i+1):=by
 simp_all
theorem JW{i:Nat}(h:0<i)(hn:i≤maxLen):IntKind.i64.wrap ((i:Int)-1)=((i-1:Nat):Int):=by
 rw[dN (by unfold maxLen at hn;omega)];omega
inductive Fr where
 |seq (b:AC)
 |j4 (id:Nat)
 |fn (K:ag→Store→Prop)
def post(P:Program)[Glob P](N:Nat)(cfg:Nat→Nat)(Q:Exit→ag→Store→Prop):List Fr→Exit→ag→Store→Prop
 |[]=>Q
 | .seq b::k=>pV (fun rg σ=>WA P N cfg b (post P N cfg Q k) rg σ) (post P N cfg Q k)
 | .j4 id::k=>nL id (post P N cfg Q k)
 | .fn K::k=>pV K (post P N cfg Q k)
structure WK(P:Program)[Glob P](N:Nat)(cfg:Nat→Nat)(Q:Exit→ag→Store→Prop)(a:AC)(k:List Fr)(rg:ag)(σ:Store):Prop where
 h:WA P N cfg a (post P N cfg Q k) rg σ
structure FK(P:Program)[Glob P](N:Nat)(cfg:Nat→Nat)(Q:Exit→ag→Store→Prop)(e:Exit)(k:List Fr)(rg:ag)(σ:Store):Prop where
 h:post P N cfg Q k e rg σ
def yz:List Fr→Nat→Option (List Fr)
 |[],_=>none
 | .j4 id::k,i=>match Nat.beq i id with
  |true=>some k
  |false=>yz k i
 | .seq _::k,i=>yz k i
 | .fn _::k,i=>yz k i
section
variable {P:Program}[Glob P]{N:Nat}{cfg:Nat→Nat}{Q:Exit→ag→Store→Prop}{rg ak:ag}{σ σ':Store}{l:List CI}{a b:AC}{k k':List Fr}{xr:XR}{al:List Nat}{ld:List CD}{ks:List Nat}{id:Nat}
theorem Vp(h:WK P N cfg Q a (.seq b::k) rg σ):WK P N cfg Q (.seq a b) k rg σ:=⟨Vc h.h⟩
theorem Vf(h:WK P N cfg Q a (.j4 id::k) rg σ):WK P N cfg Q (.block id a) k rg σ:=⟨U3 h.h⟩
theorem Vl(hk:kP ks rg=some ak)(h:WK P N cfg Q a k ak σ):WK P N cfg Q (.az ks a) k rg σ:=⟨LS hk h.h⟩
theorem Vq(h:FK P N cfg Q .normal k rg σ):WK P N cfg Q .skip k rg σ:=⟨Vd h.h⟩
theorem Vo(h:Q .ret rg σ):WK P N cfg Q .ret k rg σ:=by
 refine⟨Vb ?_⟩
 induction k with
 |nil=>exact h
 |cons f k ih=>cases f<;>exact ih
theorem Vk(hu:yz k id=some k')(h:FK P N cfg Q .normal k' rg σ):WK P N cfg Q (.exit id) k rg σ:=by
 refine⟨U6 ?_⟩
 induction k with
 |nil=>cases hu
 |cons f k ih=>
  cases f with
  |seq b=>exact ih hu
  |fn K=>exact ih hu
  |j4 i=>
   simp only[yz]at hu
   split at hu
   ·rename_i e;cases hu;exact Wo e h.h
   ·rename_i e;exact Wn e (ih hu)
theorem Vg{x:Operand}{c:Bool}(hx:zb rg x=some c)(h1:c=true→WK P N cfg Q a k rg σ)(h2:c=false→WK P N cfg Q b k rg σ):WK P N cfg Q (.cond x a b) k rg σ:=
 ⟨U4 hx (fun e=>(h1 e).h) (fun e=>(h2 e).h)⟩
theorem Vn(hx:toXO rg=some xr)(h:VX P cfg l (FK P N cfg Q .normal k) (fun ch σ'=>FK P N cfg Q (.panic ch) k [] σ') xr σ):WK P N cfg Q (.aQ l) k rg σ:=
 ⟨(Va (Q:=fun e=>FK P N cfg Q e k) hx h).mono fun _ _ _ h=>h.h⟩
theorem Vm(hx:toXO rg=some xr)(h:VY P cfg al ld (Cl (FK P N cfg Q .normal k)) xr σ):WK P N cfg Q (.eA al ld) k rg σ:=
 ⟨(U9 (Q:=fun e=>FK P N cfg Q e k) hx h).mono fun _ _ _ h=>h.h⟩
theorem Vh(hx:toXO rg=some xr)(h:VY P cfg [] (bare l) (Cl (FK P N cfg Q .normal k)) xr σ):WK P N cfg Q (.c8 l) k rg σ:=
 ⟨(U5 (Q:=fun e=>FK P N cfg Q e k) hx h).mono fun _ _ _ h=>h.h⟩
theorem cr{ej:ag}(I:Nat→ag→Store→Prop)(n:Nat)(hk:kP ks rg=some ej)(h0:∃ ak σ',gi ej ak∧Sub σ' σ∧I n ak σ')
  (h:∀ n rg σ,I n rg σ→WK P N cfg Q b (.fn (tZ I n ks)::k) rg σ):WK P N cfg Q (.loop (.az ks b)) k rg σ:=
 ⟨U8 I n hk h0 fun n rg σ hi=>(h n rg σ hi).h⟩
theorem Vr(h:WK P N cfg Q a k ak σ')(hr:gi rg ak)(hs:Sub σ' σ):WK P N cfg Q a k rg σ:=⟨Ve h.h hr hs⟩
theorem TA(h:WK P N cfg Q b k rg σ):FK P N cfg Q .normal (.seq b::k) rg σ:=⟨h.h⟩
theorem Tw(h:FK P N cfg Q .normal k rg σ):FK P N cfg Q .normal (.j4 id::k) rg σ:=⟨h.h⟩
theorem Tx{K:ag→Store→Prop}(h:K rg σ):FK P N cfg Q .normal (.fn K::k) rg σ:=⟨h⟩
theorem Tz(h:Q .normal rg σ):FK P N cfg Q .normal [] rg σ:=⟨h⟩
def qJ:AC→Nat→Option AC
 | .seq a b,l=>match qJ a l with
  |some r=>some (.seq r b)
  |none=>qJ b l
 | .az _ a,l=>qJ a l
 | .stop a,l=>qJ a l
 | .label l',l=>if l' == l then some .skip else none
 |_,_=>none
theorem AP{l:Nat}:∀ (a:AC),mK a.erase l=(qJ a l).map AC.erase
 | .seq a b=>by
  have h1:=AP (l:=l) a
  have h2:=AP (l:=l) b
  simp only[AC.erase,mK,qJ,h1,h2]
  cases qJ a l<;>rfl
 | .az _ a=>AP (l:=l) a
 | .stop a=>AP (l:=l) a
 | .label l'=>by simp only[AC.erase,mK,qJ];split<;>rfl
 | .skip=>rfl
 | .aQ _=>rfl
 | .c8 _=>rfl
 | .eA _ _=>rfl
 | .cond _ _ _=>rfl
 | .block _ _=>rfl
 | .loop _=>rfl
 | .exit _=>rfl
 | .ret=>rfl
 | .scope _=>rfl
 | .goto _=>rfl
theorem Pure.Bf{P:Program}[Glob P][gO P]{f:FuncId}{fn:Func}{fc:FC}{as:List AV}{r:AV}{a:AC}(cfg:Nat→Nat)(hf:P.funcs[f]? =some fn)(hc:j6 P fn=some fc)(ha:fc.code=a.erase)(hlen:as.length≤fc.N)
  (h:∀ σ,WK P fc.N cfg (mr fc.res r σ) a [] (fi 0 as) σ):Pure P f as r:=Pure.run cfg hf hc ha hlen fun σ=>(h σ).h
theorem Spec.Bf{P:Program}[Glob P][gO P]{f:FuncId}{fn:Func}{fc:FC}{as:List AV}{σ:Store}{Q:gP→Store→Prop}{a:AC}(cfg:Nat→Nat)(hf:P.funcs[f]? =some fn)(hc:j6 P fn=some fc)(ha:fc.code=a.erase)(hlen:as.length≤fc.N)
  (h:WK P fc.N cfg (lq fc.res Q) a [] (fi 0 as) σ):Spec P f as σ Q:=Spec.run cfg hf hc ha hlen h.h
theorem Kk{p:Prop}(h:p:=by constructor<;>first|kernel_rfl|(intro;kernel_rfl)|(constructor<;>first|kernel_rfl|(intro;kernel_rfl)|(constructor<;>first|kernel_rfl|(intro;kernel_rfl)))):p:=h
structure fz(P:Program)[Glob P](f:FuncId)(N:Nat)(a:AC)(res:List RC):Type where
 ex:∃ fn,P.funcs[f]? =some fn∧j6 P fn=some ⟨N,a.erase,res⟩
def fz.i{P:Program}[Glob P]{f:FuncId}{fn:Func}{N:Nat}{a:AC}{res:List RC}(hf:P.funcs[f]? =some fn)(hc:j6 P fn=some ⟨N,a.erase,res⟩:=by kernel_rfl):fz P f N a res:=⟨fn,hf,hc⟩
section
variable {P:Program}[Glob P][gO P]{f:FuncId}{N:Nat}{res:List RC}{as:List AV}{r:AV}{σ:Store}{Q:gP→Store→Prop}{a:AC}
theorem fz.pc(k:fz P f N a res)(cfg:Nat→Nat)(h:∀ σ,WK P N cfg (mr res r σ) a [] (fi 0 as) σ)(hl:Nat.ble as.length N=true:=by exact rfl):Pure P f as r:=by
 obtain⟨fn,h1,h2⟩:=k.ex
 exact Pure.Bf (fc:=⟨N,a.erase,res⟩) (a:=a) cfg h1 h2 rfl (ZF hl) h
theorem fz.p(k:fz P f N a res)(h:∀ σ,WK P N (fun _=>0) (mr res r σ) a [] (fi 0 as) σ)(hl:Nat.ble as.length N=true:=by exact rfl):Pure P f as r:=k.pc _ h hl
theorem fz.sc(k:fz P f N a res)(cfg:Nat→Nat)(h:WK P N cfg (lq res Q) a [] (fi 0 as) σ)(hl:Nat.ble as.length N=true:=by exact rfl):Spec P f as σ Q:=by
 obtain⟨fn,h1,h2⟩:=k.ex
 exact Spec.Bf (fc:=⟨N,a.erase,res⟩) (a:=a) cfg h1 h2 rfl (ZF hl) h
theorem fz.s(k:fz P f N a res)(h:WK P N (fun _=>0) (lq res Q) a [] (fi 0 as) σ)(hl:Nat.ble as.length N=true:=by exact rfl):Spec P f as σ Q:=k.sc _ h hl
end
end
section
variable {P:Program}[Glob P]{N:Nat}{cfg:Nat→Nat}{K:ag→Store→Prop}{E:List PanicEntry→Store→Prop}{σ:Store}{l:List CI}{d n:Nat}{v y:AV}{xr:XR}{ps:List Prop}{g:Option (Nat×Bool)}{og:Option Bool}{al cf:List Nat}{ix:Nat}{ld:List CD}
 {t b b' o:Nat} {cs bO ys l':List AV} {x z:Operand}
theorem Q0{op:ax}(sC:cf.all (EH xr)=true)(h1:∀ t∈tmpsOf op.opers,lk (raw xr) t=lk (den xr) t):
  mh al cf (raw xr) op=mh al cf (den xr) op∧nw al cf (raw xr) op=nw al cf (den xr) op:=by
 have hc:∀ t∈cf,lk (raw xr) t=lk (den xr) t:=fun t ht=>by
  have:=Zz.1 sC t ht
  unfold EH at this
  rw[x5,oC]
  split at this
  ·rename_i e;rw[e];rfl
  grind
 exact⟨Qi h1 hc,Sj h1 hc⟩
theorem L8{args:List Operand}{as:List AV}(h:aS xr g args=some (og,as,ps))(hp:OB ps)(hg:og.getD true=true):∀ t∈tmpsOf args,lk (raw xr) t=lk (den xr) t:=by
 obtain⟨b,h,_,_⟩:=GN h
 obtain⟨bE,h,_,h3⟩:=iT h
 split at h
 ·cases h;exact h3 hp.all hg
 grind
theorem Uh{gv:Nat}(h:aS xr g [x]=some (og,[.v (.pointer (some ⟨gv,0,none⟩))],ps))(hl:Glob.av P gv=some cs)(hy:cs[0]? =some y)(hps:OB ps)(k:VX P cfg l K E (bH og d y xr) σ):
  VX P cfg (⟨some d,.load false n x,g⟩::l) K E xr σ:=by
 obtain⟨hc,he⟩:=cM h
 refine jD hc (fun hg=> ?_) (fun hg=> ?_)
 ·have:=he hps hg
  simp only[aL,Z2,Zn]at this
  simp only[aj,this,hl,hy,ZU,YV]
  have:=k.h
  rw[fx hg]at this
  grind
 ·rw[← fw hg (v:=y)];exact k.h
theorem Ui{gv:Nat}(h:aS xr g [x]=some (og,[.v (.pointer (some ⟨gv,0,none⟩))],ps))(hl:Glob.av P gv=some cs)(hy:cs.take n=ys∧n≤cs.length)(hps:OB ps)(k:VX P cfg l K E (bH og d (.agg ys) xr) σ):
  VX P cfg (⟨some d,.load true n x,g⟩::l) K E xr σ:=by
 obtain⟨hc,he⟩:=cM h
 refine jD hc (fun hg=> ?_) (fun hg=> ?_)
 ·have:=he hps hg
  simp only[aL,Z2,Zn]at this
  simp only[aj,this,hl,YX,hy.1]
  have:=k.h
  rw[fx hg]at this
  grind
 ·rw[← fw hg (v:= .agg ys)];exact k.h
theorem UQ{gv:Nat}(h:aS xr g [x]=some (og,[.v (.pointer (some ⟨gv,0,none⟩))],ps))(hl:Glob.av P gv=some cs)(hy:cs[0]? =some y)(cw:oI al cf xr (.load false n x)=true)(hps:OB ps)(k:VY P cfg al ld K (bH og d y xr) σ):
  VY P cfg al (⟨ix,⟨some d,.load false n x,g⟩,cf⟩::ld) K xr σ:=by
 obtain⟨hc,he⟩:=cM h
 unfold oI at cw
 rw[Z8]at cw
 refine oV hc (fun hg=> ?_) (fun hg=> ?_)
 ·have:=he hps hg
  simp only[aL,Z2,Zn]at this
  refine⟨by rw[← (Q0 cw.1 (op:= .load false n x) (L8 h hps hg)).1];exact cw.2,?_⟩
  simp only[aj,this,hl,hy,ZU,YV]
  have:=k.h
  rw[fx hg]at this
  grind
 ·rw[← fw hg (v:=y)];exact k.h
theorem US{gv:Nat}(h:aS xr g [x]=some (og,[.v (.pointer (some ⟨gv,0,none⟩))],ps))(hl:Glob.av P gv=some cs)(hy:cs.take n=ys∧n≤cs.length)(cw:oI al cf xr (.load true n x)=true)(hps:OB ps)(k:VY P cfg al ld K (bH og d (.agg ys) xr) σ):
  VY P cfg al (⟨ix,⟨some d,.load true n x,g⟩,cf⟩::ld) K xr σ:=by
 obtain⟨hc,he⟩:=cM h
 unfold oI at cw
 rw[Z8]at cw
 refine oV hc (fun hg=> ?_) (fun hg=> ?_)
 ·have:=he hps hg
  simp only[aL,Z2,Zn]at this
  refine⟨by rw[← (Q0 cw.1 (op:= .load true n x) (L8 h hps hg)).1];exact cw.2,?_⟩
  simp only[aj,this,hl,YX,hy.1]
  have:=k.h
  rw[fx hg]at this
  grind
 ·rw[← fw hg (v:= .agg ys)];exact k.h
end
end Go.Sx
