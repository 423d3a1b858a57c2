/-
  The layer Sx, eighteenth part: whole runs of operations, computed; an operation under a guard yields a value under a condition (no case is split).
-/
import Derived.Test.YtbihckigennlhaaGreatDoorSxMix3
set_option linter.unusedVariables false
set_option linter.unusedSimpArgs false
set_option linter.unusedSectionVars false
namespace Go.Sx
open Go.RowKit
inductive XV where
 |s (x:AV)
 |o (c:Bool) (x:AV)
abbrev XR:=List (Nat×XV)
def XV.den:XV→AV
 | .s x=>x
 | .o c x=>bif c then x else .v undef
def XV.val:XV→AV
 | .s x=>x
 | .o _ x=>x
def lkX:XR→Nat→XV
 |[],_=> .s .any
 |(i,x)::r,j=>bif Nat.beq i j then x else lkX r j
def den:XR→Regs
 |[]=>[]
 |(i,x)::r=>(i,x.den)::den r
def raw:XR→Regs
 |[]=>[]
 |(i,x)::r=>(i,x.val)::raw r
def toX:Regs→XR
 |[]=>[]
 |(i,x)::r=>(i,.s x)::toX r
theorem lk_den(t:Nat):∀ xr:XR,lk (den xr) t=(lkX xr t).den
 |[]=>rfl
 |(i,x)::r=>by simp only[den,lk,lkX];cases Nat.beq i t<;>simp only[cond_true,cond_false,lk_den t r]
theorem lk_raw(t:Nat):∀ xr:XR,lk (raw xr) t=(lkX xr t).val
 |[]=>rfl
 |(i,x)::r=>by simp only[raw,lk,lkX];cases Nat.beq i t<;>simp only[cond_true,cond_false,lk_raw t r]
theorem den_toX:∀ rg:Regs,den (toX rg)=rg
 |[]=>rfl
 |(i,x)::r=>by simp only[toX,den,XV.den,den_toX r]
inductive OB:List Prop→Prop
 |nil:OB []
 |cons {p:Prop} {ps:List Prop} (h:p) (t:OB ps):OB (p::ps)
theorem OB.all{ps:List Prop}(h:OB ps):∀ p∈ps,p:=by
 induction h with
 |nil=>intro p hp;cases hp
 |cons h _ ih=>
  intro p hp
  rcases List.mem_cons.1 hp with rfl|hp
  ·exact h
  ·exact ih p hp
theorem OB.rfl{α:Type}{a:α}{ps:List Prop}(t:OB ps):OB ((a=a)::ps):= .cons _root_.rfl t
theorem OB.grfl{α:Type}{a:α}{c:Bool}{ps:List Prop}(t:OB ps):OB ((c=true→a=a)::ps):= .cons (fun _=>_root_.rfl) t
theorem OB.gtr{c:Bool}{ps:List Prop}(t:OB ps):OB ((c=true→True)::ps):= .cons (fun _=>trivial) t
theorem OB.self{a:Prop}{ps:List Prop}(t:OB ps):OB ((a→a)::ps):= .cons (fun h=>h) t
theorem OB.tr{ps:List Prop}(t:OB ps):OB (True::ps):= .cons trivial t
theorem OB.and{a b:Bool}{ps:List Prop}(t:OB ps):OB (((a && b)=true→a=true)::ps):= .cons (fun h=>by simp at h;exact h.1) t
def gX{α:Type}(xr:XR)(g:Option (Nat×Bool))(k:Option Bool→Option α):Option α:=
 match g with
 |none=>k none
 |some (t,true)=>match lkX xr t with
  | .s (.v (.bool b))=>k (some b)
  | .o c (.v (.bool b))=>k (some (c && b))
  |_=>none
 |some (t,false)=>match lkX xr t with
  | .s (.v (.bool b))=>k (some !b)
  | .o c (.v (.bool b))=>k (some (c && !b))
  |_=>none
def needs{α:Type}(g:Option Bool)(xr:XR):List Nat→List Prop→(List Prop→Option α)→Option α
 |[],ps,k=>k ps
 |t::ts,ps,k=>match lkX xr t with
  | .s _=>needs g xr ts ps k
  | .o c _=>match g with
   |none=>needs g xr ts ((c=true)::ps) k
   |some b=>needs g xr ts ((b=true→c=true)::ps) k
def evX(xr:XR):Operand→XV
 | .tmp t=>lkX xr t
 | .const v=> .s (.v v)
 | .global g=> .s (.v (.pointer (some ⟨g,0,none⟩)))
 | .func f=> .s (.v (.func (.func f) #[] #[]))
def pickB{α:Type}(g:Option Bool)(xr:XR)(c a b:Operand)(ps:List Prop)(k:List Prop→Bool→Option α):Option α:=
 match evX xr c with
 | .s (.v (.bool t))=>match a,b with
  | .const (.bool true),b=>match evX xr b with
   | .s (.v (.bool y))=>k ps (t || y)
   | .o cb (.v (.bool y))=>match g with
    |none=>k ((!t=true→cb=true)::ps) (t || y)
    |some g=>k (((g && !t)=true→cb=true)::ps) (t || y)
   |_=>none
  |a,.const (.bool false)=>match evX xr a with
   | .s (.v (.bool y))=>k ps (t && y)
   | .o cb (.v (.bool y))=>match g with
    |none=>k ((t=true→cb=true)::ps) (t && y)
    |some g=>k (((g && t)=true→cb=true)::ps) (t && y)
   |_=>none
  |_,_=>none
 | .o cc (.v (.bool t))=>match g with
  |none=>none
  |some g=>match a,b with
   | .const (.bool true),b=>match evX xr b with
    | .s (.v (.bool y))=>k ((g=true→cc=true)::ps) (t || y)
    | .o cb (.v (.bool y))=>k ((g=true→cc=true)::((g && !t)=true→cb=true)::ps) (t || y)
    |_=>none
   |a,.const (.bool false)=>match evX xr a with
    | .s (.v (.bool y))=>k ((g=true→cc=true)::ps) (t && y)
    | .o cb (.v (.bool y))=>k ((g=true→cc=true)::((g && t)=true→cb=true)::ps) (t && y)
    |_=>none
   |_,_=>none
 |_=>none
def triv:IOp→Bool
 | .mv .. | .build .. | .nilck .. | .eqb .. | .eqs .. | .un .. | .cvint .. | .cvstr .. | .mkifc .. | .mkfn .. | .faddr .. | .field .. | .extract .. | .len .. | .max2 .. | .min2 .. =>true
 | .bin op _ _=>match op with
  | .quo| .rem| .shl| .shr| .add=>false
  |_=>true
 |_=>false
def push(g:Option Bool)(op:IOp)(p:Prop)(ps:List Prop):List Prop:=
 match triv op with
 |true=>ps
 |false=>match g with
  |none=>p::ps
  |some b=>(b=true→p)::ps
def stopOp:IOp→Bool
 | .call .. | .callv .. | .alloc .. | .box .. | .append .. | .len false _| .iaddr .. | .idxs .. | .slice .. | .extq .. | .exts .. | .panic .. =>true
 | .mksl _ _ []=>true
 |_=>false
def stopC(cfg:Nat→Nat)(op:IOp):Bool:=match stopOp op with
 |true=>true
 |false=>match op with
  | .load _ _ (.tmp s)=>Nat.beq (cfg (1000000+s)) 1
  | .load _ _ (.global _)=>true
  | .store _ (.tmp s) _=>Nat.beq (cfg (1000000+s)) 1
  |_=>false
def putG{α:Type}(g:Option Bool)(d:Option Nat)(v:AV)(xr:XR)(k:XR→Option α):Option α:=
 match d with
 |some d=>match g with
  |none=>k ((d,.s v)::xr)
  |some t=>k ((d,.o t v)::xr)
 |none=>match g with
  |none=>k xr
  |some _=>none
def clsG(g:Option Bool)(op:IOp):Bool:=match g with
 |none=>true
 |some _=>Nat.ble op.cls 1
def stepD{α:Type}(cfg:Nat→Nat)(ok:XR→IOp→Bool)(d:Option Nat)(op:IOp)(g:Option Bool)(xr:XR)(σ:Store)(ps:List Prop)(k:List Prop→XR→Store→Option α):Option α:=
 needs g xr (tmpsOf op.opers) ps fun ps=>match ok xr op with
  |true=>match clsG g op with
   |true=>match detO cfg d (raw xr) σ op with
    |some (p,v,σ')=>putG g d v xr fun xr=>k (push g op p ps) xr σ'
    |none=>none
   |false=>none
  |false=>none
def stepX{α:Type}(cfg:Nat→Nat)(ok:XR→IOp→Bool)(c:CI)(xr:XR)(σ:Store)(ps:List Prop)(k:List Prop→XR→Store→Option α):Option α:=
 gX xr c.g fun g=>match c.op with
  | .pick x a b=>pickB g xr x a b ps fun ps v=>putG g c.d (.v (.bool v)) xr fun xr=>k ps xr σ
  |op=>stepD cfg ok c.d op g xr σ ps k
def runL(cfg:Nat→Nat):List CI→XR→Store→List Prop→Option (List Prop×XR×Store×List CI)
 |[],xr,σ,ps=>some (ps,xr,σ,[])
 |c::l,xr,σ,ps=>match stopC cfg c.op with
  |true=>some (ps,xr,σ,c::l)
  |false=>stepX cfg (fun _ _=>true) c xr σ ps fun ps xr σ=>runL cfg l xr σ ps
def sureX(xr:XR)(t:Nat):Bool:=match lkX xr t with
 | .s _=>true
 | .o _ _=>false
def okX(als cf:List Nat)(xr:XR)(op:IOp):Bool:=cf.all (sureX xr) && okD als cf (raw xr) op
def runM(cfg:Nat→Nat)(als:List Nat):List CD→XR→Store→List Prop→Option (List Prop×XR×Store×List CD)
 |[],xr,σ,ps=>some (ps,xr,σ,[])
 |c::l,xr,σ,ps=>match stopC cfg c.c.op with
  |true=>some (ps,xr,σ,c::l)
  |false=>stepX cfg (okX als c.cf) c.c xr σ ps fun ps xr σ=>runM cfg als l xr σ ps
def vcX(P:Program)[Glob P](cfg:Nat→Nat):List CI→(K:Regs→Store→Prop)→(E:List PanicEntry→Store→Prop)→Regs→Store→Prop
 |[],K,_,rg,σ=>K rg σ
 |c::l,K,E,rg,σ=>vcG P cfg c (fun x σ'=>vcX P cfg l K E (putR c.d x rg) σ') E rg σ
def GM(rg:Regs)(t:Nat)(want:Bool)(A B:Prop):Prop:=match lk rg t with
 | .v (.bool b)=>(b=want→A)∧(b= !want→B)
 | .v (.tuple _)=>B
 |_=>False
def GG(rg:Regs)(g:Option (Nat×Bool))(A B:Prop):Prop:=match g with
 |none=>A
 |some (t,want)=>GM rg t want A B
section
variable {P:Program}[Glob P]{M:Mem}{w0:Base}{w:World}{σ σ':Store}{rg:Regs}{a:Act}{cfg:Nat→Nat}{N:Nat}{xr xr':XR}{c:CI}{K K':AV→Store→Prop}{E:List PanicEntry→Store→Prop}
theorem vcG_GG:vcG P cfg c K E rg σ↔GG rg c.g (vcO P cfg c.d rg σ K E c.op) (K (.v undef) σ):=by
 unfold vcG GG GM
 cases c.g with
 |none=>exact Iff.rfl
 |some p=>exact Iff.rfl
theorem vcGD_GG{als:List Nat}{c:CD}:vcGD P cfg als c K rg σ↔GG rg c.c.g (vcOD P cfg als c.cf c.c.d rg σ K c.c.op) (K (.v undef) σ):=by
 unfold vcGD GG GM
 cases c.c.g with
 |none=>exact Iff.rfl
 |some p=>exact Iff.rfl
def Cond(xr:XR)(g:Option (Nat×Bool))(b:Option Bool):Prop:=∀ A B:Prop,(b.getD true=true→A)→(b.getD true=false→B)→GG (den xr) g A B
theorem gX_eq{α:Type}{g:Option (Nat×Bool)}{k:Option Bool→Option α}{r:α}(h:gX xr g k=some r):∃ b,k b=some r∧Cond xr g b∧(b=none→g=none):=by
 unfold gX at h
 have key:∀ t want,((∃ b,lkX xr t= .s (.v (.bool b))∧∀ b',b'=(b == want)→Cond xr (some (t,want)) (some b'))∨(∃ c b,lkX xr t= .o c (.v (.bool b))∧∀ b',b'=(c && (b == want))→Cond xr (some (t,want)) (some b'))∨True):=fun _ _=> .inr (.inr trivial)
 split at h
 ·exact⟨none,h,fun A B h1 _=>h1 rfl,fun _=>rfl⟩
 ·rename_i t
  split at h
  ·rename_i b e
   refine⟨_,h,fun A B h1 h2=> ?_,fun e=>nomatch e⟩
   simp only[GG,GM,lk_den,e,XV.den]
   exact⟨fun e=>h1 e,fun e=>h2 e⟩
  ·rename_i cc b e
   refine⟨_,h,fun A B h1 h2=> ?_,fun e=>nomatch e⟩
   simp only[GG,GM,lk_den,e,XV.den]
   cases cc with
   |true=>exact⟨fun e=>h1 (by simp[e]),fun e=>h2 (by simp_all)⟩
   |false=>exact h2 rfl
  ·cases h
 ·rename_i t
  split at h
  ·rename_i b e
   refine⟨_,h,fun A B h1 h2=> ?_,fun e=>nomatch e⟩
   simp only[GG,GM,lk_den,e,XV.den]
   exact⟨fun e=>h1 (by simp[e]),fun e=>h2 (by simp_all)⟩
  ·rename_i cc b e
   refine⟨_,h,fun A B h1 h2=> ?_,fun e=>nomatch e⟩
   simp only[GG,GM,lk_den,e,XV.den]
   cases cc with
   |true=>exact⟨fun e=>h1 (by simp[e]),fun e=>h2 (by simp_all)⟩
   |false=>exact h2 rfl
  ·cases h
theorem needs_eq{α:Type}{g:Option Bool}:∀ {ts:List Nat} {ps:List Prop} {k:List Prop→Option α} {r:α},needs g xr ts ps k=some r→
  ∃ ps',k ps'=some r∧(∀ p∈ps,p∈ps')∧((∀ p∈ps',p)→g.getD true=true→∀ t∈ts,lk (raw xr) t=lk (den xr) t)
 |[],ps,k,r,h=>⟨ps,h,fun _ h=>h,fun _ _ _ h=>by cases h⟩
 |t::ts,ps,k,r,h=>by
  simp only[needs]at h
  split at h
  ·rename_i x e
   obtain⟨ps',h1,h2,h3⟩:=needs_eq h
   refine⟨ps',h1,h2,fun ha hg u hu=> ?_⟩
   rcases List.mem_cons.1 hu with rfl|hu
   ·rw[lk_raw,lk_den,e];rfl
   ·exact h3 ha hg u hu
  ·rename_i cc x e
   split at h
   ·obtain⟨ps',h1,h2,h3⟩:=needs_eq h
    refine⟨ps',h1,fun p hp=>h2 p (List.mem_cons_of_mem _ hp),fun ha hg u hu=> ?_⟩
    rcases List.mem_cons.1 hu with rfl|hu
    ·have:=ha _ (h2 _ (List.mem_cons_self ..))
     rw[lk_raw,lk_den,e,this];rfl
    ·exact h3 ha hg u hu
   ·obtain⟨ps',h1,h2,h3⟩:=needs_eq h
    refine⟨ps',h1,fun p hp=>h2 p (List.mem_cons_of_mem _ hp),fun ha hg u hu=> ?_⟩
    rcases List.mem_cons.1 hu with rfl|hu
    ·have:=ha _ (h2 _ (List.mem_cons_self ..)) hg
     rw[lk_raw,lk_den,e,this];rfl
    ·exact h3 ha hg u hu
theorem evX_den(x:Operand):ev (den xr) x=(evX xr x).den:=by
 cases x with
 |tmp t=>exact lk_den t xr
 |const v=>rfl
 |global g=>rfl
 |func f=>rfl
theorem pickB_eq{α:Type}{g:Option Bool}{c a b:Operand}{ps:List Prop}{k:List Prop→Bool→Option α}{r:α}(h:pickB g xr c a b ps k=some r):
  ∃ ps' v,k ps' v=some r∧(∀ p∈ps,p∈ps')∧((∀ p∈ps',p)→g.getD true=true→∃ t,ev (den xr) c= .v (.bool t)∧(if t then ev (den xr) a else ev (den xr) b)= .v (.bool v)):=by
 simp only[evX_den]
 unfold pickB at h
 split at h
 ·rename_i t ec
  rw[ec]
  split at h
  ·split at h
   ·rename_i y eb
    refine⟨_,_,h,fun _ h=>h,fun _ _=>⟨t,rfl,?_⟩⟩
    rw[eb];cases t<;>rfl
   ·rename_i cb y eb
    split at h
    ·refine⟨_,_,h,fun p hp=>List.mem_cons_of_mem _ hp,fun ha hg=>⟨t,rfl,?_⟩⟩
     rw[eb]
     have:=ha _ (List.mem_cons_self ..)
     cases t with
     |true=>rfl
     |false=>rw[this rfl];rfl
    ·rename_i g
     refine⟨_,_,h,fun p hp=>List.mem_cons_of_mem _ hp,fun ha hg=>⟨t,rfl,?_⟩⟩
     rw[eb]
     have:=ha _ (List.mem_cons_self ..)
     have hg:g=true:=hg
     cases t with
     |true=>rfl
     |false=>rw[this (by rw[hg];rfl)];rfl
   ·cases h
  ·split at h
   ·rename_i y eb
    refine⟨_,_,h,fun _ h=>h,fun _ _=>⟨t,rfl,?_⟩⟩
    rw[eb];cases t<;>rfl
   ·rename_i cb y eb
    split at h
    ·refine⟨_,_,h,fun p hp=>List.mem_cons_of_mem _ hp,fun ha hg=>⟨t,rfl,?_⟩⟩
     rw[eb]
     have:=ha _ (List.mem_cons_self ..)
     cases t with
     |false=>rfl
     |true=>rw[this rfl];rfl
    ·rename_i g
     refine⟨_,_,h,fun p hp=>List.mem_cons_of_mem _ hp,fun ha hg=>⟨t,rfl,?_⟩⟩
     rw[eb]
     have:=ha _ (List.mem_cons_self ..)
     have hg:g=true:=hg
     cases t with
     |false=>rfl
     |true=>rw[this (by rw[hg];rfl)];rfl
   ·cases h
  ·cases h
 ·rename_i cc t ec
  rw[ec]
  split at h
  ·cases h
  ·rename_i g
   split at h
   ·split at h
    ·rename_i y eb
     refine⟨_,_,h,fun p hp=>List.mem_cons_of_mem _ hp,fun ha hg=> ?_⟩
     have:=ha _ (List.mem_cons_self ..) hg
     subst this
     refine⟨t,rfl,?_⟩
     rw[eb];cases t<;>rfl
    ·rename_i cb y eb
     refine⟨_,_,h,fun p hp=>List.mem_cons_of_mem _ (List.mem_cons_of_mem _ hp),fun ha hg=> ?_⟩
     have hg:g=true:=hg
     have h1:=ha _ (List.mem_cons_self ..) hg
     have h2:=ha _ (List.mem_cons_of_mem _ (List.mem_cons_self ..))
     subst h1
     refine⟨t,rfl,?_⟩
     rw[eb]
     cases t with
     |true=>rfl
     |false=>rw[h2 (by rw[hg];rfl)];rfl
    ·cases h
   ·split at h
    ·rename_i y eb
     refine⟨_,_,h,fun p hp=>List.mem_cons_of_mem _ hp,fun ha hg=> ?_⟩
     have:=ha _ (List.mem_cons_self ..) hg
     subst this
     refine⟨t,rfl,?_⟩
     rw[eb];cases t<;>rfl
    ·rename_i cb y eb
     refine⟨_,_,h,fun p hp=>List.mem_cons_of_mem _ (List.mem_cons_of_mem _ hp),fun ha hg=> ?_⟩
     have hg:g=true:=hg
     have h1:=ha _ (List.mem_cons_self ..) hg
     have h2:=ha _ (List.mem_cons_of_mem _ (List.mem_cons_self ..))
     subst h1
     refine⟨t,rfl,?_⟩
     rw[eb]
     cases t with
     |false=>rfl
     |true=>rw[h2 (by rw[hg];rfl)];rfl
    ·cases h
   ·cases h
 ·cases h
theorem triv_ok{d:Option Nat}{op:IOp}{p:Prop}{v:AV}(ht:triv op=true)(h:detO cfg d rg σ op=some (p,v,σ')):p:=by
 cases op<;>simp only[triv,Bool.false_eq_true]at ht
 case bin op x y=>
  simp only[detO]at h
  split at h
  ·split at h
   ·rename_i p' r e
    cases h
    unfold binD at e
    split at e
    ·cases op<;>simp only[Bool.false_eq_true]at ht<;>simp only at e<;>first|(have:=(ite_none e).2;cases this;trivial)|(cases e;trivial)
    ·cases op<;>simp only[Bool.false_eq_true]at ht<;>simp only at e<;>first|(cases e;trivial)|cases e
    ·cases e
   ·cases h
  ·cases h
 case len s x=>cases s<;>(simp only[detO]at h;repeat' split at h)<;>cases h<;>trivial
 all_goals simp only[detO,reduceCtorEq]at h
 all_goals(repeat' split at h)
 all_goals first
  |(cases h;done)
  |(cases h;trivial)
  |(have:=fo_eq h;cases this;trivial)
  |(have:=foL_eq h;cases this;trivial)
  |(have:=foLL_eq h;cases this;trivial)
  |(have h2:=(ite_none h).2;(repeat' split at h2)<;>first|(cases h2;done)|(cases h2;trivial)|(have:=fo_eq h2;cases this;trivial)|(have:=foL_eq h2;cases this;trivial))
theorem push_mem{g:Option Bool}{op:IOp}{p q:Prop}{ps:List Prop}(h:q∈ps):q∈push g op p ps:=by
 unfold push
 split
 ·exact h
 ·split<;>exact List.mem_cons_of_mem _ h
theorem push_ok{g:Option Bool}{d:Option Nat}{op:IOp}{p:Prop}{v:AV}{ps:List Prop}(h:detO cfg d rg σ op=some (p,v,σ'))(ha:∀ q∈push g op p ps,q)(hg:g.getD true=true):p:=by
 unfold push at ha
 cases ht:triv op with
 |true=>exact triv_ok ht h
 |false=>
  rw[ht]at ha
  cases g with
  |none=>exact ha _ (List.mem_cons_self ..)
  |some b=>exact ha _ (List.mem_cons_self ..) hg
theorem detO_same{d:Option Nat}{op:IOp}{p:Prop}{v:AV}(hc:Nat.ble op.cls 1=true)(h:detO cfg d rg σ op=some (p,v,σ')):σ'=σ:=by
 have hc:=Nat.le_of_ble_eq_true hc
 cases e:op.cls with
 |zero=>exact detO_keep e h
 |succ n=>
  cases op<;>simp only[IOp.cls,reduceCtorEq]at e
  case load g n x=>
   simp only[detO]at h
   repeat' split at h
   all_goals first
    |(cases h;done)
    |(have:=fo_eq h;cases this;rfl)
    |(have h2:=(ite_none h).2;have:=foL_eq h2;cases this;rfl)
  all_goals(simp only[IOp.cls]at hc;omega)
theorem putG_eq{α:Type}{g:Option Bool}{d:Option Nat}{v:AV}{k:XR→Option α}{r:α}(h:putG g d v xr k=some r):
  ∃ xr',k xr'=some r∧(g.getD true=true→den xr'=putR d v (den xr))∧(g.getD true=false→den xr'=putR d (.v undef) (den xr)):=by
 unfold putG at h
 split at h
 ·split at h
  ·exact⟨_,h,fun _=>rfl,fun e=>nomatch e⟩
  ·rename_i t
   exact⟨_,h,fun(e:t=true)=>by subst e;rfl,fun(e:t=false)=>by subst e;rfl⟩
 ·split at h
  ·exact⟨_,h,fun _=>rfl,fun e=>nomatch e⟩
  ·cases h
def Out(cfg:Nat→Nat)(ok:XR→IOp→Bool)(d:Option Nat)(op:IOp)(xr:XR)(σ:Store)(v:AV)(σ':Store):Prop:=
 (∃ p,detO cfg d (raw xr) σ op=some (p,v,σ')∧p∧ok xr op=true∧∀ t∈tmpsOf op.opers,lk (raw xr) t=lk (den xr) t)∨
 (∃ x y z t,op= .pick x y z∧σ'=σ∧ev (den xr) x= .v (.bool t)∧(if t then ev (den xr) y else ev (den xr) z)=v)
def Stp(cfg:Nat→Nat)(ok:XR→IOp→Bool)(d:Option Nat)(op:IOp)(b:Option Bool)(xr:XR)(σ:Store)(xr':XR)(σ':Store):Prop:=
 (b.getD true=true→∃ v,Out cfg ok d op xr σ v σ'∧den xr'=putR d v (den xr))∧(b.getD true=false→σ'=σ∧den xr'=putR d (.v undef) (den xr))
theorem stepD_eq{α:Type}{ok:XR→IOp→Bool}{d:Option Nat}{op:IOp}{g:Option Bool}{ps:List Prop}{k:List Prop→XR→Store→Option α}{r:α}(h:stepD cfg ok d op g xr σ ps k=some r):
  ∃ ps' xr' σ',k ps' xr' σ'=some r∧(∀ p∈ps,p∈ps')∧((∀ p∈ps',p)→Stp cfg ok d op g xr σ xr' σ'):=by
 unfold stepD at h
 obtain⟨ps',h,h2,h3⟩:=needs_eq h
 split at h
 case h_2=>cases h
 rename_i hok
 split at h
 case h_2=>cases h
 rename_i hcls
 split at h
 case h_2=>cases h
 rename_i p v σ' hdet
 obtain⟨xr',h,h4,h5⟩:=putG_eq h
 refine⟨_,xr',σ',h,fun p hp=>push_mem (h2 p hp),fun ha=>⟨fun hg=>⟨v,.inl ⟨p,hdet,push_ok hdet ha hg,hok,h3 (fun q hq=>ha q (push_mem hq)) hg⟩,h4 hg⟩,fun hg=>⟨?_,h5 hg⟩⟩⟩
 cases g with
 |none=>cases hg
 |some t=>exact detO_same hcls hdet
theorem stepX_eq{α:Type}{ok:XR→IOp→Bool}{ps:List Prop}{k:List Prop→XR→Store→Option α}{r:α}(h:stepX cfg ok c xr σ ps k=some r):
  ∃ ps' xr' σ' b,k ps' xr' σ'=some r∧(∀ p∈ps,p∈ps')∧Cond xr c.g b∧((∀ p∈ps',p)→Stp cfg ok c.d c.op b xr σ xr' σ'):=by
 unfold stepX at h
 obtain⟨g,h,hcond,_⟩:=gX_eq h
 obtain⟨d,op,cg⟩:=c
 simp only at h hcond ⊢
 have hd:stepD cfg ok d op g xr σ ps k=some r→∃ ps' xr' σ' b,k ps' xr' σ'=some r∧(∀ p∈ps,p∈ps')∧Cond xr cg b∧((∀ p∈ps',p)→Stp cfg ok d op b xr σ xr' σ'):=fun h=>by
  obtain⟨ps',xr',σ',h1,h2,h3⟩:=stepD_eq h
  exact⟨ps',xr',σ',g,h1,h2,hcond,h3⟩
 cases op with
 |pick x a b=>
  simp only at h
  obtain⟨ps',v,h,h2,h3⟩:=pickB_eq h
  obtain⟨xr',h,h4,h5⟩:=putG_eq h
  refine⟨ps',xr',σ,g,h,h2,hcond,fun ha=>⟨fun hg=> ?_,fun hg=>⟨rfl,h5 hg⟩⟩⟩
  obtain⟨t,e1,e2⟩:=h3 ha hg
  exact⟨_,.inr ⟨x,a,b,t,rfl,rfl,e1,e2⟩,h4 hg⟩
 |_=>exact hd h
theorem outL{ok:XR→IOp→Bool}{d:Option Nat}{op:IOp}{v:AV}(h:Out cfg ok d op xr σ v σ')(hk:K v σ'):vcO P cfg d (den xr) σ K E op:=by
 rcases h with⟨p,h1,h2,_,h4⟩|⟨x,y,z,t,rfl,rfl,h2,rfl⟩
 ·rw[← vcO_local h4];exact detO_sound h1 h2 hk
 ·simp only[vcO,h2];exact hk
theorem outM{als cf:List Nat}{d:Option Nat}{op:IOp}{v:AV}(h:Out cfg (okX als cf) d op xr σ v σ')(hk:K v σ'):vcOD P cfg als cf d (den xr) σ K op:=by
 rcases h with⟨p,h1,h2,h3,h4⟩|⟨x,y,z,t,rfl,rfl,h2,rfl⟩
 ·unfold okX at h3
  simp only[Bool.and_eq_true,List.all_eq_true]at h3
  have hcf:∀ t∈cf,lk (raw xr) t=lk (den xr) t:=fun t ht=>by
   have:=h3.1 t ht
   unfold sureX at this
   rw[lk_raw,lk_den]
   split at this
   ·rename_i e;rw[e];rfl
   ·cases this
  rw[← vcOD_local h4 hcf]
  have ho:=h3.2
  unfold vcOD
  cases hc:op.cls with
  |zero=>
   have:=detO_keep hc h1
   subst this
   exact detO_Q hc h1 h2 hk
  |succ n=>
   cases op<;>simp only[IOp.cls,reduceCtorEq,Nat.reduceEqDiff,Nat.zero_ne_add_one]at hc<;>simp only[okD,reduceCtorEq]at ho<;>first|cases ho|skip
   ·cases hc;exact⟨ho,detO_sound h1 h2 hk⟩
   ·cases hc;exact⟨ho,detO_sound h1 h2 hk⟩
 ·simp only[vcOD,IOp.cls,vcOQ,vcO,h2];exact hk
structure VX(P:Program)[Glob P](cfg:Nat→Nat)(l:List CI)(K:Regs→Store→Prop)(E:List PanicEntry→Store→Prop)(xr:XR)(σ:Store):Prop where
 h:vcX P cfg l K E (den xr) σ
structure VY(P:Program)[Glob P](cfg:Nat→Nat)(als:List Nat)(l:List CD)(K:Regs→Store→Prop)(xr:XR)(σ:Store):Prop where
 h:vcM P cfg als l K (den xr) σ
theorem runL_eq{Kc:Regs→Store→Prop}{ps':List Prop}{rest:List CI}:∀ {l:List CI} {xr:XR} {σ:Store} {ps:List Prop},runL cfg l xr σ ps=some (ps',xr',σ',rest)→
  (∀ p∈ps,p∈ps')∧((∀ p∈ps',p)→vcX P cfg rest Kc E (den xr') σ'→vcX P cfg l Kc E (den xr) σ)
 |[],xr,σ,ps,h=>by cases h;exact⟨fun _ h=>h,fun _ h=>h⟩
 |c::l,xr,σ,ps,h=>by
  simp only[runL]at h
  split at h
  ·cases h;exact⟨fun _ h=>h,fun _ h=>h⟩
  ·obtain⟨ps1,xr1,σ1,b,h,h2,hc,h3⟩:=stepX_eq h
   obtain⟨i1,i2⟩:=runL_eq h
   refine⟨fun p hp=>i1 p (h2 p hp),fun ha hk=> ?_⟩
   have hn:=i2 ha hk
   obtain⟨s1,s2⟩:=h3 fun p hp=>ha p (i1 p hp)
   simp only[vcX]
   rw[vcG_GG]
   refine hc _ _ (fun hg=> ?_) (fun hg=> ?_)
   ·obtain⟨v,ho,hd⟩:=s1 hg
    exact outL ho (by rw[← hd];exact hn)
   ·obtain⟨e,hd⟩:=s2 hg
    rw[← hd,← e];exact hn
theorem runM_eq{als:List Nat}{Kc:Regs→Store→Prop}{ps':List Prop}{rest:List CD}:∀ {l:List CD} {xr:XR} {σ:Store} {ps:List Prop},runM cfg als l xr σ ps=some (ps',xr',σ',rest)→
  (∀ p∈ps,p∈ps')∧((∀ p∈ps',p)→vcM P cfg als rest Kc (den xr') σ'→vcM P cfg als l Kc (den xr) σ)
 |[],xr,σ,ps,h=>by cases h;exact⟨fun _ h=>h,fun _ h=>h⟩
 |c::l,xr,σ,ps,h=>by
  simp only[runM]at h
  split at h
  ·cases h;exact⟨fun _ h=>h,fun _ h=>h⟩
  ·obtain⟨ps1,xr1,σ1,b,h,h2,hc,h3⟩:=stepX_eq h
   obtain⟨i1,i2⟩:=runM_eq h
   refine⟨fun p hp=>i1 p (h2 p hp),fun ha hk=> ?_⟩
   have hn:=i2 ha hk
   obtain⟨s1,s2⟩:=h3 fun p hp=>ha p (i1 p hp)
   simp only[vcM]
   rw[vcGD_GG]
   refine hc _ _ (fun hg=> ?_) (fun hg=> ?_)
   ·obtain⟨v,ho,hd⟩:=s1 hg
    exact outM ho (by rw[← hd];exact hn)
   ·obtain⟨e,hd⟩:=s2 hg
    rw[← hd,← e];exact hn
theorem vcX_sound(ops:Array Oper){Q:Exit→Regs→Store→Prop}{K:Regs→Store→Prop}(hK:∀ rg σ,K rg σ→Q .normal rg σ):
  ∀ (os:List Oper) (k:Nat) (l:List CI),compL P N ops os=some l→(∀ i,i<os.length→ops[k+i]? =os[i]?)→
  ∀ (M:Mem) (w0:Base) (w:World) (a:Act) (rg:Regs) (σ:Store),vcX P cfg l K (fun ch σ'=>Q (.panic ch) [] σ') rg σ→Inv P M w0 σ w→RegsOK M rg a→a.tmps.size=N→a.defers=Glob.df P→
   wpOps P ops (conc P M w0 N Q) (List.range' k os.length) a w
 |[],k,l,hl,_,M,w0,w,a,rg,σ,h,hI,hR,hN,hD=>by
  simp only[compL,Option.some.injEq]at hl
  subst hl
  exact⟨M,rg,σ,Mem.le.refl _,hI,hR,hN,hD,hK rg σ h⟩
 |o::os,k,l,hl,ho,M,w0,w,a,rg,σ,h,hI,hR,hN,hD=>by
  simp only[compL]at hl
  split at hl
  ·rename_i c hc
   obtain⟨l',hl',rfl⟩:=Option.map_eq_some_iff.1 hl
   have ho0:ops[k]? =some o:=by simpa using ho 0 (by simp)
   obtain⟨hdst,hlt⟩:=compI_lt hc
   simp only[List.length_cons,List.range'_succ,wpOps,ho0]
   simp only[vcX]at h
   refine guard_sound hc h hI hR ⟨fun M' x σ' v w' hM hI' hx hk=> ?_,fun M' ch σ' w' hM hI' hk=> ?_⟩
   ·have ih:=vcX_sound ops hK os (k+1) l' hl' (fun i hi=>by have:=ho (i+1) (by simpa using hi);rw[show k+1+i=k+(i+1)from by omega];simpa using this) M' w0 w' (a.put o.dst v) (putR c.d x rg) σ' hk hI'
     (by rw[hdst];exact(hR.mono hM).put o.dst (fun t ht=>by rw[hN];exact hlt t (hdst.trans ht)) hx) (by rw[Act.size_put];exact hN) (by rw[Act.defers_put];exact hD)
    refine vcL_sound.wpOps_le ?_ _ _ _ ih
    rintro e a2 w2 ⟨M2,rg2,σ2,h1,h2⟩
    exact⟨M2,rg2,σ2,hM.trans h1,h2⟩
   ·exact⟨M',[],σ',hM,hI',fun i=> .any _,hN,hD,hk⟩
  ·cases hl
theorem SW_regX{l:List CI}{Q:Exit→Regs→Store→Prop}(cfg:Nat→Nat)(h:vcX P cfg l (Q .normal) (fun ch σ'=>Q (.panic ch) [] σ') rg σ):SW P N (.reg l) Q rg σ:=by
 intro c hc M w0 a w hI hR hN hD
 obtain⟨id,ops,rfl,hl⟩:=compC_inv hc
 show wpOps _ _ _ _ _ _
 have:=vcX_sound (P:=P) (N:=N) (cfg:=cfg) ops (Q:=Q) (K:=Q .normal) (fun _ _ h=>h) ops.toList 0 l hl (fun i hi=>by simp) M w0 w a rg σ h hI hR hN hD
 rw[List.range_eq_range']
 simpa using this
end
end Go.Sx
