/-
  The layer Sx, eighteenth part: whole runs of operations, computed; an operation under a guard yields a value under a condition (no case is split).
-/
import Derived.Test.YtekngilbecjkhaaGreatDoorSxRun
import Derived.IntWalk
set_option linter.unusedVariables false
set_option linter.unusedSimpArgs false
set_option linter.unusedSectionVars false
namespace Go.Sx
open Go.RowKit
inductive XV where
 |s (x:AV)
 |o (c:Bool) (x:AV)
abbrev XR:=List (Nat×XV)
def XV.den:XV→AV
 | .s x=>x
 | .o c x=>bif c then x else .v undef
def XV.val:XV→AV
 | .s x=>x
 | .o _ x=>x
def lkX:XR→Nat→XV
 |[],_=> .s .any
 |(i,x)::r,j=>bif Nat.beq i j then x else lkX r j
def den:XR→Regs
 |[]=>[]
 |(i,x)::r=>(i,x.den)::den r
def raw:XR→Regs
 |[]=>[]
 |(i,x)::r=>(i,x.val)::raw r
def toX:Regs→XR
 |[]=>[]
 |(i,x)::r=>(i,.s x)::toX r
theorem lk_den(t:Nat):∀ xr:XR,lk (den xr) t=(lkX xr t).den
 |[]=>rfl
 |(i,x)::r=>by simp only[den,lk,lkX];cases Nat.beq i t<;>simp only[cond_true,cond_false,lk_den t r]
theorem lk_raw(t:Nat):∀ xr:XR,lk (raw xr) t=(lkX xr t).val
 |[]=>rfl
 |(i,x)::r=>by simp only[raw,lk,lkX];cases Nat.beq i t<;>simp only[cond_true,cond_false,lk_raw t r]
theorem den_toX:∀ rg:Regs,den (toX rg)=rg
 |[]=>rfl
 |(i,x)::r=>by simp only[toX,den,XV.den,den_toX r]
inductive OB:List Prop→Prop
 |nil:OB []
 |cons {p:Prop} {ps:List Prop} (h:p) (t:OB ps):OB (p::ps)
theorem OB.all{ps:List Prop}(h:OB ps):∀ p∈ps,p:=by
 induction h with
 |nil=>intro p hp;cases hp
 |cons h _ ih=>
  intro p hp
  rcases List.mem_cons.1 hp with rfl|hp
  ·exact h
  ·exact ih p hp
theorem OB.rfl{α:Type}{a:α}{ps:List Prop}(t:OB ps):OB ((a=a)::ps):= .cons _root_.rfl t
theorem OB.grfl{α:Type}{a:α}{c:Bool}{ps:List Prop}(t:OB ps):OB ((c=true→a=a)::ps):= .cons (fun _=>_root_.rfl) t
theorem OB.gtr{c:Bool}{ps:List Prop}(t:OB ps):OB ((c=true→True)::ps):= .cons (fun _=>trivial) t
theorem OB.self{a:Prop}{ps:List Prop}(t:OB ps):OB ((a→a)::ps):= .cons (fun h=>h) t
theorem OB.tr{ps:List Prop}(t:OB ps):OB (True::ps):= .cons trivial t
theorem OB.and{a b:Bool}{ps:List Prop}(t:OB ps):OB (((a && b)=true→a=true)::ps):= .cons (fun h=>by simp at h;exact h.1) t
def gX{α:Type}(xr:XR)(g:Option (Nat×Bool))(k:Option Bool→Option α):Option α:=
 match g with
 |none=>k none
 |some (t,true)=>match lkX xr t with
  | .s (.v (.bool b))=>k (some b)
  | .o c (.v (.bool b))=>k (some (c && b))
  |_=>none
 |some (t,false)=>match lkX xr t with
  | .s (.v (.bool b))=>k (some !b)
  | .o c (.v (.bool b))=>k (some (c && !b))
  |_=>none
def needs{α:Type}(g:Option Bool)(xr:XR):List Nat→List Prop→(List Prop→Option α)→Option α
 |[],ps,k=>k ps
 |t::ts,ps,k=>match lkX xr t with
  | .s _=>needs g xr ts ps k
  | .o c _=>match g with
   |none=>needs g xr ts ((c=true)::ps) k
   |some b=>needs g xr ts ((b=true→c=true)::ps) k
def evX(xr:XR):Operand→XV
 | .tmp t=>lkX xr t
 | .const v=> .s (.v v)
 | .global g=> .s (.v (.pointer (some ⟨g,0,none⟩)))
 | .func f=> .s (.v (.func (.func f) #[] #[]))
def pickB{α:Type}(g:Option Bool)(xr:XR)(c a b:Operand)(ps:List Prop)(k:List Prop→Bool→Option α):Option α:=
 match evX xr c with
 | .s (.v (.bool t))=>match a,b with
  | .const (.bool true),b=>match evX xr b with
   | .s (.v (.bool y))=>k ps (t || y)
   | .o cb (.v (.bool y))=>match g with
    |none=>k ((!t=true→cb=true)::ps) (t || y)
    |some g=>k (((g && !t)=true→cb=true)::ps) (t || y)
   |_=>none
  |a,.const (.bool false)=>match evX xr a with
   | .s (.v (.bool y))=>k ps (t && y)
   | .o cb (.v (.bool y))=>match g with
    |none=>k ((t=true→cb=true)::ps) (t && y)
    |some g=>k (((g && t)=true→cb=true)::ps) (t && y)
   |_=>none
  |_,_=>none
 | .o cc (.v (.bool t))=>match g with
  |none=>none
  |some g=>match a,b with
   | .const (.bool true),b=>match evX xr b with
    | .s (.v (.bool y))=>k ((g=true→cc=true)::ps) (t || y)
    | .o cb (.v (.bool y))=>k ((g=true→cc=true)::((g && !t)=true→cb=true)::ps) (t || y)
    |_=>none
   |a,.const (.bool false)=>match evX xr a with
    | .s (.v (.bool y))=>k ((g=true→cc=true)::ps) (t && y)
    | .o cb (.v (.bool y))=>k ((g=true→cc=true)::((g && t)=true→cb=true)::ps) (t && y)
    |_=>none
   |_,_=>none
 |_=>none
def triv:IOp→Bool
 | .mv .. | .build .. | .nilck .. | .eqb .. | .eqs .. | .un .. | .cvint .. | .cvstr .. | .mkifc .. | .mkfn .. | .faddr .. | .field .. | .extract .. | .len .. | .max2 .. | .min2 .. =>true
 | .bin op _ _=>match op with
  | .quo| .rem| .shl| .shr| .add=>false
  |_=>true
 |_=>false
def push(g:Option Bool)(op:IOp)(p:Prop)(ps:List Prop):List Prop:=
 match triv op with
 |true=>ps
 |false=>match g with
  |none=>p::ps
  |some b=>(b=true→p)::ps
def stopOp:IOp→Bool
 | .call .. | .callv .. | .alloc .. | .box .. | .append .. | .len false _| .iaddr .. | .idxs .. | .slice .. | .extq .. | .exts .. =>true
 | .mksl _ _ []=>true
 |_=>false
def stopC(cfg:Nat→Nat)(op:IOp):Bool:=match stopOp op with
 |true=>true
 |false=>match op with
  | .load _ _ (.tmp s)=>Nat.beq (cfg (1000000+s)) 1
  | .load _ _ (.global _)=>true
  | .store _ (.tmp s) _=>Nat.beq (cfg (1000000+s)) 1
  |_=>false
def putG{α:Type}(g:Option Bool)(d:Option Nat)(v:AV)(xr:XR)(k:XR→Option α):Option α:=
 match d with
 |some d=>match g with
  |none=>k ((d,.s v)::xr)
  |some t=>k ((d,.o t v)::xr)
 |none=>match g with
  |none=>k xr
  |some _=>none
def clsG(g:Option Bool)(op:IOp):Bool:=match g with
 |none=>true
 |some _=>Nat.ble op.cls 1
def stepD{α:Type}(cfg:Nat→Nat)(ok:XR→IOp→Bool)(d:Option Nat)(op:IOp)(g:Option Bool)(xr:XR)(σ:Store)(ps:List Prop)(k:List Prop→XR→Store→Option α):Option α:=
 needs g xr (tmpsOf op.opers) ps fun ps=>match ok xr op with
  |true=>match clsG g op with
   |true=>match detO cfg d (raw xr) σ op with
    |some (p,v,σ')=>putG g d v xr fun xr=>k (push g op p ps) xr σ'
    |none=>none
   |false=>none
  |false=>none
def stepX{α:Type}(cfg:Nat→Nat)(ok:XR→IOp→Bool)(c:CI)(xr:XR)(σ:Store)(ps:List Prop)(k:List Prop→XR→Store→Option α):Option α:=
 gX xr c.g fun g=>match c.op with
  | .pick x a b=>pickB g xr x a b ps fun ps v=>putG g c.d (.v (.bool v)) xr fun xr=>k ps xr σ
  |op=>stepD cfg ok c.d op g xr σ ps k
def runL(cfg:Nat→Nat):List CI→XR→Store→List Prop→Option (List Prop×XR×Store×List CI)
 |[],xr,σ,ps=>some (ps,xr,σ,[])
 |c::l,xr,σ,ps=>match stopC cfg c.op with
  |true=>some (ps,xr,σ,c::l)
  |false=>stepX cfg (fun _ _=>true) c xr σ ps fun ps xr σ=>runL cfg l xr σ ps
def sureX(xr:XR)(t:Nat):Bool:=match lkX xr t with
 | .s _=>true
 | .o _ _=>false
def okX(als cf:List Nat)(xr:XR)(op:IOp):Bool:=cf.all (sureX xr) && okD als cf (raw xr) op
def runM(cfg:Nat→Nat)(als:List Nat):List CD→XR→Store→List Prop→Option (List Prop×XR×Store×List CD)
 |[],xr,σ,ps=>some (ps,xr,σ,[])
 |c::l,xr,σ,ps=>match stopC cfg c.c.op with
  |true=>some (ps,xr,σ,c::l)
  |false=>stepX cfg (okX als c.cf) c.c xr σ ps fun ps xr σ=>runM cfg als l xr σ ps
def vcX(P:Program)[Glob P](cfg:Nat→Nat):List CI→(K:Regs→Store→Prop)→(E:List PanicEntry→Store→Prop)→Regs→Store→Prop
 |[],K,_,rg,σ=>K rg σ
 |c::l,K,E,rg,σ=>vcG P cfg c (fun x σ'=>vcX P cfg l K E (putR c.d x rg) σ') E rg σ
def GM(rg:Regs)(t:Nat)(want:Bool)(A B:Prop):Prop:=match lk rg t with
 | .v (.bool b)=>(b=want→A)∧(b= !want→B)
 | .v (.tuple _)=>B
 |_=>False
def GG(rg:Regs)(g:Option (Nat×Bool))(A B:Prop):Prop:=match g with
 |none=>A
 |some (t,want)=>GM rg t want A B
section
variable {P:Program}[Glob P]{M:Mem}{w0 w:World}{σ σ':Store}{rg:Regs}{a:Act}{cfg:Nat→Nat}{N:Nat}{xr xr':XR}{c:CI}{K K':AV→Store→Prop}{E:List PanicEntry→Store→Prop}
theorem vcG_GG:vcG P cfg c K E rg σ↔GG rg c.g (vcO P cfg c.d rg σ K E c.op) (K (.v undef) σ):=by
 unfold vcG GG GM
 cases c.g with
 |none=>exact Iff.rfl
 |some p=>exact Iff.rfl
theorem vcGD_GG{als:List Nat}{c:CD}:vcGD P cfg als c K rg σ↔GG rg c.c.g (vcOD P cfg als c.cf c.c.d rg σ K c.c.op) (K (.v undef) σ):=by
 unfold vcGD GG GM
 cases c.c.g with
 |none=>exact Iff.rfl
 |some p=>exact Iff.rfl
def Cond(xr:XR)(g:Option (Nat×Bool))(b:Option Bool):Prop:=∀ A B:Prop,(b.getD true=true→A)→(b.getD true=false→B)→GG (den xr) g A B
theorem gX_eq{α:Type}{g:Option (Nat×Bool)}{k:Option Bool→Option α}{r:α}(h:gX xr g k=some r):∃ b,k b=some r∧Cond xr g b∧(b=none→g=none):=by
 unfold gX at h
 have key:∀ t want,((∃ b,lkX xr t= .s (.v (.bool b))∧∀ b',b'=(b == want)→Cond xr (some (t,want)) (some b'))∨(∃ c b,lkX xr t= .o c (.v (.bool b))∧∀ b',b'=(c && (b == want))→Cond xr (some (t,want)) (some b'))∨True):=fun _ _=> .inr (.inr trivial)
 split at h
 ·exact⟨none,h,fun A B h1 _=>h1 rfl,fun _=>rfl⟩
 ·rename_i t
  split at h
  ·rename_i b e
   refine⟨_,h,fun A B h1 h2=> ?_,fun e=>nomatch e⟩
   simp only[GG,GM,lk_den,e,XV.den]
   exact⟨fun e=>h1 e,fun e=>h2 e⟩
  ·rename_i cc b e
   refine⟨_,h,fun A B h1 h2=> ?_,fun e=>nomatch e⟩
   simp only[GG,GM,lk_den,e,XV.den]
   cases cc with
   |true=>exact⟨fun e=>h1 (by simp[e]),fun e=>h2 (by simp_all)⟩
   |false=>exact h2 rfl
  ·cases h
 ·rename_i t
  split at h
  ·rename_i b e
   refine⟨_,h,fun A B h1 h2=> ?_,fun e=>nomatch e⟩
   simp only[GG,GM,lk_den,e,XV.den]
   exact⟨fun e=>h1 (by simp[e]),fun e=>h2 (by simp_all)⟩
  ·rename_i cc b e
   refine⟨_,h,fun A B h1 h2=> ?_,fun e=>nomatch e⟩
   simp only[GG,GM,lk_den,e,XV.den]
   cases cc with
   |true=>exact⟨fun e=>h1 (by simp[e]),fun e=>h2 (by simp_all)⟩
   |false=>exact h2 rfl
  ·cases h
theorem needs_eq{α:Type}{g:Option Bool}:∀ {ts:List Nat} {ps:List Prop} {k:List Prop→Option α} {r:α},needs g xr ts ps k=some r→
  ∃ ps',k ps'=some r∧(∀ p∈ps,p∈ps')∧((∀ p∈ps',p)→g.getD true=true→∀ t∈ts,lk (raw xr) t=lk (den xr) t)
 |[],ps,k,r,h=>⟨ps,h,fun _ h=>h,fun _ _ _ h=>by cases h⟩
 |t::ts,ps,k,r,h=>by
  simp only[needs]at h
  split at h
  ·rename_i x e
   obtain⟨ps',h1,h2,h3⟩:=needs_eq h
   refine⟨ps',h1,h2,fun ha hg u hu=> ?_⟩
   rcases List.mem_cons.1 hu with rfl|hu
   ·rw[lk_raw,lk_den,e];rfl
   ·exact h3 ha hg u hu
  ·rename_i cc x e
   split at h
   ·obtain⟨ps',h1,h2,h3⟩:=needs_eq h
    refine⟨ps',h1,fun p hp=>h2 p (List.mem_cons_of_mem _ hp),fun ha hg u hu=> ?_⟩
    rcases List.mem_cons.1 hu with rfl|hu
    ·have:=ha _ (h2 _ (List.mem_cons_self ..))
     rw[lk_raw,lk_den,e,this];rfl
    ·exact h3 ha hg u hu
   ·obtain⟨ps',h1,h2,h3⟩:=needs_eq h
    refine⟨ps',h1,fun p hp=>h2 p (List.mem_cons_of_mem _ hp),fun ha hg u hu=> ?_⟩
    rcases List.mem_cons.1 hu with rfl|hu
    ·have:=ha _ (h2 _ (List.mem_cons_self ..)) hg
     rw[lk_raw,lk_den,e,this];rfl
    ·exact h3 ha hg u hu
theorem evX_den(x:Operand):ev (den xr) x=(evX xr x).den:=by
 cases x with
 |tmp t=>exact lk_den t xr
 |const v=>rfl
 |global g=>rfl
 |func f=>rfl
theorem pickB_eq{α:Type}{g:Option Bool}{c a b:Operand}{ps:List Prop}{k:List Prop→Bool→Option α}{r:α}(h:pickB g xr c a b ps k=some r):
  ∃ ps' v,k ps' v=some r∧(∀ p∈ps,p∈ps')∧((∀ p∈ps',p)→g.getD true=true→∃ t,ev (den xr) c= .v (.bool t)∧(if t then ev (den xr) a else ev (den xr) b)= .v (.bool v)):=by
 simp only[evX_den]
 unfold pickB at h
 split at h
 ·rename_i t ec
  rw[ec]
  split at h
  ·split at h
   ·rename_i y eb
    refine⟨_,_,h,fun _ h=>h,fun _ _=>⟨t,rfl,?_⟩⟩
    rw[eb];cases t<;>rfl
   ·rename_i cb y eb
    split at h
    ·refine⟨_,_,h,fun p hp=>List.mem_cons_of_mem _ hp,fun ha hg=>⟨t,rfl,?_⟩⟩
     rw[eb]
     have:=ha _ (List.mem_cons_self ..)
     cases t with
     |true=>rfl
     |false=>rw[this rfl];rfl
    ·rename_i g
     refine⟨_,_,h,fun p hp=>List.mem_cons_of_mem _ hp,fun ha hg=>⟨t,rfl,?_⟩⟩
     rw[eb]
     have:=ha _ (List.mem_cons_self ..)
     have hg:g=true:=hg
     cases t with
     |true=>rfl
     |false=>rw[this (by rw[hg];rfl)];rfl
   ·cases h
  ·split at h
   ·rename_i y eb
    refine⟨_,_,h,fun _ h=>h,fun _ _=>⟨t,rfl,?_⟩⟩
    rw[eb];cases t<;>rfl
   ·rename_i cb y eb
    split at h
    ·refine⟨_,_,h,fun p hp=>List.mem_cons_of_mem _ hp,fun ha hg=>⟨t,rfl,?_⟩⟩
     rw[eb]
     have:=ha _ (List.mem_cons_self ..)
     cases t with
     |false=>rfl
     |true=>rw[this rfl];rfl
    ·rename_i g
     refine⟨_,_,h,fun p hp=>List.mem_cons_of_mem _ hp,fun ha hg=>⟨t,rfl,?_⟩⟩
     rw[eb]
     have:=ha _ (List.mem_cons_self ..)
     have hg:g=true:=hg
     cases t with
     |false=>rfl
     |true=>rw[this (by rw[hg];rfl)];rfl
   ·cases h
  ·cases h
 ·rename_i cc t ec
  rw[ec]
  split at h
  ·cases h
  ·rename_i g
   split at h
   ·split at h
    ·rename_i y eb
     refine⟨_,_,h,fun p hp=>List.mem_cons_of_mem _ hp,fun ha hg=> ?_⟩
     have:=ha _ (List.mem_cons_self ..) hg
     subst this
     refine⟨t,rfl,?_⟩
     rw[eb];cases t<;>rfl
    ·rename_i cb y eb
     refine⟨_,_,h,fun p hp=>List.mem_cons_of_mem _ (List.mem_cons_of_mem _ hp),fun ha hg=> ?_⟩
     have hg:g=true:=hg
     have h1:=ha _ (List.mem_cons_self ..) hg
     have h2:=ha _ (List.mem_cons_of_mem _ (List.mem_cons_self ..))
     subst h1
     refine⟨t,rfl,?_⟩
     rw[eb]
     cases t with
     |true=>rfl
     |false=>rw[h2 (by rw[hg];rfl)];rfl
    ·cases h
   ·split at h
    ·rename_i y eb
     refine⟨_,_,h,fun p hp=>List.mem_cons_of_mem _ hp,fun ha hg=> ?_⟩
     have:=ha _ (List.mem_cons_self ..) hg
     subst this
     refine⟨t,rfl,?_⟩
     rw[eb];cases t<;>rfl
    ·rename_i cb y eb
     refine⟨_,_,h,fun p hp=>List.mem_cons_of_mem _ (List.mem_cons_of_mem _ hp),fun ha hg=> ?_⟩
     have hg:g=true:=hg
     have h1:=ha _ (List.mem_cons_self ..) hg
     have h2:=ha _ (List.mem_cons_of_mem _ (List.mem_cons_self ..))
     subst h1
     refine⟨t,rfl,?_⟩
     rw[eb]
     cases t with
     |false=>rfl
     |true=>rw[h2 (by rw[hg];rfl)];rfl
    ·cases h
   ·cases h
 ·cases h
theorem triv_ok{d:Option Nat}{op:IOp}{p:Prop}{v:AV}(ht:triv op=true)(h:detO cfg d rg σ op=some (p,v,σ')):p:=by
 cases op<;>simp only[triv,Bool.false_eq_true]at ht
 case bin op x y=>
  simp only[detO]at h
  split at h
  ·split at h
   ·rename_i p' r e
    cases h
    unfold binD at e
    split at e
    ·cases op<;>simp only[Bool.false_eq_true]at ht<;>simp only at e<;>first|(have:=(ite_none e).2;cases this;trivial)|(cases e;trivial)
    ·cases op<;>simp only[Bool.false_eq_true]at ht<;>simp only at e<;>first|(cases e;trivial)|cases e
    ·cases e
   ·cases h
  ·cases h
 case len s x=>cases s<;>(simp only[detO]at h;repeat' split at h)<;>cases h<;>trivial
 all_goals simp only[detO,reduceCtorEq]at h
 all_goals(repeat' split at h)
 all_goals first
  |(cases h;done)
  |(cases h;trivial)
  |(have:=fo_eq h;cases this;trivial)
  |(have:=foL_eq h;cases this;trivial)
  |(have:=foLL_eq h;cases this;trivial)
  |(have h2:=(ite_none h).2;(repeat' split at h2)<;>first|(cases h2;done)|(cases h2;trivial)|(have:=fo_eq h2;cases this;trivial)|(have:=foL_eq h2;cases this;trivial))
theorem push_mem{g:Option Bool}{op:IOp}{p q:Prop}{ps:List Prop}(h:q∈ps):q∈push g op p ps:=by
 unfold push
 split
 ·exact h
 ·split<;>exact List.mem_cons_of_mem _ h
theorem push_ok{g:Option Bool}{d:Option Nat}{op:IOp}{p:Prop}{v:AV}{ps:List Prop}(h:detO cfg d rg σ op=some (p,v,σ'))(ha:∀ q∈push g op p ps,q)(hg:g.getD true=true):p:=by
 unfold push at ha
 cases ht:triv op with
 |true=>exact triv_ok ht h
 |false=>
  rw[ht]at ha
  cases g with
  |none=>exact ha _ (List.mem_cons_self ..)
  |some b=>exact ha _ (List.mem_cons_self ..) hg
theorem detO_same{d:Option Nat}{op:IOp}{p:Prop}{v:AV}(hc:Nat.ble op.cls 1=true)(h:detO cfg d rg σ op=some (p,v,σ')):σ'=σ:=by
 have hc:=Nat.le_of_ble_eq_true hc
 cases e:op.cls with
 |zero=>exact detO_keep e h
 |succ n=>
  cases op<;>simp only[IOp.cls,reduceCtorEq]at e
  case load g n x=>
   simp only[detO]at h
   repeat' split at h
   all_goals first
    |(cases h;done)
    |(have:=fo_eq h;cases this;rfl)
    |(have h2:=(ite_none h).2;have:=foL_eq h2;cases this;rfl)
  all_goals(simp only[IOp.cls]at hc;omega)
theorem putG_eq{α:Type}{g:Option Bool}{d:Option Nat}{v:AV}{k:XR→Option α}{r:α}(h:putG g d v xr k=some r):
  ∃ xr',k xr'=some r∧(g.getD true=true→den xr'=putR d v (den xr))∧(g.getD true=false→den xr'=putR d (.v undef) (den xr)):=by
 unfold putG at h
 split at h
 ·split at h
  ·exact⟨_,h,fun _=>rfl,fun e=>nomatch e⟩
  ·rename_i t
   exact⟨_,h,fun(e:t=true)=>by subst e;rfl,fun(e:t=false)=>by subst e;rfl⟩
 ·split at h
  ·exact⟨_,h,fun _=>rfl,fun e=>nomatch e⟩
  ·cases h
def Out(cfg:Nat→Nat)(ok:XR→IOp→Bool)(d:Option Nat)(op:IOp)(xr:XR)(σ:Store)(v:AV)(σ':Store):Prop:=
 (∃ p,detO cfg d (raw xr) σ op=some (p,v,σ')∧p∧ok xr op=true∧∀ t∈tmpsOf op.opers,lk (raw xr) t=lk (den xr) t)∨
 (∃ x y z t,op= .pick x y z∧σ'=σ∧ev (den xr) x= .v (.bool t)∧(if t then ev (den xr) y else ev (den xr) z)=v)
def Stp(cfg:Nat→Nat)(ok:XR→IOp→Bool)(d:Option Nat)(op:IOp)(b:Option Bool)(xr:XR)(σ:Store)(xr':XR)(σ':Store):Prop:=
 (b.getD true=true→∃ v,Out cfg ok d op xr σ v σ'∧den xr'=putR d v (den xr))∧(b.getD true=false→σ'=σ∧den xr'=putR d (.v undef) (den xr))
theorem stepD_eq{α:Type}{ok:XR→IOp→Bool}{d:Option Nat}{op:IOp}{g:Option Bool}{ps:List Prop}{k:List Prop→XR→Store→Option α}{r:α}(h:stepD cfg ok d op g xr σ ps k=some r):
  ∃ ps' xr' σ',k ps' xr' σ'=some r∧(∀ p∈ps,p∈ps')∧((∀ p∈ps',p)→Stp cfg ok d op g xr σ xr' σ'):=by
 unfold stepD at h
 obtain⟨ps',h,h2,h3⟩:=needs_eq h
 split at h
 case h_2=>cases h
 rename_i hok
 split at h
 case h_2=>cases h
 rename_i hcls
 split at h
 case h_2=>cases h
 rename_i p v σ' hdet
 obtain⟨xr',h,h4,h5⟩:=putG_eq h
 refine⟨_,xr',σ',h,fun p hp=>push_mem (h2 p hp),fun ha=>⟨fun hg=>⟨v,.inl ⟨p,hdet,push_ok hdet ha hg,hok,h3 (fun q hq=>ha q (push_mem hq)) hg⟩,h4 hg⟩,fun hg=>⟨?_,h5 hg⟩⟩⟩
 cases g with
 |none=>cases hg
 |some t=>exact detO_same hcls hdet
theorem stepX_eq{α:Type}{ok:XR→IOp→Bool}{ps:List Prop}{k:List Prop→XR→Store→Option α}{r:α}(h:stepX cfg ok c xr σ ps k=some r):
  ∃ ps' xr' σ' b,k ps' xr' σ'=some r∧(∀ p∈ps,p∈ps')∧Cond xr c.g b∧((∀ p∈ps',p)→Stp cfg ok c.d c.op b xr σ xr' σ'):=by
 unfold stepX at h
 obtain⟨g,h,hcond,_⟩:=gX_eq h
 obtain⟨d,op,cg⟩:=c
 simp only at h hcond ⊢
 have hd:stepD cfg ok d op g xr σ ps k=some r→∃ ps' xr' σ' b,k ps' xr' σ'=some r∧(∀ p∈ps,p∈ps')∧Cond xr cg b∧((∀ p∈ps',p)→Stp cfg ok d op b xr σ xr' σ'):=fun h=>by
  obtain⟨ps',xr',σ',h1,h2,h3⟩:=stepD_eq h
  exact⟨ps',xr',σ',g,h1,h2,hcond,h3⟩
 cases op with
 |pick x a b=>
  simp only at h
  obtain⟨ps',v,h,h2,h3⟩:=pickB_eq h
  obtain⟨xr',h,h4,h5⟩:=putG_eq h
  refine⟨ps',xr',σ,g,h,h2,hcond,fun ha=>⟨fun hg=> ?_,fun hg=>⟨rfl,h5 hg⟩⟩⟩
  obtain⟨t,e1,e2⟩:=h3 ha hg
  exact⟨_,.inr ⟨x,a,b,t,rfl,rfl,e1,e2⟩,h4 hg⟩
 |_=>exact hd h
theorem outL{ok:XR→IOp→Bool}{d:Option Nat}{op:IOp}{v:AV}(h:Out cfg ok d op xr σ v σ')(hk:K v σ'):vcO P cfg d (den xr) σ K E op:=by
 rcases h with⟨p,h1,h2,_,h4⟩|⟨x,y,z,t,rfl,rfl,h2,rfl⟩
 ·rw[← vcO_local h4];exact detO_sound h1 h2 hk
 ·simp only[vcO,h2];exact hk
theorem outM{als cf:List Nat}{d:Option Nat}{op:IOp}{v:AV}(h:Out cfg (okX als cf) d op xr σ v σ')(hk:K v σ'):vcOD P cfg als cf d (den xr) σ K op:=by
 rcases h with⟨p,h1,h2,h3,h4⟩|⟨x,y,z,t,rfl,rfl,h2,rfl⟩
 ·unfold okX at h3
  simp only[Bool.and_eq_true,List.all_eq_true]at h3
  have hcf:∀ t∈cf,lk (raw xr) t=lk (den xr) t:=fun t ht=>by
   have:=h3.1 t ht
   unfold sureX at this
   rw[lk_raw,lk_den]
   split at this
   ·rename_i e;rw[e];rfl
   ·cases this
  rw[← vcOD_local h4 hcf]
  have ho:=h3.2
  unfold vcOD
  cases hc:op.cls with
  |zero=>
   have:=detO_keep hc h1
   subst this
   exact detO_Q hc h1 h2 hk
  |succ n=>
   cases op<;>simp only[IOp.cls,reduceCtorEq,Nat.reduceEqDiff,Nat.zero_ne_add_one]at hc<;>simp only[okD,reduceCtorEq]at ho<;>first|cases ho|skip
   ·cases hc;exact⟨ho,detO_sound h1 h2 hk⟩
   ·cases hc;exact⟨ho,detO_sound h1 h2 hk⟩
 ·simp only[vcOD,IOp.cls,vcOQ,vcO,h2];exact hk
structure VX(P:Program)[Glob P](cfg:Nat→Nat)(l:List CI)(K:Regs→Store→Prop)(E:List PanicEntry→Store→Prop)(xr:XR)(σ:Store):Prop where
 h:vcX P cfg l K E (den xr) σ
structure VY(P:Program)[Glob P](cfg:Nat→Nat)(als:List Nat)(l:List CD)(K:Regs→Store→Prop)(xr:XR)(σ:Store):Prop where
 h:vcM P cfg als l K (den xr) σ
theorem runL_eq{Kc:Regs→Store→Prop}{ps':List Prop}{rest:List CI}:∀ {l:List CI} {xr:XR} {σ:Store} {ps:List Prop},runL cfg l xr σ ps=some (ps',xr',σ',rest)→
  (∀ p∈ps,p∈ps')∧((∀ p∈ps',p)→vcX P cfg rest Kc E (den xr') σ'→vcX P cfg l Kc E (den xr) σ)
 |[],xr,σ,ps,h=>by cases h;exact⟨fun _ h=>h,fun _ h=>h⟩
 |c::l,xr,σ,ps,h=>by
  simp only[runL]at h
  split at h
  ·cases h;exact⟨fun _ h=>h,fun _ h=>h⟩
  ·obtain⟨ps1,xr1,σ1,b,h,h2,hc,h3⟩:=stepX_eq h
   obtain⟨i1,i2⟩:=runL_eq h
   refine⟨fun p hp=>i1 p (h2 p hp),fun ha hk=> ?_⟩
   have hn:=i2 ha hk
   obtain⟨s1,s2⟩:=h3 fun p hp=>ha p (i1 p hp)
   simp only[vcX]
   rw[vcG_GG]
   refine hc _ _ (fun hg=> ?_) (fun hg=> ?_)
   ·obtain⟨v,ho,hd⟩:=s1 hg
    exact outL ho (by rw[← hd];exact hn)
   ·obtain⟨e,hd⟩:=s2 hg
    rw[← hd,← e];exact hn
theorem runM_eq{als:List Nat}{Kc:Regs→Store→Prop}{ps':List Prop}{rest:List CD}:∀ {l:List CD} {xr:XR} {σ:Store} {ps:List Prop},runM cfg als l xr σ ps=some (ps',xr',σ',rest)→
  (∀ p∈ps,p∈ps')∧((∀ p∈ps',p)→vcM P cfg als rest Kc (den xr') σ'→vcM P cfg als l Kc (den xr) σ)
 |[],xr,σ,ps,h=>by cases h;exact⟨fun _ h=>h,fun _ h=>h⟩
 |c::l,xr,σ,ps,h=>by
  simp only[runM]at h
  split at h
  ·cases h;exact⟨fun _ h=>h,fun _ h=>h⟩
  ·obtain⟨ps1,xr1,σ1,b,h,h2,hc,h3⟩:=stepX_eq h
   obtain⟨i1,i2⟩:=runM_eq h
   refine⟨fun p hp=>i1 p (h2 p hp),fun ha hk=> ?_⟩
   have hn:=i2 ha hk
   obtain⟨s1,s2⟩:=h3 fun p hp=>ha p (i1 p hp)
   simp only[vcM]
   rw[vcGD_GG]
   refine hc _ _ (fun hg=> ?_) (fun hg=> ?_)
   ·obtain⟨v,ho,hd⟩:=s1 hg
    exact outM ho (by rw[← hd];exact hn)
   ·obtain⟨e,hd⟩:=s2 hg
    rw[← hd,← e];exact hn
theorem vcX_sound(ops:Array Oper){Q:Exit→Regs→Store→Prop}{K:Regs→Store→Prop}(hK:∀ rg σ,K rg σ→Q .normal rg σ):
  ∀ (os:List Oper) (k:Nat) (l:List CI),compL P N ops os=some l→(∀ i,i<os.length→ops[k+i]? =os[i]?)→
  ∀ (M:Mem) (w0 w:World) (a:Act) (rg:Regs) (σ:Store),vcX P cfg l K (fun ch σ'=>Q (.panic ch) [] σ') rg σ→Inv P M w0 σ w→RegsOK M rg a→a.tmps.size=N→a.defers=[]→
   wpOps P ops (conc P M w0 N Q) (List.range' k os.length) a w
 |[],k,l,hl,_,M,w0,w,a,rg,σ,h,hI,hR,hN,hD=>by
  simp only[compL,Option.some.injEq]at hl
  subst hl
  exact⟨M,rg,σ,Mem.le.refl _,hI,hR,hN,hD,hK rg σ h⟩
 |o::os,k,l,hl,ho,M,w0,w,a,rg,σ,h,hI,hR,hN,hD=>by
  simp only[compL]at hl
  split at hl
  ·rename_i c hc
   obtain⟨l',hl',rfl⟩:=Option.map_eq_some_iff.1 hl
   have ho0:ops[k]? =some o:=by simpa using ho 0 (by simp)
   obtain⟨hdst,hlt⟩:=compI_lt hc
   simp only[List.length_cons,List.range'_succ,wpOps,ho0]
   simp only[vcX]at h
   refine guard_sound hc h hI hR ⟨fun M' x σ' v w' hM hI' hx hk=> ?_,fun M' ch σ' w' hM hI' hk=> ?_⟩
   ·have ih:=vcX_sound ops hK os (k+1) l' hl' (fun i hi=>by have:=ho (i+1) (by simpa using hi);rw[show k+1+i=k+(i+1)from by omega];simpa using this) M' w0 w' (a.put o.dst v) (putR c.d x rg) σ' hk hI'
     (by rw[hdst];exact(hR.mono hM).put o.dst (fun t ht=>by rw[hN];exact hlt t (hdst.trans ht)) hx) (by rw[Act.size_put];exact hN) (by rw[Act.defers_put];exact hD)
    refine vcL_sound.wpOps_le ?_ _ _ _ ih
    rintro e a2 w2 ⟨M2,rg2,σ2,h1,h2⟩
    exact⟨M2,rg2,σ2,hM.trans h1,h2⟩
   ·exact⟨M',[],σ',hM,hI',fun i=> .any _,hN,hD,hk⟩
  ·cases hl
theorem SW_regX{l:List CI}{Q:Exit→Regs→Store→Prop}(cfg:Nat→Nat)(h:vcX P cfg l (Q .normal) (fun ch σ'=>Q (.panic ch) [] σ') rg σ):SW P N (.reg l) Q rg σ:=by
 intro c hc M w0 a w hI hR hN hD
 obtain⟨id,ops,rfl,hl⟩:=compC_inv hc
 show wpOps _ _ _ _ _ _
 have:=vcX_sound (P:=P) (N:=N) (cfg:=cfg) ops (Q:=Q) (K:=Q .normal) (fun _ _ h=>h) ops.toList 0 l hl (fun i hi=>by simp) M w0 w a rg σ h hI hR hN hD
 rw[List.range_eq_range']
 simpa using this
end
def toXO:Regs→Option XR
 |[]=>some []
 |(i,x)::r=>match toXO r with
  |some l=>some ((i,.s x)::l)
  |none=>none
theorem toXO_eq:∀ {rg:Regs} {xr:XR},toXO rg=some xr→toX rg=xr
 |[],_,h=>by cases h;rfl
 |(i,x)::r,xr,h=>by
  simp only[toXO]at h
  split at h
  ·rename_i e;cases h;rw[toX,toXO_eq e]
  ·cases h
def putX(og:Option Bool)(d:Nat)(v:AV)(xr:XR):XR:=(d,match og with
 |none=> .s v
 |some b=> .o b v)::xr
def argO(xr:XR)(g:Option (Nat×Bool))(args:List Operand):Option (Option Bool×List AV×List Prop):=
 gX xr g fun og=>needs og xr (tmpsOf args) [] fun ps=>match evsO (raw xr) args with
  |some as=>some (og,as,ps)
  |none=>none
section
variable {P:Program}[Glob P]{N:Nat}{cfg:Nat→Nat}{Q:Exit→Regs→Store→Prop}{K:Regs→Store→Prop}{E:List PanicEntry→Store→Prop}{rg:Regs}{σ σ':Store}{l rest:List CI}{d:Nat}{op:IOp}{p:Prop}{v:AV}{xr xr':XR}{ps:List Prop}{c:CI}
 {als cf:List Nat} {ix:Nat} {ld restd:List CD} {cd:CD} {g:Option (Nat×Bool)} {og:Option Bool} {as:List AV} {args:List Operand}
theorem putX_t(h:og.getD true=true):den (putX og d v xr)=(d,v)::den xr:=by
 cases og with
 |none=>rfl
 |some b=>have h:b=true:=h;subst h;rfl
theorem putX_f(h:og.getD true=false):den (putX og d v xr)=(d,.v undef)::den xr:=by
 cases og with
 |none=>cases h
 |some b=>have h:b=false:=h;subst h;rfl
theorem argO_eq(h:argO xr g args=some (og,as,ps)):Cond xr g og∧(OB ps→og.getD true=true→evs (den xr) args=as):=by
 unfold argO at h
 obtain⟨b,h,hc,_⟩:=gX_eq h
 obtain⟨ps',h,_,h3⟩:=needs_eq h
 split at h
 ·rename_i as' e
  cases h
  refine⟨hc,fun hp hg=> ?_⟩
  rw[← evs_local args (h3 hp.all hg)]
  exact evsO_eq e
 ·cases h
theorem WA_regX(hx:toXO rg=some xr)(h:VX P cfg l (Q .normal) (fun ch σ'=>Q (.panic ch) [] σ') xr σ):WA P N cfg (.reg l) Q rg σ:=
 ⟨rfl,SW_regX cfg (by have:=h.h;rwa [← toXO_eq hx,den_toX]at this)⟩
theorem WA_mregX{ld:List CD}(hx:toXO rg=some xr)(h:VY P cfg als ld (Cl (Q .normal)) xr σ):WA P N cfg (.mreg als ld) Q rg σ:=
 ⟨rfl,SW_mregM cfg (by have:=h.h;rwa [← toXO_eq hx,den_toX]at this)⟩
theorem WA_dregX(hx:toXO rg=some xr)(h:VY P cfg [] (bare l) (Cl (Q .normal)) xr σ):WA P N cfg (.dreg l) Q rg σ:=
 ⟨rfl,SW_dregM cfg (by have:=h.h;rwa [← toXO_eq hx,den_toX]at this)⟩
theorem VX_nil(h:K (den xr) σ):VX P cfg [] K E xr σ:=⟨h⟩
theorem VX_run(_h0:stopC cfg c.op=false)(h:runL cfg (c::l) xr σ []=some (ps,xr',σ',rest))(hp:OB ps)(k:VX P cfg rest K E xr' σ'):VX P cfg (c::l) K E xr σ:=
 ⟨(runL_eq h).2 hp.all k.h⟩
theorem VX_det(h:stepX cfg (fun _ _=>true) c xr σ [] (fun ps xr σ=>some (ps,xr,σ))=some (ps,xr',σ'))(hp:OB ps)(k:VX P cfg l K E xr' σ'):VX P cfg (c::l) K E xr σ:=by
 constructor
 obtain⟨ps1,xr1,σ1,b,h,h2,hc,h3⟩:=stepX_eq h
 cases h
 obtain⟨s1,s2⟩:=h3 hp.all
 simp only[vcX]
 rw[vcG_GG]
 refine hc _ _ (fun hg=> ?_) (fun hg=> ?_)
 ·obtain⟨v,ho,hd⟩:=s1 hg
  exact outL ho (by rw[← hd];exact k.h)
 ·obtain⟨e,hd⟩:=s2 hg
  rw[← hd,← e];exact k.h
theorem row_getD{α:Type}[Inhabited α]{f:α→List AV}{ls:List α}{n:Int}(h:0≤n∧n<ls.length):(ls.map f).getD n.toNat []=f (ls.getD n.toNat default):=by
 have hlt:n.toNat<ls.length:=by omega
 simp[List.getD_eq_getElem?_getD,hlt]
theorem VX_gen(hc:Cond xr g og)(h1:og.getD true=true→vcO P cfg (some d) (den xr) σ (fun x σ'=>vcX P cfg l K E ((d,x)::den xr) σ') E op)(h2:og.getD true=false→vcX P cfg l K E ((d,.v undef)::den xr) σ):VX P cfg (⟨some d,op,g⟩::l) K E xr σ:=by
 constructor
 simp only[vcX]
 rw[vcG_GG]
 exact hc _ _ h1 h2
theorem VX_call{f:FuncId}{r:AV}(h:argO xr g args=some (og,as,ps))(hp:og.getD true=true→Pure P f as r)(hps:OB ps)(k:VX P cfg l K E (putX og d r xr) σ):VX P cfg (⟨some d,.call f args,g⟩::l) K E xr σ:=by
 obtain⟨hc,he⟩:=argO_eq h
 refine VX_gen hc (fun hg=> ?_) (fun hg=> ?_)
 ·simp only[vcO,he hps hg]
  refine callP_pure (hp hg) ?_
  rw[← putX_t hg];exact k.h
 ·rw[← putX_f hg (v:=r)];exact k.h
theorem VX_callv{f:FuncId}{r fv:AV}{fo:Operand}{a c:Array Value}(h:argO xr g (fo::args)=some (og,fv::as,ps))(hf:fnO fv=some (f,a,c))(hcl:callable P f=true)(hp:og.getD true=true→Pure P f (a.toList.map .v++as++c.toList.map .v) r)(hps:OB ps)(k:VX P cfg l K E (putX og d r xr) σ):
  VX P cfg (⟨some d,.callv fo args,g⟩::l) K E xr σ:=by
 obtain⟨hc,he⟩:=argO_eq h
 refine VX_gen hc (fun hg=> ?_) (fun hg=> ?_)
 ·have:=he hps hg
  simp only[evs,List.cons.injEq]at this
  simp only[vcO,this.1,this.2,fnO_eq hf]
  refine⟨hcl,callP_pure (hp hg) ?_⟩
  rw[← putX_t hg];exact k.h
 ·rw[← putX_f hg (v:=r)];exact k.h
theorem VX_spec{f:FuncId}{R:Res→Store→Prop}(h:argO xr none args=some (og,as,ps))(hp:Spec P f as σ R)(hps:OB ps)(k:∀ x σ',R (.ret x) σ'→VX P cfg l K E ((d,.s x)::xr) σ')(e:∀ ch σ',R (.pan ch) σ'→E ch σ'):
  VX P cfg (⟨some d,.call f args,none⟩::l) K E xr σ:=by
 obtain⟨hc,he⟩:=argO_eq h
 unfold argO gX at h
 obtain⟨ps',h',_,_⟩:=needs_eq h
 have hog:og=none:=by split at h'<;>cases h';rfl
 subst hog
 refine VX_gen hc (fun hg=> ?_) (fun hg=>nomatch hg)
 simp only[vcO,he hps hg]
 exact⟨R,hp,fun x σ' hr=>(k x σ' hr).h,e⟩
theorem VX_len{α:Type}{f:α→List AV}{ls:List α}{e:Nat}{x:Operand}(h:argO xr g [x]=some (og,[v],ps))(hx:rowsO v=some (e,ls.map f))(hps:OB ps)(k:(og.getD true=true→ls.length≤maxLen)→VX P cfg l K E (putX og d (.v (.int .i64 ls.length)) xr) σ):
  VX P cfg (⟨some d,.len false x,g⟩::l) K E xr σ:=by
 obtain⟨hc,he⟩:=argO_eq h
 refine VX_gen hc (fun hg=> ?_) (fun hg=> ?_)
 ·have:=he hps hg
  simp only[evs,List.cons.injEq,and_true]at this
  rcases rowsO_eq hx with⟨nn,e2⟩|⟨t,b,u,c,e2⟩<;>simp only[vcO,this,e2,List.length_map]<;>(intro hl;rw[← putX_t hg];exact(k fun _=>hl).h)
 ·rw[← putX_f hg (v:= .v (.int .i64 ls.length))];exact(k fun hg'=>by rw[hg]at hg';cases hg').h
theorem VX_lenr{rows:List (List AV)}{e:Nat}{x:Operand}(h:argO xr g [x]=some (og,[v],ps))(hx:rowsO v=some (e,rows))(hps:OB ps)(k:(og.getD true=true→rows.length≤maxLen)→VX P cfg l K E (putX og d (.v (.int .i64 rows.length)) xr) σ):
  VX P cfg (⟨some d,.len false x,g⟩::l) K E xr σ:=by
 obtain⟨hc,he⟩:=argO_eq h
 refine VX_gen hc (fun hg=> ?_) (fun hg=> ?_)
 ·have:=he hps hg
  simp only[evs,List.cons.injEq,and_true]at this
  rcases rowsO_eq hx with⟨nn,e2⟩|⟨t,b,u,c,e2⟩<;>simp only[vcO,this,e2]<;>(intro hl;rw[← putX_t hg];exact(k fun _=>hl).h)
 ·rw[← putX_f hg (v:= .v (.int .i64 rows.length))];exact(k fun hg'=>by rw[hg]at hg';cases hg').h
theorem VX_iad{α:Type}[Inhabited α]{f:α→List AV}{ls:List α}{e:Nat}{x i:Operand}{iv:AV}{n:Int}(h:argO xr g [x,i]=some (og,[v,iv],ps))(hi:intO iv=some n)(hx:rowsO v=some (e,ls.map f))(hps:OB ps)
  (k:VX P cfg l K E (putX og d (.pc (f (ls.getD n.toNat default))) xr) σ) (hb:og.getD true=true→0≤n∧n<ls.length):
  VX P cfg (⟨some d,.iaddr e x i,g⟩::l) K E xr σ:=by
 obtain⟨hc,he⟩:=argO_eq h
 refine VX_gen hc (fun hg=> ?_) (fun hg=> ?_)
 ·have:=he hps hg
  simp only[evs,List.cons.injEq,and_true]at this
  obtain⟨q,hq⟩:=intO_eq hi
  have hb:=hb hg
  have hga:=row_getD (f:=f) hb
  rcases rowsO_eq hx with⟨nn,e2⟩|⟨t,b,u,c,e2⟩<;>simp only[vcO,this.1,this.2,e2,hq,List.length_map,hga]<;>(rw[← putX_t hg];exact⟨trivial,hb.1,hb.2,k.h⟩)
 ·rw[← putX_f hg (v:= .pc (f (ls.getD n.toNat default)))];exact k.h
theorem VX_alloc{t:TypeId}{z:Value}{cs:List AV}(h:foL (z.cells.toList.map .v) some=some cs)(k:∀ b,VX P cfg l K E ((d,.s (.lp d b 0))::xr) ((d,b,.cells cs)::σ)):VX P cfg (⟨some d,.alloc t z,none⟩::l) K E xr σ:=by
 constructor
 have h:=foL_eq h
 cases h
 simp only[vcX,vcG,vcO];exact fun b=>(k b).h
theorem VX_box{t:TypeId}{x:Operand}{cs:List AV}(h:argO xr none [x]=some (og,[v],ps))(hc:cellO v=some cs)(hps:OB ps)(k:∀ b,VX P cfg l K E ((d,.s (.lp d b 0))::xr) ((d,b,.cells cs)::σ)):VX P cfg (⟨some d,.box t x,none⟩::l) K E xr σ:=by
 obtain⟨_,he⟩:=argO_eq h
 unfold argO gX at h
 obtain⟨ps',h',_,_⟩:=needs_eq h
 have hog:og=none:=by split at h'<;>cases h';rfl
 subst hog
 have:=he hps rfl
 simp only[evs,List.cons.injEq,and_true]at this
 constructor
 simp only[vcX,vcG,vcO,this,cellO_eq hc];exact fun b=>(k b).h
theorem VX_mk0{t:TypeId}{esz:Nat}(hc:cfg d=1)(he:0<esz)(k:∀ b,VX P cfg l K E ((d,.s (.own esz d b 0 0 []))::xr) ((d,b,.tail 0 0)::σ)):VX P cfg (⟨some d,.mksl t esz [],none⟩::l) K E xr σ:=by
 constructor
 simp only[vcX,vcG,vcO,evs,rowsOf,Option.getD_some,hc,List.length_nil,Nat.zero_mul]
 exact⟨Nat.zero_le _,he,fun b=>(k b).h⟩
theorem VX_app0{t:TypeId}{esz bytes:Nat}{z:List Value}{x y:Operand}{w:AV}{rows:List (List AV)}(h:argO xr none [x,y]=some (og,[.v (.slice none 0 0),w],ps))(hw:rowsV esz w=some rows)(hps:OB ps)(hn:rows≠[])(hb:rows.length * bytes≤35184372088832)
  (k:∀ b u c,VX P cfg l K E ((d,.s (.own esz d b u c rows))::xr) ((d,b,.tail u c)::σ)):VX P cfg (⟨some d,.append t esz bytes z x y,none⟩::l) K E xr σ:=by
 obtain⟨_,he⟩:=argO_eq h
 unfold argO gX at h
 obtain⟨ps',h',_,_⟩:=needs_eq h
 have hog:og=none:=by split at h'<;>cases h';rfl
 subst hog
 have:=he hps rfl
 simp only[evs,List.cons.injEq,and_true]at this
 constructor
 simp only[vcX,vcG,vcO,this.1,this.2,hw]
 exact⟨hb,fun e=>absurd e hn,fun _ b u c=>(k b u c).h⟩
theorem VX_app{t:TypeId}{esz bytes tg b u c:Nat}{z:List Value}{x y:Operand}{w:AV}{rows rows':List (List AV)}(h:argO xr none [x,y]=some (og,[.own esz tg b u c rows,w],ps))(hw:rowsV esz w=some rows')(hl:lkt σ tg=some (b,.tail u c))(hps:OB ps)
  (hb:(rows.length+rows'.length) * bytes≤35184372088832) (h1:rows'.all (fun r=>r.all AV.one)=true)
  (k:∀ b' u' c',VX P cfg l K E ((d,.s (.own esz tg b' u' c' (rows++rows')))::xr) (upt σ tg b' (.tail u' c'))):VX P cfg (⟨some d,.append t esz bytes z x y,none⟩::l) K E xr σ:=by
 obtain⟨_,he⟩:=argO_eq h
 unfold argO gX at h
 obtain⟨ps',h',_,_⟩:=needs_eq h
 have hog:og=none:=by split at h'<;>cases h';rfl
 subst hog
 have:=he hps rfl
 simp only[evs,List.cons.injEq,and_true]at this
 constructor
 simp only[vcX,vcG,vcO,this.1,this.2,hw]
 exact⟨trivial,hl,hb,h1,fun b' u' c'=>(k b' u' c').h⟩
theorem VX_appf{t:TypeId}{esz bytes:Nat}{z:List Value}{x y:Operand}{w:AV}{rows rows':List (List AV)}(h:argO xr none [x,y]=some (og,[.fl esz rows,w],ps))(hw:rowsV esz w=some rows')(hps:OB ps)
  (hb:(rows.length+rows'.length) * bytes≤35184372088832) (k0:rows'=[]→VX P cfg l K E ((d,.s (.fl esz rows))::xr) σ)
  (k:rows'≠[]→∀ b u c,VX P cfg l K E ((d,.s (.own esz d b u c (rows++rows')))::xr) ((d,b,.tail u c)::σ)):VX P cfg (⟨some d,.append t esz bytes z x y,none⟩::l) K E xr σ:=by
 obtain⟨_,he⟩:=argO_eq h
 unfold argO gX at h
 obtain⟨ps',h',_,_⟩:=needs_eq h
 have hog:og=none:=by split at h'<;>cases h';rfl
 subst hog
 have:=he hps rfl
 simp only[evs,List.cons.injEq,and_true]at this
 constructor
 simp only[vcX,vcG,vcO,this.1,this.2,hw]
 exact⟨trivial,hb,fun e=>(k0 e).h,fun e b u c=>(k e b u c).h⟩
theorem VY_nil(h:K (den xr) σ):VY P cfg als [] (Cl K) xr σ:=⟨Cl.intro h⟩
theorem VY_run(_h0:stopC cfg cd.c.op=false)(h:runM cfg als (cd::ld) xr σ []=some (ps,xr',σ',restd))(hp:OB ps)(k:VY P cfg als restd K xr' σ'):VY P cfg als (cd::ld) K xr σ:=
 ⟨(runM_eq h).2 hp.all k.h⟩
theorem VY_det(h:stepX cfg (okX als cd.cf) cd.c xr σ [] (fun ps xr σ=>some (ps,xr,σ))=some (ps,xr',σ'))(hp:OB ps)(k:VY P cfg als ld K xr' σ'):VY P cfg als (cd::ld) K xr σ:=by
 constructor
 obtain⟨ps1,xr1,σ1,b,h,h2,hc,h3⟩:=stepX_eq h
 cases h
 obtain⟨s1,s2⟩:=h3 hp.all
 simp only[vcM]
 rw[vcGD_GG]
 refine hc _ _ (fun hg=> ?_) (fun hg=> ?_)
 ·obtain⟨v,ho,hd⟩:=s1 hg
  exact outM ho (by rw[← hd];exact k.h)
 ·obtain⟨e,hd⟩:=s2 hg
  rw[← hd,← e];exact k.h
theorem VY_gen(hc:Cond xr g og)(h1:og.getD true=true→vcOD P cfg als cf (some d) (den xr) σ (fun x σ'=>vcM P cfg als ld K ((d,x)::den xr) σ') op)(h2:og.getD true=false→vcM P cfg als ld K ((d,.v undef)::den xr) σ):VY P cfg als (⟨ix,⟨some d,op,g⟩,cf⟩::ld) K xr σ:=by
 constructor
 simp only[vcM]
 rw[vcGD_GG]
 exact hc _ _ h1 h2
theorem VY_call{f:FuncId}{r:AV}(h:argO xr g args=some (og,as,ps))(hp:og.getD true=true→Pure P f as r)(hps:OB ps)(k:VY P cfg als ld K (putX og d r xr) σ):VY P cfg als (⟨ix,⟨some d,.call f args,g⟩,cf⟩::ld) K xr σ:=by
 obtain⟨hc,he⟩:=argO_eq h
 refine VY_gen hc (fun hg=> ?_) (fun hg=> ?_)
 ·simp only[vcOD,IOp.cls,vcOQ,he hps hg]
  refine⟨r,hp hg,?_⟩
  have:=k.h;rw[putX_t hg]at this;exact this
 ·rw[← putX_f hg (v:=r)];exact k.h
theorem VY_callv{f:FuncId}{r fv:AV}{fo:Operand}{a c:Array Value}(h:argO xr g (fo::args)=some (og,fv::as,ps))(hf:fnO fv=some (f,a,c))(hcl:callable P f=true)(hp:og.getD true=true→Pure P f (a.toList.map .v++as++c.toList.map .v) r)(hps:OB ps)(k:VY P cfg als ld K (putX og d r xr) σ):
  VY P cfg als (⟨ix,⟨some d,.callv fo args,g⟩,cf⟩::ld) K xr σ:=by
 obtain⟨hc,he⟩:=argO_eq h
 refine VY_gen hc (fun hg=> ?_) (fun hg=> ?_)
 ·have:=he hps hg
  simp only[evs,List.cons.injEq]at this
  simp only[vcOD,IOp.cls,vcOQ,this.1,this.2,fnO_eq hf]
  refine⟨hcl,r,hp hg,?_⟩
  have:=k.h;rw[putX_t hg]at this;exact this
 ·rw[← putX_f hg (v:=r)];exact k.h
theorem VY_len{α:Type}{f:α→List AV}{ls:List α}{e:Nat}{x:Operand}(h:argO xr g [x]=some (og,[v],ps))(hx:rowsO v=some (e,ls.map f))(hps:OB ps)(k:VY P cfg als ld K (putX og d (.v (.int .i64 ls.length)) xr) σ):
  VY P cfg als (⟨ix,⟨some d,.len false x,g⟩,cf⟩::ld) K xr σ:=by
 obtain⟨hc,he⟩:=argO_eq h
 refine VY_gen hc (fun hg=> ?_) (fun hg=> ?_)
 ·have:=he hps hg
  simp only[evs,List.cons.injEq,and_true]at this
  rcases rowsO_eq hx with⟨nn,e2⟩|⟨t,b,u,c,e2⟩<;>simp only[vcOD,IOp.cls,vcOQ,this,e2,List.length_map]<;>(rw[← putX_t hg];exact k.h)
 ·rw[← putX_f hg (v:= .v (.int .i64 ls.length))];exact k.h
theorem VY_lenr{rows:List (List AV)}{e:Nat}{x:Operand}(h:argO xr g [x]=some (og,[v],ps))(hx:rowsO v=some (e,rows))(hps:OB ps)(k:VY P cfg als ld K (putX og d (.v (.int .i64 rows.length)) xr) σ):
  VY P cfg als (⟨ix,⟨some d,.len false x,g⟩,cf⟩::ld) K xr σ:=by
 obtain⟨hc,he⟩:=argO_eq h
 refine VY_gen hc (fun hg=> ?_) (fun hg=> ?_)
 ·have:=he hps hg
  simp only[evs,List.cons.injEq,and_true]at this
  rcases rowsO_eq hx with⟨nn,e2⟩|⟨t,b,u,c,e2⟩<;>simp only[vcOD,IOp.cls,vcOQ,this,e2]<;>(rw[← putX_t hg];exact k.h)
 ·rw[← putX_f hg (v:= .v (.int .i64 rows.length))];exact k.h
theorem VY_iad{α:Type}[Inhabited α]{f:α→List AV}{ls:List α}{e:Nat}{x i:Operand}{iv:AV}{n:Int}(h:argO xr g [x,i]=some (og,[v,iv],ps))(hi:intO iv=some n)(hx:rowsO v=some (e,ls.map f))(hps:OB ps)
  (k:VY P cfg als ld K (putX og d (.pc (f (ls.getD n.toNat default))) xr) σ) (hb:og.getD true=true→0≤n∧n<ls.length):
  VY P cfg als (⟨ix,⟨some d,.iaddr e x i,g⟩,cf⟩::ld) K xr σ:=by
 obtain⟨hc,he⟩:=argO_eq h
 refine VY_gen hc (fun hg=> ?_) (fun hg=> ?_)
 ·have:=he hps hg
  simp only[evs,List.cons.injEq,and_true]at this
  obtain⟨q,hq⟩:=intO_eq hi
  have hb:=hb hg
  have hga:=row_getD (f:=f) hb
  rcases rowsO_eq hx with⟨nn,e2⟩|⟨t,b,u,c,e2⟩<;>simp only[vcOD,IOp.cls,vcOQ,vcO,this.1,this.2,e2,hq,List.length_map,hga]<;>(rw[← putX_t hg];exact⟨trivial,hb.1,hb.2,k.h⟩)
 ·rw[← putX_f hg (v:= .pc (f (ls.getD n.toNat default)))];exact k.h
theorem VY_alloc{t:TypeId}{z:Value}{cs:List AV}(h:foL (z.cells.toList.map .v) some=some cs)(k:∀ b,VY P cfg als ld K ((d,.s (.lp d b 0))::xr) ((d,b,.cells cs)::σ)):VY P cfg als (⟨ix,⟨some d,.alloc t z,none⟩,cf⟩::ld) K xr σ:=by
 constructor
 have h:=foL_eq h
 cases h
 exact fun b=>(k b).h
theorem VY_app0{t:TypeId}{esz bytes:Nat}{z:List Value}{x y:Operand}{w:AV}{rows:List (List AV)}(h:argO xr none [x,y]=some (og,[.v (.slice none 0 0),w],ps))(hw:rowsV esz w=some rows)(hl:als.elem d=true)(hps:OB ps)(hn:rows≠[])(hb:rows.length * bytes≤35184372088832)
  (k:∀ b u c,VY P cfg als ld K ((d,.s (.own esz d b u c rows))::xr) ((d,b,.tail u c)::σ)):VY P cfg als (⟨ix,⟨some d,.append t esz bytes z x y,none⟩,cf⟩::ld) K xr σ:=by
 obtain⟨_,he⟩:=argO_eq h
 unfold argO gX at h
 obtain⟨ps',h',_,_⟩:=needs_eq h
 have hog:og=none:=by split at h'<;>cases h';rfl
 subst hog
 have:=he hps rfl
 simp only[evs,List.cons.injEq,and_true]at this
 constructor
 simp only[vcM,vcGD,vcOD,IOp.cls,vcO,this.1,this.2,hw,isApp,Option.getD_some,hl]
 exact⟨rfl,hb,fun e=>absurd e hn,fun _ b u c=>(k b u c).h⟩
theorem VY_app{t:TypeId}{esz bytes tg b u c:Nat}{z:List Value}{x y:Operand}{w:AV}{rows rows':List (List AV)}(h:argO xr none [x,y]=some (og,[.own esz tg b u c rows,w],ps))(hw:rowsV esz w=some rows')(hl:lkt σ tg=some (b,.tail u c))(ha:als.elem d=true)(hps:OB ps)
  (hb:(rows.length+rows'.length) * bytes≤35184372088832) (h1:rows'.all (fun r=>r.all AV.one)=true)
  (k:∀ b' u' c',VY P cfg als ld K ((d,.s (.own esz tg b' u' c' (rows++rows')))::xr) (upt σ tg b' (.tail u' c'))):VY P cfg als (⟨ix,⟨some d,.append t esz bytes z x y,none⟩,cf⟩::ld) K xr σ:=by
 obtain⟨_,he⟩:=argO_eq h
 unfold argO gX at h
 obtain⟨ps',h',_,_⟩:=needs_eq h
 have hog:og=none:=by split at h'<;>cases h';rfl
 subst hog
 have:=he hps rfl
 simp only[evs,List.cons.injEq,and_true]at this
 constructor
 simp only[vcM,vcGD,vcOD,IOp.cls,vcO,this.1,this.2,hw,isApp,Option.getD_some,ha]
 exact⟨rfl,trivial,hl,hb,h1,fun b' u' c'=>(k b' u' c').h⟩
theorem VY_appf{t:TypeId}{esz bytes:Nat}{z:List Value}{x y:Operand}{w:AV}{rows rows':List (List AV)}(h:argO xr none [x,y]=some (og,[.fl esz rows,w],ps))(hw:rowsV esz w=some rows')(ha:als.elem d=true)(hps:OB ps)
  (hb:(rows.length+rows'.length) * bytes≤35184372088832) (k0:rows'=[]→VY P cfg als ld K ((d,.s (.fl esz rows))::xr) σ)
  (k:rows'≠[]→∀ b u c,VY P cfg als ld K ((d,.s (.own esz d b u c (rows++rows')))::xr) ((d,b,.tail u c)::σ)):VY P cfg als (⟨ix,⟨some d,.append t esz bytes z x y,none⟩,cf⟩::ld) K xr σ:=by
 obtain⟨_,he⟩:=argO_eq h
 unfold argO gX at h
 obtain⟨ps',h',_,_⟩:=needs_eq h
 have hog:og=none:=by split at h'<;>cases h';rfl
 subst hog
 have:=he hps rfl
 simp only[evs,List.cons.injEq,and_true]at this
 constructor
 simp only[vcM,vcGD,vcOD,IOp.cls,vcO,this.1,this.2,hw,isApp,Option.getD_some,ha]
 exact⟨rfl,trivial,hb,fun e=>(k0 e).h,fun e b u c=>(k e b u c).h⟩
theorem VY_box{t:TypeId}{x:Operand}{cs:List AV}(h:argO xr none [x]=some (og,[v],ps))(hc:cellO v=some cs)(hps:OB ps)(k:∀ b,VY P cfg als ld K ((d,.s (.lp d b 0))::xr) ((d,b,.cells cs)::σ)):VY P cfg als (⟨ix,⟨some d,.box t x,none⟩,cf⟩::ld) K xr σ:=by
 obtain⟨_,he⟩:=argO_eq h
 unfold argO gX at h
 obtain⟨ps',h',_,_⟩:=needs_eq h
 have hog:og=none:=by split at h'<;>cases h';rfl
 subst hog
 have:=he hps rfl
 simp only[evs,List.cons.injEq,and_true]at this
 constructor
 simp only[vcM,vcGD,vcOD,IOp.cls,vcO,this,cellO_eq hc];exact fun b=>(k b).h
end
def slO(x:AV):Option (Bool×Nat×List (List AV)):=match x with
 | .sl nn e rows=>some (nn,e,rows)
 |_=>none
theorem slO_eq{x:AV}{nn:Bool}{e:Nat}{rows:List (List AV)}(h:slO x=some (nn,e,rows)):x= .sl nn e rows:=by
 unfold slO at h
 split at h
 ·cases h;rfl
 ·cases h
section
variable {P:Program}[Glob P]{cfg:Nat→Nat}{K:Regs→Store→Prop}{E:List PanicEntry→Store→Prop}{σ:Store}{l:List CI}{d:Nat}{v:AV}{xr:XR}{ps:List Prop}{g:Option (Nat×Bool)}{og:Option Bool}
theorem VX_slh{α:Type}{f:α→List AV}{ls:List α}{e:Nat}{nn:Bool}{x y:Operand}{hv:AV}{h:Int}(ha:argO xr g [x,y]=some (og,[v,hv],ps))(hi:intO hv=some h)(hx:slO v=some (nn,e,ls.map f))(hps:OB ps)
  (hb:og.getD true=true→0≤h∧h≤ls.length) (k:VX P cfg l K E (putX og d (.sl nn e ((ls.take h.toNat).map f)) xr) σ):VX P cfg (⟨some d,.slice e x none (some y),g⟩::l) K E xr σ:=by
 obtain⟨hc,he⟩:=argO_eq ha
 refine VX_gen hc (fun hg=> ?_) (fun hg=> ?_)
 ·have:=he hps hg
  simp only[evs,List.cons.injEq,and_true]at this
  obtain⟨q,hq⟩:=intO_eq hi
  obtain⟨b1,b2⟩:=hb hg
  simp only[vcO,Option.map_none,Option.map_some,this.1,this.2,idx?,hq,slO_eq hx,Option.getD_none,Option.getD_some,List.length_map]
  refine⟨trivial,Int.le_refl _,b1,b2,?_⟩
  have:=k.h
  rw[putX_t hg]at this
  simpa using this
 ·rw[← putX_f hg (v:= .sl nn e ((ls.take h.toNat).map f))];exact k.h
theorem VX_sll{α:Type}{f:α→List AV}{ls:List α}{e:Nat}{nn:Bool}{x y:Operand}{hv:AV}{h:Int}(ha:argO xr g [x,y]=some (og,[v,hv],ps))(hi:intO hv=some h)(hx:slO v=some (nn,e,ls.map f))(hps:OB ps)
  (hb:og.getD true=true→0≤h∧h≤ls.length) (k:VX P cfg l K E (putX og d (.sl nn e ((ls.drop h.toNat).map f)) xr) σ):VX P cfg (⟨some d,.slice e x (some y) none,g⟩::l) K E xr σ:=by
 obtain⟨hc,he⟩:=argO_eq ha
 refine VX_gen hc (fun hg=> ?_) (fun hg=> ?_)
 ·have:=he hps hg
  simp only[evs,List.cons.injEq,and_true]at this
  obtain⟨q,hq⟩:=intO_eq hi
  obtain⟨b1,b2⟩:=hb hg
  simp only[vcO,Option.map_none,Option.map_some,this.1,this.2,idx?,hq,slO_eq hx,Option.getD_none,Option.getD_some,List.length_map]
  refine⟨trivial,b1,b2,Int.le_refl _,?_⟩
  have:=k.h
  rw[putX_t hg]at this
  rw[Int.toNat_natCast,List.take_of_length_le (by simp),← List.map_drop]
  exact this
 ·rw[← putX_f hg (v:= .sl nn e ((ls.drop h.toNat).map f))];exact k.h
theorem VX_slb{α:Type}{f:α→List AV}{ls:List α}{e:Nat}{nn:Bool}{x y z:Operand}{lv hv:AV}{lo h:Int}(ha:argO xr g [x,y,z]=some (og,[v,lv,hv],ps))(hl:intO lv=some lo)(hi:intO hv=some h)(hx:slO v=some (nn,e,ls.map f))(hps:OB ps)
  (hb:og.getD true=true→0≤lo∧lo≤h∧h≤ls.length) (k:VX P cfg l K E (putX og d (.sl nn e (((ls.take h.toNat).drop lo.toNat).map f)) xr) σ):VX P cfg (⟨some d,.slice e x (some y) (some z),g⟩::l) K E xr σ:=by
 obtain⟨hc,he⟩:=argO_eq ha
 refine VX_gen hc (fun hg=> ?_) (fun hg=> ?_)
 ·have:=he hps hg
  simp only[evs,List.cons.injEq,and_true]at this
  obtain⟨q,hq⟩:=intO_eq hi
  obtain⟨q2,hq2⟩:=intO_eq hl
  obtain⟨b1,b2,b3⟩:=hb hg
  simp only[vcO,Option.map_some,this.1,this.2.1,this.2.2,idx?,hq,hq2,slO_eq hx,Option.getD_some,List.length_map]
  refine⟨trivial,b1,b2,b3,?_⟩
  have:=k.h
  rw[putX_t hg]at this
  simpa[List.map_drop,List.map_take]using this
 ·rw[← putX_f hg (v:= .sl nn e (((ls.take h.toNat).drop lo.toNat).map f))];exact k.h
end
inductive WkRL:Regs→Regs→Prop
 |nil:WkRL [] []
 |cons {i:Nat} {x y:AV} {r r':Regs} (h:Wk x y) (t:WkRL r r'):WkRL ((i,x)::r) ((i,y)::r')
theorem WkRL.lk{r r':Regs}(h:WkRL r r')(j:Nat):Wk (Sx.lk r j) (Sx.lk r' j):=by
 induction h with
 |nil=>exact Wk.refl _
 |cons h _ ih=>
  simp only[Sx.lk]
  rename_i i _ _ _ _ _
  cases Nat.beq i j with
  |true=>exact h
  |false=>exact ih
theorem WkRL.refl:∀ r:Regs,WkRL r r
 |[]=> .nil
 |(_,_)::r=> .cons (Wk.refl _) (WkRL.refl r)
theorem Wk.tag{ez t t' b u c:Nat}{rows:List (List AV)}:Wk (.own ez t b u c rows) (.own ez t' b u c rows):=fun _ _ h=>by
 obtain⟨off,cap,cs,rfl,hr,h4,h5,h6,h8⟩:=h.of_own
 exact R.mk_own hr h4 h5 h6 h8
theorem Wk.ownr{ez t b u c:Nat}{rows rows':List (List AV)}{nn:Bool}(h:rows=rows'):Wk (.own ez t b u c rows) (.sl nn ez rows'):=h ▸ Wk.own nn
theorem SW.wk{P:Program}[Glob P]{N:Nat}{s:SC}{Q:Exit→Regs→Store→Prop}{rg rg':Regs}{σ σ':Store}(h:SW P N s Q rg' σ')(hr:WkRL rg rg')(hs:Sub σ' σ):SW P N s Q rg σ:=
 fun c hc M w0 a w hI hR hN hD=>h c hc M w0 a w (hI.sub hs) (fun i=>hr.lk i _ _ (hR i)) hN hD
def LoopW(I:Nat→Regs→Store→Prop)(n:Nat)(ks:List Nat)(rg:Regs)(σ:Store):Prop:=∃ rg1,filtO ks rg=some rg1∧∃ n',n'<n∧∃ rg' σ',WkRL rg1 rg'∧Sub σ' σ∧I n' rg' σ'
theorem LoopW.intro{I:Nat→Regs→Store→Prop}{n:Nat}{ks:List Nat}{rg rg1:Regs}{σ:Store}(hk:filtO ks rg=some rg1)(h:∃ n',n'<n∧∃ rg' σ',WkRL rg1 rg'∧Sub σ' σ∧I n' rg' σ'):LoopW I n ks rg σ:=⟨rg1,hk,h⟩
theorem WA_loopw{P:Program}[Glob P]{N:Nat}{cfg:Nat→Nat}{Q:Exit→Regs→Store→Prop}{rg rg0:Regs}{σ:Store}{ks:List Nat}{b:AC}(I:Nat→Regs→Store→Prop)(n:Nat)(hk:filtO ks rg=some rg0)(h0:∃ rg' σ',WkRL rg0 rg'∧Sub σ' σ∧I n rg' σ')
  (h:∀ n rg σ,I n rg σ→WA P N cfg b (thenQ (LoopW I n ks) Q) rg σ):WA P N cfg (.loop (.keep ks b)) Q rg σ:=by
 refine WA_loop (fun n rg σ=>∃ rg1,filtO ks rg=some rg1∧∃ rg' σ',WkRL rg1 rg'∧Sub σ' σ∧I n rg' σ') n ⟨rg0,hk,h0⟩ fun n rg σ ⟨rg1,hf,rg',σ',hw,hs,hi⟩=>WA_keep hf ⟨rfl,SW.wk ((h n rg' σ' hi).mono fun e rg2 σ2 he=> ?_).h hw hs⟩
 cases e with
 |normal=>obtain⟨rg3,h1,n',h2,h3⟩:=he;exact⟨n',h2,rg3,h1,h3⟩
 |_=>exact he
section
variable {α:Type}
def res1K(rg:Regs)(σ:Store)(r:RC)(ps:List Prop)(k:List Prop→AV→Option α):Option α:=match r with
 | .tmp t=>fo (lk rg t) fun x=>k ps x
 | .cell t g n=>match lk rg t with
  | .lp tg b o=>match lkt σ tg with
   |some (b',.cells l)=>match g with
    |true=>bif Nat.ble (o+n) l.length then foL ((l.drop o).take n) (fun l2=>k ((b=b')::ps) (.agg l2))else none
    |false=>match l[o]? with
     |some y=>fo y fun x=>k ((b=b')::ps) x
     |none=>none
   |_=>none
  |_=>none
def resLK(rg:Regs)(σ:Store):List RC→List Prop→(List Prop→List AV→Option α)→Option α
 |[],ps,k=>k ps []
 |r::l,ps,k=>res1K rg σ r ps fun ps x=>resLK rg σ l ps fun ps xs=>k ps (x::xs)
theorem res1K_eq{rg:Regs}{σ:Store}{rc:RC}{ps:List Prop}{k:List Prop→AV→Option α}{r:α}(h:res1K rg σ rc ps k=some r):
  ∃ ps' x,k ps' x=some r∧(∀ p∈ps,p∈ps')∧((∀ p∈ps',p)→res1 rg σ rc=some x):=by
 unfold res1K at h
 split at h
 ·exact⟨_,_,fo_eq h,fun _ h=>h,fun _=>rfl⟩
 ·split at h
  ·rename_i e1
   split at h
   ·rename_i e2
    split at h
    ·obtain⟨h1,h⟩:=ite_none h
     refine⟨_,_,foL_eq h,fun p hp=>List.mem_cons_of_mem _ hp,fun ha=> ?_⟩
     have hb:=ha _ (List.mem_cons_self ..)
     simp only[res1,e1,e2,hb,if_true,Nat.le_of_ble_eq_true h1]
    ·split at h
     ·rename_i e3
      refine⟨_,_,fo_eq h,fun p hp=>List.mem_cons_of_mem _ hp,fun ha=> ?_⟩
      have hb:=ha _ (List.mem_cons_self ..)
      simp only[res1,e1,e2,hb,if_true,Bool.false_eq_true,if_false,e3]
     ·cases h
   ·cases h
  ·cases h
theorem resLK_eq{rg:Regs}{σ:Store}:∀ {l:List RC} {ps:List Prop} {k:List Prop→List AV→Option α} {r:α},resLK rg σ l ps k=some r→
  ∃ ps' xs,k ps' xs=some r∧(∀ p∈ps,p∈ps')∧((∀ p∈ps',p)→resL rg σ l=some xs)
 |[],ps,k,r,h=>⟨ps,[],h,fun _ h=>h,fun _=>rfl⟩
 |rc::l,ps,k,r,h=>by
  simp only[resLK]at h
  obtain⟨ps1,x,h,h1,h2⟩:=res1K_eq h
  obtain⟨ps2,xs,h,h3,h4⟩:=resLK_eq h
  refine⟨ps2,_,h,fun p hp=>h3 p (h1 p hp),fun ha=> ?_⟩
  simp only[resL,h2 fun p hp=>ha p (h3 p hp),h4 ha,Option.map_some]
end
def tupO(ps:List Prop)(xs:List AV):Option (List Prop×AV):=match xs with
 |[x]=>some (ps,x)
 |xs=>some (ps,.tup xs)
def resK(rg:Regs)(σ:Store)(l:List RC):Option (List Prop×AV):=resLK rg σ l [] tupO
theorem resK_eq{rg:Regs}{σ:Store}{l:List RC}{ps:List Prop}{x:AV}(h:resK rg σ l=some (ps,x))(hp:OB ps):resA rg σ l=some x:=by
 obtain⟨ps',xs,h,_,h2⟩:=resLK_eq h
 unfold tupO at h
 unfold resA
 split at h
 ·cases h;rw[h2 hp.all]
 ·rename_i hne
  cases h
  rw[h2 hp.all]
  split
  ·rename_i e;cases e;exact absurd rfl (hne _)
  ·rename_i e;cases e;rfl
  ·rename_i e;cases e
theorem retQk_n{rg:Regs}{σ:Store}{v:AV}{ps:List Prop}{res:List RC}{R:Res→Store→Prop}(e:resK rg σ res=some (ps,v))(hp:OB ps)(h:R (.ret v) σ):retQ res R .normal rg σ:=⟨v,resK_eq e hp,h⟩
theorem retQk_r{rg:Regs}{σ:Store}{v:AV}{ps:List Prop}{res:List RC}{R:Res→Store→Prop}(e:resK rg σ res=some (ps,v))(hp:OB ps)(h:R (.ret v) σ):retQ res R .ret rg σ:=⟨v,resK_eq e hp,h⟩
theorem pureQk_n{rg:Regs}{σ σ0:Store}{v r:AV}{ps:List Prop}{res:List RC}(e:resK rg σ res=some (ps,v))(hp:OB ps)(h:Fin σ0 r v σ):pureQ res r σ0 .normal rg σ:=⟨v,resK_eq e hp,h.1,h.2⟩
theorem pureQk_r{rg:Regs}{σ σ0:Store}{v r:AV}{ps:List Prop}{res:List RC}(e:resK rg σ res=some (ps,v))(hp:OB ps)(h:Fin σ0 r v σ):pureQ res r σ0 .ret rg σ:=⟨v,resK_eq e hp,h.1,h.2⟩
theorem bd{p:Prop}[Decidable p]{b:Bool}(h:b=true↔p):AV.v (.bool b)=AV.v (.bool (decide p)):=by
 have:b=decide p:=by rw[Bool.eq_iff_iff,h];simp
 rw[this]
theorem i64w{n:Int}(h: -9223372036854775808≤n∧n≤9223372036854775807):IntKind.i64.wrap n=n:=Go.IntWalk.i64_in n h
theorem up1{i n:Nat}(h:i<n)(hn:n≤maxLen):IntKind.i64.wrap ((i:Int)+1)=((i+1:Nat):Int):=by
 rw[i64w]
 ·rfl
 ·unfold maxLen at hn;omega
theorem getD_eq{α:Type}[Inhabited α]{l:List α}{i:Nat}(h:i<l.length):l.getD i default=l[i]:=by simp[List.getD_eq_getElem?_getD,h]
theorem getD_mem{α:Type}[Inhabited α]{l:List α}{i:Nat}(h:i<l.length):l.getD i default∈l:=by rw[getD_eq h];exact List.getElem_mem h
theorem drop_get{α:Type}[Inhabited α]{l:List α}{i:Nat}(h:i<l.length):l.drop i=l.getD i default::l.drop (i+1):=by
 rw[getD_eq h];exact List.drop_eq_getElem_cons h
theorem pred1{i:Nat}(h:0<i)(hn:i≤maxLen):IntKind.i64.wrap ((i:Int)-1)=((i-1:Nat):Int):=by
 rw[i64w (by unfold maxLen at hn;omega)];omega
inductive Fr where
 |seq (b:AC)
 |blk (id:Nat)
 |fn (K:Regs→Store→Prop)
def post(P:Program)[Glob P](N:Nat)(cfg:Nat→Nat)(Q:Exit→Regs→Store→Prop):List Fr→Exit→Regs→Store→Prop
 |[]=>Q
 | .seq b::k=>thenQ (fun rg σ=>WA P N cfg b (post P N cfg Q k) rg σ) (post P N cfg Q k)
 | .blk id::k=>blockQ id (post P N cfg Q k)
 | .fn K::k=>thenQ K (post P N cfg Q k)
structure WK(P:Program)[Glob P](N:Nat)(cfg:Nat→Nat)(Q:Exit→Regs→Store→Prop)(a:AC)(k:List Fr)(rg:Regs)(σ:Store):Prop where
 h:WA P N cfg a (post P N cfg Q k) rg σ
structure FK(P:Program)[Glob P](N:Nat)(cfg:Nat→Nat)(Q:Exit→Regs→Store→Prop)(e:Exit)(k:List Fr)(rg:Regs)(σ:Store):Prop where
 h:post P N cfg Q k e rg σ
def unw:List Fr→Nat→Option (List Fr)
 |[],_=>none
 | .blk id::k,i=>match Nat.beq i id with
  |true=>some k
  |false=>unw k i
 | .seq _::k,i=>unw k i
 | .fn _::k,i=>unw k i
section
variable {P:Program}[Glob P]{N:Nat}{cfg:Nat→Nat}{Q:Exit→Regs→Store→Prop}{rg rg':Regs}{σ σ':Store}{l:List CI}{a b:AC}{k k':List Fr}{xr:XR}{als:List Nat}{ld:List CD}{ks:List Nat}{id:Nat}
theorem WK_seq(h:WK P N cfg Q a (.seq b::k) rg σ):WK P N cfg Q (.seq a b) k rg σ:=⟨WA_seq h.h⟩
theorem WK_block(h:WK P N cfg Q a (.blk id::k) rg σ):WK P N cfg Q (.block id a) k rg σ:=⟨WA_block h.h⟩
theorem WK_keep(hk:filtO ks rg=some rg')(h:WK P N cfg Q a k rg' σ):WK P N cfg Q (.keep ks a) k rg σ:=⟨WA_keep hk h.h⟩
theorem WK_skip(h:FK P N cfg Q .normal k rg σ):WK P N cfg Q .skip k rg σ:=⟨WA_skip h.h⟩
theorem WK_ret(h:Q .ret rg σ):WK P N cfg Q .ret k rg σ:=by
 refine⟨WA_ret ?_⟩
 induction k with
 |nil=>exact h
 |cons f k ih=>cases f<;>exact ih
theorem WK_exit(hu:unw k id=some k')(h:FK P N cfg Q .normal k' rg σ):WK P N cfg Q (.exit id) k rg σ:=by
 refine⟨WA_exit ?_⟩
 induction k with
 |nil=>cases hu
 |cons f k ih=>
  cases f with
  |seq b=>exact ih hu
  |fn K=>exact ih hu
  |blk i=>
   simp only[unw]at hu
   split at hu
   ·rename_i e;cases hu;exact blockQ_t e h.h
   ·rename_i e;exact blockQ_f e (ih hu)
theorem WK_cond{x:Operand}{c:Bool}(hx:boolO rg x=some c)(h1:c=true→WK P N cfg Q a k rg σ)(h2:c=false→WK P N cfg Q b k rg σ):WK P N cfg Q (.cond x a b) k rg σ:=
 ⟨WA_cond hx (fun e=>(h1 e).h) (fun e=>(h2 e).h)⟩
theorem WK_reg(hx:toXO rg=some xr)(h:VX P cfg l (FK P N cfg Q .normal k) (fun ch σ'=>FK P N cfg Q (.panic ch) k [] σ') xr σ):WK P N cfg Q (.reg l) k rg σ:=
 ⟨(WA_regX (Q:=fun e=>FK P N cfg Q e k) hx h).mono fun _ _ _ h=>h.h⟩
theorem WK_mreg(hx:toXO rg=some xr)(h:VY P cfg als ld (Cl (FK P N cfg Q .normal k)) xr σ):WK P N cfg Q (.mreg als ld) k rg σ:=
 ⟨(WA_mregX (Q:=fun e=>FK P N cfg Q e k) hx h).mono fun _ _ _ h=>h.h⟩
theorem WK_dreg(hx:toXO rg=some xr)(h:VY P cfg [] (bare l) (Cl (FK P N cfg Q .normal k)) xr σ):WK P N cfg Q (.dreg l) k rg σ:=
 ⟨(WA_dregX (Q:=fun e=>FK P N cfg Q e k) hx h).mono fun _ _ _ h=>h.h⟩
theorem WK_loop{rg0:Regs}(I:Nat→Regs→Store→Prop)(n:Nat)(hk:filtO ks rg=some rg0)(h0:∃ rg' σ',WkRL rg0 rg'∧Sub σ' σ∧I n rg' σ')
  (h:∀ n rg σ,I n rg σ→WK P N cfg Q b (.fn (LoopW I n ks)::k) rg σ):WK P N cfg Q (.loop (.keep ks b)) k rg σ:=
 ⟨WA_loopw I n hk h0 fun n rg σ hi=>(h n rg σ hi).h⟩
theorem FK_seq(h:WK P N cfg Q b k rg σ):FK P N cfg Q .normal (.seq b::k) rg σ:=⟨h.h⟩
theorem FK_blk(h:FK P N cfg Q .normal k rg σ):FK P N cfg Q .normal (.blk id::k) rg σ:=⟨h.h⟩
theorem FK_fn{K:Regs→Store→Prop}(h:K rg σ):FK P N cfg Q .normal (.fn K::k) rg σ:=⟨h⟩
theorem FK_nil(h:Q .normal rg σ):FK P N cfg Q .normal [] rg σ:=⟨h⟩
theorem Pure.runk{P:Program}[Glob P]{f:FuncId}{fn:Func}{fc:FC}{as:List AV}{r:AV}{a:AC}(cfg:Nat→Nat)(hf:P.funcs[f]? =some fn)(hc:compF P fn=some fc)(ha:fc.code=a.erase)(hlen:as.length≤fc.N)
  (h:∀ σ,WK P fc.N cfg (pureQ fc.res r σ) a [] (argR 0 as) σ):Pure P f as r:=Pure.run cfg hf hc ha hlen fun σ=>(h σ).h
theorem Spec.runk{P:Program}[Glob P]{f:FuncId}{fn:Func}{fc:FC}{as:List AV}{σ:Store}{Q:Res→Store→Prop}{a:AC}(cfg:Nat→Nat)(hf:P.funcs[f]? =some fn)(hc:compF P fn=some fc)(ha:fc.code=a.erase)(hlen:as.length≤fc.N)
  (h:WK P fc.N cfg (retQ fc.res Q) a [] (argR 0 as) σ):Spec P f as σ Q:=Spec.run cfg hf hc ha hlen h.h
end
section
variable {P:Program}[Glob P]{N:Nat}{cfg:Nat→Nat}{K:Regs→Store→Prop}{E:List PanicEntry→Store→Prop}{σ:Store}{l:List CI}{d n:Nat}{v y:AV}{xr:XR}{ps:List Prop}{g:Option (Nat×Bool)}{og:Option Bool}{als cf:List Nat}{ix:Nat}{ld:List CD}
 {t b b' o:Nat} {cs cs' ys l':List AV} {x z:Operand}
theorem VX_ld1(h:argO xr g [x]=some (og,[.lp t b o],ps))(hl:lkt σ t=some (b',.cells cs))(hb:b=b')(hy:cs[o]? =some y)(hps:OB ps)(k:VX P cfg l K E (putX og d y xr) σ):
  VX P cfg (⟨some d,.load false n x,g⟩::l) K E xr σ:=by
 obtain⟨hc,he⟩:=argO_eq h
 refine VX_gen hc (fun hg=> ?_) (fun hg=> ?_)
 ·have:=he hps hg
  simp only[evs,List.cons.injEq,and_true]at this
  simp only[vcO,this,hl,hy,hb,Bool.false_eq_true,if_false]
  have:=k.h
  rw[putX_t hg]at this
  exact⟨trivial,this⟩
 ·rw[← putX_f hg (v:=y)];exact k.h
theorem VX_st(h:argO xr none [x,z]=some (og,[.lp t b o,v],ps))(hc:cellO v=some l')(hl:lkt σ t=some (b',.cells cs))(hb:b=b')(hn:(Nat.beq l'.length n && l'.all AV.one)=true)(hu:over cs o l'=cs'∧o+n≤cs.length)(hps:OB ps)
  (k:VX P cfg l K E xr (upt σ t b (.cells cs'))):VX P cfg (⟨none,.store n x z,none⟩::l) K E xr σ:=by
 obtain⟨_,he⟩:=argO_eq h
 unfold argO gX at h
 obtain⟨ps',h',_,_⟩:=needs_eq h
 have hog:og=none:=by split at h'<;>cases h';rfl
 subst hog
 have:=he hps rfl
 simp only[evs,List.cons.injEq,and_true]at this
 simp only[Bool.and_eq_true]at hn
 constructor
 simp only[vcX,vcG,vcO,this.1,this.2,cellO_eq hc,hl]
 exact⟨hb,Nat.eq_of_beq_eq_true hn.1,hn.2,hu.2,by rw[hu.1];exact k.h⟩
theorem okd_den{op:IOp}(hcf:cf.all (sureX xr)=true)(h1:∀ t∈tmpsOf op.opers,lk (raw xr) t=lk (den xr) t):
  ldOK als cf (raw xr) op=ldOK als cf (den xr) op∧stOK als cf (raw xr) op=stOK als cf (den xr) op:=by
 have hc:∀ t∈cf,lk (raw xr) t=lk (den xr) t:=fun t ht=>by
  have:=List.all_eq_true.1 hcf t ht
  unfold sureX at this
  rw[lk_raw,lk_den]
  split at this
  ·rename_i e;rw[e];rfl
  ·cases this
 exact⟨ldOK_local h1 hc,stOK_local h1 hc⟩
theorem argO_raw{args:List Operand}{as:List AV}(h:argO xr g args=some (og,as,ps))(hp:OB ps)(hg:og.getD true=true):∀ t∈tmpsOf args,lk (raw xr) t=lk (den xr) t:=by
 unfold argO at h
 obtain⟨b,h,_,_⟩:=gX_eq h
 obtain⟨ps',h,_,h3⟩:=needs_eq h
 split at h
 ·cases h;exact h3 hp.all hg
 ·cases h
theorem VY_ld1(h:argO xr g [x]=some (og,[.lp t b o],ps))(hl:lkt σ t=some (b',.cells cs))(hb:b=b')(hy:cs[o]? =some y)(hok:okX als cf xr (.load false n x)=true)(hps:OB ps)(k:VY P cfg als ld K (putX og d y xr) σ):
  VY P cfg als (⟨ix,⟨some d,.load false n x,g⟩,cf⟩::ld) K xr σ:=by
 obtain⟨hc,he⟩:=argO_eq h
 unfold okX at hok
 rw[Bool.and_eq_true]at hok
 refine VY_gen hc (fun hg=> ?_) (fun hg=> ?_)
 ·have:=he hps hg
  simp only[evs,List.cons.injEq,and_true]at this
  simp only[vcOD,IOp.cls]
  refine⟨by rw[← (okd_den hok.1 (op:= .load false n x) (argO_raw h hps hg)).1];exact hok.2,?_⟩
  simp only[vcO,this,hl,hy,hb,Bool.false_eq_true,if_false]
  have:=k.h
  rw[putX_t hg]at this
  exact⟨trivial,this⟩
 ·rw[← putX_f hg (v:=y)];exact k.h
theorem VY_st(h:argO xr none [x,z]=some (og,[.lp t b o,v],ps))(hc:cellO v=some l')(hl:lkt σ t=some (b',.cells cs))(hb:b=b')(hn:(Nat.beq l'.length n && l'.all AV.one)=true)(hu:over cs o l'=cs'∧o+n≤cs.length)
  (hok:okX als cf xr (.store n x z)=true) (hps:OB ps) (k:VY P cfg als ld K xr (upt σ t b (.cells cs'))):VY P cfg als (⟨ix,⟨none,.store n x z,none⟩,cf⟩::ld) K xr σ:=by
 have h0:=h
 obtain⟨_,he⟩:=argO_eq h
 unfold argO gX at h
 obtain⟨ps',h',_,_⟩:=needs_eq h
 have hog:og=none:=by split at h'<;>cases h';rfl
 subst hog
 have:=he hps rfl
 simp only[evs,List.cons.injEq,and_true]at this
 simp only[Bool.and_eq_true]at hn
 unfold okX at hok
 rw[Bool.and_eq_true]at hok
 constructor
 simp only[vcM,vcGD,vcOD,IOp.cls]
 refine⟨by rw[← (okd_den hok.1 (op:= .store n x z) (argO_raw h0 hps rfl)).2];exact hok.2,?_⟩
 simp only[vcO,this.1,this.2,cellO_eq hc,hl]
 exact⟨hb,Nat.eq_of_beq_eq_true hn.1,hn.2,hu.2,by rw[hu.1];exact k.h⟩
theorem VX_gl1{gv:Nat}(h:argO xr g [x]=some (og,[.v (.pointer (some ⟨gv,0,none⟩))],ps))(hl:Glob.av P gv=some cs)(hy:cs[0]? =some y)(hps:OB ps)(k:VX P cfg l K E (putX og d y xr) σ):
  VX P cfg (⟨some d,.load false n x,g⟩::l) K E xr σ:=by
 obtain⟨hc,he⟩:=argO_eq h
 refine VX_gen hc (fun hg=> ?_) (fun hg=> ?_)
 ·have:=he hps hg
  simp only[evs,List.cons.injEq,and_true]at this
  simp only[vcO,this,hl,hy,Bool.false_eq_true,if_false]
  have:=k.h
  rw[putX_t hg]at this
  exact this
 ·rw[← putX_f hg (v:=y)];exact k.h
theorem VX_gla{gv:Nat}(h:argO xr g [x]=some (og,[.v (.pointer (some ⟨gv,0,none⟩))],ps))(hl:Glob.av P gv=some cs)(hy:cs.take n=ys∧n≤cs.length)(hps:OB ps)(k:VX P cfg l K E (putX og d (.agg ys) xr) σ):
  VX P cfg (⟨some d,.load true n x,g⟩::l) K E xr σ:=by
 obtain⟨hc,he⟩:=argO_eq h
 refine VX_gen hc (fun hg=> ?_) (fun hg=> ?_)
 ·have:=he hps hg
  simp only[evs,List.cons.injEq,and_true]at this
  simp only[vcO,this,hl,if_true,hy.1]
  have:=k.h
  rw[putX_t hg]at this
  exact⟨hy.2,this⟩
 ·rw[← putX_f hg (v:= .agg ys)];exact k.h
theorem VY_gl1{gv:Nat}(h:argO xr g [x]=some (og,[.v (.pointer (some ⟨gv,0,none⟩))],ps))(hl:Glob.av P gv=some cs)(hy:cs[0]? =some y)(hok:okX als cf xr (.load false n x)=true)(hps:OB ps)(k:VY P cfg als ld K (putX og d y xr) σ):
  VY P cfg als (⟨ix,⟨some d,.load false n x,g⟩,cf⟩::ld) K xr σ:=by
 obtain⟨hc,he⟩:=argO_eq h
 unfold okX at hok
 rw[Bool.and_eq_true]at hok
 refine VY_gen hc (fun hg=> ?_) (fun hg=> ?_)
 ·have:=he hps hg
  simp only[evs,List.cons.injEq,and_true]at this
  simp only[vcOD,IOp.cls]
  refine⟨by rw[← (okd_den hok.1 (op:= .load false n x) (argO_raw h hps hg)).1];exact hok.2,?_⟩
  simp only[vcO,this,hl,hy,Bool.false_eq_true,if_false]
  have:=k.h
  rw[putX_t hg]at this
  exact this
 ·rw[← putX_f hg (v:=y)];exact k.h
theorem VY_gla{gv:Nat}(h:argO xr g [x]=some (og,[.v (.pointer (some ⟨gv,0,none⟩))],ps))(hl:Glob.av P gv=some cs)(hy:cs.take n=ys∧n≤cs.length)(hok:okX als cf xr (.load true n x)=true)(hps:OB ps)(k:VY P cfg als ld K (putX og d (.agg ys) xr) σ):
  VY P cfg als (⟨ix,⟨some d,.load true n x,g⟩,cf⟩::ld) K xr σ:=by
 obtain⟨hc,he⟩:=argO_eq h
 unfold okX at hok
 rw[Bool.and_eq_true]at hok
 refine VY_gen hc (fun hg=> ?_) (fun hg=> ?_)
 ·have:=he hps hg
  simp only[evs,List.cons.injEq,and_true]at this
  simp only[vcOD,IOp.cls]
  refine⟨by rw[← (okd_den hok.1 (op:= .load true n x) (argO_raw h hps hg)).1];exact hok.2,?_⟩
  simp only[vcO,this,hl,if_true,hy.1]
  have:=k.h
  rw[putX_t hg]at this
  exact⟨hy.2,this⟩
 ·rw[← putX_f hg (v:= .agg ys)];exact k.h
end
end Go.Sx
