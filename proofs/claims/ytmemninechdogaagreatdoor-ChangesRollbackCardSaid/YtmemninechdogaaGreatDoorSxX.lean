import Derived.Test.YtmemninechdogaaGreatDoorSxMix3
set_option linter.all false
namespace Go.Sx
open Go.RowKit
inductive XV where
 |s (x:AV)
 |o (c:Bool) (x:AV)
abbrev XR:=List (Nat×XV)
def XV.den:XV->AV
 |.s x=>x|.o c x=>bif c then x else .v undef
def XV.val:XV->AV
 |.s x=>x|.o _ x=>x
def qo:XR->Nat->XV
 |[],_=>.s .any|(i,x)::r,j=>bif Nat.beq i j then x else qo r j
def den:XR->ag
 |[]=>[]
 |(i,x)::r=>(i,x.den)::den r
def raw:XR->ag
 |[]=>[]
 |(i,x)::r=>(i,x.val)::raw r
def toX:ag->XR
 |[]=>[]
 |(i,x)::r=>(i,.s x)::toX r
theorem o8(t:Nat):∀xr:XR,lk (den xr) t=(qo xr t).den
 |[]=>rfl|(i,x)::r=>by simp only[den,lk,qo];cases Nat.beq i t<;>simp only[Y8,Yx,o8 t r]
theorem yi(t:Nat):∀xr:XR,lk (raw xr) t=(qo xr t).val
 |[]=>rfl|(i,x)::r=>by simp only[raw,lk,qo];cases Nat.beq i t<;>simp only[Y8,Yx,yi t r]
theorem xn:∀rg:ag,den (toX rg)=rg
 |[]=>rfl|(i,x)::r=>by simp only[toX,den,XV.den,xn r]
inductive OB:List Prop->Prop
 |nil:OB []
 |cons {p:Prop} {ps:List Prop} (h:p) (t:OB ps):OB (p::ps)
theorem OB.all{ps:List Prop}(h:OB ps):∀p∈ps,p:=by
 induction h with
 |nil=>grind|cons h _ ih=>grind
theorem OB.rfl{X:Type}{a:X}{ps:List Prop}(t:OB ps):OB ((a=a)::ps):=.cons _root_.rfl t
theorem OB.adm{X:Type}{a:X}{c:Bool}{ps:List Prop}(t:OB ps):OB ((c=true->a=a)::ps):=.cons (fun _=>_root_.rfl) t
theorem OB.gtr{c:Bool}{ps:List Prop}(t:OB ps):OB ((c=true->True)::ps):=.cons (fun _=>trivial) t
theorem OB.self{a:Prop}{ps:List Prop}(t:OB ps):OB ((a->a)::ps):=.cons (fun h=>h) t
theorem OB.tr{ps:List Prop}(t:OB ps):OB (True::ps):=.cons trivial t
theorem OB.and{a b:Bool}{ps:List Prop}(t:OB ps):OB (((a&&b)=true->a=true)::ps):=.cons (fun h=>by simp at h;exact h.1) t
def gX{X:Type}(xr:XR)(g:Option (Nat×Bool))(k:Option Bool->Option X):Option X:=
 match g with
 |none=>k none|some (t,true)=>match qo xr t with
  |.s (.v (.bool b))=>k (some b)|.o c (.v (.bool b))=>k (some (c&&b))|_=>none
 |some (t,false)=>match qo xr t with
  |.s (.v (.bool b))=>k (some !b)|.o c (.v (.bool b))=>k (some (c && !b))|_=>none
def wx{X:Type}(g:Option Bool)(xr:XR):List Nat->List Prop->(List Prop->Option X)->Option X
 |[],ps,k=>k ps|t::ts,ps,k=>match qo xr t with
  |.s _=>wx g xr ts ps k|.o c _=>match g with
   |none=>wx g xr ts ((c=true)::ps) k|some b=>wx g xr ts ((b=true->c=true)::ps) k
def xq(xr:XR):Operand->XV
 |.tmp t=>qo xr t|.const v=>.s (.v v)|.global g=>.s (.v (.pointer (some ⟨g,0,none⟩)))|.func f=>.s (.v (.func (.func f) #[] #[]))
def Ko{X:Type}(g:Option Bool)(xr:XR)(c a b:Operand)(ps:List Prop)(k:List Prop->Bool->Option X):Option X:=
 match xq xr c with
 |.s (.v (.bool t))=>match a,b with
  |.const (.bool true),b=>match xq xr b with
   |.s (.v (.bool y))=>k ps (t||y)|.o cb (.v (.bool y))=>match g with
    |none=>k ((!t=true->cb=true)::ps) (t||y)|some g=>k (((g && !t)=true->cb=true)::ps) (t||y)
   |_=>none
  |a,.const (.bool false)=>match xq xr a with
   |.s (.v (.bool y))=>k ps (t&&y)|.o cb (.v (.bool y))=>match g with
    |none=>k ((t=true->cb=true)::ps) (t&&y)|some g=>k (((g&&t)=true->cb=true)::ps) (t&&y)
   |_=>none
  |_,_=>none
 |.o cc (.v (.bool t))=>match g with
  |none=>none|some g=>match a,b with
   |.const (.bool true),b=>match xq xr b with
    |.s (.v (.bool y))=>k ((g=true->cc=true)::ps) (t||y)|.o cb (.v (.bool y))=>k ((g=true->cc=true)::((g && !t)=true->cb=true)::ps) (t||y)|_=>none
   |a,.const (.bool false)=>match xq xr a with
    |.s (.v (.bool y))=>k ((g=true->cc=true)::ps) (t&&y)|.o cb (.v (.bool y))=>k ((g=true->cc=true)::((g&&t)=true->cb=true)::ps) (t&&y)|_=>none
   |_,_=>none
 |_=>none
def Fw:aB->Bool
 |.mv .. |.build .. |.ng .. |.jt .. |.eqs .. |.un .. |.mD .. |.nw .. |.nR .. |.nQ .. |.cG .. |.field .. |.extract .. |.len .. |.max2 .. |.min2 .. =>true|.bin op _ _=>match op with
  |.quo|.rem|.shl|.shr|.add=>false|_=>true
 |_=>false
def push(g:Option Bool)(op:aB)(p:Prop)(ps:List Prop):List Prop:=
 match Fw op with
 |true=>ps|false=>match g with
  |none=>p::ps|some b=>(b=true->p)::ps
def alh:aB->Bool
 |.call .. |.fZ .. |.alloc .. |.box .. |.append .. |.len false _|.fh .. |.idxs .. |.slice .. |.cL .. |.exts .. |.panic .. =>true| .TO _ _ []=>true|_=>false
def yN(cfg:Nat->Nat)(op:aB):Bool:=match alh op with
 |true=>true|false=>match op with
  |.load _ _ (.tmp s)=>Nat.beq (cfg (1000000+s)) 1|.load _ _ (.global _)=>true|.store _ (.tmp s) _=>Nat.beq (cfg (1000000+s)) 1|_=>false
def EN{X:Type}(g:Option Bool)(d:Option Nat)(v:AV)(xr:XR)(k:XR->Option X):Option X:=
 match d with
 |some d=>match g with
  |none=>k ((d,.s v)::xr)|some t=>k ((d,.o t v)::xr)
 |none=>match g with
  |none=>k xr|some _=>none
def abb(g:Option Bool)(op:aB):Bool:=match g with
 |none=>true|some _=>Nat.ble op.cls 1
def K5{X:Type}(cfg:Nat->Nat)(ok:XR->aB->Bool)(d:Option Nat)(op:aB)(g:Option Bool)(xr:XR)(m:Store)(ps:List Prop)(k:List Prop->XR->Store->Option X):Option X:=
 wx g xr (tmpsOf op.opers) ps fun ps=>match ok xr op with
  |true=>match abb g op with
   |true=>match dk cfg d (raw xr) m op with
    |some (p,v,af)=>EN g d v xr fun xr=>k (push g op p ps) xr af
    |none=>none
   |false=>none
  |false=>none
def wJ{X:Type}(cfg:Nat->Nat)(ok:XR->aB->Bool)(c:CI)(xr:XR)(m:Store)(ps:List Prop)(k:List Prop->XR->Store->Option X):Option X:=
 gX xr c.g fun g=>match c.op with
  |.pick x a b=>Ko g xr x a b ps fun ps v=>EN g c.d (.v (.bool v)) xr fun xr=>k ps xr m
  |op=>K5 cfg ok c.d op g xr m ps k
def Bw(cfg:Nat->Nat):List CI->XR->Store->List Prop->Option (List Prop×XR×Store×List CI)
 |[],xr,m,ps=>some (ps,xr,m,[])|c::l,xr,m,ps=>match yN cfg c.op with
  |true=>some (ps,xr,m,c::l)|false=>wJ cfg (fun _ _=>true) c xr m ps fun ps xr m=>Bw cfg l xr m ps
def Fo(xr:XR)(t:Nat):Bool:=match qo xr t with
 |.s _=>true|.o _ _=>false
def nV(aq cf:List Nat)(xr:XR)(op:aB):Bool:=cf.all (Fo xr)&&R6 aq cf (raw xr) op
def runM(cfg:Nat->Nat)(aq:List Nat):List CD->XR->Store->List Prop->Option (List Prop×XR×Store×List CD)
 |[],xr,m,ps=>some (ps,xr,m,[])|c::l,xr,m,ps=>match yN cfg c.c.op with
  |true=>some (ps,xr,m,c::l)|false=>wJ cfg (nV aq c.cf) c.c xr m ps fun ps xr m=>runM cfg aq l xr m ps
def fb(P:Program)[Glob P](cfg:Nat->Nat):List CI->(K:ag->Store->Prop)->(E:List PanicEntry->Store->Prop)->ag->Store->Prop
 |[],K,_,rg,m=>K rg m|c::l,K,E,rg,m=>cE P cfg c (fun x af=>fb P cfg l K E (bB c.d x rg) af) E rg m
def GM(rg:ag)(t:Nat)(want:Bool)(A B:Prop):Prop:=match lk rg t with
 |.v (.bool b)=>(b=want->A)/\(b= !want->B)|.v (.tuple _)=>B|_=>False
def GG(rg:ag)(g:Option (Nat×Bool))(A B:Prop):Prop:=match g with
 |none=>A|some (t,want)=>GM rg t want A B
section
variable {P:Program}[Glob P]{M:Mem}{w0:Base}{w:World}{m af:Store}{rg:ag}{a:Act}{cfg:Nat->Nat}{N:Nat}{xr cP:XR}{c:CI}{K K':AV->Store->Prop}{E:List PanicEntry->Store->Prop}
theorem am4:cE P cfg c K E rg m↔GG rg c.g (ak P cfg c.d rg m K E c.op) (K (.v undef) m):=by rfl
theorem am3{aq:List Nat}{c:CD}:c9 P cfg aq c K rg m↔GG rg c.c.g (cy P cfg aq c.cf c.c.d rg m K c.c.op) (K (.v undef) m):=by rfl
def wU(xr:XR)(g:Option (Nat×Bool))(b:Option Bool):Prop:=∀A B:Prop,(b.getD true=true->A)->(b.getD true=false->B)->GG (den xr) g A B
theorem H6{X:Type}{g:Option (Nat×Bool)}{k:Option Bool->Option X}{r:X}(h:gX xr g k=some r):∃b,k b=some r/\wU xr g b/\(b=none->g=none):=by
 unfold gX at h;split at h
 .exact⟨none,h,fun A B h1 _=>h1 rfl,fun _=>rfl⟩
 .split at h
  .rename_i b e;refine⟨_,h,fun A B h1 h2=>?_,fun e=>nomatch e⟩;simp only[GG,GM,o8,e,XV.den];grind
  .rename_i cc b e;refine⟨_,h,fun A B h1 h2=>?_,fun e=>nomatch e⟩;simp only[GG,GM,o8,e,XV.den];cases cc with
   |true=>grind|false=>exact h2 rfl
  grind
 .split at h
  .rename_i b e;refine⟨_,h,fun A B h1 h2=>?_,fun e=>nomatch e⟩;simp only[GG,GM,o8,e,XV.den];grind
  .rename_i cc b e;refine⟨_,h,fun A B h1 h2=>?_,fun e=>nomatch e⟩;simp only[GG,GM,o8,e,XV.den];cases cc with
   |true=>grind|false=>exact h2 rfl
  grind
theorem ie{X:Type}{g:Option Bool}:∀{ts:List Nat} {ps:List Prop} {k:List Prop->Option X} {r:X},wx g xr ts ps k=some r->
  ∃bD,k bD=some r/\(∀p∈ps,p∈bD)/\((∀p∈bD,p)->g.getD true=true->∀t∈ts,lk (raw xr) t=lk (den xr) t)
 |[],ps,k,r,h=>⟨ps,h,fun _ h=>h,fun _ _ _ h=>by cases h⟩
 |t::ts,ps,k,r,h=>by
  simp only[wx]at h;split at h
  .rename_i x e;obtain⟨bD,h1,h2,h3⟩:=ie h;refine⟨bD,h1,h2,fun ha hg u hu=>?_⟩;rcases ZR.1 hu with rfl|hu
   .rw[yi,o8,e];rfl
   grind
  .rename_i cc x e;split at h
   .obtain⟨bD,h1,h2,h3⟩:=ie h;refine⟨bD,h1,fun p hp=>h2 p (ZN _ hp),fun ha hg u hu=>?_⟩;rcases ZR.1 hu with rfl|hu
    .have:=ha _ (h2 _ (ZK ..));rw[yi,o8,e,this];rfl
    grind
   .obtain⟨bD,h1,h2,h3⟩:=ie h;refine⟨bD,h1,fun p hp=>h2 p (ZN _ hp),fun ha hg u hu=>?_⟩;rcases ZR.1 hu with rfl|hu
    .have:=ha _ (h2 _ (ZK ..)) hg;rw[yi,o8,e,this];rfl
    grind
theorem aca(x:Operand):ev (den xr) x=(xq xr x).den:=by
 cases x with
 |tmp t=>exact o8 t xr|const v=>rfl|global g=>rfl|func f=>rfl
theorem aiD{X:Type}{g:Option Bool}{c a b:Operand}{ps:List Prop}{k:List Prop->Bool->Option X}{r:X}(h:Ko g xr c a b ps k=some r):
  ∃bD v,k bD v=some r/\(∀p∈ps,p∈bD)/\((∀p∈bD,p)->g.getD true=true->∃t,ev (den xr) c= .v (.bool t)/\(if t then ev (den xr) a else ev (den xr) b)= .v (.bool v)):=by
 simp only[aca];unfold Ko at h;split at h
 .rename_i t ec;rw[ec];split at h
  .split at h
   .rename_i y eb;refine⟨_,_,h,fun _ h=>h,fun _ _=>⟨t,rfl,?_⟩⟩;rw[eb];cases t<;>rfl
   .rename_i cb y eb;split at h
    .refine⟨_,_,h,fun p hp=>ZN _ hp,fun ha hg=>⟨t,rfl,?_⟩⟩;rw[eb];have:=ha _ (ZK ..);cases t with
     |true=>rfl|false=>rw[this rfl];rfl
    .rename_i g;refine⟨_,_,h,fun p hp=>ZN _ hp,fun ha hg=>⟨t,rfl,?_⟩⟩;rw[eb];have:=ha _ (ZK ..);have hg:g=true:=hg;cases t with
     |true=>rfl|false=>rw[this (by grind)];rfl
   grind
  .split at h
   .rename_i y eb;refine⟨_,_,h,fun _ h=>h,fun _ _=>⟨t,rfl,?_⟩⟩;rw[eb];cases t<;>rfl
   .rename_i cb y eb;split at h
    .refine⟨_,_,h,fun p hp=>ZN _ hp,fun ha hg=>⟨t,rfl,?_⟩⟩;rw[eb];have:=ha _ (ZK ..);cases t with
     |false=>rfl|true=>rw[this rfl];rfl
    .rename_i g;refine⟨_,_,h,fun p hp=>ZN _ hp,fun ha hg=>⟨t,rfl,?_⟩⟩;rw[eb];have:=ha _ (ZK ..);have hg:g=true:=hg;cases t with
     |false=>rfl|true=>rw[this (by rw[hg];rfl)];rfl
   grind
  grind
 .rename_i cc t ec;rw[ec];split at h
  .cases h
  .rename_i g;split at h
   .split at h
    .rename_i y eb;refine⟨_,_,h,fun p hp=>ZN _ hp,fun ha hg=>?_⟩;have:=ha _ (ZK ..) hg;subst this;refine⟨t,rfl,?_⟩;rw[eb];cases t<;>rfl
    .rename_i cb y eb;refine⟨_,_,h,fun p hp=>ZN _ (ZN _ hp),fun ha hg=>?_⟩;have hg:g=true:=hg;have h1:=ha _ (ZK ..) hg;have h2:=ha _ (ZN _ (ZK ..));subst h1;refine⟨t,rfl,?_⟩;rw[eb];cases t with
     |true=>rfl|false=>rw[h2 (by rw[hg];rfl)];rfl
    .cases h
   .split at h
    .rename_i y eb;refine⟨_,_,h,fun p hp=>ZN _ hp,fun ha hg=>?_⟩;have:=ha _ (ZK ..) hg;subst this;refine⟨t,rfl,?_⟩;rw[eb];cases t<;>rfl
    .rename_i cb y eb;refine⟨_,_,h,fun p hp=>ZN _ (ZN _ hp),fun ha hg=>?_⟩;have hg:g=true:=hg;have h1:=ha _ (ZK ..) hg;have h2:=ha _ (ZN _ (ZK ..));subst h1;refine⟨t,rfl,?_⟩;rw[eb];cases t with
     |false=>rfl|true=>rw[h2 (by rw[hg];rfl)];rfl
    .cases h
   .cases h
 grind
theorem alO{d:Option Nat}{op:aB}{p:Prop}{v:AV}(ht:Fw op=true)(h:dk cfg d rg m op=some (p,v,af)):p:=by
 cases op<;>simp only[Fw,ZT]at ht
 case bin op x y=>
  simp only[dk]at h;split at h
  .split at h
   .rename_i p' r e;cases h;unfold CA at e;split at e
    .grind
    .grind
    grind
   grind
  grind
 case len s x=>cases s<;>(simp only[dk]at h;grind)<;>cases h<;>trivial
 all_goals simp only[dk,reduceCtorEq]at h
 all_goals(repeat' split at h)
 all_goals first
  |grind
  |grind
  |(have:=jb h;cases this;trivial)
  |(have:=j3 h;cases this;trivial)
  |(have:=vg h;cases this;trivial)
  |(have h2:=(tW h).2;(repeat' split at h2)<;>first|(cases h2;done)|(cases h2;trivial)|(have:=jb h2;cases this;trivial)|(have:=j3 h2;cases this;trivial))
theorem SB{g:Option Bool}{op:aB}{p q:Prop}{ps:List Prop}(h:q∈ps):q∈push g op p ps:=by unfold push;grind
theorem aiY{g:Option Bool}{d:Option Nat}{op:aB}{p:Prop}{v:AV}{ps:List Prop}(h:dk cfg d rg m op=some (p,v,af))(ha:∀q∈push g op p ps,q)(hg:g.getD true=true):p:=by
 unfold push at ha;cases ht:Fw op with
 |true=>exact alO ht h|false=>
  rw[ht]at ha;cases g with
  |none=>simp_all|some b=>exact ha _ (ZK ..) hg
theorem abJ{d:Option Nat}{op:aB}{p:Prop}{v:AV}(hc:Nat.ble op.cls 1=true)(h:dk cfg d rg m op=some (p,v,af)):af=m:=by
 have hc:=ZE hc;cases e:op.cls with
 |zero=>exact Nc e h|succ n=>
  cases op<;>simp only[aB.cls,reduceCtorEq]at e
  case load g n x=>
   simp only[dk]at h;repeat' split at h
   all_goals first
    |grind
    |(have:=jb h;grind)
    |(have h2:=(tW h).2;have:=j3 h2;grind)
  all_goals(simp only[aB.cls]at hc;omega)
theorem SH{X:Type}{g:Option Bool}{d:Option Nat}{v:AV}{k:XR->Option X}{r:X}(h:EN g d v xr k=some r):
  ∃cP,k cP=some r/\(g.getD true=true->den cP=bB d v (den xr))/\(g.getD true=false->den cP=bB d (.v undef) (den xr)):=by
 unfold EN at h;split at h
 .split at h
  .exact⟨_,h,fun _=>rfl,fun e=>nomatch e⟩
  .rename_i t;exact⟨_,h,fun(e:t=true)=>by subst e;rfl,fun(e:t=false)=>by subst e;rfl⟩
 .split at h
  .exact⟨_,h,fun _=>rfl,fun e=>nomatch e⟩
  grind
def Out(cfg:Nat->Nat)(ok:XR->aB->Bool)(d:Option Nat)(op:aB)(xr:XR)(m:Store)(v:AV)(af:Store):Prop:=
 (∃p,dk cfg d (raw xr) m op=some (p,v,af)/\p/\ok xr op=true/\∀t∈tmpsOf op.opers,lk (raw xr) t=lk (den xr) t)\/
 (∃x y z t,op= .pick x y z/\af=m/\ev (den xr) x= .v (.bool t)/\(if t then ev (den xr) y else ev (den xr) z)=v)
def eX(cfg:Nat->Nat)(ok:XR->aB->Bool)(d:Option Nat)(op:aB)(b:Option Bool)(xr:XR)(m:Store)(cP:XR)(af:Store):Prop:=
 (b.getD true=true->∃v,Out cfg ok d op xr m v af/\den cP=bB d v (den xr))/\(b.getD true=false->af=m/\den cP=bB d (.v undef) (den xr))
theorem ald{X:Type}{ok:XR->aB->Bool}{d:Option Nat}{op:aB}{g:Option Bool}{ps:List Prop}{k:List Prop->XR->Store->Option X}{r:X}(h:K5 cfg ok d op g xr m ps k=some r):
  ∃bD cP af,k bD cP af=some r/\(∀p∈ps,p∈bD)/\((∀p∈bD,p)->eX cfg ok d op g xr m cP af):=by
 obtain⟨bD,h,h2,h3⟩:=ie h;split at h
 case h_2=>cases h
 rename_i cr;split at h
 case h_2=>cases h
 rename_i dp;split at h
 case h_2=>cases h
 rename_i p v af IP;obtain⟨cP,h,h4,h5⟩:=SH h;refine⟨_,cP,af,h,fun p hp=>SB (h2 p hp),fun ha=>⟨fun hg=>⟨v,.inl ⟨p,IP,aiY IP ha hg,cr,h3 (fun q hq=>ha q (SB hq)) hg⟩,h4 hg⟩,fun hg=>⟨?_,h5 hg⟩⟩⟩;cases g with
 |none=>cases hg|some t=>exact abJ dp IP
theorem Ff{X:Type}{ok:XR->aB->Bool}{ps:List Prop}{k:List Prop->XR->Store->Option X}{r:X}(h:wJ cfg ok c xr m ps k=some r):
  ∃bD cP af b,k bD cP af=some r/\(∀p∈ps,p∈bD)/\wU xr c.g b/\((∀p∈bD,p)->eX cfg ok c.d c.op b xr m cP af):=by
 obtain⟨g,h,adJ,_⟩:=H6 h;obtain⟨d,op,cg⟩:=c;have hd:K5 cfg ok d op g xr m ps k=some r->∃bD cP af b,k bD cP af=some r/\(∀p∈ps,p∈bD)/\wU xr cg b/\((∀p∈bD,p)->eX cfg ok d op b xr m cP af):=fun h=>by obtain⟨bD,cP,af,h1,h2,h3⟩:=ald h;grind
 cases op with
 |pick x a b=>obtain⟨bD,v,h,h2,h3⟩:=aiD h;obtain⟨cP,h,h4,h5⟩:=SH h;refine⟨bD,cP,m,g,h,h2,adJ,fun ha=>⟨fun hg=>?_,fun hg=>⟨rfl,h5 hg⟩⟩⟩;obtain⟨t,e1,e2⟩:=h3 ha hg;exact⟨_,.inr ⟨x,a,b,t,rfl,rfl,e1,e2⟩,h4 hg⟩
 |_=>exact hd h
theorem Sd{ok:XR->aB->Bool}{d:Option Nat}{op:aB}{v:AV}(h:Out cfg ok d op xr m v af)(hk:K v af):ak P cfg d (den xr) m K E op:=by
 rcases h with⟨p,h1,h2,_,h4⟩|⟨x,y,z,t,rfl,rfl,h2,rfl⟩
 .rw[<-qF h4];exact CT h1 h2 hk
 .simp only[ak,h2];grind
theorem Se{aq cf:List Nat}{d:Option Nat}{op:aB}{v:AV}(h:Out cfg (nV aq cf) d op xr m v af)(hk:K v af):cy P cfg aq cf d (den xr) m K op:=by
 rcases h with⟨p,h1,h2,h3,h4⟩|⟨x,y,z,t,rfl,rfl,h2,rfl⟩
 .unfold nV at h3;simp at h3;have vz:∀t∈cf,lk (raw xr) t=lk (den xr) t:=fun t ht=>by
   have:=h3.1 t ht;unfold Fo at this;rw[yi,o8];split at this
   .rename_i e;rw[e];rfl
   grind
  rw[<-Un h4 vz];have ho:=h3.2;unfold cy;cases hc:op.cls with
  |zero=>have:=Nc hc h1;subst this;exact abI hc h1 h2 hk|succ n=>
   cases op<;>simp only[aB.cls,reduceCtorEq,Nat.reduceEqDiff,Nat.zero_ne_add_one]at hc<;>simp only[R6,reduceCtorEq]at ho<;>first|simp|skip
   .cases hc;exact⟨ho,CT h1 h2 hk⟩
   .cases hc;exact⟨ho,CT h1 h2 hk⟩
 .simp only[cy,aB.cls,aM,ak,h2];grind
structure VX(P:Program)[Glob P](cfg:Nat->Nat)(l:List CI)(K:ag->Store->Prop)(E:List PanicEntry->Store->Prop)(xr:XR)(m:Store):Prop where
 h:fb P cfg l K E (den xr) m
structure VY(P:Program)[Glob P](cfg:Nat->Nat)(aq:List Nat)(l:List CD)(K:ag->Store->Prop)(xr:XR)(m:Store):Prop where
 h:da P cfg aq l K (den xr) m
theorem S9{Kc:ag->Store->Prop}{bD:List Prop}{rest:List CI}:∀{l:List CI} {xr:XR} {m:Store} {ps:List Prop},Bw cfg l xr m ps=some (bD,cP,af,rest)->
  (∀p∈ps,p∈bD)/\((∀p∈bD,p)->fb P cfg rest Kc E (den cP) af->fb P cfg l Kc E (den xr) m)
 |[],xr,m,ps,h=>by cases h;grind|c::l,xr,m,ps,h=>by
  simp only[Bw]at h;split at h
  .grind
  .obtain⟨EL,LQ,aR,b,h,h2,hc,h3⟩:=Ff h;obtain⟨i1,i2⟩:=S9 h;refine⟨fun p hp=>i1 p (h2 p hp),fun ha hk=>?_⟩;have hn:=i2 ha hk;obtain⟨s1,s2⟩:=h3 fun p hp=>ha p (i1 p hp);refine hc _ _ (fun hg=>?_) (fun hg=>?_)
   .obtain⟨v,ho,hd⟩:=s1 hg;exact Sd ho (by grind)
   grind
theorem Ta{aq:List Nat}{Kc:ag->Store->Prop}{bD:List Prop}{rest:List CD}:∀{l:List CD} {xr:XR} {m:Store} {ps:List Prop},runM cfg aq l xr m ps=some (bD,cP,af,rest)->
  (∀p∈ps,p∈bD)/\((∀p∈bD,p)->da P cfg aq rest Kc (den cP) af->da P cfg aq l Kc (den xr) m)
 |[],xr,m,ps,h=>by cases h;grind|c::l,xr,m,ps,h=>by
  simp only[runM]at h;split at h
  .grind
  .obtain⟨EL,LQ,aR,b,h,h2,hc,h3⟩:=Ff h;obtain⟨i1,i2⟩:=Ta h;refine⟨fun p hp=>i1 p (h2 p hp),fun ha hk=>?_⟩;have hn:=i2 ha hk;obtain⟨s1,s2⟩:=h3 fun p hp=>ha p (i1 p hp);refine hc _ _ (fun hg=>?_) (fun hg=>?_)
   .obtain⟨v,ho,hd⟩:=s1 hg;exact Se ho (by grind)
   grind
theorem Us(ops:Array Oper){Q:Exit->ag->Store->Prop}{K:ag->Store->Prop}(hK:∀rg m,K rg m->Q .normal rg m):
  ∀(os:List Oper) (k:Nat) (l:List CI),iJ P N ops os=some l->(∀i,i<os.length->ops[k+i]? =os[i]?)->
  ∀(M:Mem) (w0:Base) (w:World) (a:Act) (rg:ag) (m:Store),fb P cfg l K (fun ch af=>Q (.panic ch) [] af) rg m->Inv P M w0 m w->bS M rg a->a.tmps.size=N->a.defers=Glob.df P->
   wpOps P ops (jr P M w0 N Q) (List.range' k os.length) a w
 |[],k,l,hl,_,M,w0,w,a,rg,m,h,hI,hR,hN,hD=>by simp only[iJ,ZV]at hl;subst hl;exact⟨M,rg,m,Mem.le.refl _,hI,hR,hN,hD,hK rg m h⟩|o::os,k,l,hl,ho,M,w0,w,a,rg,m,h,hI,hR,hN,hD=>by
  simp only[iJ]at hl;split at hl
  .rename_i c hc;obtain⟨l',fw,rfl⟩:=Z8.1 hl;have Jg:ops[k]? =some o:=by simpa using ho 0 (by simp)
   obtain⟨kK,az⟩:=zC hc;simp only[ZY,List.range'_succ,wpOps,Jg];refine vh hc h hI hR ⟨fun M' x af v w' hM bg hx hk=>?_,fun M' ch af w' hM bg hk=>?_⟩
   .have ih:=Us ops hK os (k+1) l' fw (fun i hi=>by have:=ho (i+1) (by grind);grind) M' w0 w' (a.put o.dst v) (bB c.d x rg) af hk bg
     (by rw[kK];exact(hR.mono hM).put o.dst (fun t ht=>by grind) hx) (by rw[Act.size_put];grind) (by rw[Act.zD];grind)
    refine wP.sC ?_ _ _ _ ih;rintro e a2 w2 ⟨M2,bK,aK,h1,h2⟩;exact⟨M2,bK,aK,hM.trans h1,h2⟩
   .exact⟨M',[],af,hM,bg,fun i=>.any _,hN,hD,hk⟩
  grind
theorem Vu{l:List CI}{Q:Exit->ag->Store->Prop}(cfg:Nat->Nat)(h:fb P cfg l (Q .normal) (fun ch af=>Q (.panic ch) [] af) rg m):SW P N (.bh l) Q rg m:=by intro c hc M w0 a w hI hR hN hD;obtain⟨id,ops,rfl,hl⟩:=fC hc;show wpOps _ _ _ _ _ _;have:=Us (P:=P) (N:=N) (cfg:=cfg) ops (Q:=Q) (K:=Q .normal) (fun _ _ h=>h) ops.toList 0 l hl (fun i hi=>by simp) M w0 w a rg m h hI hR hN hD;rw[Xw];grind
end
def toXO:ag->Option XR
 |[]=>some []|(i,x)::r=>match toXO r with
  |some l=>some ((i,.s x)::l)|none=>none
theorem yP:∀{rg:ag} {xr:XR},toXO rg=some xr->toX rg=xr
 |[],_,h=>by cases h;rfl|(i,x)::r,xr,h=>by
  simp only[toXO]at h;split at h
  .rename_i e;cases h;rw[toX,yP e]
  grind
def bQ(og:Option Bool)(d:Nat)(v:AV)(xr:XR):XR:=(d,match og with
 |none=>.s v|some b=>.o b v)::xr
def wa(xr:XR)(g:Option (Nat×Bool))(args:List Operand):Option (Option Bool×List AV×List Prop):=
 gX xr g fun og=>wx og xr (tmpsOf args) [] fun ps=>match Hg (raw xr) args with
  |some as=>some (og,as,ps)|none=>none
section
variable {P:Program}[Glob P]{N:Nat}{cfg:Nat->Nat}{Q:Exit->ag->Store->Prop}{K:ag->Store->Prop}{E:List PanicEntry->Store->Prop}{rg:ag}{m af:Store}{l rest:List CI}{d:Nat}{op:aB}{p:Prop}{v:AV}{xr cP:XR}{ps:List Prop}{c:CI}
 {aq cf:List Nat} {ix:Nat} {ld Bu:List CD} {cd:CD} {g:Option (Nat×Bool)} {og:Option Bool} {as:List AV} {args:List Operand}
theorem fU(h:og.getD true=true):den (bQ og d v xr)=(d,v)::den xr:=by
 cases og with
 |none=>rfl|some b=>have h:b=true:=h;subst h;rfl
theorem fT(h:og.getD true=false):den (bQ og d v xr)=(d,.v undef)::den xr:=by
 cases og with
 |none=>cases h|some b=>have h:b=false:=h;subst h;rfl
theorem cC(h:wa xr g args=some (og,as,ps)):wU xr g og/\(OB ps->og.getD true=true->aL (den xr) args=as):=by
 obtain⟨b,h,hc,_⟩:=H6 h;obtain⟨bD,h,_,h3⟩:=ie h;split at h
 .rename_i as' e;cases h;refine⟨hc,fun hp hg=>?_⟩;rw[<-mH args (h3 hp.all hg)];exact NG e
 grind
theorem ani(h:wa xr none args=some (og,as,ps)):og=none/\(OB ps->aL (den xr) args=as):=by obtain⟨hc,he⟩:=cC h;obtain⟨bD,h',_,_⟩:=ie h;grind
theorem Wx(hx:toXO rg=some xr)(h:VX P cfg l (Q .normal) (fun ch af=>Q (.panic ch) [] af) xr m):WA P N cfg (.bh l) Q rg m:=
 ⟨rfl,Vu cfg (by have:=h.h;rwa [<-yP hx,xn]at this)⟩
theorem Ww{ld:List CD}(hx:toXO rg=some xr)(h:VY P cfg aq ld (Cl (Q .normal)) xr m):WA P N cfg (.eR aq ld) Q rg m:=
 ⟨rfl,Vt cfg (by have:=h.h;rwa [<-yP hx,xn]at this)⟩
theorem Wr(hx:toXO rg=some xr)(h:VY P cfg [] (bare l) (Cl (Q .normal)) xr m):WA P N cfg (.de l) Q rg m:=
 ⟨rfl,Ma cfg (by have:=h.h;rwa [<-yP hx,xn]at this)⟩
theorem VS(h:K (den xr) m):VX P cfg [] K E xr m:=⟨h⟩
theorem VX.r1(hp:OB ps)(k:VX P cfg rest K E cP af)(_h0:yN cfg c.op=false:=by exact rfl)(h:Bw cfg (c::l) xr m []=some (ps,cP,af,rest):=by exact rfl):VX P cfg (c::l) K E xr m:=
 ⟨(S9 h).2 hp.all k.h⟩
theorem VX.r8(hp:OB ps)(k:VX P cfg l K E cP af)(h:wJ cfg (fun _ _=>true) c xr m [] (fun ps xr m=>some (ps,xr,m))=some (ps,cP,af):=by exact rfl):VX P cfg (c::l) K E xr m:=by
 constructor;obtain⟨EL,LQ,aR,b,h,h2,hc,h3⟩:=Ff h;cases h;obtain⟨s1,s2⟩:=h3 hp.all;refine hc _ _ (fun hg=>?_) (fun hg=>?_)
 .obtain⟨v,ho,hd⟩:=s1 hg;exact Sd ho (by rw[<-hd];exact k.h)
 .obtain⟨e,hd⟩:=s2 hg;rw[<-hd,<-e];exact k.h
theorem S3{X:Type}[Inhabited X]{f:X->List AV}{ls:List X}{n:Int}(h:0<=n/\n<ls.length):(ls.map f).getD n.toNat []=f (ls.getD n.toNat default):=by grind
theorem jW(hc:wU xr g og)(h1:og.getD true=true->ak P cfg (some d) (den xr) m (fun x af=>fb P cfg l K E ((d,x)::den xr) af) E op)(h2:og.getD true=false->fb P cfg l K E ((d,.v undef)::den xr) m):VX P cfg (⟨some d,op,g⟩::l) K E xr m:=by constructor;exact hc _ _ h1 h2
theorem VC{f:FuncId}{r:AV}(h:wa xr g args=some (og,as,ps))(hp:og.getD true=true->Pure P f as r)(aw:OB ps)(k:VX P cfg l K E (bQ og d r xr) m):VX P cfg (⟨some d,.call f args,g⟩::l) K E xr m:=by
 obtain⟨hc,he⟩:=cC h;refine jW hc (fun hg=>?_) (fun hg=>?_)
 .simp only[ak,he aw hg];refine xg (hp hg) ?_;rw[<-fU hg];exact k.h
 .rw[<-fT hg (v:=r)];exact k.h
theorem w8{f:FuncId}{r fv:AV}{fo:Operand}{a c:Array Value}(h:wa xr g (fo::args)=some (og,fv::as,ps))(hf:zS fv=some (f,a,c))(bL:im P f=true)(hp:og.getD true=true->Pure P f (a.toList.map .v++as++c.toList.map .v) r)(aw:OB ps)(k:VX P cfg l K E (bQ og d r xr) m):
  VX P cfg (⟨some d,.fZ fo args,g⟩::l) K E xr m:=by
 obtain⟨hc,he⟩:=cC h;refine jW hc (fun hg=>?_) (fun hg=>?_)
 .have:=he aw hg;simp only[aL,Z2]at this;simp only[ak,this.1,this.2,HW hf];refine⟨bL,xg (hp hg) ?_⟩;rw[<-fU hg];exact k.h
 .rw[<-fT hg (v:=r)];exact k.h
theorem uP{f:FuncId}{R:ik->Store->Prop}(h:wa xr none args=some (og,as,ps))(hp:Spec P f as m R)(aw:OB ps)(k:∀x af,R (.ret x) af->VX P cfg l K E ((d,.s x)::xr) af)(e:∀ch af,R (.ke ch) af->E ch af):
  VX P cfg (⟨some d,.call f args,none⟩::l) K E xr m:=by
 obtain⟨hc,_⟩:=cC h;obtain⟨rfl,he⟩:=ani h;refine jW hc (fun hg=>?_) (fun hg=>nomatch hg);simp only[ak,he aw];exact⟨R,hp,fun x af hr=>(k x af hr).h,e⟩
theorem VX.m2{X:Type}{f:X->List AV}{ls:List X}{e:Nat}{x:Operand}(k:(og.getD true=true->ls.length<=maxLen)->VX P cfg l K E (bQ og d (.v (.int .i64 ls.length)) xr) m)(aw:OB ps)(h:wa xr g [x]=some (og,[v],ps):=by exact rfl)(hx:me v=some (e,ls.map f):=by exact rfl):VX P cfg (⟨some d,.len false x,g⟩::l) K E xr m:=by
 obtain⟨hc,he⟩:=cC h;refine jW hc (fun hg=>?_) (fun hg=>?_)
 .have:=he aw hg;simp only[aL,Z2,Zn]at this;rcases yC hx with⟨nn,e2⟩|⟨t,b,u,c,e2⟩<;>simp only[ak,this,e2,Z5]<;>(intro hl;rw[<-fU hg];exact(k fun _=>hl).h)
 .rw[← fT hg (v:=.v (.int .i64 ls.length))];exact(k fun vF=>by grind).h
theorem VX.m3{rows:List (List AV)}{e:Nat}{x:Operand}(k:(og.getD true=true->rows.length<=maxLen)->VX P cfg l K E (bQ og d (.v (.int .i64 rows.length)) xr) m)(aw:OB ps)(h:wa xr g [x]=some (og,[v],ps):=by exact rfl)(hx:me v=some (e,rows):=by exact rfl):VX P cfg (⟨some d,.len false x,g⟩::l) K E xr m:=by
 obtain⟨hc,he⟩:=cC h;refine jW hc (fun hg=>?_) (fun hg=>?_)
 .have:=he aw hg;simp only[aL,Z2,Zn]at this;rcases yC hx with⟨nn,e2⟩|⟨t,b,u,c,e2⟩<;>simp only[ak,this,e2]<;>(intro hl;rw[<-fU hg];exact(k fun _=>hl).h)
 .rw[← fT hg (v:=.v (.int .i64 rows.length))];exact(k fun vF=>by grind).h
theorem VX.t1{X:Type}[Inhabited X]{f:X->List AV}{ls:List X}{e:Nat}{x i:Operand}{iv:AV}{n:Int}(aw:OB ps)(k:VX P cfg l K E (bQ og d (.pc (f (ls.getD n.toNat default))) xr) m)(hb:og.getD true=true->0<=n/\n<ls.length)(h:wa xr g [x,i]=some (og,[v,iv],ps):=by exact rfl)(hi:iT iv=some n:=by exact rfl)(hx:me v=some (e,ls.map f):=by exact rfl):VX P cfg (⟨some d,.fh e x i,g⟩::l) K E xr m:=by
 obtain⟨hc,he⟩:=cC h;refine jW hc (fun hg=>?_) (fun hg=>?_)
 .have:=he aw hg;simp only[aL,Z2,Zn]at this;obtain⟨q,hq⟩:=rI hi;have hb:=hb hg;have I3:=S3 (f:=f) hb;rcases yC hx with⟨nn,e2⟩|⟨t,b,u,c,e2⟩<;>simp only[ak,this.1,this.2,e2,hq,Z5,I3]<;>(rw[<-fU hg];exact⟨trivial,hb.1,hb.2,k.h⟩)
 .rw[<-fT hg (v:=.pc (f (ls.getD n.toNat default)))];exact k.h
theorem Vx{t:TypeId}{z:Value}{cs:List AV}(h:kE (z.cells.toList.map .v) some=some cs)(k:∀b,VX P cfg l K E ((d,.s (.lp d b 0))::xr) ((d,b,.cells cs)::m)):VX P cfg (⟨some d,.alloc t z,none⟩::l) K E xr m:=by constructor;have h:=j3 h;cases h;exact fun b=>(k b).h
theorem VX.m1{t:TypeId}{x:Operand}{cs:List AV}(k:∀b,VX P cfg l K E ((d,.s (.lp d b 0))::xr) ((d,b,.cells cs)::m))(aw:OB ps)(h:wa xr none [x]=some (og,[v],ps):=by exact rfl)(hc:s7 v=some cs:=by exact rfl):VX P cfg (⟨some d,.box t x,none⟩::l) K E xr m:=by obtain⟨rfl,he⟩:=ani h;have:=he aw;simp only[aL,Z2,Zn]at this;constructor;simp only[fb,cE,ak,this,CG hc];exact fun b=>(k b).h
theorem VX.l2{t:TypeId}{ah:Nat}(k:∀b,VX P cfg l K E ((d,.s (.own ah d b 0 0 []))::xr) ((d,b,.tail 0 0)::m))(hc:cfg d=1:=by exact rfl)(he:0<ah:=by decide):VX P cfg (⟨some d,.TO t ah [],none⟩::l) K E xr m:=by constructor;simp only[fb,cE,ak,aL,rowsOf,Zm,hc,ZP,Nat.zero_mul];exact⟨Z4 _,he,fun b=>(k b).h⟩
theorem VX.u1{t:TypeId}{ah bytes:Nat}{z:List Value}{x y:Operand}{w:AV}{rows:List (List AV)}(aw:OB ps)(hn:rows≠[])(hb:rows.length*bytes<=35184372088832)(k:∀b u c,VX P cfg l K E ((d,.s (.own ah d b u c rows))::xr) ((d,b,.tail u c)::m))(h:wa xr none [x,y]=some (og,[.v (.slice none 0 0),w],ps):=by exact rfl)(hw:dH ah w=some rows:=by exact rfl):VX P cfg (⟨some d,.append t ah bytes z x y,none⟩::l) K E xr m:=by obtain⟨rfl,he⟩:=ani h;have:=he aw;simp only[aL,Z2,Zn]at this;constructor;simp only[fb,cE,ak,this.1,this.2,hw];exact⟨hb,fun e=>absurd e hn,fun _ b u c _=>(k b u c).h⟩
theorem VX.u2{t:TypeId}{ah bytes tg b u c:Nat}{z:List Value}{x y:Operand}{w:AV}{rows rows':List (List AV)}(aw:OB ps)(hb:(rows.length+rows'.length)*bytes<=35184372088832)(h1:rows'.all (fun r=>r.all AV.one)=true)(k:∀b' u' c',VX P cfg l K E ((d,.s (.own ah tg b' u' c' (rows++rows')))::xr) (du m tg b' (.tail u' c')))(h:wa xr none [x,y]=some (og,[.own ah tg b u c rows,w],ps):=by exact rfl)(hw:dH ah w=some rows':=by exact rfl)(hl:aV m tg=some (b,.tail u c):=by exact rfl):VX P cfg (⟨some d,.append t ah bytes z x y,none⟩::l) K E xr m:=by obtain⟨rfl,he⟩:=ani h;have:=he aw;simp only[aL,Z2,Zn]at this;constructor;simp only[fb,cE,ak,this.1,this.2,hw];exact⟨trivial,hl,hb,h1,fun b' u' c' _=>(k b' u' c').h⟩
theorem Mk{t:TypeId}{ah bytes:Nat}{z:List Value}{x y:Operand}{w:AV}{rows rows':List (List AV)}(h:wa xr none [x,y]=some (og,[.fl ah rows,w],ps))(hw:dH ah w=some rows')(aw:OB ps)
  (hb:(rows.length+rows'.length)*bytes<=35184372088832) (k0:rows'=[]->VX P cfg l K E ((d,.s (.fl ah rows))::xr) m)
  (k:rows'≠[]->∀b u c,VX P cfg l K E ((d,.s (.own ah d b u c (rows++rows')))::xr) ((d,b,.tail u c)::m)):VX P cfg (⟨some d,.append t ah bytes z x y,none⟩::l) K E xr m:=by
 obtain⟨rfl,he⟩:=ani h;have:=he aw;simp only[aL,Z2,Zn]at this;constructor;simp only[fb,cE,ak,this.1,this.2,hw];exact⟨trivial,hb,fun e=>(k0 e).h,fun e b u c=>(k e b u c).h⟩
theorem Wn(h:K (den xr) m):VY P cfg aq [] (Cl K) xr m:=⟨Cl.intro h⟩
theorem VY.r1(hp:OB ps)(k:VY P cfg aq Bu K cP af)(_h0:yN cfg cd.c.op=false:=by exact rfl)(h:runM cfg aq (cd::ld) xr m []=some (ps,cP,af,Bu):=by exact rfl):VY P cfg aq (cd::ld) K xr m:=
 ⟨(Ta h).2 hp.all k.h⟩
theorem VY.r8(hp:OB ps)(k:VY P cfg aq ld K cP af)(h:wJ cfg (nV aq cd.cf) cd.c xr m [] (fun ps xr m=>some (ps,xr,m))=some (ps,cP,af):=by exact rfl):VY P cfg aq (cd::ld) K xr m:=by
 constructor;obtain⟨EL,LQ,aR,b,h,h2,hc,h3⟩:=Ff h;cases h;obtain⟨s1,s2⟩:=h3 hp.all;refine hc _ _ (fun hg=>?_) (fun hg=>?_)
 .obtain⟨v,ho,hd⟩:=s1 hg;exact Se ho (by rw[<-hd];exact k.h)
 .obtain⟨e,hd⟩:=s2 hg;rw[<-hd,<-e];exact k.h
theorem pI(hc:wU xr g og)(h1:og.getD true=true->cy P cfg aq cf (some d) (den xr) m (fun x af=>da P cfg aq ld K ((d,x)::den xr) af) op)(h2:og.getD true=false->da P cfg aq ld K ((d,.v undef)::den xr) m):VY P cfg aq (⟨ix,⟨some d,op,g⟩,cf⟩::ld) K xr m:=by constructor;exact hc _ _ h1 h2
theorem V8{f:FuncId}{r:AV}(h:wa xr g args=some (og,as,ps))(hp:og.getD true=true->Pure P f as r)(aw:OB ps)(k:VY P cfg aq ld K (bQ og d r xr) m):VY P cfg aq (⟨ix,⟨some d,.call f args,g⟩,cf⟩::ld) K xr m:=by
 obtain⟨hc,he⟩:=cC h;refine pI hc (fun hg=>?_) (fun hg=>?_)
 .simp only[cy,aB.cls,aM,he aw hg];refine⟨r,hp hg,?_⟩;have:=k.h;rw[fU hg]at this;grind
 .rw[<-fT hg (v:=r)];exact k.h
theorem V9{f:FuncId}{r fv:AV}{fo:Operand}{a c:Array Value}(h:wa xr g (fo::args)=some (og,fv::as,ps))(hf:zS fv=some (f,a,c))(bL:im P f=true)(hp:og.getD true=true->Pure P f (a.toList.map .v++as++c.toList.map .v) r)(aw:OB ps)(k:VY P cfg aq ld K (bQ og d r xr) m):
  VY P cfg aq (⟨ix,⟨some d,.fZ fo args,g⟩,cf⟩::ld) K xr m:=by
 obtain⟨hc,he⟩:=cC h;refine pI hc (fun hg=>?_) (fun hg=>?_)
 .have:=he aw hg;simp only[aL,Z2]at this;simp only[cy,aB.cls,aM,this.1,this.2,HW hf];refine⟨bL,r,hp hg,?_⟩;have:=k.h;rw[fU hg]at this;grind
 .rw[<-fT hg (v:=r)];exact k.h
theorem VY.r2{X:Type}{f:X->List AV}{ls:List X}{e:Nat}{x:Operand}(aw:OB ps)(k:VY P cfg aq ld K (bQ og d (.v (.int .i64 ls.length)) xr) m)(h:wa xr g [x]=some (og,[v],ps):=by exact rfl)(hx:me v=some (e,ls.map f):=by exact rfl):VY P cfg aq (⟨ix,⟨some d,.len false x,g⟩,cf⟩::ld) K xr m:=by
 obtain⟨hc,he⟩:=cC h;refine pI hc (fun hg=>?_) (fun hg=>?_)
 .have:=he aw hg;simp only[aL,Z2,Zn]at this;rcases yC hx with⟨nn,e2⟩|⟨t,b,u,c,e2⟩<;>simp only[cy,aB.cls,aM,this,e2,Z5]<;>(rw[<-fU hg];exact k.h)
 .rw[<-fT hg (v:=.v (.int .i64 ls.length))];exact k.h
theorem VY.r3{rows:List (List AV)}{e:Nat}{x:Operand}(aw:OB ps)(k:VY P cfg aq ld K (bQ og d (.v (.int .i64 rows.length)) xr) m)(h:wa xr g [x]=some (og,[v],ps):=by exact rfl)(hx:me v=some (e,rows):=by exact rfl):VY P cfg aq (⟨ix,⟨some d,.len false x,g⟩,cf⟩::ld) K xr m:=by
 obtain⟨hc,he⟩:=cC h;refine pI hc (fun hg=>?_) (fun hg=>?_)
 .have:=he aw hg;simp only[aL,Z2,Zn]at this;rcases yC hx with⟨nn,e2⟩|⟨t,b,u,c,e2⟩<;>simp only[cy,aB.cls,aM,this,e2]<;>(rw[<-fU hg];exact k.h)
 .rw[<-fT hg (v:=.v (.int .i64 rows.length))];exact k.h
theorem VY.t1{X:Type}[Inhabited X]{f:X->List AV}{ls:List X}{e:Nat}{x i:Operand}{iv:AV}{n:Int}(aw:OB ps)(k:VY P cfg aq ld K (bQ og d (.pc (f (ls.getD n.toNat default))) xr) m)(hb:og.getD true=true->0<=n/\n<ls.length)(h:wa xr g [x,i]=some (og,[v,iv],ps):=by exact rfl)(hi:iT iv=some n:=by exact rfl)(hx:me v=some (e,ls.map f):=by exact rfl):VY P cfg aq (⟨ix,⟨some d,.fh e x i,g⟩,cf⟩::ld) K xr m:=by
 obtain⟨hc,he⟩:=cC h;refine pI hc (fun hg=>?_) (fun hg=>?_)
 .have:=he aw hg;simp only[aL,Z2,Zn]at this;obtain⟨q,hq⟩:=rI hi;have hb:=hb hg;have I3:=S3 (f:=f) hb;rcases yC hx with⟨nn,e2⟩|⟨t,b,u,c,e2⟩<;>simp only[cy,aB.cls,aM,ak,this.1,this.2,e2,hq,Z5,I3]<;>(rw[<-fU hg];exact⟨trivial,hb.1,hb.2,k.h⟩)
 .rw[<-fT hg (v:=.pc (f (ls.getD n.toNat default)))];exact k.h
theorem VY.l1{t:TypeId}{z:Value}{cs:List AV}(k:∀b,VY P cfg aq ld K ((d,.s (.lp d b 0))::xr) ((d,b,.cells cs)::m))(h:kE (z.cells.toList.map .v) some=some cs:=by exact rfl):VY P cfg aq (⟨ix,⟨some d,.alloc t z,none⟩,cf⟩::ld) K xr m:=by constructor;have h:=j3 h;cases h;exact fun b=>(k b).h
theorem VY.u1{t:TypeId}{ah bytes:Nat}{z:List Value}{x y:Operand}{w:AV}{rows:List (List AV)}(aw:OB ps)(hn:rows≠[])(hb:rows.length*bytes<=35184372088832)(k:∀b u c,VY P cfg aq ld K ((d,.s (.own ah d b u c rows))::xr) ((d,b,.tail u c)::m))(h:wa xr none [x,y]=some (og,[.v (.slice none 0 0),w],ps):=by exact rfl)(hw:dH ah w=some rows:=by exact rfl)(hl:aq.elem d=true:=by exact rfl):VY P cfg aq (⟨ix,⟨some d,.append t ah bytes z x y,none⟩,cf⟩::ld) K xr m:=by obtain⟨rfl,he⟩:=ani h;have:=he aw;simp only[aL,Z2,Zn]at this;constructor;simp only[da,c9,cy,aB.cls,ak,this.1,this.2,hw,isApp,Zm,hl];exact⟨rfl,hb,fun e=>absurd e hn,fun _ b u c _=>(k b u c).h⟩
theorem VY.u2{t:TypeId}{ah bytes tg b u c:Nat}{z:List Value}{x y:Operand}{w:AV}{rows rows':List (List AV)}(aw:OB ps)(hb:(rows.length+rows'.length)*bytes<=35184372088832)(h1:rows'.all (fun r=>r.all AV.one)=true)(k:∀b' u' c',VY P cfg aq ld K ((d,.s (.own ah tg b' u' c' (rows++rows')))::xr) (du m tg b' (.tail u' c')))(h:wa xr none [x,y]=some (og,[.own ah tg b u c rows,w],ps):=by exact rfl)(hw:dH ah w=some rows':=by exact rfl)(hl:aV m tg=some (b,.tail u c):=by exact rfl)(ha:aq.elem d=true:=by exact rfl):VY P cfg aq (⟨ix,⟨some d,.append t ah bytes z x y,none⟩,cf⟩::ld) K xr m:=by obtain⟨rfl,he⟩:=ani h;have:=he aw;simp only[aL,Z2,Zn]at this;constructor;simp only[da,c9,cy,aB.cls,ak,this.1,this.2,hw,isApp,Zm,ha];exact⟨rfl,trivial,hl,hb,h1,fun b' u' c' _=>(k b' u' c').h⟩
theorem Mp{t:TypeId}{ah bytes:Nat}{z:List Value}{x y:Operand}{w:AV}{rows rows':List (List AV)}(h:wa xr none [x,y]=some (og,[.fl ah rows,w],ps))(hw:dH ah w=some rows')(ha:aq.elem d=true)(aw:OB ps)
  (hb:(rows.length+rows'.length)*bytes<=35184372088832) (k0:rows'=[]->VY P cfg aq ld K ((d,.s (.fl ah rows))::xr) m)
  (k:rows'≠[]->∀b u c,VY P cfg aq ld K ((d,.s (.own ah d b u c (rows++rows')))::xr) ((d,b,.tail u c)::m)):VY P cfg aq (⟨ix,⟨some d,.append t ah bytes z x y,none⟩,cf⟩::ld) K xr m:=by
 obtain⟨rfl,he⟩:=ani h;have:=he aw;simp only[aL,Z2,Zn]at this;constructor;simp only[da,c9,cy,aB.cls,ak,this.1,this.2,hw,isApp,Zm,ha];exact⟨rfl,trivial,hb,fun e=>(k0 e).h,fun e b u c=>(k e b u c).h⟩
theorem VY.m1{t:TypeId}{x:Operand}{cs:List AV}(k:∀b,VY P cfg aq ld K ((d,.s (.lp d b 0))::xr) ((d,b,.cells cs)::m))(aw:OB ps)(h:wa xr none [x]=some (og,[v],ps):=by exact rfl)(hc:s7 v=some cs:=by exact rfl):VY P cfg aq (⟨ix,⟨some d,.box t x,none⟩,cf⟩::ld) K xr m:=by obtain⟨rfl,he⟩:=ani h;have:=he aw;simp only[aL,Z2,Zn]at this;constructor;simp only[da,c9,cy,aB.cls,ak,this,CG hc];exact fun b=>(k b).h
end
def ux(x:AV):Option (Bool×Nat×List (List AV)):=match x with
 |.sl nn e rows=>some (nn,e,rows)|_=>none
theorem K0{x:AV}{nn:Bool}{e:Nat}{rows:List (List AV)}(h:ux x=some (nn,e,rows)):x= .sl nn e rows:=by
 unfold ux at h;split at h
 .cases h;rfl
 .cases h
section
variable {P:Program}[Glob P]{cfg:Nat->Nat}{K:ag->Store->Prop}{E:List PanicEntry->Store->Prop}{m:Store}{l:List CI}{d:Nat}{v:AV}{xr:XR}{ps:List Prop}{g:Option (Nat×Bool)}{og:Option Bool}
theorem VX.t2{X:Type}{f:X->List AV}{ls:List X}{e:Nat}{nn:Bool}{x y:Operand}{hv:AV}{h:Int}(aw:OB ps)(hb:og.getD true=true->0<=h/\h<=ls.length)(k:VX P cfg l K E (bQ og d (.sl nn e ((ls.take h.toNat).map f)) xr) m)(ha:wa xr g [x,y]=some (og,[v,hv],ps):=by exact rfl)(hi:iT hv=some h:=by exact rfl)(hx:ux v=some (nn,e,ls.map f):=by exact rfl):VX P cfg (⟨some d,.slice e x none (some y),g⟩::l) K E xr m:=by
 obtain⟨hc,he⟩:=cC ha;refine jW hc (fun hg=>?_) (fun hg=>?_)
 .have:=he aw hg;simp only[aL,Z2,Zn]at this;obtain⟨q,hq⟩:=rI hi;simp only[ak,Option.map_none,ZJ,this.1,this.2,iS,hq,K0 hx,Xq,Zm,Z5];have:=k.h;rw[fU hg]at this;simp_all
 .rw[<-fT hg (v:=.sl nn e ((ls.take h.toNat).map f))];exact k.h
theorem VX.t3{X:Type}{f:X->List AV}{ls:List X}{e:Nat}{nn:Bool}{x y:Operand}{hv:AV}{h:Int}(aw:OB ps)(hb:og.getD true=true->0<=h/\h<=ls.length)(k:VX P cfg l K E (bQ og d (.sl nn e ((ls.drop h.toNat).map f)) xr) m)(ha:wa xr g [x,y]=some (og,[v,hv],ps):=by exact rfl)(hi:iT hv=some h:=by exact rfl)(hx:ux v=some (nn,e,ls.map f):=by exact rfl):VX P cfg (⟨some d,.slice e x (some y) none,g⟩::l) K E xr m:=by
 obtain⟨hc,he⟩:=cC ha;refine jW hc (fun hg=>?_) (fun hg=>?_)
 .have:=he aw hg;simp only[aL,Z2,Zn]at this;obtain⟨q,hq⟩:=rI hi;simp only[ak,Option.map_none,ZJ,this.1,this.2,iS,hq,K0 hx,Xq,Zm,Z5];have:=k.h;rw[fU hg]at this;rw[Yk,ZM (by simp),← Xn];grind
 .rw[<-fT hg (v:=.sl nn e ((ls.drop h.toNat).map f))];exact k.h
theorem VX.t4{X:Type}{f:X->List AV}{ls:List X}{e:Nat}{nn:Bool}{x y z:Operand}{lv hv:AV}{lo h:Int}(aw:OB ps)(hb:og.getD true=true->0<=lo/\lo<=h/\h<=ls.length)(k:VX P cfg l K E (bQ og d (.sl nn e (((ls.take h.toNat).drop lo.toNat).map f)) xr) m)(ha:wa xr g [x,y,z]=some (og,[v,lv,hv],ps):=by exact rfl)(hl:iT lv=some lo:=by exact rfl)(hi:iT hv=some h:=by exact rfl)(hx:ux v=some (nn,e,ls.map f):=by exact rfl):VX P cfg (⟨some d,.slice e x (some y) (some z),g⟩::l) K E xr m:=by
 obtain⟨hc,he⟩:=cC ha;refine jW hc (fun hg=>?_) (fun hg=>?_)
 .have:=he aw hg;simp only[aL,Z2,Zn]at this;obtain⟨q,hq⟩:=rI hi;obtain⟨q2,ic⟩:=rI hl;simp only[ak,ZJ,this.1,this.2.1,this.2.2,iS,hq,ic,K0 hx,Zm,Z5];have:=k.h;rw[fU hg]at this;simp_all
 .rw[<-fT hg (v:=.sl nn e (((ls.take h.toNat).drop lo.toNat).map f))];exact k.h
end
inductive il:ag->ag->Prop
 |nil:il [] []
 |cons {i:Nat} {x y:AV} {r r':ag} (h:Wk x y) (t:il r r'):il ((i,x)::r) ((i,y)::r')
theorem il.lk{r r':ag}(h:il r r')(j:Nat):Wk (Sx.lk r j) (Sx.lk r' j):=by
 induction h with
 |nil=>exact Wk.refl _|cons h _ ih=>simp only[Sx.lk];grind
theorem il.refl:∀r:ag,il r r
 |[]=>.nil|(_,_)::r=>.cons (Wk.refl _) (il.refl r)
theorem Wk.tag{ez t t' b u c:Nat}{rows:List (List AV)}:Wk (.own ez t b u c rows) (.own ez t' b u c rows):=fun _ _ h=>by obtain⟨off,cap,cs,rfl,hr,h4,h5,h6,h8⟩:=h.pe;exact R.rN hr h4 h5 h6 h8
theorem Wk.Kl{ez t b u c:Nat}{rows rows':List (List AV)}{nn:Bool}(h:rows=rows'):Wk (.own ez t b u c rows) (.sl nn ez rows'):=h ▸ Wk.own nn
theorem SW.wk{P:Program}[Glob P]{N:Nat}{s:SC}{Q:Exit->ag->Store->Prop}{rg al:ag}{m af:Store}(h:SW P N s Q al af)(hr:il rg al)(hs:Sub af m):SW P N s Q rg m:=
 fun c hc M w0 a w hI hR hN hD=>h c hc M w0 a w (hI.sub hs) (fun i=>hr.lk i _ _ (hR i)) hN hD
def uM(I:Nat->ag->Store->Prop)(n:Nat)(ks:List Nat)(rg:ag)(m:Store):Prop:=∃so,lL ks rg=some so/\∃n',n'<n/\∃al af,il so al/\Sub af m/\I n' al af
theorem uM.intro{I:Nat->ag->Store->Prop}{n:Nat}{ks:List Nat}{rg so:ag}{m:Store}(hk:lL ks rg=some so)(h:∃n',n'<n/\∃al af,il so al/\Sub af m/\I n' al af):uM I n ks rg m:=⟨so,hk,h⟩
theorem Wv{P:Program}[Glob P]{N:Nat}{cfg:Nat->Nat}{Q:Exit->ag->Store->Prop}{rg eK:ag}{m:Store}{ks:List Nat}{b:AC}(I:Nat->ag->Store->Prop)(n:Nat)(hk:lL ks rg=some eK)(h0:∃al af,il eK al/\Sub af m/\I n al af)
  (h:∀n rg m,I n rg m->WA P N cfg b (qC (uM I n ks) Q) rg m):WA P N cfg (.loop (.aH ks b)) Q rg m:=by
 refine Wu (fun n rg m=>∃so,lL ks rg=some so/\∃al af,il so al/\Sub af m/\I n al af) n ⟨eK,hk,h0⟩ fun n rg m ⟨so,hf,al,af,hw,hs,hi⟩=>Ms hf ⟨rfl,SW.wk ((h n al af hi).mono fun e bK aK he=>?_).h hw hs⟩;cases e with
 |normal=>obtain⟨eZ,h1,n',h2,h3⟩:=he;exact⟨n',h2,eZ,h1,h3⟩
 |_=>exact he
section
variable {X:Type}
def KC(rg:ag)(m:Store)(r:RC)(ps:List Prop)(k:List Prop->AV->Option X):Option X:=match r with
 |.tmp t=>fo (lk rg t) fun x=>k ps x
 |.cell t g n=>match lk rg t with
  |.lp tg b o=>match aV m tg with
   |some (b',.cells l)=>match g with
    |true=>bif Nat.ble (o+n) l.length then kE ((l.drop o).take n) (fun l2=>k ((b=b')::ps) (.agg l2))else none|false=>match l[o]? with
     |some y=>fo y fun x=>k ((b=b')::ps) x
     |none=>none
   |_=>none
  |_=>none
def KE(rg:ag)(m:Store):List RC->List Prop->(List Prop->List AV->Option X)->Option X
 |[],ps,k=>k ps []|r::l,ps,k=>KC rg m r ps fun ps x=>KE rg m l ps fun ps xs=>k ps (x::xs)
theorem ajb{rg:ag}{m:Store}{rc:RC}{ps:List Prop}{k:List Prop->AV->Option X}{r:X}(h:KC rg m rc ps k=some r):
  ∃bD x,k bD x=some r/\(∀p∈ps,p∈bD)/\((∀p∈bD,p)->nZ rg m rc=some x):=by
 unfold KC at h;split at h
 .exact⟨_,_,jb h,fun _ h=>h,fun _=>rfl⟩
 .split at h
  .rename_i e1;split at h
   .rename_i e2;split at h
    .obtain⟨h1,h⟩:=tW h;refine⟨_,_,j3 h,fun p hp=>ZN _ hp,fun ha=>?_⟩;have hb:=ha _ (ZK ..);simp only[nZ,e1,e2,hb,YK,ZE h1]
    .split at h
     .rename_i e3;refine⟨_,_,jb h,fun p hp=>ZN _ hp,fun ha=>?_⟩;have hb:=ha _ (ZK ..);simp only[nZ,e1,e2,hb,YK,ZT,YU,e3]
     grind
   grind
  grind
theorem S1{rg:ag}{m:Store}:∀{l:List RC} {ps:List Prop} {k:List Prop->List AV->Option X} {r:X},KE rg m l ps k=some r->
  ∃bD xs,k bD xs=some r/\(∀p∈ps,p∈bD)/\((∀p∈bD,p)->nj rg m l=some xs)
 |[],ps,k,r,h=>⟨ps,[],h,fun _ h=>h,fun _=>rfl⟩
 |rc::l,ps,k,r,h=>by obtain⟨EL,x,h,h1,h2⟩:=ajb h;obtain⟨ps2,xs,h,h3,h4⟩:=S1 h;refine⟨ps2,_,h,fun p hp=>h3 p (h1 p hp),fun ha=>?_⟩;simp only[nj,h2 fun p hp=>ha p (h3 p hp),h4 ha,ZJ]
end
def T2(ps:List Prop)(xs:List AV):Option (List Prop×AV):=match xs with
 |[x]=>some (ps,x)|xs=>some (ps,.aG xs)
def rV(rg:ag)(m:Store)(l:List RC):Option (List Prop×AV):=KE rg m l [] T2
theorem ES{rg:ag}{m:Store}{l:List RC}{ps:List Prop}{x:AV}(h:rV rg m l=some (ps,x))(hp:OB ps):cZ rg m l=some x:=by
 obtain⟨bD,xs,h,_,h2⟩:=S1 h;unfold T2 at h;unfold cZ;split at h
 .cases h;rw[h2 hp.all]
 .cases h;rw[h2 hp.all];split
  .grind
  .grind
  grind
theorem lZ.r2{rg:ag}{m:Store}{v:AV}{ps:List Prop}{res:List RC}{R:ik->Store->Prop}(hp:OB ps)(h:R (.ret v) m)(e:rV rg m res=some (ps,v):=by exact rfl):lZ res R .normal rg m:=⟨v,ES e hp,h⟩
theorem lZ.r1{rg:ag}{m:Store}{v:AV}{ps:List Prop}{res:List RC}{R:ik->Store->Prop}(hp:OB ps)(h:R (.ret v) m)(e:rV rg m res=some (ps,v):=by exact rfl):lZ res R .ret rg m:=⟨v,ES e hp,h⟩
theorem ni.r2{rg:ag}{m eM:Store}{v r:AV}{ps:List Prop}{res:List RC}(hp:OB ps)(h:Fin eM r v m)(e:rV rg m res=some (ps,v):=by exact rfl):ni res r eM .normal rg m:=⟨v,ES e hp,h.1,h.2⟩
theorem ni.r1{rg:ag}{m eM:Store}{v r:AV}{ps:List Prop}{res:List RC}(hp:OB ps)(h:Fin eM r v m)(e:rV rg m res=some (ps,v):=by exact rfl):ni res r eM .ret rg m:=⟨v,ES e hp,h.1,h.2⟩
theorem bd{p:Prop}[Decidable p]{b:Bool}(h:b=true↔p):AV.v (.bool b)=AV.v (.bool (decide p)):=by
 have:b=decide p:=by rw[YH,h];simp
 rw[this]
theorem bn{n:Int}(h: -9223372036854775808<=n/\n<=9223372036854775807):IntKind.i64.wrap n=n:=Go.IntWalk.i64_in n h
theorem bj{i n:Nat}(h:i<n)(hn:n<=maxLen):IntKind.i64.wrap ((i:Int)+1)=((i+1:Nat):Int):=by
 rw[bn]
 .rfl
 .unfold maxLen at hn;omega
theorem getD_eq{X:Type}[Inhabited X]{l:List X}{i:Nat}(h:i<l.length):l.getD i default=l[i]:=by simp[Z1,h]
theorem bN{X:Type}[Inhabited X]{l:List X}{i:Nat}(h:i<l.length):l.getD i default∈l:=by rw[getD_eq h];exact Zb h
theorem tc{X:Type}[Inhabited X]{l:List X}{i:Nat}(h:i<l.length):l.drop i=l.getD i default::l.drop (i+1):=by simp_all
theorem yu{i:Nat}(h:0<i)(hn:i<=maxLen):IntKind.i64.wrap ((i:Int)-1)=((i-1:Nat):Int):=by rw[bn (by unfold maxLen at hn;omega)];omega
inductive Fr where
 |seq (b:AC)
 |kB (id:Nat)
 |fn (K:ag->Store->Prop)
def post(P:Program)[Glob P](N:Nat)(cfg:Nat->Nat)(Q:Exit->ag->Store->Prop):List Fr->Exit->ag->Store->Prop
 |[]=>Q|.seq b::k=>qC (fun rg m=>WA P N cfg b (post P N cfg Q k) rg m) (post P N cfg Q k)|.kB id::k=>oy id (post P N cfg Q k)|.fn K::k=>qC K (post P N cfg Q k)
structure WK(P:Program)[Glob P](N:Nat)(cfg:Nat->Nat)(Q:Exit->ag->Store->Prop)(a:AC)(k:List Fr)(rg:ag)(m:Store):Prop where
 h:WA P N cfg a (post P N cfg Q k) rg m
structure FK(P:Program)[Glob P](N:Nat)(cfg:Nat->Nat)(Q:Exit->ag->Store->Prop)(e:Exit)(k:List Fr)(rg:ag)(m:Store):Prop where
 h:post P N cfg Q k e rg m
def yU:List Fr->Nat->Option (List Fr)
 |[],_=>none|.kB id::k,i=>match Nat.beq i id with
  |true=>some k|false=>yU k i
 |.seq _::k,i=>yU k i|.fn _::k,i=>yU k i
section
variable {P:Program}[Glob P]{N:Nat}{cfg:Nat->Nat}{Q:Exit->ag->Store->Prop}{rg al:ag}{m af:Store}{l:List CI}{a b:AC}{k k':List Fr}{xr:XR}{aq:List Nat}{ld:List CD}{ks:List Nat}{id:Nat}
theorem WQ(h:WK P N cfg Q a (.seq b::k) rg m):WK P N cfg Q (.seq a b) k rg m:=⟨Wz h.h⟩
theorem WC(h:WK P N cfg Q a (.kB id::k) rg m):WK P N cfg Q (.block id a) k rg m:=⟨Wp h.h⟩
theorem WL(hk:lL ks rg=some al)(h:WK P N cfg Q a k al m):WK P N cfg Q (.aH ks a) k rg m:=⟨Ms hk h.h⟩
theorem WR(h:FK P N cfg Q .normal k rg m):WK P N cfg Q .skip k rg m:=⟨WB h.h⟩
theorem WO(h:Q .ret rg m):WK P N cfg Q .ret k rg m:=by
 refine⟨Wy ?_⟩
 induction k with
 |nil=>exact h|cons f k ih=>cases f<;>exact ih
theorem WJ(hu:yU k id=some k')(h:FK P N cfg Q .normal k' rg m):WK P N cfg Q (.exit id) k rg m:=by
 refine⟨Ws ?_⟩
 induction k with
 |nil=>cases hu|cons f k ih=>
  cases f with
  |seq b=>exact ih hu|fn K=>exact ih hu|kB i=>
   simp only[yU]at hu;split at hu
   .rename_i e;cases hu;exact aaH e h.h
   .rename_i e;exact aaG e (ih hu)
theorem WK.cd{x:Operand}{c:Bool}(h1:c=true->WK P N cfg Q a k rg m)(h2:c=false->WK P N cfg Q b k rg m)(hx:zw rg x=some c:=by exact rfl):WK P N cfg Q (.cond x a b) k rg m:=
 ⟨Wq hx (fun e=>(h1 e).h) (fun e=>(h2 e).h)⟩
theorem WN(hx:toXO rg=some xr)(h:VX P cfg l (FK P N cfg Q .normal k) (fun ch af=>FK P N cfg Q (.panic ch) k [] af) xr m):WK P N cfg Q (.bh l) k rg m:=
 ⟨(Wx (Q:=fun e=>FK P N cfg Q e k) hx h).mono fun _ _ _ h=>h.h⟩
theorem WM(hx:toXO rg=some xr)(h:VY P cfg aq ld (Cl (FK P N cfg Q .normal k)) xr m):WK P N cfg Q (.eR aq ld) k rg m:=
 ⟨(Ww (Q:=fun e=>FK P N cfg Q e k) hx h).mono fun _ _ _ h=>h.h⟩
theorem WG(hx:toXO rg=some xr)(h:VY P cfg [] (bare l) (Cl (FK P N cfg Q .normal k)) xr m):WK P N cfg Q (.de l) k rg m:=
 ⟨(Wr (Q:=fun e=>FK P N cfg Q e k) hx h).mono fun _ _ _ h=>h.h⟩
theorem aP{eK:ag}(I:Nat->ag->Store->Prop)(n:Nat)(hk:lL ks rg=some eK)(h0:∃al af,il eK al/\Sub af m/\I n al af)
  (h:∀n rg m,I n rg m->WK P N cfg Q b (.fn (uM I n ks)::k) rg m):WK P N cfg Q (.loop (.aH ks b)) k rg m:=
 ⟨Wv I n hk h0 fun n rg m hi=>(h n rg m hi).h⟩
theorem U1(h:WK P N cfg Q b k rg m):FK P N cfg Q .normal (.seq b::k) rg m:=⟨h.h⟩
theorem UY(h:FK P N cfg Q .normal k rg m):FK P N cfg Q .normal (.kB id::k) rg m:=⟨h.h⟩
theorem UZ{K:ag->Store->Prop}(h:K rg m):FK P N cfg Q .normal (.fn K::k) rg m:=⟨h⟩
theorem U0(h:Q .normal rg m):FK P N cfg Q .normal [] rg m:=⟨h⟩
def rJ:AC->Nat->Option AC
 |.seq a b,l=>match rJ a l with
  |some r=>some (.seq r b)|none=>rJ b l
 |.aH _ a,l=>rJ a l|.stop a,l=>rJ a l|.label l',l=>if l' == l then some .skip else none|_,_=>none
theorem A7{l:Nat}:∀(a:AC),nC a.erase l=(rJ a l).map AC.erase
 |.seq a b=>by have h1:=A7 (l:=l) a;have h2:=A7 (l:=l) b;simp only[AC.erase,nC,rJ,h1,h2];cases rJ a l<;>rfl|.aH _ a=>A7 (l:=l) a|.stop a=>A7 (l:=l) a|.label l'=>by simp only[AC.erase,nC,rJ];split<;>rfl|.skip=>rfl|.bh _=>rfl|.de _=>rfl|.eR _ _=>rfl|.cond _ _ _=>rfl|.block _ _=>rfl|.loop _=>rfl|.exit _=>rfl|.ret=>rfl|.scope _=>rfl|.goto _=>rfl
theorem Pure.Bz{P:Program}[Glob P][ij P]{f:FuncId}{fn:Func}{fc:FC}{as:List AV}{r:AV}{a:AC}(cfg:Nat->Nat)(hf:P.funcs[f]? =some fn)(hc:j0 P fn=some fc)(ha:fc.code=a.erase)(hlen:as.length<=fc.N)
  (h:∀m,WK P fc.N cfg (ni fc.res r m) a [] (fJ 0 as) m):Pure P f as r:=Pure.run cfg hf hc ha hlen fun m=>(h m).h
theorem Spec.Bz{P:Program}[Glob P][ij P]{f:FuncId}{fn:Func}{fc:FC}{as:List AV}{m:Store}{Q:ik->Store->Prop}{a:AC}(cfg:Nat->Nat)(hf:P.funcs[f]? =some fn)(hc:j0 P fn=some fc)(ha:fc.code=a.erase)(hlen:as.length<=fc.N)
  (h:WK P fc.N cfg (lZ fc.res Q) a [] (fJ 0 as) m):Spec P f as m Q:=Spec.run cfg hf hc ha hlen h.h
theorem KX{p:Prop}(h:p:=by constructor<;>first|kernel_rfl|(intro;kernel_rfl)|(constructor<;>first|kernel_rfl|(intro;kernel_rfl)|(constructor<;>first|kernel_rfl|(intro;kernel_rfl)))):p:=h
structure gy(P:Program)[Glob P](f:FuncId)(N:Nat)(a:AC)(res:List RC):Type where
 ex:∃fn,P.funcs[f]? =some fn/\j0 P fn=some ⟨N,a.erase,res⟩
def gy.i{P:Program}[Glob P]{f:FuncId}{fn:Func}{N:Nat}{a:AC}{res:List RC}(hf:P.funcs[f]? =some fn)(hc:j0 P fn=some ⟨N,a.erase,res⟩:=by kernel_rfl):gy P f N a res:=⟨fn,hf,hc⟩
section
variable {P:Program}[Glob P][ij P]{f:FuncId}{N:Nat}{res:List RC}{as:List AV}{r:AV}{m:Store}{Q:ik->Store->Prop}{a:AC}
theorem gy.pc(k:gy P f N a res)(cfg:Nat->Nat)(h:∀m,WK P N cfg (ni res r m) a [] (fJ 0 as) m)(hl:Nat.ble as.length N=true:=by exact rfl):Pure P f as r:=by obtain⟨fn,h1,h2⟩:=k.ex;exact Pure.Bz (fc:=⟨N,a.erase,res⟩) (a:=a) cfg h1 h2 rfl (ZE hl) h
theorem gy.p(k:gy P f N a res)(h:∀m,WK P N (fun _=>0) (ni res r m) a [] (fJ 0 as) m)(hl:Nat.ble as.length N=true:=by exact rfl):Pure P f as r:=k.pc _ h hl
theorem gy.sc(k:gy P f N a res)(cfg:Nat->Nat)(h:WK P N cfg (lZ res Q) a [] (fJ 0 as) m)(hl:Nat.ble as.length N=true:=by exact rfl):Spec P f as m Q:=by obtain⟨fn,h1,h2⟩:=k.ex;exact Spec.Bz (fc:=⟨N,a.erase,res⟩) (a:=a) cfg h1 h2 rfl (ZE hl) h
theorem gy.s(k:gy P f N a res)(h:WK P N (fun _=>0) (lZ res Q) a [] (fJ 0 as) m)(hl:Nat.ble as.length N=true:=by exact rfl):Spec P f as m Q:=k.sc _ h hl
end
end
section
variable {P:Program}[Glob P]{N:Nat}{cfg:Nat->Nat}{K:ag->Store->Prop}{E:List PanicEntry->Store->Prop}{m:Store}{l:List CI}{d n:Nat}{v y:AV}{xr:XR}{ps:List Prop}{g:Option (Nat×Bool)}{og:Option Bool}{aq cf:List Nat}{ix:Nat}{ld:List CD}
 {t b b' o:Nat} {cs cs' ys l':List AV} {x z:Operand}
theorem Gm(h:wa xr g [x]=some (og,[.lp t b o],ps))(hl:aV m t=some (b',.cells cs))(hb:b=b')(hy:cs[o]? =some y)(aw:OB ps)(k:VX P cfg l K E (bQ og d y xr) m):
  VX P cfg (⟨some d,.load false n x,g⟩::l) K E xr m:=by
 obtain⟨hc,he⟩:=cC h;refine jW hc (fun hg=>?_) (fun hg=>?_)
 .have:=he aw hg;simp only[aL,Z2,Zn]at this;simp only[ak,this,hl,hy,hb,ZT,YU];have:=k.h;rw[fU hg]at this;grind
 .rw[<-fT hg (v:=y)];exact k.h
theorem Cn(h:wa xr none [x,z]=some (og,[.lp t b o,v],ps))(hc:s7 v=some l')(hl:aV m t=some (b',.cells cs))(hb:b=b')(hn:(Nat.beq l'.length n&&l'.all AV.one)=true)(hu:over cs o l'=cs'/\o+n<=cs.length)(aw:OB ps)
  (k:VX P cfg l K E xr (du m t b (.cells cs'))):VX P cfg (⟨none,.store n x z,none⟩::l) K E xr m:=by
 obtain⟨rfl,he⟩:=ani h;have:=he aw;simp only[aL,Z2,Zn]at this;simp only[Z6]at hn;constructor;simp only[fb,cE,ak,this.1,this.2,CG hc,hl];exact⟨hb,Z0 hn.1,hn.2,hu.2,by rw[hu.1];exact k.h⟩
theorem Kd{op:aB}(vz:cf.all (Fo xr)=true)(h1:∀t∈tmpsOf op.opers,lk (raw xr) t=lk (den xr) t):
  mY aq cf (raw xr) op=mY aq cf (den xr) op/\oa aq cf (raw xr) op=oa aq cf (den xr) op:=by
 have hc:∀t∈cf,lk (raw xr) t=lk (den xr) t:=fun t ht=>by
  have:=ZA.1 vz t ht;unfold Fo at this;rw[yi,o8];split at this
  .rename_i e;rw[e];rfl
  grind
 exact⟨Q7 h1 hc,Tz h1 hc⟩
theorem Gz{args:List Operand}{as:List AV}(h:wa xr g args=some (og,as,ps))(hp:OB ps)(hg:og.getD true=true):∀t∈tmpsOf args,lk (raw xr) t=lk (den xr) t:=by
 obtain⟨b,h,_,_⟩:=H6 h;obtain⟨bD,h,_,h3⟩:=ie h;split at h
 .cases h;exact h3 hp.all hg
 grind
theorem Mq(h:wa xr g [x]=some (og,[.lp t b o],ps))(hl:aV m t=some (b',.cells cs))(hb:b=b')(hy:cs[o]? =some y)(cr:nV aq cf xr (.load false n x)=true)(aw:OB ps)(k:VY P cfg aq ld K (bQ og d y xr) m):
  VY P cfg aq (⟨ix,⟨some d,.load false n x,g⟩,cf⟩::ld) K xr m:=by
 obtain⟨hc,he⟩:=cC h;unfold nV at cr;rw[Z6]at cr;refine pI hc (fun hg=>?_) (fun hg=>?_)
 .have:=he aw hg;simp only[aL,Z2,Zn]at this;refine⟨by rw[← (Kd cr.1 (op:=.load false n x) (Gz h aw hg)).1];exact cr.2,?_⟩;simp only[ak,this,hl,hy,hb,ZT,YU];have:=k.h;rw[fU hg]at this;grind
 .rw[<-fT hg (v:=y)];exact k.h
theorem Mr(h:wa xr none [x,z]=some (og,[.lp t b o,v],ps))(hc:s7 v=some l')(hl:aV m t=some (b',.cells cs))(hb:b=b')(hn:(Nat.beq l'.length n&&l'.all AV.one)=true)(hu:over cs o l'=cs'/\o+n<=cs.length)
  (cr:nV aq cf xr (.store n x z)=true) (aw:OB ps) (k:VY P cfg aq ld K xr (du m t b (.cells cs'))):VY P cfg aq (⟨ix,⟨none,.store n x z,none⟩,cf⟩::ld) K xr m:=by
 have h0:=h;obtain⟨rfl,he⟩:=ani h;have:=he aw;simp only[aL,Z2,Zn]at this;simp only[Z6]at hn;unfold nV at cr;rw[Z6]at cr;refine⟨by rw[<-(Kd cr.1 (op:=.store n x z) (Gz h0 aw rfl)).2];exact cr.2,?_⟩;simp only[ak,this.1,this.2,CG hc,hl];exact⟨hb,Z0 hn.1,hn.2,hu.2,by rw[hu.1];exact k.h⟩
theorem VX.r9{gv:Nat}(aw:OB ps)(k:VX P cfg l K E (bQ og d y xr) m)(h:wa xr g [x]=some (og,[.v (.pointer (some ⟨gv,0,none⟩))],ps):=by exact rfl)(hl:Glob.av P gv=some cs:=by exact rfl)(hy:cs[0]? =some y:=by exact rfl):VX P cfg (⟨some d,.load false n x,g⟩::l) K E xr m:=by
 obtain⟨hc,he⟩:=cC h;refine jW hc (fun hg=>?_) (fun hg=>?_)
 .have:=he aw hg;simp only[aL,Z2,Zn]at this;simp only[ak,this,hl,hy,ZT,YU];have:=k.h;rw[fU hg]at this;grind
 .rw[<-fT hg (v:=y)];exact k.h
theorem VY.r9{gv:Nat}(aw:OB ps)(k:VY P cfg aq ld K (bQ og d y xr) m)(h:wa xr g [x]=some (og,[.v (.pointer (some ⟨gv,0,none⟩))],ps):=by exact rfl)(hl:Glob.av P gv=some cs:=by exact rfl)(hy:cs[0]? =some y:=by exact rfl)(cr:nV aq cf xr (.load false n x)=true:=by exact rfl):VY P cfg aq (⟨ix,⟨some d,.load false n x,g⟩,cf⟩::ld) K xr m:=by
 obtain⟨hc,he⟩:=cC h;unfold nV at cr;rw[Z6]at cr;refine pI hc (fun hg=>?_) (fun hg=>?_)
 .have:=he aw hg;simp only[aL,Z2,Zn]at this;refine⟨by rw[← (Kd cr.1 (op:=.load false n x) (Gz h aw hg)).1];exact cr.2,?_⟩;simp only[ak,this,hl,hy,ZT,YU];have:=k.h;rw[fU hg]at this;grind
 .rw[<-fT hg (v:=y)];exact k.h
