import Derived.Test.YtmemninechdogaaGreatDoorSxStep
set_option linter.all false
namespace Go.Sx
open Go.RowKit
def rK:AV->Option Nat
 |.lp t _ _=>some t|.ms t _ _ _ _=>some t|_=>none
def o6(rg:ag)(t s:Nat):Bool:=match rK (lk rg s)with
 |some t'=>!Nat.beq t' t|none=>false
def mY(aq cf:List Nat)(rg:ag):aB->Bool
 |.load _ _ x=>match ev rg x with
  |.lp t _ _=>!aq.elem t&&cf.all (o6 rg t)|_=>true
 |_=>false
def oa(aq cf:List Nat)(rg:ag):aB->Bool
 |.store _ x _=>match ev rg x with
  |.lp t _ _=>match cf with
   |[]=>true|[s]=>match rK (lk rg s)with
    |some t'=>Nat.beq t' t&&(!aq.elem s||Nat.beq s t)|none=>false
   |_=>false
  |_=>true
 |_=>false
def cy(P:Program)[Glob P](cfg:Nat->Nat)(aq cf:List Nat)(d:Option Nat)(rg:ag)(q:Store)(K:AV->Store->Prop)(op:aB):Prop:=
 match op.cls with
 |0=>aM P cfg d rg q (fun x=>K x q) op|1=>mY aq cf rg op=true/\ak P cfg d rg q K (fun _ _=>False) op|2=>ak P cfg d rg q K (fun _ _=>False) op|3=>oa aq cf rg op=true/\ak P cfg d rg q K (fun _ _=>False) op|4=>(isApp op&&aq.elem (d.getD 0))=true/\ak P cfg d rg q K (fun _ _=>False) op|_=>False
def c9(P:Program)[Glob P](cfg:Nat->Nat)(aq:List Nat)(c:CD)(K:AV->Store->Prop)(rg:ag)(q:Store):Prop:=
 match c.c.g with
 |none=>cy P cfg aq c.cf c.c.d rg q K c.c.op|some (t,want)=>match lk rg t with
  |.v (.bool b)=>(b=want->cy P cfg aq c.cf c.c.d rg q K c.c.op)/\(b= !want->K (.v undef) q)|.v (.tuple _)=>K (.v undef) q|_=>False
def da(P:Program)[Glob P](cfg:Nat->Nat)(aq:List Nat):List CD->(ag->Store->Prop)->ag->Store->Prop
 |[],K,rg,q=>K rg q|c::l,K,rg,q=>c9 P cfg aq c (fun x af=>da P cfg aq l K (bB c.c.d x rg) af) rg q
section
variable {P:Program}[Glob P]{cfg:Nat->Nat}{aq:List Nat}{c:CD}{rg al:ag}{q af:Store}{K K':AV->Store->Prop}
theorem al8{d:Option Nat}{K:AV->Prop}{op:aB}(h:∀t∈tmpsOf op.opers,lk rg t=lk al t):aM P cfg d rg q K op=aM P cfg d al q K op:=by
 cases op with
 |call f args=>simp only[aM];rw[mH args h]|fZ f args=>have hf:ev rg f=ev al f:=te fun t ht=>h t (by simp only[aB.opers];rw[si];grind);have ha:aL rg args=aL al args:=mH args fun t ht=>h t (by simp only[aB.opers];rw[si];grind);simp only[aM];grind
 |TO t ah parts=>simp only[aM];rw[mH parts h]|len s x=>cases s<;>(simp only[aM];rw[te h])|box t x=>rfl|alloc t z=>rfl|store n x y=>rfl|append t n k z x y=>rfl|exts op ty ti args=>rfl|panic x=>rfl|cL op ty ti args=>simp only[aM];rw[mH args h]|_=>simp only[aM];exact qF h
theorem Q7{cf:List Nat}{op:aB}(h:∀t∈tmpsOf op.opers,lk rg t=lk al t)(h2:∀t∈cf,lk rg t=lk al t):mY aq cf rg op=mY aq cf al op:=by
 cases op<;>try rfl
 simp only[mY];rw[te h];have:∀t,cf.all (o6 rg t)=cf.all (o6 al t):=fun t=>by rw[YH,ZA,ZA];exact⟨fun k s hs=>by unfold o6 at*;grind,fun k s hs=>by unfold o6 at*;grind⟩
 grind
theorem Tz{cf:List Nat}{op:aB}(h:∀t∈tmpsOf op.opers,lk rg t=lk al t)(h2:∀t∈cf,lk rg t=lk al t):oa aq cf rg op=oa aq cf al op:=by
 cases op<;>try rfl
 rename_i n x y;have hx:ev rg x=ev al x:=te fun t ht=>h t (by simp only[aB.opers];rw[si];grind);simp only[oa];rw[hx];split
 .grind
 .rfl
def wz(c:CD):List Nat:=c.c.reads++c.cf
theorem Un{cf:List Nat}{d:Option Nat}{op:aB}(h:∀t∈tmpsOf op.opers,lk rg t=lk al t)(h2:∀t∈cf,lk rg t=lk al t):cy P cfg aq cf d rg q K op=cy P cfg aq cf d al q K op:=by
 unfold cy;split
 .exact al8 h
 .rw[Q7 h h2,qF h]
 .exact qF h
 .rw[Tz h h2,qF h]
 .rw[qF h]
 .rfl
theorem Lu(h:∀t∈wz c,lk rg t=lk al t)(hv:c9 P cfg aq c K rg q):c9 P cfg aq c K al q:=by
 have e:cy P cfg aq c.cf c.c.d rg q K c.c.op=cy P cfg aq c.cf c.c.d al q K c.c.op:=
  Un (fun t ht=>h t (by unfold wz CI.reads;grind)) (fun t ht=>h t (by unfold wz;grind))
 unfold c9 at*;cases hg:c.c.g with
 |none=>grind|some p=>obtain⟨u,want⟩:=p;have hu:lk rg u=lk al u:=h u (by unfold wz CI.reads;grind);grind
def bz(aq:List Nat)(c:CD)(rg:ag)(q af:Store):Prop:=∀t,aq.elem t=false->(∀s∈c.cf,rK (lk rg s)≠some t)->∀b l,aV q t=some (b,.cells l)->aV af t=some (b,.cells l)
theorem Rh{cf:List Nat}{d:Option Nat}{E:List PanicEntry->Store->Prop}{op:aB}(h1:op.cls=1)(hk:mY aq cf rg op=true)(h:ak P cfg d rg q K E op):
  ∃x,K x q/\∀(af:Store),(∀t,aq.elem t=false->(∀s∈cf,rK (lk rg s)≠some t)->∀b l,aV q t=some (b,.cells l)->aV af t=some (b,.cells l))->∀(K':AV->Store->Prop) (E':List PanicEntry->Store->Prop),K' x af->ak P cfg d rg af K' E' op:=by
 cases op<;>simp only[aB.cls,reduceCtorEq,Nat.reduceEqDiff]at h1;simp only[ak]at h|-;simp only[mY]at hk;split at h
 .rename_i t b o he;rw[he]at hk;simp only[Z6,YA]at hk;have amS:∀af:Store,(∀t,aq.elem t=false->(∀s∈cf,rK (lk rg s)≠some t)->∀b l,aV q t=some (b,.cells l)->aV af t=some (b,.cells l))->∀b l,aV q t=some (b,.cells l)->aV af t=some (b,.cells l):=fun af hh=>hh t hk.1 fun s hs e=>by have:=ZA.1 hk.2 s hs;unfold o6 at this;simp_all
  grind
 .grind
 .grind
 grind
theorem zG(hc:c.c.op.cls<=1)(h:c9 P cfg aq c K rg q):∃x,K x q/\∀af,(c.c.op.cls=1->bz aq c rg q af)->∀K':AV->Store->Prop,K' x af->c9 P cfg aq c K' rg af:=by
 have ei:cy P cfg aq c.cf c.c.d rg q K c.c.op->∃x,K x q/\∀af,(c.c.op.cls=1->bz aq c rg q af)->∀K':AV->Store->Prop,K' x af->cy P cfg aq c.cf c.c.d rg af K' c.c.op:=by
  intro h;unfold cy at h;split at h
  .rename_i h0;obtain⟨x,hx,hv⟩:=al7 h0 h;exact⟨x,hx,fun af _ K' hk=>by unfold cy;grind⟩
  .rename_i h1;obtain⟨x,hx,hv⟩:=Rh h1 h.1 h.2;exact⟨x,hx,fun af hs K' hk=>by unfold cy;rw[h1];exact⟨h.1,hv af (hs h1) _ _ hk⟩⟩
  .grind
  .grind
  .grind
  grind
 unfold c9 at h|-;cases hg:c.c.g with
 |none=>grind|some p=>
  obtain⟨u,want⟩:=p;rw[hg]at h;simp only at h|-;split at h
  .rename_i b he;by_cases hb:b=want
   .grind
   .have jA:b= !want:=by cases b<;>cases want<;>simp_all
    grind
  .grind
  grind
def xb(rg:ag):aB->Option (List AV)
 |.alloc _ z=>some (z.cells.toList.map .v)|.box _ x=>(ev rg x).cells?|_=>none
theorem Gx{op:aB}(h:∀t∈tmpsOf op.opers,lk rg t=lk al t):xb rg op=xb al op:=by
 cases op<;>try rfl
 simp only[xb];rw[te h]
theorem sq(h2:c.c.op.cls=2)(hg:c.c.g=none):c9 P cfg aq c K rg q↔∃l,xb rg c.c.op=some l/\∀b,K (.lp (c.c.d.getD 0) b 0) ((c.c.d.getD 0,b,.cells l)::q):=by
 unfold c9 cy;rw[hg];simp only[h2];cases ho:c.c.op<;>rw[ho]at h2<;>simp only[aB.cls,reduceCtorEq,Nat.reduceEqDiff]at h2
 .simp only[ak,xb];grind
 .simp only[ak,xb,ZV,exists_eq_left']
theorem Ur(h3:c.c.op.cls=3)(hg:c.c.g=none)(h:c9 P cfg aq c K rg q):
  ∃t b l x,aV q t=some (b,.cells l)/\(∀s,c.cf=[s]->rK (lk rg s)=some t/\(aq.elem s=true->s=t))/\K (.v undef) (du q t b x)/\
   ∀(af:Store) (K':AV->Store->Prop),aV af t=aV q t->K' (.v undef) (du af t b x)->c9 P cfg aq c K' rg af:=by
 unfold c9 cy at*;rw[hg]at*;simp only[h3]at h|-;cases ho:c.c.op<;>rw[ho]at h3<;>simp only[aB.cls,reduceCtorEq,Nat.reduceEqDiff]at h3;rw[ho]at h;simp only[ak,oa]at h|-;obtain⟨hk,h⟩:=h;split at h
 .rename_i t b o l' e1 e2;rw[e1]at hk;split at h
  .rename_i b' l e3;obtain⟨rfl,g1,g2,g3,g4⟩:=h;refine⟨t,b,l,_,e3,fun s hs=>?_,g4,fun af K' hl cN=>?_⟩
   .rw[hs]at hk;simp only at hk;split at hk
    .rename_i t' e4;simp only[Z6,YL,YA]at hk;have:=Z0 hk.1;subst this;refine⟨e4,fun ha=>?_⟩;simp_all
    grind
   grind
  grind
 grind
theorem Ql{op:aB}(h:isApp op=true):op.cls=4:=by cases op<;>first|rfl|cases h
theorem My{d:Option Nat}{E E':List PanicEntry->Store->Prop}{op:aB}(ha:isApp op=true)(hs:cK q af)
  (hk:∀y aR lF,cK aR lF/\(q=af->aR=lF)->(∀t b l,d.getD 0≠t->aV q t=some (b,.cells l)->aV aR t=some (b,.cells l))->K y aR->K' y lF) (h:ak P cfg d rg q K E op):ak P cfg d rg af K' E' op:=by
 cases op<;>first|cases ha|skip
 have Aj:∀(b:Nat) (x:aE),∀t b' l,d.getD 0≠t->aV q t=some (b',.cells l)->aV ((d.getD 0,b,x)::q) t=some (b',.cells l):=fun b x t b' l aW hl=>by rw[nO,Z9 aW];grind
 simp only[ak]at h|-;split at h
 .exact⟨h.1,fun e=>hk _ _ _ ⟨hs,fun e=>e⟩ (fun _ _ _ _ hl=>hl) (h.2.1 e),fun e b u c hu=>hk _ _ _ ⟨hs.cons _,fun e=>by rw[e]⟩ (Aj _ _) (h.2.2 e b u c hu)⟩
 .refine⟨h.1,(hs.1 _).symm.trans h.2.1,h.2.2.1,h.2.2.2.1,fun b u c hu=>hk _ _ _ ⟨hs.du h.2.1 _ _,fun e=>by rw[e]⟩ (fun t b' l _ hl=>?_) (h.2.2.2.2 b u c hu)⟩;rw[yj h.2.1,Z9 (fun e=>by grind)];grind
 .exact⟨h.1,h.2.1,fun e=>hk _ _ _ ⟨hs,fun e=>e⟩ (fun _ _ _ _ hl=>hl) (h.2.2.1 e),fun e b u c=>hk _ _ _ ⟨hs.cons _,fun e=>by rw[e]⟩ (Aj _ _) (h.2.2.2 e b u c)⟩
 grind
theorem Mw(ha:isApp c.c.op=true)(hg:c.c.g=none)(hs:cK q af)
  (hk:∀y aR lF,cK aR lF/\(q=af->aR=lF)->(∀t b l,c.c.d.getD 0≠t->aV q t=some (b,.cells l)->aV aR t=some (b,.cells l))->K y aR->K' y lF) (h:c9 P cfg aq c K rg q):c9 P cfg aq c K' rg af:=by
 have hc:=Ql ha;unfold c9 cy at*;rw[hg]at*;simp only[hc]at h|-;exact⟨h.1,My ha hs hk h.2⟩
def Step(aq:List Nat)(c:CD)(rg:ag)(q aK:Store):Prop:=
 (c.c.op.cls<=1->aK=q)/\(c.c.op.cls=2->∃b x,aK=(c.c.d.getD 0,b,x)::q)/\
 (c.c.op.cls=3->∃t b x l,aV q t=some (b,.cells l)/\aK=du q t b x/\∀s,c.cf=[s]->rK (lk rg s)=some t/\(aq.elem s=true->s=t))/\
 (c.c.op.cls=4->∀t b l,c.c.d.getD 0≠t->aV q t=some (b,.cells l)->aV aK t=some (b,.cells l))
theorem Bi{x:CD}(h:iU x=true):(x.c.op.cls<=1\/(x.c.op.cls=2/\x.c.g=none/\x.c.d.isSome=true)\/(x.c.op.cls=3/\x.c.g=none))\/(isApp x.c.op=true/\x.c.op.cls=4/\x.c.g=none):=by
 unfold iU at h;simp at h;obtain⟨⟨h1,h2⟩,h3⟩:=h;rcases h1 with h1|h1
 rotate_left
 .have h4:=Ql h1;grind
 left;rcases YN x.c.op.cls 2 with h|h
 .grind
 .rcases YN x.c.op.cls 3 with h'|h'
  .have e:x.c.op.cls=2:=by omega
   simp_all
  grind
theorem Lv(ho:iU c=true)(h:c9 P cfg aq c K rg q)(hk:∀y aK,Step aq c rg q aK->K y aK->K' y aK):c9 P cfg aq c K' rg q:=by
 rcases Bi ho with(h1|⟨h2,hg,_⟩|⟨h3,hg⟩)|⟨ha,h4,hg⟩
 .obtain⟨x,hx,hv⟩:=zG h1 h;exact hv q (fun _ _ _ _ _ _ h=>h) _ (hk _ _ ⟨fun _=>rfl,fun e=>by omega,fun e=>by omega,fun e=>by omega⟩ hx)
 .obtain⟨l,hl,hb⟩:=(sq h2 hg).1 h;exact(sq h2 hg).2 ⟨l,hl,fun b=>hk _ _ ⟨fun e=>by omega,fun _=>⟨b,_,rfl⟩,fun e=>by omega,fun e=>by omega⟩ (hb b)⟩
 .obtain⟨t,b,l,x,g1,g2,g3,g4⟩:=Ur h3 hg h;exact g4 q _ rfl (hk _ _ ⟨fun e=>by omega,fun e=>by omega,fun _=>⟨t,b,x,l,g1,rfl,g2⟩,fun e=>by omega⟩ g3)
 .have hK:c9 P cfg aq c (fun y aK=>K y aK/\Step aq c rg q aK) rg q:=by
   have hc:=h4;unfold c9 cy at h|-;rw[hg]at h|-;simp only[hc]at h|-;refine⟨h.1,?_⟩;have h:=h.2;obtain⟨ix,⟨d,op,g⟩,cf⟩:=c;cases op<;>first|cases ha|skip
   have hS:∀aK,(∀t b l,d.getD 0≠t->aV q t=some (b,.cells l)->aV aK t=some (b,.cells l))->∀o:aB,o.cls=4->Step aq ⟨ix,⟨d,o,g⟩,cf⟩ rg q aK:=fun aK hh o ho=>⟨fun e=>by grind,fun e=>by grind,fun e=>by grind,fun _=>hh⟩
   have Aj:∀(b:Nat) (x:aE),∀t b' l,d.getD 0≠t->aV q t=some (b',.cells l)->aV ((d.getD 0,b,x)::q) t=some (b',.cells l):=fun b x t b' l aW hl=>by rw[nO,Z9 aW];grind
   simp only[ak]at h|-;split at h
   .grind
   .refine⟨h.1,h.2.1,h.2.2.1,h.2.2.2.1,fun b u c hu=>⟨h.2.2.2.2 b u c hu,hS _ (fun t b' l _ hl=>?_) _ hc⟩⟩;rw[yj h.2.1,Z9 (fun e=>by grind)];grind
   .grind
   grind
  exact Mw ha hg (cK.refl q) (fun y aR lF h1 _ hy=>by grind) hK
theorem al3(ho:iU c=true)(hs:cK q af)(h:c9 P cfg aq c K rg q)(hk:∀y aR lF,cK aR lF->K y aR->K' y lF):c9 P cfg aq c K' rg af:=by
 rcases Bi ho with(h1|⟨h2,hg,_⟩|⟨h3,hg⟩)|⟨ha,h4,hg⟩
 .obtain⟨x,hx,hv⟩:=zG h1 h;exact hv af (fun _ t _ _ b l hl=>(hs.1 _).symm.trans hl) _ (hk _ _ _ hs hx)
 .obtain⟨l,hl,hb⟩:=(sq h2 hg).1 h;exact(sq h2 hg).2 ⟨l,hl,fun b=>hk _ _ _ (hs.cons _) (hb b)⟩
 .obtain⟨t,b,l,x,g1,g2,g3,g4⟩:=Ur h3 hg h;exact g4 af _ (hs.1 t).symm (hk _ _ _ (hs.du g1 b x) g3)
 .exact Mw ha hg hs (fun y aR lF h1 _ h2=>hk y aR lF h1.1 h2) h
def sH(K:ag->Store->Prop):Prop:=∀rg al q af,(∀i,lk rg i=lk al i)->cK q af->K rg q->K al af
theorem Ul{K:ag->Store->Prop}(hK:sH K):∀(l:List CD),(∀x∈l,iU x=true)->sH (da P cfg aq l K)
 |[],_=>hK|c::l,ho=>fun rg al q af hr hs h=>by refine Lu (fun t _=>hr t) (al3 (ho c (by simp)) hs h fun y aR lF kS hk=>?_);exact Ul hK l (fun x hx=>ho x (by simp[hx])) _ _ _ _ (yh hr _ _) kS hk
theorem Br{d:Option Nat}{x:AV}(h:Eu d c=true):∀t∈wz c,lk (bB d x rg) t=lk rg t:=by
 intro t ht;cases d with
 |none=>rfl|some d=>
  simp only[Eu,Z6,YA]at h;have aW:d≠t:=fun e=>by
   rcases ZI.1 ht with ht|ht
   .grind
   grind
  simp only[bB,Rf,Z9 aW]
theorem SJ{d d':Option Nat}{x y:AV}(h:d.isNone=true\/d≠d')(i:Nat):lk (bB d x (bB d' y rg)) i=lk (bB d' y (bB d x rg)) i:=by
 cases d with
 |none=>rfl|some d=>
  cases d' with
  |none=>rfl|some d'=>simp only[bB,Rf];grind
theorem alr{a:CD}{Z:ag->Store->Prop}(hz:sH Z)(hc:qX aq a c=true)(ha:iU a=true)(ho:iU c=true)
  (h:c9 P cfg aq a (fun x aR=>c9 P cfg aq c (fun y aK=>Z (bB c.c.d y (bB a.c.d x rg)) aK) (bB a.c.d x rg) aR) rg q):
  c9 P cfg aq c (fun y aK=>c9 P cfg aq a (fun x aR=>Z (bB a.c.d x (bB c.c.d y rg)) aR) (bB c.c.d y rg) aK) rg q:=by
 unfold qX at hc;simp only[Z6,YL,ZQ]at hc;obtain⟨⟨⟨qc,jH⟩,oL⟩,dp⟩:=hc;rcases Bi ha with(h1|⟨h2,hg,Jy⟩|⟨h3,hg⟩)|⟨_,h4,_⟩
 .obtain⟨x,hx,hD⟩:=zG h1 h;have tR:=Lu (al:=rg) (Br qc) hx;refine Lv ho tR fun y aK fD hZ=>?_;refine Lu (rg:=rg) (fun t ht=>(Br jH t ht).symm) (hD aK (fun h1=>?_) _ (hz _ _ _ _ (fun i=>(SJ oL i).symm) (cK.refl _) hZ));rw[h1]at dp;intro t ht vz b0 l0 nH;rcases Bi ho with(k1|⟨k2,_,k3⟩|⟨k3,_⟩)|⟨_,k4,_⟩
  .rw[fD.1 k1];exact nH
  rotate_left 2
  .refine fD.2.2.2 k4 t b0 l0 ?_ nH;rw[k4]at dp;simp only at dp;split at dp
   .rename_i d hd;rw[hd];intro e;have e:d=t:=e;subst e;rw[ht]at dp;cases dp
   .cases dp
  .obtain⟨b,v,rfl⟩:=fD.2.1 k2;rw[k2]at dp;simp only at dp;split at dp
   .rename_i d hd;rw[hd,nO,Z9]
    .exact nH
    intro e;have e:d=t:=e;subst e;rw[ht]at dp;cases dp
   .cases dp
  .obtain⟨t',b,v,l,g1,rfl,g2⟩:=fD.2.2.1 k3;rw[k3]at dp;simp only at dp;split at dp
   .rename_i s hs;rw[yj g1,Z9]
    .exact nH
    rintro rfl;obtain⟨g3,g4⟩:=g2 s hs;simp only[YL]at dp;rcases dp with dp|dp
    .exact vz s (List.mem_of_elem_eq_true dp) g3
    .have:=g4 dp;subst this;rw[ht]at dp;cases dp
   .cases dp
 .rw[h2]at dp;have k2:c.c.op.cls=2/\c.c.g=none/\c.c.d.isSome=true:=by
   rcases Bi ho with(k1|k2|⟨k3,_⟩)|⟨_,k4,_⟩
   .exfalso;generalize c.c.op.cls=m at k1 dp
    match m,k1,dp with
    |0,_,h=>cases h|1,_,h=>cases h
   .exact k2
   .rw[k3]at dp;cases dp
   .rw[k4]at dp;cases dp
  obtain⟨k2,kg,ahg⟩:=k2;obtain⟨l,hl,hb⟩:=(sq h2 hg).1 h;have oW:∀(x:CD) t,t∈tmpsOf x.c.op.opers->t∈wz x:=fun x t ht=>by unfold wz CI.reads;exact Zy _ (Zy _ ht)
  obtain⟨l',fw,_⟩:=(sq k2 kg).1 (hb 0);rw[Gx (al:=rg) fun t ht=>Br qc t (oW c t ht)]at fw;refine(sq k2 kg).2 ⟨l',fw,fun b'=>(sq h2 hg).2 ⟨l,?_,fun b=>?_⟩⟩
  .rw[Gx (al:=rg) fun t ht=>Br jH t (oW a t ht)];exact hl
  .obtain⟨l2,qa,dC⟩:=(sq k2 kg).1 (hb b);rw[Gx (al:=rg) fun t ht=>Br qc t (oW c t ht),fw]at qa;cases qa;refine hz _ _ _ _ (fun i=>(SJ oL i).symm) ?_ (dC b');refine cK.swap ?_ q;obtain⟨d,hd⟩:=X7.1 Jy;obtain⟨d',hd'⟩:=X7.1 ahg;rw[hd,hd']at oL|-;simp only[Option.isNone_some,ZT,false_or,Zm,ne_eq,ZV]at oL|-;exact fun e=>oL e.symm
 .rw[h3]at dp;cases dp
 .rw[h4]at dp;cases dp
theorem On{K:ag->Store->Prop}(hK:sH K)(ho:iU c=true):∀(A B:List CD) (rg:ag) (q:Store),(∀a∈A,qX aq a c=true/\iU a=true)->(∀b∈B,iU b=true)->
  da P cfg aq (A++c::B) K rg q->c9 P cfg aq c (fun y aK=>da P cfg aq (A++B) K (bB c.c.d y rg) aK) rg q
 |[],B,rg,q,_,_,h=>h|a::A,B,rg,q,hA,hB,h=>by
  have ha:=hA a (by simp);refine alr (Z:=da P cfg aq (A++B) K) (Ul hK _ fun x hx=>?_) ha.1 ha.2 ho (Lv ha.2 h fun x aR _ hv=>?_)
  .grind
  .exact On hK ho A B _ aR (fun x hx=>hA x (by simp[hx])) hB hv
theorem Uj{E:List PanicEntry->Store->Prop}(ho:iU c=true)(h:c9 P cfg aq c K rg q):cE P cfg c.c K E rg q:=by
 have ei:cy P cfg aq c.cf c.c.d rg q K c.c.op->ak P cfg c.c.d rg q K E c.c.op:=by
  intro h;unfold cy at h;split at h
  .obtain⟨x,hx,hv⟩:=Lx h;grind
  .rename_i h1;obtain⟨x,hx,hv⟩:=Rh h1 h.1 h.2;grind
  .rename_i h2;cases ei:c.c.op<;>rw[ei]at h2 h<;>simp only[aB.cls,reduceCtorEq,Nat.reduceEqDiff]at h2<;>exact h
  .rename_i h2;cases ei:c.c.op<;>rw[ei]at h2 h<;>simp only[aB.cls,reduceCtorEq,Nat.reduceEqDiff]at h2;exact h.2
  .have ha:=h.1;rw[Z6]at ha;exact My (hs:=cK.refl q) ha.1 (fun y aR lF h1 _ hy=>by grind) h.2
  grind
 unfold c9 at h;unfold cE;grind
