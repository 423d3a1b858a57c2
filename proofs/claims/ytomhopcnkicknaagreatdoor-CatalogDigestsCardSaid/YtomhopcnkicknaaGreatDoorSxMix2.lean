/-
  The layer Sx, fourteenth part: operations that may stand in any order.
-/
import Derived.Test.YtomhopcnkicknaaGreatDoorSxStep
set_option linter.unusedVariables false
set_option linter.unusedSimpArgs false
set_option linter.unusedSectionVars false
namespace Go.Sx
open Go.RowKit
def tR:AV→Option Nat
 | .lp t _ _=>some t
 | .ms t _ _ _ _=>some t
 |_=>none
def aNz(rg:ah)(t s:Nat):Bool:=match tR (lk rg s)with
 |some t'=> !Nat.beq t' t
 |none=>false
def qc(al cf:List Nat)(rg:ah):aB→Bool
 | .load _ _ x=>match ev rg x with
  | .lp t _ _=> !al.elem t && cf.all (aNz rg t)
  |_=>true
 |_=>false
def rS(al cf:List Nat)(rg:ah):aB→Bool
 | .store _ x _=>match ev rg x with
  | .lp t _ _=>match cf with
   |[]=>true
   |[s]=>match tR (lk rg s)with
    |some t'=>Nat.beq t' t && (!al.elem s || Nat.beq s t)
    |none=>false
   |_=>false
  |_=>true
 |_=>false
def di(P:Program)[Glob P](cfg:Nat→Nat)(al cf:List Nat)(d:Option Nat)(rg:ah)(σ:Store)(K:AV→Store→Prop)(op:aB):Prop:=
 match op.cls with
 |0=>aK P cfg d rg σ (fun x=>K x σ) op
 |1=>qc al cf rg op=true∧ak P cfg d rg σ K (fun _ _=>False) op
 |2=>ak P cfg d rg σ K (fun _ _=>False) op
 |3=>rS al cf rg op=true∧ak P cfg d rg σ K (fun _ _=>False) op
 |4=>(isApp op && al.elem (d.getD 0))=true∧ak P cfg d rg σ K (fun _ _=>False) op
 |_=>False
def dm(P:Program)[Glob P](cfg:Nat→Nat)(al:List Nat)(c:CD)(K:AV→Store→Prop)(rg:ah)(σ:Store):Prop:=
 match c.c.g with
 |none=>di P cfg al c.cf c.c.d rg σ K c.c.op
 |some (t,want)=>match lk rg t with
  | .v (.bool b)=>(b=want→di P cfg al c.cf c.c.d rg σ K c.c.op)∧(b= !want→K (.v undef) σ)
  | .v (.tuple _)=>K (.v undef) σ
  |_=>False
def ef(P:Program)[Glob P](cfg:Nat→Nat)(al:List Nat):List CD→(ah→Store→Prop)→ah→Store→Prop
 |[],K,rg,σ=>K rg σ
 |c::l,K,rg,σ=>dm P cfg al c (fun x af=>ef P cfg al l K (cr c.c.d x rg) af) rg σ
section
variable {P:Program}[Glob P]{cfg:Nat→Nat}{al:List Nat}{c:CD}{rg ay:ah}{σ af:Store}{K K':AV→Store→Prop}
theorem aMO{d:Option Nat}{K:AV→Prop}{op:aB}(h:∀ t∈tmpsOf op.opers,lk rg t=lk ay t):aK P cfg d rg σ K op=aK P cfg d ay σ K op:=by
 cases op with
 |call f args=>simp only[aK];rw[lz args h]
 |gz f args=>
  have hf:ev rg f=ev ay f:=q6 fun t ht=>h t (by simp only[aB.opers];rw[qx];grind)
  have ha:bD rg args=bD ay args:=lz args fun t ht=>h t (by simp only[aB.opers];rw[qx];grind)
  simp only[aK];grind
 |br t ag parts=>simp only[aK];rw[lz parts h]
 |len s x=>cases s<;>(simp only[aK];rw[q6 h])
 |box t x=>rfl
 |alloc t z=>rfl
 |store n x y=>rfl
 |append t n k z x y=>rfl
 |exts op ty ti args=>rfl
 |panic x=>rfl
 |bS op ty ti args=>simp only[aK];rw[lz args h]
 |_=>simp only[aK];exact qB h
theorem Ov{cf:List Nat}{op:aB}(h:∀ t∈tmpsOf op.opers,lk rg t=lk ay t)(h2:∀ t∈cf,lk rg t=lk ay t):qc al cf rg op=qc al cf ay op:=by
 cases op<;>try rfl
 simp only[qc]
 rw[q6 h]
 have:∀ t,cf.all (aNz rg t)=cf.all (aNz ay t):=fun t=>by
  rw[Yy,Zx,Zx]
  exact⟨fun k s hs=>by unfold aNz at *;grind,fun k s hs=>by unfold aNz at *;grind⟩
 grind
theorem QG{cf:List Nat}{op:aB}(h:∀ t∈tmpsOf op.opers,lk rg t=lk ay t)(h2:∀ t∈cf,lk rg t=lk ay t):rS al cf rg op=rS al cf ay op:=by
 cases op<;>try rfl
 rename_i n x y
 have hx:ev rg x=ev ay x:=q6 fun t ht=>h t (by simp only[aB.opers];rw[qx];grind)
 simp only[rS]
 rw[hx]
 split
 ·grind
 ·rfl
def ue(c:CD):List Nat:=c.c.reads++c.cf
theorem RD{cf:List Nat}{d:Option Nat}{op:aB}(h:∀ t∈tmpsOf op.opers,lk rg t=lk ay t)(h2:∀ t∈cf,lk rg t=lk ay t):di P cfg al cf d rg σ K op=di P cfg al cf d ay σ K op:=by
 unfold di
 split
 ·exact aMO h
 ·rw[Ov h h2,qB h]
 ·exact qB h
 ·rw[QG h h2,qB h]
 ·rw[qB h]
 ·rfl
theorem Je(h:∀ t∈ue c,lk rg t=lk ay t)(hv:dm P cfg al c K rg σ):dm P cfg al c K ay σ:=by
 have e:di P cfg al c.cf c.c.d rg σ K c.c.op=di P cfg al c.cf c.c.d ay σ K c.c.op:=
  RD (fun t ht=>h t (by unfold ue CI.reads;grind)) (fun t ht=>h t (by unfold ue;grind))
 unfold dm at *
 cases hg:c.c.g with
 |none=>grind
 |some p=>
  obtain⟨u,want⟩:=p
  have hu:lk rg u=lk ay u:=h u (by unfold ue CI.reads;grind)
  grind
def aZ(al:List Nat)(c:CD)(rg:ah)(σ af:Store):Prop:=∀ t,al.elem t=false→(∀ s∈c.cf,tR (lk rg s)≠some t)→∀ b l,bo σ t=some (b,.cells l)→bo af t=some (b,.cells l)
theorem OJ{cf:List Nat}{d:Option Nat}{E:List PanicEntry→Store→Prop}{op:aB}(h1:op.cls=1)(hk:qc al cf rg op=true)(h:ak P cfg d rg σ K E op):
  ∃ x,K x σ∧∀ (af:Store),(∀ t,al.elem t=false→(∀ s∈cf,tR (lk rg s)≠some t)→∀ b l,bo σ t=some (b,.cells l)→bo af t=some (b,.cells l))→∀ (K':AV→Store→Prop) (E':List PanicEntry→Store→Prop),K' x af→ak P cfg d rg af K' E' op:=by
 cases op<;>simp only[aB.cls,reduceCtorEq,Nat.reduceEqDiff]at h1
 simp only[ak]at h ⊢
 simp only[qc]at hk
 split at h
 ·rename_i t b o he
  rw[he]at hk
  simp only[ZP,YP]at hk
  have aNn:∀ af:Store,(∀ t,al.elem t=false→(∀ s∈cf,tR (lk rg s)≠some t)→∀ b l,bo σ t=some (b,.cells l)→bo af t=some (b,.cells l))→∀ b l,bo σ t=some (b,.cells l)→bo af t=some (b,.cells l):=fun af hh=>hh t hk.1 fun s hs e=>by
   have:=Zx.1 hk.2 s hs
   unfold aNz at this
   simp_all
  grind
 ·grind
 ·grind
 grind
theorem x3(hc:c.c.op.cls≤1)(h:dm P cfg al c K rg σ):∃ x,K x σ∧∀ af,(c.c.op.cls=1→aZ al c rg σ af)→∀ K':AV→Store→Prop,K' x af→dm P cfg al c K' rg af:=by
 have cO:di P cfg al c.cf c.c.d rg σ K c.c.op→∃ x,K x σ∧∀ af,(c.c.op.cls=1→aZ al c rg σ af)→∀ K':AV→Store→Prop,K' x af→di P cfg al c.cf c.c.d rg af K' c.c.op:=by
  intro h
  unfold di at h
  split at h
  ·rename_i h0
   obtain⟨x,hx,hv⟩:=aMN h0 h
   exact⟨x,hx,fun af _ K' hk=>by unfold di;grind⟩
  ·rename_i h1
   obtain⟨x,hx,hv⟩:=OJ h1 h.1 h.2
   exact⟨x,hx,fun af hs K' hk=>by unfold di;rw[h1];exact⟨h.1,hv af (hs h1) _ _ hk⟩⟩
  ·grind
  ·grind
  ·grind
  grind
 unfold dm at h ⊢
 cases hg:c.c.g with
 |none=>grind
 |some p=>
  obtain⟨u,want⟩:=p
  rw[hg]at h
  simp only at h ⊢
  split at h
  ·rename_i b he
   by_cases hb:b=want
   ·grind
   ·have iS:b= !want:=by cases b<;>cases want<;>simp_all
    grind
  ·grind
  grind
def uP(rg:ah):aB→Option (List AV)
 | .alloc _ z=>some (z.cells.toList.map .v)
 | .box _ x=>(ev rg x).cells?
 |_=>none
theorem EB{op:aB}(h:∀ t∈tmpsOf op.opers,lk rg t=lk ay t):uP rg op=uP ay op:=by
 cases op<;>try rfl
 simp only[uP]
 rw[q6 h]
theorem qA(h2:c.c.op.cls=2)(hg:c.c.g=none):dm P cfg al c K rg σ↔∃ l,uP rg c.c.op=some l∧∀ b,K (.lp (c.c.d.getD 0) b 0) ((c.c.d.getD 0,b,.cells l)::σ):=by
 unfold dm di
 rw[hg]
 simp only[h2]
 cases ho:c.c.op<;>rw[ho]at h2<;>simp only[aB.cls,reduceCtorEq,Nat.reduceEqDiff]at h2
 ·simp only[ak,uP]
  grind
 ·simp only[ak,uP,ZN,exists_eq_left']
theorem RI(h3:c.c.op.cls=3)(hg:c.c.g=none)(h:dm P cfg al c K rg σ):
  ∃ t b l x,bo σ t=some (b,.cells l)∧(∀ s,c.cf=[s]→tR (lk rg s)=some t∧(al.elem s=true→s=t))∧K (.v undef) (eB σ t b x)∧
   ∀ (af:Store) (K':AV→Store→Prop),bo af t=bo σ t→K' (.v undef) (eB af t b x)→dm P cfg al c K' rg af:=by
 unfold dm di at *
 rw[hg]at *
 simp only[h3]at h ⊢
 cases ho:c.c.op<;>rw[ho]at h3<;>simp only[aB.cls,reduceCtorEq,Nat.reduceEqDiff]at h3
 rw[ho]at h
 simp only[ak,rS]at h ⊢
 obtain⟨hk,h⟩:=h
 split at h
 ·rename_i t b o l' e1 e2
  rw[e1]at hk
  split at h
  ·rename_i b' l e3
   obtain⟨rfl,g1,g2,g3,g4⟩:=h
   refine⟨t,b,l,_,e3,fun s hs=> ?_,g4,fun af K' hl cN=> ?_⟩
   ·rw[hs]at hk
    simp only at hk
    split at hk
    ·rename_i t' e4
     simp only[ZP,YU,YP]at hk
     have:=Zm hk.1
     subst this
     refine⟨e4,fun ha=> ?_⟩
     simp_all
    grind
   grind
  grind
 grind
theorem N5{op:aB}(h:isApp op=true):op.cls=4:=by cases op<;>first|rfl|cases h
theorem Kj{d:Option Nat}{E E':List PanicEntry→Store→Prop}{op:aB}(ha:isApp op=true)(hs:dR σ af)
  (hk:∀ y eR ko,dR eR ko∧(σ=af→eR=ko)→(∀ t b l,d.getD 0≠t→bo σ t=some (b,.cells l)→bo eR t=some (b,.cells l))→K y eR→K' y ko) (h:ak P cfg d rg σ K E op):ak P cfg d rg af K' E' op:=by
 cases op<;>first|cases ha|skip
 have yz:∀ (b:Nat) (x:aG),∀ t b' l,d.getD 0≠t→bo σ t=some (b',.cells l)→bo ((d.getD 0,b,x)::σ) t=some (b',.cells l):=fun b x t b' l bB hl=>by
  rw[qe,Z6 bB];grind
 simp only[ak]at h ⊢
 split at h
 ·exact⟨h.1,fun e=>hk _ _ _ ⟨hs,fun e=>e⟩ (fun _ _ _ _ hl=>hl) (h.2.1 e),fun e b u c hu=>hk _ _ _ ⟨hs.cons _,fun e=>by rw[e]⟩ (yz _ _) (h.2.2 e b u c hu)⟩
 ·refine⟨h.1,(hs.1 _).symm.trans h.2.1,h.2.2.1,h.2.2.2.1,fun b u c hu=>hk _ _ _ ⟨hs.eB h.2.1 _ _,fun e=>by rw[e]⟩ (fun t b' l _ hl=> ?_) (h.2.2.2.2 b u c hu)⟩
  rw[wj h.2.1,Z6 (fun e=>by grind)];grind
 ·exact⟨h.1,h.2.1,fun e=>hk _ _ _ ⟨hs,fun e=>e⟩ (fun _ _ _ _ hl=>hl) (h.2.2.1 e),fun e b u c=>hk _ _ _ ⟨hs.cons _,fun e=>by rw[e]⟩ (yz _ _) (h.2.2.2 e b u c)⟩
 grind
theorem Ki(ha:isApp c.c.op=true)(hg:c.c.g=none)(hs:dR σ af)
  (hk:∀ y eR ko,dR eR ko∧(σ=af→eR=ko)→(∀ t b l,c.c.d.getD 0≠t→bo σ t=some (b,.cells l)→bo eR t=some (b,.cells l))→K y eR→K' y ko) (h:dm P cfg al c K rg σ):dm P cfg al c K' rg af:=by
 have hc:=N5 ha
 unfold dm di at *
 rw[hg]at *
 simp only[hc]at h ⊢
 exact⟨h.1,Kj ha hs hk h.2⟩
def Step(al:List Nat)(c:CD)(rg:ah)(σ bE:Store):Prop:=
 (c.c.op.cls≤1→bE=σ)∧(c.c.op.cls=2→∃ b x,bE=(c.c.d.getD 0,b,x)::σ)∧
 (c.c.op.cls=3→∃ t b x l,bo σ t=some (b,.cells l)∧bE=eB σ t b x∧∀ s,c.cf=[s]→tR (lk rg s)=some t∧(al.elem s=true→s=t))∧
 (c.c.op.cls=4→∀ t b l,c.c.d.getD 0≠t→bo σ t=some (b,.cells l)→bo bE t=some (b,.cells l))
theorem zU{x:CD}(h:gU x=true):(x.c.op.cls≤1∨(x.c.op.cls=2∧x.c.g=none∧x.c.d.isSome=true)∨(x.c.op.cls=3∧x.c.g=none))∨(isApp x.c.op=true∧x.c.op.cls=4∧x.c.g=none):=by
 unfold gU at h
 simp at h
 obtain⟨⟨h1,h2⟩,h3⟩:=h
 rcases h1 with h1|h1
 rotate_left
 ·have h4:=N5 h1
  grind
 left
 rcases YF x.c.op.cls 2 with h|h
 ·grind
 ·rcases YF x.c.op.cls 3 with h'|h'
  ·have e:x.c.op.cls=2:=by omega
   simp_all
  grind
theorem Jf(ho:gU c=true)(h:dm P cfg al c K rg σ)(hk:∀ y bE,Step al c rg σ bE→K y bE→K' y bE):dm P cfg al c K' rg σ:=by
 rcases zU ho with(h1|⟨h2,hg,_⟩|⟨h3,hg⟩)|⟨ha,h4,hg⟩
 ·obtain⟨x,hx,hv⟩:=x3 h1 h
  exact hv σ (fun _ _ _ _ _ _ h=>h) _ (hk _ _ ⟨fun _=>rfl,fun e=>by omega,fun e=>by omega,fun e=>by omega⟩ hx)
 ·obtain⟨l,hl,hb⟩:=(qA h2 hg).1 h
  exact(qA h2 hg).2 ⟨l,hl,fun b=>hk _ _ ⟨fun e=>by omega,fun _=>⟨b,_,rfl⟩,fun e=>by omega,fun e=>by omega⟩ (hb b)⟩
 ·obtain⟨t,b,l,x,g1,g2,g3,g4⟩:=RI h3 hg h
  exact g4 σ _ rfl (hk _ _ ⟨fun e=>by omega,fun e=>by omega,fun _=>⟨t,b,x,l,g1,rfl,g2⟩,fun e=>by omega⟩ g3)
 ·have hK:dm P cfg al c (fun y bE=>K y bE∧Step al c rg σ bE) rg σ:=by
   have hc:=h4
   unfold dm di at h ⊢
   rw[hg]at h ⊢
   simp only[hc]at h ⊢
   refine⟨h.1,?_⟩
   have h:=h.2
   obtain⟨ix,⟨d,op,g⟩,cf⟩:=c
   cases op<;>first|cases ha|skip
   have hS:∀ bE,(∀ t b l,d.getD 0≠t→bo σ t=some (b,.cells l)→bo bE t=some (b,.cells l))→∀ o:aB,o.cls=4→Step al ⟨ix,⟨d,o,g⟩,cf⟩ rg σ bE:=fun bE hh o ho=>⟨fun e=>by grind,fun e=>by grind,fun e=>by grind,fun _=>hh⟩
   have yz:∀ (b:Nat) (x:aG),∀ t b' l,d.getD 0≠t→bo σ t=some (b',.cells l)→bo ((d.getD 0,b,x)::σ) t=some (b',.cells l):=fun b x t b' l bB hl=>by
    rw[qe,Z6 bB];grind
   simp only[ak]at h ⊢
   split at h
   ·grind
   ·refine⟨h.1,h.2.1,h.2.2.1,h.2.2.2.1,fun b u c hu=>⟨h.2.2.2.2 b u c hu,hS _ (fun t b' l _ hl=> ?_) _ hc⟩⟩
    rw[wj h.2.1,Z6 (fun e=>by grind)];grind
   ·grind
   grind
  exact Ki ha hg (dR.refl σ) (fun y eR ko h1 _ hy=>by grind) hK
theorem aMJ(ho:gU c=true)(hs:dR σ af)(h:dm P cfg al c K rg σ)(hk:∀ y eR ko,dR eR ko→K y eR→K' y ko):dm P cfg al c K' rg af:=by
 rcases zU ho with(h1|⟨h2,hg,_⟩|⟨h3,hg⟩)|⟨ha,h4,hg⟩
 ·obtain⟨x,hx,hv⟩:=x3 h1 h
  exact hv af (fun _ t _ _ b l hl=>(hs.1 _).symm.trans hl) _ (hk _ _ _ hs hx)
 ·obtain⟨l,hl,hb⟩:=(qA h2 hg).1 h
  exact(qA h2 hg).2 ⟨l,hl,fun b=>hk _ _ _ (hs.cons _) (hb b)⟩
 ·obtain⟨t,b,l,x,g1,g2,g3,g4⟩:=RI h3 hg h
  exact g4 af _ (hs.1 t).symm (hk _ _ _ (hs.eB g1 b x) g3)
 ·exact Ki ha hg hs (fun y eR ko h1 _ h2=>hk y eR ko h1.1 h2) h
def qJ(K:ah→Store→Prop):Prop:=∀ rg ay σ af,(∀ i,lk rg i=lk ay i)→dR σ af→K rg σ→K ay af
theorem RA{K:ah→Store→Prop}(hK:qJ K):∀ (l:List CD),(∀ x∈l,gU x=true)→qJ (ef P cfg al l K)
 |[],_=>hK
 |c::l,ho=>fun rg ay σ af hr hs h=>by
  refine Je (fun t _=>hr t) (aMJ (ho c (by simp)) hs h fun y eR ko jU hk=> ?_)
  exact RA hK l (fun x hx=>ho x (by simp[hx])) _ _ _ _ (zM hr _ _) jU hk
theorem zZ{d:Option Nat}{x:AV}(h:C0 d c=true):∀ t∈ue c,lk (cr d x rg) t=lk rg t:=by
 intro t ht
 cases d with
 |none=>rfl
 |some d=>
  simp only[C0,ZP,YP]at h
  have bB:d≠t:=fun e=>by
   rcases ZI.1 ht with ht|ht
   ·grind
   grind
  simp only[cr,OG,Z6 bB]
theorem PT{d d':Option Nat}{x y:AV}(h:d.isNone=true∨d≠d')(i:Nat):lk (cr d x (cr d' y rg)) i=lk (cr d' y (cr d x rg)) i:=by
 cases d with
 |none=>rfl
 |some d=>
  cases d' with
  |none=>rfl
  |some d'=>
   simp only[cr,OG]
   grind
theorem aLV{a:CD}{Z:ah→Store→Prop}(hz:qJ Z)(hc:sL al a c=true)(ha:gU a=true)(ho:gU c=true)
  (h:dm P cfg al a (fun x eR=>dm P cfg al c (fun y bE=>Z (cr c.c.d y (cr a.c.d x rg)) bE) (cr a.c.d x rg) eR) rg σ):
  dm P cfg al c (fun y bE=>dm P cfg al a (fun x eR=>Z (cr a.c.d x (cr c.c.d y rg)) eR) (cr c.c.d y rg) bE) rg σ:=by
 unfold sL at hc
 simp only[ZP,YU,Zn]at hc
 obtain⟨⟨⟨tG,im⟩,na⟩,c8⟩:=hc
 rcases zU ha with(h1|⟨h2,hg,GN⟩|⟨h3,hg⟩)|⟨_,h4,_⟩
 ·obtain⟨x,hx,hD⟩:=x3 h1 h
  have oN:=Je (ay:=rg) (zZ tG) hx
  refine Jf ho oN fun y bE eX hZ=> ?_
  refine Je (rg:=rg) (fun t ht=>(zZ im t ht).symm) (hD bE (fun h1=> ?_) _ (hz _ _ _ _ (fun i=>(PT na i).symm) (dR.refl _) hZ))
  rw[h1]at c8
  intro t ht yw b0 l0 jq
  rcases zU ho with(k1|⟨k2,_,k3⟩|⟨k3,_⟩)|⟨_,k4,_⟩
  ·rw[eX.1 k1];exact jq
  rotate_left 2
  ·refine eX.2.2.2 k4 t b0 l0 ?_ jq
   rw[k4]at c8
   simp only at c8
   split at c8
   ·rename_i d hd
    rw[hd]
    intro e
    have e:d=t:=e
    subst e
    rw[ht]at c8;cases c8
   ·cases c8
  ·obtain⟨b,v,rfl⟩:=eX.2.1 k2
   rw[k2]at c8
   simp only at c8
   split at c8
   ·rename_i d hd
    rw[hd,qe,Z6]
    ·exact jq
    intro e
    have e:d=t:=e
    subst e
    rw[ht]at c8;cases c8
   ·cases c8
  ·obtain⟨t',b,v,l,g1,rfl,g2⟩:=eX.2.2.1 k3
   rw[k3]at c8
   simp only at c8
   split at c8
   ·rename_i s hs
    rw[wj g1,Z6]
    ·exact jq
    rintro rfl
    obtain⟨g3,g4⟩:=g2 s hs
    simp only[YU]at c8
    rcases c8 with c8|c8
    ·exact yw s (List.mem_of_elem_eq_true c8) g3
    ·have:=g4 c8;subst this;rw[ht]at c8;cases c8
   ·cases c8
 ·rw[h2]at c8
  have k2:c.c.op.cls=2∧c.c.g=none∧c.c.d.isSome=true:=by
   rcases zU ho with(k1|k2|⟨k3,_⟩)|⟨_,k4,_⟩
   ·exfalso
    generalize c.c.op.cls=m at k1 c8
    match m,k1,c8 with
    |0,_,h=>cases h
    |1,_,h=>cases h
   ·exact k2
   ·rw[k3]at c8;cases c8
   ·rw[k4]at c8;cases c8
  obtain⟨k2,kg,afV⟩:=k2
  obtain⟨l,hl,hb⟩:=(qA h2 hg).1 h
  have nA:∀ (x:CD) t,t∈tmpsOf x.c.op.opers→t∈ue x:=fun x t ht=>by unfold ue CI.reads;exact ZK _ (ZK _ ht)
  obtain⟨l',fj,_⟩:=(qA k2 kg).1 (hb 0)
  rw[EB (ay:=rg) fun t ht=>zZ tG t (nA c t ht)]at fj
  refine(qA k2 kg).2 ⟨l',fj,fun b'=>(qA h2 hg).2 ⟨l,?_,fun b=> ?_⟩⟩
  ·rw[EB (ay:=rg) fun t ht=>zZ im t (nA a t ht)];exact hl
  ·obtain⟨l2,oG,cx⟩:=(qA k2 kg).1 (hb b)
   rw[EB (ay:=rg) fun t ht=>zZ tG t (nA c t ht),fj]at oG
   cases oG
   refine hz _ _ _ _ (fun i=>(PT na i).symm) ?_ (cx b')
   refine dR.swap ?_ σ
   obtain⟨d,hd⟩:=YG.1 GN
   obtain⟨d',hd'⟩:=YG.1 afV
   rw[hd,hd']at na ⊢
   simp only[Option.isNone_some,ZG,false_or,Zu,ne_eq,ZN]at na ⊢
   exact fun e=>na e.symm
 ·rw[h3]at c8
  cases c8
 ·rw[h4]at c8
  cases c8
theorem L8{K:ah→Store→Prop}(hK:qJ K)(ho:gU c=true):∀ (A B:List CD) (rg:ah) (σ:Store),(∀ a∈A,sL al a c=true∧gU a=true)→(∀ b∈B,gU b=true)→
  ef P cfg al (A++c::B) K rg σ→dm P cfg al c (fun y bE=>ef P cfg al (A++B) K (cr c.c.d y rg) bE) rg σ
 |[],B,rg,σ,_,_,h=>h
 |a::A,B,rg,σ,hA,hB,h=>by
  have ha:=hA a (by simp)
  refine aLV (Z:=ef P cfg al (A++B) K) (RA hK _ fun x hx=> ?_) ha.1 ha.2 ho (Jf ha.2 h fun x eR _ hv=> ?_)
  ·grind
  ·exact L8 hK ho A B _ eR (fun x hx=>hA x (by simp[hx])) hB hv
theorem Rx{E:List PanicEntry→Store→Prop}(ho:gU c=true)(h:dm P cfg al c K rg σ):dP P cfg c.c K E rg σ:=by
 have cO:di P cfg al c.cf c.c.d rg σ K c.c.op→ak P cfg c.c.d rg σ K E c.c.op:=by
  intro h
  unfold di at h
  split at h
  ·obtain⟨x,hx,hv⟩:=Jg h;grind
  ·rename_i h1
   obtain⟨x,hx,hv⟩:=OJ h1 h.1 h.2
   grind
  ·rename_i h2
   cases cO:c.c.op<;>rw[cO]at h2 h<;>simp only[aB.cls,reduceCtorEq,Nat.reduceEqDiff]at h2<;>exact h
  ·rename_i h2
   cases cO:c.c.op<;>rw[cO]at h2 h<;>simp only[aB.cls,reduceCtorEq,Nat.reduceEqDiff]at h2
   exact h.2
  ·have ha:=h.1
   rw[ZP]at ha
   exact Kj (hs:=dR.refl σ) ha.1 (fun y eR ko h1 _ hy=>by grind) h.2
  grind
 unfold dm at h
 unfold dP
 grind
end
end Go.Sx
