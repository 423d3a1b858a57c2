/-
  The layer Sx, fourteenth part: operations that may stand in any order.
-/
import Derived.Test.YthdeaajdmdmfnaaGreatDoorSxStep
set_option linter.unusedVariables false
set_option linter.unusedSimpArgs false
set_option linter.unusedSectionVars false
namespace Go.Sx
open Go.RowKit
def qK:AV→Option Nat
 | .lp t _ _=>some t
 | .ms t _ _ _ _=>some t
 |_=>none
def oA(rg:ag)(t s:Nat):Bool:=match qK (lk rg s)with
 |some t'=> !Nat.beq t' t
 |none=>false
def mh(al cf:List Nat)(rg:ag):ax→Bool
 | .load _ _ x=>match ev rg x with
  | .lp t _ _=> !al.elem t && cf.all (oA rg t)
  |_=>true
 |_=>false
def nw(al cf:List Nat)(rg:ag):ax→Bool
 | .store _ x _=>match ev rg x with
  | .lp t _ _=>match cf with
   |[]=>true
   |[s]=>match qK (lk rg s)with
    |some t'=>Nat.beq t' t && (!al.elem s || Nat.beq s t)
    |none=>false
   |_=>false
  |_=>true
 |_=>false
def cy(P:Program)[Glob P](cfg:Nat→Nat)(al cf:List Nat)(d:Option Nat)(rg:ag)(σ:Store)(K:AV→Store→Prop)(op:ax):Prop:=
 match op.cls with
 |0=>aK P cfg d rg σ (fun x=>K x σ) op
 |1=>mh al cf rg op=true∧aj P cfg d rg σ K (fun _ _=>False) op
 |2=>aj P cfg d rg σ K (fun _ _=>False) op
 |3=>nw al cf rg op=true∧aj P cfg d rg σ K (fun _ _=>False) op
 |4=>(isApp op && al.elem (d.getD 0))=true∧aj P cfg d rg σ K (fun _ _=>False) op
 |_=>False
def cY(P:Program)[Glob P](cfg:Nat→Nat)(al:List Nat)(c:CD)(K:AV→Store→Prop)(rg:ag)(σ:Store):Prop:=
 match c.c.g with
 |none=>cy P cfg al c.cf c.c.d rg σ K c.c.op
 |some (t,want)=>match lk rg t with
  | .v (.bool b)=>(b=want→cy P cfg al c.cf c.c.d rg σ K c.c.op)∧(b= !want→K (.v undef) σ)
  | .v (.tuple _)=>K (.v undef) σ
  |_=>False
def cZ(P:Program)[Glob P](cfg:Nat→Nat)(al:List Nat):List CD→(ag→Store→Prop)→ag→Store→Prop
 |[],K,rg,σ=>K rg σ
 |c::l,K,rg,σ=>cY P cfg al c (fun x σ'=>cZ P cfg al l K (bz c.c.d x rg) σ') rg σ
section
variable {P:Program}[Glob P]{cfg:Nat→Nat}{al:List Nat}{c:CD}{rg ak:ag}{σ σ':Store}{K K':AV→Store→Prop}
theorem ajm{d:Option Nat}{K:AV→Prop}{op:ax}(h:∀ t∈tmpsOf op.opers,lk rg t=lk ak t):aK P cfg d rg σ K op=aK P cfg d ak σ K op:=by
 cases op with
 |call f args=>simp only[aK];rw[lP args h]
 |fD f args=>
  have hf:ev rg f=ev ak f:=rT fun t ht=>h t (by simp only[ax.opers];rw[ri];grind)
  have ha:aL rg args=aL ak args:=lP args fun t ht=>h t (by simp only[ax.opers];rw[ri];grind)
  simp only[aK];grind
 |dF t ah parts=>simp only[aK];rw[lP parts h]
 |len s x=>cases s<;>(simp only[aK];rw[rT h])
 |box t x=>rfl
 |alloc t z=>rfl
 |store n x y=>rfl
 |append t n k z x y=>rfl
 |exts op ty ti args=>rfl
 |panic x=>rfl
 |cu op ty ti args=>simp only[aK];rw[lP args h]
 |_=>simp only[aK];exact pZ h
theorem Qi{cf:List Nat}{op:ax}(h:∀ t∈tmpsOf op.opers,lk rg t=lk ak t)(h2:∀ t∈cf,lk rg t=lk ak t):mh al cf rg op=mh al cf ak op:=by
 cases op<;>try rfl
 simp only[mh]
 rw[rT h]
 have:∀ t,cf.all (oA rg t)=cf.all (oA ak t):=fun t=>by
  rw[YN,Zz,Zz]
  exact⟨fun k s hs=>by unfold oA at *;grind,fun k s hs=>by unfold oA at *;grind⟩
 grind
theorem Sj{cf:List Nat}{op:ax}(h:∀ t∈tmpsOf op.opers,lk rg t=lk ak t)(h2:∀ t∈cf,lk rg t=lk ak t):nw al cf rg op=nw al cf ak op:=by
 cases op<;>try rfl
 rename_i n x y
 have hx:ev rg x=ev ak x:=rT fun t ht=>h t (by simp only[ax.opers];rw[ri];grind)
 simp only[nw]
 rw[hx]
 split
 ·grind
 ·rfl
def vM(c:CD):List Nat:=c.c.reads++c.cf
theorem S0{cf:List Nat}{d:Option Nat}{op:ax}(h:∀ t∈tmpsOf op.opers,lk rg t=lk ak t)(h2:∀ t∈cf,lk rg t=lk ak t):cy P cfg al cf d rg σ K op=cy P cfg al cf d ak σ K op:=by
 unfold cy
 split
 ·exact ajm h
 ·rw[Qi h h2,pZ h]
 ·exact pZ h
 ·rw[Sj h h2,pZ h]
 ·rw[pZ h]
 ·rfl
theorem KT(h:∀ t∈vM c,lk rg t=lk ak t)(hv:cY P cfg al c K rg σ):cY P cfg al c K ak σ:=by
 have e:cy P cfg al c.cf c.c.d rg σ K c.c.op=cy P cfg al c.cf c.c.d ak σ K c.c.op:=
  S0 (fun t ht=>h t (by unfold vM CI.reads;grind)) (fun t ht=>h t (by unfold vM;grind))
 unfold cY at *
 cases hg:c.c.g with
 |none=>grind
 |some p=>
  obtain⟨u,want⟩:=p
  have hu:lk rg u=lk ak u:=h u (by unfold vM CI.reads;grind)
  grind
def bw(al:List Nat)(c:CD)(rg:ag)(σ σ':Store):Prop:=∀ t,al.elem t=false→(∀ s∈c.cf,qK (lk rg s)≠some t)→∀ b l,aV σ t=some (b,.cells l)→aV σ' t=some (b,.cells l)
theorem Qp{cf:List Nat}{d:Option Nat}{E:List PanicEntry→Store→Prop}{op:ax}(h1:op.cls=1)(hk:mh al cf rg op=true)(h:aj P cfg d rg σ K E op):
  ∃ x,K x σ∧∀ (σ':Store),(∀ t,al.elem t=false→(∀ s∈cf,qK (lk rg s)≠some t)→∀ b l,aV σ t=some (b,.cells l)→aV σ' t=some (b,.cells l))→∀ (K':AV→Store→Prop) (E':List PanicEntry→Store→Prop),K' x σ'→aj P cfg d rg σ' K' E' op:=by
 cases op<;>simp only[ax.cls,reduceCtorEq,Nat.reduceEqDiff]at h1
 simp only[aj]at h ⊢
 simp only[mh]at hk
 split at h
 ·rename_i t b o he
  rw[he]at hk
  simp only[Z8,YF]at hk
  have Ag:∀ σ':Store,(∀ t,al.elem t=false→(∀ s∈cf,qK (lk rg s)≠some t)→∀ b l,aV σ t=some (b,.cells l)→aV σ' t=some (b,.cells l))→∀ b l,aV σ t=some (b,.cells l)→aV σ' t=some (b,.cells l):=fun σ' hh=>hh t hk.1 fun s hs e=>by
   have:=Zz.1 hk.2 s hs
   unfold oA at this
   simp_all
  grind
 ·grind
 ·grind
 grind
theorem zn(hc:c.c.op.cls≤1)(h:cY P cfg al c K rg σ):∃ x,K x σ∧∀ σ',(c.c.op.cls=1→bw al c rg σ σ')→∀ K':AV→Store→Prop,K' x σ'→cY P cfg al c K' rg σ':=by
 have eK:cy P cfg al c.cf c.c.d rg σ K c.c.op→∃ x,K x σ∧∀ σ',(c.c.op.cls=1→bw al c rg σ σ')→∀ K':AV→Store→Prop,K' x σ'→cy P cfg al c.cf c.c.d rg σ' K' c.c.op:=by
  intro h
  unfold cy at h
  split at h
  ·rename_i h0
   obtain⟨x,hx,hv⟩:=ajl h0 h
   exact⟨x,hx,fun σ' _ K' hk=>by unfold cy;grind⟩
  ·rename_i h1
   obtain⟨x,hx,hv⟩:=Qp h1 h.1 h.2
   exact⟨x,hx,fun σ' hs K' hk=>by unfold cy;rw[h1];exact⟨h.1,hv σ' (hs h1) _ _ hk⟩⟩
  ·grind
  ·grind
  ·grind
  grind
 unfold cY at h ⊢
 cases hg:c.c.g with
 |none=>grind
 |some p=>
  obtain⟨u,want⟩:=p
  rw[hg]at h
  simp only at h ⊢
  split at h
  ·rename_i b he
   by_cases hb:b=want
   ·grind
   ·have mP:b= !want:=by cases b<;>cases want<;>simp_all
    grind
  ·grind
  grind
def wN(rg:ag):ax→Option (List AV)
 | .alloc _ z=>some (z.cells.toList.map .v)
 | .box _ x=>(ev rg x).cells?
 |_=>none
theorem FM{op:ax}(h:∀ t∈tmpsOf op.opers,lk rg t=lk ak t):wN rg op=wN ak op:=by
 cases op<;>try rfl
 simp only[wN]
 rw[rT h]
theorem rm(h2:c.c.op.cls=2)(hg:c.c.g=none):cY P cfg al c K rg σ↔∃ l,wN rg c.c.op=some l∧∀ b,K (.lp (c.c.d.getD 0) b 0) ((c.c.d.getD 0,b,.cells l)::σ):=by
 unfold cY cy
 rw[hg]
 simp only[h2]
 cases ho:c.c.op<;>rw[ho]at h2<;>simp only[ax.cls,reduceCtorEq,Nat.reduceEqDiff]at h2
 ·simp only[aj,wN]
  grind
 ·simp only[aj,wN,ZY,exists_eq_left']
theorem S4(h3:c.c.op.cls=3)(hg:c.c.g=none)(h:cY P cfg al c K rg σ):
  ∃ t b l x,aV σ t=some (b,.cells l)∧(∀ s,c.cf=[s]→qK (lk rg s)=some t∧(al.elem s=true→s=t))∧K (.v undef) (du σ t b x)∧
   ∀ (σ':Store) (K':AV→Store→Prop),aV σ' t=aV σ t→K' (.v undef) (du σ' t b x)→cY P cfg al c K' rg σ':=by
 unfold cY cy at *
 rw[hg]at *
 simp only[h3]at h ⊢
 cases ho:c.c.op<;>rw[ho]at h3<;>simp only[ax.cls,reduceCtorEq,Nat.reduceEqDiff]at h3
 rw[ho]at h
 simp only[aj,nw]at h ⊢
 obtain⟨hk,h⟩:=h
 split at h
 ·rename_i t b o l' e1 e2
  rw[e1]at hk
  split at h
  ·rename_i b' l e3
   obtain⟨rfl,g1,g2,g3,g4⟩:=h
   refine⟨t,b,l,_,e3,fun s hs=> ?_,g4,fun σ' K' hl di=> ?_⟩
   ·rw[hs]at hk
    simp only at hk
    split at hk
    ·rename_i t' e4
     simp only[Z8,YO,YF]at hk
     have:=Z0 hk.1
     subst this
     refine⟨e4,fun ha=> ?_⟩
     simp_all
    grind
   grind
  grind
 grind
theorem PA{op:ax}(h:isApp op=true):op.cls=4:=by cases op<;>first|rfl|cases h
theorem L4{d:Option Nat}{E E':List PanicEntry→Store→Prop}{op:ax}(ha:isApp op=true)(hs:cE σ σ')
  (hk:∀ y aP kK,cE aP kK∧(σ=σ'→aP=kK)→(∀ t b l,d.getD 0≠t→aV σ t=some (b,.cells l)→aV aP t=some (b,.cells l))→K y aP→K' y kK) (h:aj P cfg d rg σ K E op):aj P cfg d rg σ' K' E' op:=by
 cases op<;>first|cases ha|skip
 have zX:∀ (b:Nat) (x:aZ),∀ t b' l,d.getD 0≠t→aV σ t=some (b',.cells l)→aV ((d.getD 0,b,x)::σ) t=some (b',.cells l):=fun b x t b' l aE hl=>by
  rw[na,Z7 aE];grind
 simp only[aj]at h ⊢
 split at h
 ·exact⟨h.1,fun e=>hk _ _ _ ⟨hs,fun e=>e⟩ (fun _ _ _ _ hl=>hl) (h.2.1 e),fun e b u c hu=>hk _ _ _ ⟨hs.cons _,fun e=>by rw[e]⟩ (zX _ _) (h.2.2 e b u c hu)⟩
 ·refine⟨h.1,(hs.1 _).symm.trans h.2.1,h.2.2.1,h.2.2.2.1,fun b u c hu=>hk _ _ _ ⟨hs.du h.2.1 _ _,fun e=>by rw[e]⟩ (fun t b' l _ hl=> ?_) (h.2.2.2.2 b u c hu)⟩
  rw[x6 h.2.1,Z7 (fun e=>by grind)];grind
 ·exact⟨h.1,h.2.1,fun e=>hk _ _ _ ⟨hs,fun e=>e⟩ (fun _ _ _ _ hl=>hl) (h.2.2.1 e),fun e b u c=>hk _ _ _ ⟨hs.cons _,fun e=>by rw[e]⟩ (zX _ _) (h.2.2.2 e b u c)⟩
 grind
theorem LZ(ha:isApp c.c.op=true)(hg:c.c.g=none)(hs:cE σ σ')
  (hk:∀ y aP kK,cE aP kK∧(σ=σ'→aP=kK)→(∀ t b l,c.c.d.getD 0≠t→aV σ t=some (b,.cells l)→aV aP t=some (b,.cells l))→K y aP→K' y kK) (h:cY P cfg al c K rg σ):cY P cfg al c K' rg σ':=by
 have hc:=PA ha
 unfold cY cy at *
 rw[hg]at *
 simp only[hc]at h ⊢
 exact⟨h.1,L4 ha hs hk h.2⟩
def Step(al:List Nat)(c:CD)(rg:ag)(σ aJ:Store):Prop:=
 (c.c.op.cls≤1→aJ=σ)∧(c.c.op.cls=2→∃ b x,aJ=(c.c.d.getD 0,b,x)::σ)∧
 (c.c.op.cls=3→∃ t b x l,aV σ t=some (b,.cells l)∧aJ=du σ t b x∧∀ s,c.cf=[s]→qK (lk rg s)=some t∧(al.elem s=true→s=t))∧
 (c.c.op.cls=4→∀ t b l,c.c.d.getD 0≠t→aV σ t=some (b,.cells l)→aV aJ t=some (b,.cells l))
theorem AZ{x:CD}(h:iC x=true):(x.c.op.cls≤1∨(x.c.op.cls=2∧x.c.g=none∧x.c.d.isSome=true)∨(x.c.op.cls=3∧x.c.g=none))∨(isApp x.c.op=true∧x.c.op.cls=4∧x.c.g=none):=by
 unfold iC at h
 simp at h
 obtain⟨⟨h1,h2⟩,h3⟩:=h
 rcases h1 with h1|h1
 rotate_left
 ·have h4:=PA h1
  grind
 left
 rcases YU x.c.op.cls 2 with h|h
 ·grind
 ·rcases YU x.c.op.cls 3 with h'|h'
  ·have e:x.c.op.cls=2:=by omega
   simp_all
  grind
theorem KU(ho:iC c=true)(h:cY P cfg al c K rg σ)(hk:∀ y aJ,Step al c rg σ aJ→K y aJ→K' y aJ):cY P cfg al c K' rg σ:=by
 rcases AZ ho with(h1|⟨h2,hg,_⟩|⟨h3,hg⟩)|⟨ha,h4,hg⟩
 ·obtain⟨x,hx,hv⟩:=zn h1 h
  exact hv σ (fun _ _ _ _ _ _ h=>h) _ (hk _ _ ⟨fun _=>rfl,fun e=>by omega,fun e=>by omega,fun e=>by omega⟩ hx)
 ·obtain⟨l,hl,hb⟩:=(rm h2 hg).1 h
  exact(rm h2 hg).2 ⟨l,hl,fun b=>hk _ _ ⟨fun e=>by omega,fun _=>⟨b,_,rfl⟩,fun e=>by omega,fun e=>by omega⟩ (hb b)⟩
 ·obtain⟨t,b,l,x,g1,g2,g3,g4⟩:=S4 h3 hg h
  exact g4 σ _ rfl (hk _ _ ⟨fun e=>by omega,fun e=>by omega,fun _=>⟨t,b,x,l,g1,rfl,g2⟩,fun e=>by omega⟩ g3)
 ·have hK:cY P cfg al c (fun y aJ=>K y aJ∧Step al c rg σ aJ) rg σ:=by
   have hc:=h4
   unfold cY cy at h ⊢
   rw[hg]at h ⊢
   simp only[hc]at h ⊢
   refine⟨h.1,?_⟩
   have h:=h.2
   obtain⟨ix,⟨d,op,g⟩,cf⟩:=c
   cases op<;>first|cases ha|skip
   have hS:∀ aJ,(∀ t b l,d.getD 0≠t→aV σ t=some (b,.cells l)→aV aJ t=some (b,.cells l))→∀ o:ax,o.cls=4→Step al ⟨ix,⟨d,o,g⟩,cf⟩ rg σ aJ:=fun aJ hh o ho=>⟨fun e=>by grind,fun e=>by grind,fun e=>by grind,fun _=>hh⟩
   have zX:∀ (b:Nat) (x:aZ),∀ t b' l,d.getD 0≠t→aV σ t=some (b',.cells l)→aV ((d.getD 0,b,x)::σ) t=some (b',.cells l):=fun b x t b' l aE hl=>by
    rw[na,Z7 aE];grind
   simp only[aj]at h ⊢
   split at h
   ·grind
   ·refine⟨h.1,h.2.1,h.2.2.1,h.2.2.2.1,fun b u c hu=>⟨h.2.2.2.2 b u c hu,hS _ (fun t b' l _ hl=> ?_) _ hc⟩⟩
    rw[x6 h.2.1,Z7 (fun e=>by grind)];grind
   ·grind
   grind
  exact LZ ha hg (cE.refl σ) (fun y aP kK h1 _ hy=>by grind) hK
theorem ajh(ho:iC c=true)(hs:cE σ σ')(h:cY P cfg al c K rg σ)(hk:∀ y aP kK,cE aP kK→K y aP→K' y kK):cY P cfg al c K' rg σ':=by
 rcases AZ ho with(h1|⟨h2,hg,_⟩|⟨h3,hg⟩)|⟨ha,h4,hg⟩
 ·obtain⟨x,hx,hv⟩:=zn h1 h
  exact hv σ' (fun _ t _ _ b l hl=>(hs.1 _).symm.trans hl) _ (hk _ _ _ hs hx)
 ·obtain⟨l,hl,hb⟩:=(rm h2 hg).1 h
  exact(rm h2 hg).2 ⟨l,hl,fun b=>hk _ _ _ (hs.cons _) (hb b)⟩
 ·obtain⟨t,b,l,x,g1,g2,g3,g4⟩:=S4 h3 hg h
  exact g4 σ' _ (hs.1 t).symm (hk _ _ _ (hs.du g1 b x) g3)
 ·exact LZ ha hg hs (fun y aP kK h1 _ h2=>hk y aP kK h1.1 h2) h
def rD(K:ag→Store→Prop):Prop:=∀ rg ak σ σ',(∀ i,lk rg i=lk ak i)→cE σ σ'→K rg σ→K ak σ'
theorem SY{K:ag→Store→Prop}(hK:rD K):∀ (l:List CD),(∀ x∈l,iC x=true)→rD (cZ P cfg al l K)
 |[],_=>hK
 |c::l,ho=>fun rg ak σ σ' hr hs h=>by
  refine KT (fun t _=>hr t) (ajh (ho c (by simp)) hs h fun y aP kK gT hk=> ?_)
  exact SY hK l (fun x hx=>ho x (by simp[hx])) _ _ _ _ (x4 hr _ _) gT hk
theorem A7{d:Option Nat}{x:AV}(h:DY d c=true):∀ t∈vM c,lk (bz d x rg) t=lk rg t:=by
 intro t ht
 cases d with
 |none=>rfl
 |some d=>
  simp only[DY,Z8,YF]at h
  have aE:d≠t:=fun e=>by
   rcases Zy.1 ht with ht|ht
   ·grind
   grind
  simp only[bz,Qn,Z7 aE]
theorem Ru{d d':Option Nat}{x y:AV}(h:d.isNone=true∨d≠d')(i:Nat):lk (bz d x (bz d' y rg)) i=lk (bz d' y (bz d x rg)) i:=by
 cases d with
 |none=>rfl
 |some d=>
  cases d' with
  |none=>rfl
  |some d'=>
   simp only[bz,Qn]
   grind
theorem aiJ{a:CD}{Z:ag→Store→Prop}(hz:rD Z)(hc:qj al a c=true)(ha:iC a=true)(ho:iC c=true)
  (h:cY P cfg al a (fun x aP=>cY P cfg al c (fun y aJ=>Z (bz c.c.d y (bz a.c.d x rg)) aJ) (bz a.c.d x rg) aP) rg σ):
  cY P cfg al c (fun y aJ=>cY P cfg al a (fun x aP=>Z (bz a.c.d x (bz c.c.d y rg)) aP) (bz c.c.d y rg) aJ) rg σ:=by
 unfold qj at hc
 simp only[Z8,YO,ZR]at hc
 obtain⟨⟨⟨im,jQ⟩,z6⟩,db⟩:=hc
 rcases AZ ha with(h1|⟨h2,hg,acz⟩|⟨h3,hg⟩)|⟨_,h4,_⟩
 ·obtain⟨x,hx,hD⟩:=zn h1 h
  have sR:=KT (ak:=rg) (A7 im) hx
  refine KU ho sR fun y aJ fb hZ=> ?_
  refine KT (rg:=rg) (fun t ht=>(A7 jQ t ht).symm) (hD aJ (fun h1=> ?_) _ (hz _ _ _ _ (fun i=>(Ru z6 i).symm) (cE.refl _) hZ))
  rw[h1]at db
  intro t ht sC b0 l0 kV
  rcases AZ ho with(k1|⟨k2,_,k3⟩|⟨k3,_⟩)|⟨_,k4,_⟩
  ·rw[fb.1 k1];exact kV
  rotate_left 2
  ·refine fb.2.2.2 k4 t b0 l0 ?_ kV
   rw[k4]at db
   simp only at db
   split at db
   ·rename_i d hd
    rw[hd]
    intro e
    have e:d=t:=e
    subst e
    rw[ht]at db;cases db
   ·cases db
  ·obtain⟨b,v,rfl⟩:=fb.2.1 k2
   rw[k2]at db
   simp only at db
   split at db
   ·rename_i d hd
    rw[hd,na,Z7]
    ·exact kV
    intro e
    have e:d=t:=e
    subst e
    rw[ht]at db;cases db
   ·cases db
  ·obtain⟨t',b,v,l,g1,rfl,g2⟩:=fb.2.2.1 k3
   rw[k3]at db
   simp only at db
   split at db
   ·rename_i s hs
    rw[x6 g1,Z7]
    ·exact kV
    rintro rfl
    obtain⟨g3,g4⟩:=g2 s hs
    simp only[YO]at db
    rcases db with db|db
    ·exact sC s (List.mem_of_elem_eq_true db) g3
    ·have:=g4 db;subst this;rw[ht]at db;cases db
   ·cases db
 ·rw[h2]at db
  have k2:c.c.op.cls=2∧c.c.g=none∧c.c.d.isSome=true:=by
   rcases AZ ho with(k1|k2|⟨k3,_⟩)|⟨_,k4,_⟩
   ·exfalso
    generalize c.c.op.cls=m at k1 db
    match m,k1,db with
    |0,_,h=>cases h
    |1,_,h=>cases h
   ·exact k2
   ·rw[k3]at db;cases db
   ·rw[k4]at db;cases db
  obtain⟨k2,kg,aeu⟩:=k2
  obtain⟨l,hl,hb⟩:=(rm h2 hg).1 h
  have oj:∀ (x:CD) t,t∈tmpsOf x.c.op.opers→t∈vM x:=fun x t ht=>by unfold vM CI.reads;exact Zm _ (Zm _ ht)
  obtain⟨l',fq,_⟩:=(rm k2 kg).1 (hb 0)
  rw[FM (ak:=rg) fun t ht=>A7 im t (oj c t ht)]at fq
  refine(rm k2 kg).2 ⟨l',fq,fun b'=>(rm h2 hg).2 ⟨l,?_,fun b=> ?_⟩⟩
  ·rw[FM (ak:=rg) fun t ht=>A7 jQ t (oj a t ht)];exact hl
  ·obtain⟨l2,sH,dZ⟩:=(rm k2 kg).1 (hb b)
   rw[FM (ak:=rg) fun t ht=>A7 im t (oj c t ht),fq]at sH
   cases sH
   refine hz _ _ _ _ (fun i=>(Ru z6 i).symm) ?_ (dZ b')
   refine cE.swap ?_ σ
   obtain⟨d,hd⟩:=X0.1 acz
   obtain⟨d',hd'⟩:=X0.1 aeu
   rw[hd,hd']at z6 ⊢
   simp only[Option.isNone_some,ZU,false_or,Zp,ne_eq,ZY]at z6 ⊢
   exact fun e=>z6 e.symm
 ·rw[h3]at db
  cases db
 ·rw[h4]at db
  cases db
theorem NB{K:ag→Store→Prop}(hK:rD K)(ho:iC c=true):∀ (A B:List CD) (rg:ag) (σ:Store),(∀ a∈A,qj al a c=true∧iC a=true)→(∀ b∈B,iC b=true)→
  cZ P cfg al (A++c::B) K rg σ→cY P cfg al c (fun y aJ=>cZ P cfg al (A++B) K (bz c.c.d y rg) aJ) rg σ
 |[],B,rg,σ,_,_,h=>h
 |a::A,B,rg,σ,hA,hB,h=>by
  have ha:=hA a (by simp)
  refine aiJ (Z:=cZ P cfg al (A++B) K) (SY hK _ fun x hx=> ?_) ha.1 ha.2 ho (KU ha.2 h fun x aP _ hv=> ?_)
  ·grind
  ·exact NB hK ho A B _ aP (fun x hx=>hA x (by simp[hx])) hB hv
theorem SV{E:List PanicEntry→Store→Prop}(ho:iC c=true)(h:cY P cfg al c K rg σ):cK P cfg c.c K E rg σ:=by
 have eK:cy P cfg al c.cf c.c.d rg σ K c.c.op→aj P cfg c.c.d rg σ K E c.c.op:=by
  intro h
  unfold cy at h
  split at h
  ·obtain⟨x,hx,hv⟩:=KX h;grind
  ·rename_i h1
   obtain⟨x,hx,hv⟩:=Qp h1 h.1 h.2
   grind
  ·rename_i h2
   cases eK:c.c.op<;>rw[eK]at h2 h<;>simp only[ax.cls,reduceCtorEq,Nat.reduceEqDiff]at h2<;>exact h
  ·rename_i h2
   cases eK:c.c.op<;>rw[eK]at h2 h<;>simp only[ax.cls,reduceCtorEq,Nat.reduceEqDiff]at h2
   exact h.2
  ·have ha:=h.1
   rw[Z8]at ha
   exact L4 (hs:=cE.refl σ) ha.1 (fun y aP kK h1 _ hy=>by grind) h.2
  grind
 unfold cY at h
 unfold cK
 grind
end
end Go.Sx
