/-
  The layer Sx, fourteenth part: operations that may stand in any order.
-/
import Derived.Test.YtajimcniogfpcaaGreatDoorSxStep
set_option linter.unusedVariables false
set_option linter.unusedSimpArgs false
set_option linter.unusedSectionVars false
namespace Go.Sx
open Go.RowKit
def si:AV→Option Nat
 | .lp t _ _=>some t
 | .ms t _ _ _ _=>some t
 |_=>none
def pw(rg:af)(t s:Nat):Bool:=match si (lk rg s)with
 |some t'=> !Nat.beq t' t
 |none=>false
def kM(ah cf:List Nat)(rg:af):aw→Bool
 | .load _ _ x=>match ev rg x with
  | .lp t _ _=> !ah.elem t && cf.all (pw rg t)
  |_=>true
 |_=>false
def oy(ah cf:List Nat)(rg:af):aw→Bool
 | .store _ x _=>match ev rg x with
  | .lp t _ _=>match cf with
   |[]=>true
   |[s]=>match si (lk rg s)with
    |some t'=>Nat.beq t' t && (!ah.elem s || Nat.beq s t)
    |none=>false
   |_=>false
  |_=>true
 |_=>false
def bQ(P:Program)[Glob P](cfg:Nat→Nat)(ah cf:List Nat)(d:Option Nat)(rg:af)(σ:Store)(K:AV→Store→Prop)(op:aw):Prop:=
 match op.cls with
 |0=>aJ P cfg d rg σ (fun x=>K x σ) op
 |1=>kM ah cf rg op=true∧al P cfg d rg σ K (fun _ _=>False) op
 |2=>al P cfg d rg σ K (fun _ _=>False) op
 |3=>oy ah cf rg op=true∧al P cfg d rg σ K (fun _ _=>False) op
 |4=>(isApp op && ah.elem (d.getD 0))=true∧al P cfg d rg σ K (fun _ _=>False) op
 |_=>False
def cm(P:Program)[Glob P](cfg:Nat→Nat)(ah:List Nat)(c:CD)(K:AV→Store→Prop)(rg:af)(σ:Store):Prop:=
 match c.c.g with
 |none=>bQ P cfg ah c.cf c.c.d rg σ K c.c.op
 |some (t,want)=>match lk rg t with
  | .v (.bool b)=>(b=want→bQ P cfg ah c.cf c.c.d rg σ K c.c.op)∧(b= !want→K (.v undef) σ)
  | .v (.tuple _)=>K (.v undef) σ
  |_=>False
def bG(P:Program)[Glob P](cfg:Nat→Nat)(ah:List Nat):List CD→(af→Store→Prop)→af→Store→Prop
 |[],K,rg,σ=>K rg σ
 |c::l,K,rg,σ=>cm P cfg ah c (fun x σ'=>bG P cfg ah l K (bj c.c.d x rg) σ') rg σ
section
variable {P:Program}[Glob P]{cfg:Nat→Nat}{ah:List Nat}{c:CD}{rg ak:af}{σ σ':Store}{K K':AV→Store→Prop}
theorem alL{d:Option Nat}{K:AV→Prop}{op:aw}(h:∀ t∈tmpsOf op.opers,lk rg t=lk ak t):aJ P cfg d rg σ K op=aJ P cfg d ak σ K op:=by
 cases op with
 |call f args=>simp only[aJ];rw[kY args h]
 |fR f args=>
  have hf:ev rg f=ev ak f:=uf fun t ht=>h t (by simp only[aw.opers];rw[s7];grind)
  have ha:aE rg args=aE ak args:=kY args fun t ht=>h t (by simp only[aw.opers];rw[s7];grind)
  simp only[aJ];grind
 |dZ t ag parts=>simp only[aJ];rw[kY parts h]
 |len s x=>cases s<;>(simp only[aJ];rw[uf h])
 |box t x=>rfl
 |alloc t z=>rfl
 |store n x y=>rfl
 |append t n k z x y=>rfl
 |exts op ty ti args=>rfl
 |panic x=>rfl
 |cQ op ty ti args=>simp only[aJ];rw[kY args h]
 |_=>simp only[aJ];exact qW h
theorem SI{cf:List Nat}{op:aw}(h:∀ t∈tmpsOf op.opers,lk rg t=lk ak t)(h2:∀ t∈cf,lk rg t=lk ak t):kM ah cf rg op=kM ah cf ak op:=by
 cases op<;>try rfl
 simp only[kM]
 rw[uf h]
 have:∀ t,cf.all (pw rg t)=cf.all (pw ak t):=fun t=>by
  rw[YJ,ZB,ZB]
  exact⟨fun k s hs=>by unfold pw at *;grind,fun k s hs=>by unfold pw at *;grind⟩
 grind
theorem U4{cf:List Nat}{op:aw}(h:∀ t∈tmpsOf op.opers,lk rg t=lk ak t)(h2:∀ t∈cf,lk rg t=lk ak t):oy ah cf rg op=oy ah cf ak op:=by
 cases op<;>try rfl
 rename_i n x y
 have hx:ev rg x=ev ak x:=uf fun t ht=>h t (by simp only[aw.opers];rw[s7];grind)
 simp only[oy]
 rw[hx]
 split
 ·grind
 ·rfl
def vz(c:CD):List Nat:=c.c.reads++c.cf
theorem VK{cf:List Nat}{d:Option Nat}{op:aw}(h:∀ t∈tmpsOf op.opers,lk rg t=lk ak t)(h2:∀ t∈cf,lk rg t=lk ak t):bQ P cfg ah cf d rg σ K op=bQ P cfg ah cf d ak σ K op:=by
 unfold bQ
 split
 ·exact alL h
 ·rw[SI h h2,qW h]
 ·exact qW h
 ·rw[U4 h h2,qW h]
 ·rw[qW h]
 ·rfl
theorem Dt(h:∀ t∈vz c,lk rg t=lk ak t)(hv:cm P cfg ah c K rg σ):cm P cfg ah c K ak σ:=by
 have e:bQ P cfg ah c.cf c.c.d rg σ K c.c.op=bQ P cfg ah c.cf c.c.d ak σ K c.c.op:=
  VK (fun t ht=>h t (by unfold vz CI.reads;grind)) (fun t ht=>h t (by unfold vz;grind))
 unfold cm at *
 cases hg:c.c.g with
 |none=>grind
 |some p=>
  obtain⟨u,want⟩:=p
  have hu:lk rg u=lk ak u:=h u (by unfold vz CI.reads;grind)
  grind
def bB(ah:List Nat)(c:CD)(rg:af)(σ σ':Store):Prop:=∀ t,ah.elem t=false→(∀ s∈c.cf,si (lk rg s)≠some t)→∀ b l,aM σ t=some (b,.cells l)→aM σ' t=some (b,.cells l)
theorem SQ{cf:List Nat}{d:Option Nat}{E:List PanicEntry→Store→Prop}{op:aw}(h1:op.cls=1)(hk:kM ah cf rg op=true)(h:al P cfg d rg σ K E op):
  ∃ x,K x σ∧∀ (σ':Store),(∀ t,ah.elem t=false→(∀ s∈cf,si (lk rg s)≠some t)→∀ b l,aM σ t=some (b,.cells l)→aM σ' t=some (b,.cells l))→∀ (K':AV→Store→Prop) (E':List PanicEntry→Store→Prop),K' x σ'→al P cfg d rg σ' K' E' op:=by
 cases op<;>simp only[aw.cls,reduceCtorEq,Nat.reduceEqDiff]at h1
 simp only[al]at h ⊢
 simp only[kM]at hk
 split at h
 ·rename_i t b o he
  rw[he]at hk
  simp only[Z6,YK]at hk
  have QK:∀ σ':Store,(∀ t,ah.elem t=false→(∀ s∈cf,si (lk rg s)≠some t)→∀ b l,aM σ t=some (b,.cells l)→aM σ' t=some (b,.cells l))→∀ b l,aM σ t=some (b,.cells l)→aM σ' t=some (b,.cells l):=fun σ' hh=>hh t hk.1 fun s hs e=>by
   have:=ZB.1 hk.2 s hs
   unfold pw at this
   simp_all
  grind
 ·grind
 ·grind
 grind
theorem zb(hc:c.c.op.cls≤1)(h:cm P cfg ah c K rg σ):∃ x,K x σ∧∀ σ',(c.c.op.cls=1→bB ah c rg σ σ')→∀ K':AV→Store→Prop,K' x σ'→cm P cfg ah c K' rg σ':=by
 have dL:bQ P cfg ah c.cf c.c.d rg σ K c.c.op→∃ x,K x σ∧∀ σ',(c.c.op.cls=1→bB ah c rg σ σ')→∀ K':AV→Store→Prop,K' x σ'→bQ P cfg ah c.cf c.c.d rg σ' K' c.c.op:=by
  intro h
  unfold bQ at h
  split at h
  ·rename_i h0
   obtain⟨x,hx,hv⟩:=alK h0 h
   exact⟨x,hx,fun σ' _ K' hk=>by unfold bQ;grind⟩
  ·rename_i h1
   obtain⟨x,hx,hv⟩:=SQ h1 h.1 h.2
   exact⟨x,hx,fun σ' hs K' hk=>by unfold bQ;rw[h1];exact⟨h.1,hv σ' (hs h1) _ _ hk⟩⟩
  ·grind
  ·grind
  ·grind
  grind
 unfold cm at h ⊢
 cases hg:c.c.g with
 |none=>grind
 |some p=>
  obtain⟨u,want⟩:=p
  rw[hg]at h
  simp only at h ⊢
  split at h
  ·rename_i b he
   by_cases hb:b=want
   ·grind
   ·have gT:b= !want:=by cases b<;>cases want<;>simp_all
    grind
  ·grind
  grind
def yP(rg:af):aw→Option (List AV)
 | .alloc _ z=>some (z.cells.toList.map .v)
 | .box _ x=>(ev rg x).cells?
 |_=>none
theorem Il{op:aw}(h:∀ t∈tmpsOf op.opers,lk rg t=lk ak t):yP rg op=yP ak op:=by
 cases op<;>try rfl
 simp only[yP]
 rw[uf h]
theorem tf(h2:c.c.op.cls=2)(hg:c.c.g=none):cm P cfg ah c K rg σ↔∃ l,yP rg c.c.op=some l∧∀ b,K (.lp (c.c.d.getD 0) b 0) ((c.c.d.getD 0,b,.cells l)::σ):=by
 unfold cm bQ
 rw[hg]
 simp only[h2]
 cases ho:c.c.op<;>rw[ho]at h2<;>simp only[aw.cls,reduceCtorEq,Nat.reduceEqDiff]at h2
 ·simp only[al,yP]
  grind
 ·simp only[al,yP,Z1,exists_eq_left']
theorem VQ(h3:c.c.op.cls=3)(hg:c.c.g=none)(h:cm P cfg ah c K rg σ):
  ∃ t b l x,aM σ t=some (b,.cells l)∧(∀ s,c.cf=[s]→si (lk rg s)=some t∧(ah.elem s=true→s=t))∧K (.v undef) (dx σ t b x)∧
   ∀ (σ':Store) (K':AV→Store→Prop),aM σ' t=aM σ t→K' (.v undef) (dx σ' t b x)→cm P cfg ah c K' rg σ':=by
 unfold cm bQ at *
 rw[hg]at *
 simp only[h3]at h ⊢
 cases ho:c.c.op<;>rw[ho]at h3<;>simp only[aw.cls,reduceCtorEq,Nat.reduceEqDiff]at h3
 rw[ho]at h
 simp only[al,oy]at h ⊢
 obtain⟨hk,h⟩:=h
 split at h
 ·rename_i t b o l' e1 e2
  rw[e1]at hk
  split at h
  ·rename_i b' l e3
   obtain⟨rfl,g1,g2,g3,g4⟩:=h
   refine⟨t,b,l,_,e3,fun s hs=> ?_,g4,fun σ' K' hl cj=> ?_⟩
   ·rw[hs]at hk
    simp only at hk
    split at hk
    ·rename_i t' e4
     simp only[Z6,YM,YK]at hk
     have:=Z2 hk.1
     subst this
     refine⟨e4,fun ha=> ?_⟩
     simp_all
    grind
   grind
  grind
 grind
theorem RS{op:aw}(h:isApp op=true):op.cls=4:=by cases op<;>first|rfl|cases h
theorem N1{d:Option Nat}{E E':List PanicEntry→Store→Prop}{op:aw}(ha:isApp op=true)(hs:cz σ σ')
  (hk:∀ y aK lD,cz aK lD∧(σ=σ'→aK=lD)→(∀ t b l,d.getD 0≠t→aM σ t=some (b,.cells l)→aM aK t=some (b,.cells l))→K y aK→K' y lD) (h:al P cfg d rg σ K E op):al P cfg d rg σ' K' E' op:=by
 cases op<;>first|cases ha|skip
 have w9:∀ (b:Nat) (x:aR),∀ t b' l,d.getD 0≠t→aM σ t=some (b',.cells l)→aM ((d.getD 0,b,x)::σ) t=some (b',.cells l):=fun b x t b' l aH hl=>by
  rw[ob,Z5 aH];grind
 simp only[al]at h ⊢
 split at h
 ·exact⟨h.1,fun e=>hk _ _ _ ⟨hs,fun e=>e⟩ (fun _ _ _ _ hl=>hl) (h.2.1 e),fun e b u c hu=>hk _ _ _ ⟨hs.cons _,fun e=>by rw[e]⟩ (w9 _ _) (h.2.2 e b u c hu)⟩
 ·refine⟨h.1,(hs.1 _).symm.trans h.2.1,h.2.2.1,h.2.2.2.1,fun b u c hu=>hk _ _ _ ⟨hs.dx h.2.1 _ _,fun e=>by rw[e]⟩ (fun t b' l _ hl=> ?_) (h.2.2.2.2 b u c hu)⟩
  rw[Aa h.2.1,Z5 (fun e=>by grind)];grind
 ·exact⟨h.1,h.2.1,fun e=>hk _ _ _ ⟨hs,fun e=>e⟩ (fun _ _ _ _ hl=>hl) (h.2.2.1 e),fun e b u c=>hk _ _ _ ⟨hs.cons _,fun e=>by rw[e]⟩ (w9 _ _) (h.2.2.2 e b u c)⟩
 grind
theorem N0(ha:isApp c.c.op=true)(hg:c.c.g=none)(hs:cz σ σ')
  (hk:∀ y aK lD,cz aK lD∧(σ=σ'→aK=lD)→(∀ t b l,c.c.d.getD 0≠t→aM σ t=some (b,.cells l)→aM aK t=some (b,.cells l))→K y aK→K' y lD) (h:cm P cfg ah c K rg σ):cm P cfg ah c K' rg σ':=by
 have hc:=RS ha
 unfold cm bQ at *
 rw[hg]at *
 simp only[hc]at h ⊢
 exact⟨h.1,N1 ha hs hk h.2⟩
def Step(ah:List Nat)(c:CD)(rg:af)(σ aC:Store):Prop:=
 (c.c.op.cls≤1→aC=σ)∧(c.c.op.cls=2→∃ b x,aC=(c.c.d.getD 0,b,x)::σ)∧
 (c.c.op.cls=3→∃ t b x l,aM σ t=some (b,.cells l)∧aC=dx σ t b x∧∀ s,c.cf=[s]→si (lk rg s)=some t∧(ah.elem s=true→s=t))∧
 (c.c.op.cls=4→∀ t b l,c.c.d.getD 0≠t→aM σ t=some (b,.cells l)→aM aC t=some (b,.cells l))
theorem CT{x:CD}(h:fL x=true):(x.c.op.cls≤1∨(x.c.op.cls=2∧x.c.g=none∧x.c.d.isSome=true)∨(x.c.op.cls=3∧x.c.g=none))∨(isApp x.c.op=true∧x.c.op.cls=4∧x.c.g=none):=by
 unfold fL at h
 simp at h
 obtain⟨⟨h1,h2⟩,h3⟩:=h
 rcases h1 with h1|h1
 rotate_left
 ·have h4:=RS h1
  grind
 left
 rcases YO x.c.op.cls 2 with h|h
 ·grind
 ·rcases YO x.c.op.cls 3 with h'|h'
  ·have e:x.c.op.cls=2:=by omega
   simp_all
  grind
theorem AJ(ho:fL c=true)(h:cm P cfg ah c K rg σ)(hk:∀ y aC,Step ah c rg σ aC→K y aC→K' y aC):cm P cfg ah c K' rg σ:=by
 rcases CT ho with(h1|⟨h2,hg,_⟩|⟨h3,hg⟩)|⟨ha,h4,hg⟩
 ·obtain⟨x,hx,hv⟩:=zb h1 h
  exact hv σ (fun _ _ _ _ _ _ h=>h) _ (hk _ _ ⟨fun _=>rfl,fun e=>by omega,fun e=>by omega,fun e=>by omega⟩ hx)
 ·obtain⟨l,hl,hb⟩:=(tf h2 hg).1 h
  exact(tf h2 hg).2 ⟨l,hl,fun b=>hk _ _ ⟨fun e=>by omega,fun _=>⟨b,_,rfl⟩,fun e=>by omega,fun e=>by omega⟩ (hb b)⟩
 ·obtain⟨t,b,l,x,g1,g2,g3,g4⟩:=VQ h3 hg h
  exact g4 σ _ rfl (hk _ _ ⟨fun e=>by omega,fun e=>by omega,fun _=>⟨t,b,x,l,g1,rfl,g2⟩,fun e=>by omega⟩ g3)
 ·have hK:cm P cfg ah c (fun y aC=>K y aC∧Step ah c rg σ aC) rg σ:=by
   have hc:=h4
   unfold cm bQ at h ⊢
   rw[hg]at h ⊢
   simp only[hc]at h ⊢
   refine⟨h.1,?_⟩
   have h:=h.2
   obtain⟨ix,⟨d,op,g⟩,cf⟩:=c
   cases op<;>first|cases ha|skip
   have hS:∀ aC,(∀ t b l,d.getD 0≠t→aM σ t=some (b,.cells l)→aM aC t=some (b,.cells l))→∀ o:aw,o.cls=4→Step ah ⟨ix,⟨d,o,g⟩,cf⟩ rg σ aC:=fun aC hh o ho=>⟨fun e=>by grind,fun e=>by grind,fun e=>by grind,fun _=>hh⟩
   have w9:∀ (b:Nat) (x:aR),∀ t b' l,d.getD 0≠t→aM σ t=some (b',.cells l)→aM ((d.getD 0,b,x)::σ) t=some (b',.cells l):=fun b x t b' l aH hl=>by
    rw[ob,Z5 aH];grind
   simp only[al]at h ⊢
   split at h
   ·grind
   ·refine⟨h.1,h.2.1,h.2.2.1,h.2.2.2.1,fun b u c hu=>⟨h.2.2.2.2 b u c hu,hS _ (fun t b' l _ hl=> ?_) _ hc⟩⟩
    rw[Aa h.2.1,Z5 (fun e=>by grind)];grind
   ·grind
   grind
  exact N0 ha hg (cz.refl σ) (fun y aK lD h1 _ hy=>by grind) hK
theorem alD(ho:fL c=true)(hs:cz σ σ')(h:cm P cfg ah c K rg σ)(hk:∀ y aK lD,cz aK lD→K y aK→K' y lD):cm P cfg ah c K' rg σ':=by
 rcases CT ho with(h1|⟨h2,hg,_⟩|⟨h3,hg⟩)|⟨ha,h4,hg⟩
 ·obtain⟨x,hx,hv⟩:=zb h1 h
  exact hv σ' (fun _ t _ _ b l hl=>(hs.1 _).symm.trans hl) _ (hk _ _ _ hs hx)
 ·obtain⟨l,hl,hb⟩:=(tf h2 hg).1 h
  exact(tf h2 hg).2 ⟨l,hl,fun b=>hk _ _ _ (hs.cons _) (hb b)⟩
 ·obtain⟨t,b,l,x,g1,g2,g3,g4⟩:=VQ h3 hg h
  exact g4 σ' _ (hs.1 t).symm (hk _ _ _ (hs.dx g1 b x) g3)
 ·exact N0 ha hg hs (fun y aK lD h1 _ h2=>hk y aK lD h1.1 h2) h
def tC(K:af→Store→Prop):Prop:=∀ rg ak σ σ',(∀ i,lk rg i=lk ak i)→cz σ σ'→K rg σ→K ak σ'
theorem Du{K:af→Store→Prop}(hK:tC K):∀ (l:List CD),(∀ x∈l,fL x=true)→tC (bG P cfg ah l K)
 |[],_=>hK
 |c::l,ho=>fun rg ak σ σ' hr hs h=>by
  refine Dt (fun t _=>hr t) (alD (ho c (by simp)) hs h fun y aK lD ia hk=> ?_)
  exact Du hK l (fun x hx=>ho x (by simp[hx])) _ _ _ _ (sk hr _ _) ia hk
theorem x8{d:Option Nat}{x:AV}(h:FF d c=true):∀ t∈vz c,lk (bj d x rg) t=lk rg t:=by
 intro t ht
 cases d with
 |none=>rfl
 |some d=>
  simp only[FF,Z6,YK]at h
  have aH:d≠t:=fun e=>by
   rcases ZJ.1 ht with ht|ht
   ·grind
   grind
  simp only[bj,SN,Z5 aH]
theorem LZ{d d':Option Nat}{x y:AV}(h:d.isNone=true∨d≠d')(i:Nat):lk (bj d x (bj d' y rg)) i=lk (bj d' y (bj d x rg)) i:=by
 cases d with
 |none=>rfl
 |some d=>
  cases d' with
  |none=>rfl
  |some d'=>
   simp only[bj,SN]
   grind
theorem akL{a:CD}{Z:af→Store→Prop}(hz:tC Z)(hc:jO ah a c=true)(ha:fL a=true)(ho:fL c=true)
  (h:cm P cfg ah a (fun x aK=>cm P cfg ah c (fun y aC=>Z (bj c.c.d y (bj a.c.d x rg)) aC) (bj a.c.d x rg) aK) rg σ):
  cm P cfg ah c (fun y aC=>cm P cfg ah a (fun x aK=>Z (bj a.c.d x (bj c.c.d y rg)) aK) (bj c.c.d y rg) aC) rg σ:=by
 unfold jO at hc
 simp only[Z6,YM,ZN]at hc
 obtain⟨⟨⟨nQ,xi⟩,uE⟩,dz⟩:=hc
 rcases CT ha with(h1|⟨h2,hg,KN⟩|⟨h3,hg⟩)|⟨_,h4,_⟩
 ·obtain⟨x,hx,hD⟩:=zb h1 h
  have qx:=Dt (ak:=rg) (x8 nQ) hx
  refine AJ ho qx fun y aC eU hZ=> ?_
  refine Dt (rg:=rg) (fun t ht=>(x8 xi t ht).symm) (hD aC (fun h1=> ?_) _ (hz _ _ _ _ (fun i=>(LZ uE i).symm) (cz.refl _) hZ))
  rw[h1]at dz
  intro t ht uD b0 l0 mS
  rcases CT ho with(k1|⟨k2,_,k3⟩|⟨k3,_⟩)|⟨_,k4,_⟩
  ·rw[eU.1 k1];exact mS
  rotate_left 2
  ·refine eU.2.2.2 k4 t b0 l0 ?_ mS
   rw[k4]at dz
   simp only at dz
   split at dz
   ·rename_i d hd
    rw[hd]
    intro e
    have e:d=t:=e
    subst e
    rw[ht]at dz;cases dz
   ·cases dz
  ·obtain⟨b,v,rfl⟩:=eU.2.1 k2
   rw[k2]at dz
   simp only at dz
   split at dz
   ·rename_i d hd
    rw[hd,ob,Z5]
    ·exact mS
    intro e
    have e:d=t:=e
    subst e
    rw[ht]at dz;cases dz
   ·cases dz
  ·obtain⟨t',b,v,l,g1,rfl,g2⟩:=eU.2.2.1 k3
   rw[k3]at dz
   simp only at dz
   split at dz
   ·rename_i s hs
    rw[Aa g1,Z5]
    ·exact mS
    rintro rfl
    obtain⟨g3,g4⟩:=g2 s hs
    simp only[YM]at dz
    rcases dz with dz|dz
    ·exact uD s (Xg dz) g3
    ·have:=g4 dz;subst this;rw[ht]at dz;cases dz
   ·cases dz
 ·rw[h2]at dz
  have k2:c.c.op.cls=2∧c.c.g=none∧c.c.d.isSome=true:=by
   rcases CT ho with(k1|k2|⟨k3,_⟩)|⟨_,k4,_⟩
   ·exfalso
    generalize c.c.op.cls=m at k1 dz
    match m,k1,dz with
    |0,_,h=>cases h
    |1,_,h=>cases h
   ·exact k2
   ·rw[k3]at dz;cases dz
   ·rw[k4]at dz;cases dz
  obtain⟨k2,kg,ag9⟩:=k2
  obtain⟨l,hl,hb⟩:=(tf h2 hg).1 h
  have pg:∀ (x:CD) t,t∈tmpsOf x.c.op.opers→t∈vz x:=fun x t ht=>by unfold vz CI.reads;exact ZI _ (ZI _ ht)
  obtain⟨l',fJ,_⟩:=(tf k2 kg).1 (hb 0)
  rw[Il (ak:=rg) fun t ht=>x8 nQ t (pg c t ht)]at fJ
  refine(tf k2 kg).2 ⟨l',fJ,fun b'=>(tf h2 hg).2 ⟨l,?_,fun b=> ?_⟩⟩
  ·rw[Il (ak:=rg) fun t ht=>x8 xi t (pg a t ht)];exact hl
  ·obtain⟨l2,Co,dK⟩:=(tf k2 kg).1 (hb b)
   rw[Il (ak:=rg) fun t ht=>x8 nQ t (pg c t ht),fJ]at Co
   cases Co
   refine hz _ _ _ _ (fun i=>(LZ uE i).symm) ?_ (dK b')
   refine cz.swap ?_ σ
   obtain⟨d,hd⟩:=Yt.1 KN
   obtain⟨d',hd'⟩:=Yt.1 ag9
   rw[hd,hd']at uE ⊢
   simp only[Option.isNone_some,ZV,false_or,Zk,ne_eq,Z1]at uE ⊢
   exact fun e=>uE e.symm
 ·rw[h3]at dz
  cases dz
 ·rw[h4]at dz
  cases dz
theorem Eu{K:af→Store→Prop}(hK:tC K)(ho:fL c=true):∀ (A B:List CD) (rg:af) (σ:Store),(∀ a∈A,jO ah a c=true∧fL a=true)→(∀ b∈B,fL b=true)→
  bG P cfg ah (A++c::B) K rg σ→cm P cfg ah c (fun y aC=>bG P cfg ah (A++B) K (bj c.c.d y rg) aC) rg σ
 |[],B,rg,σ,_,_,h=>h
 |a::A,B,rg,σ,hA,hB,h=>by
  have ha:=hA a (by simp)
  refine akL (Z:=bG P cfg ah (A++B) K) (Du hK _ fun x hx=> ?_) ha.1 ha.2 ho (AJ ha.2 h fun x aK _ hv=> ?_)
  ·grind
  ·exact Eu hK ho A B _ aK (fun x hx=>hA x (by simp[hx])) hB hv
theorem GX{E:List PanicEntry→Store→Prop}(ho:fL c=true)(h:cm P cfg ah c K rg σ):bY P cfg c.c K E rg σ:=by
 have dL:bQ P cfg ah c.cf c.c.d rg σ K c.c.op→al P cfg c.c.d rg σ K E c.c.op:=by
  intro h
  unfold bQ at h
  split at h
  ·obtain⟨x,hx,hv⟩:=M7 h;grind
  ·rename_i h1
   obtain⟨x,hx,hv⟩:=SQ h1 h.1 h.2
   grind
  ·rename_i h2
   cases dL:c.c.op<;>rw[dL]at h2 h<;>simp only[aw.cls,reduceCtorEq,Nat.reduceEqDiff]at h2<;>exact h
  ·rename_i h2
   cases dL:c.c.op<;>rw[dL]at h2 h<;>simp only[aw.cls,reduceCtorEq,Nat.reduceEqDiff]at h2
   exact h.2
  ·have ha:=h.1
   rw[Z6]at ha
   exact N1 (hs:=cz.refl σ) ha.1 (fun y aK lD h1 _ hy=>by grind) h.2
  grind
 unfold cm at h
 unfold bY
 grind
end
end Go.Sx
