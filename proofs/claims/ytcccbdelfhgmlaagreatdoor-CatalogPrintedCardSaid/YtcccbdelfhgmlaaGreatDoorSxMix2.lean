/-
  The layer Sx, fourteenth part: operations that may stand in any order.
-/
import Derived.Test.YtcccbdelfhgmlaaGreatDoorSxStep
set_option linter.unusedVariables false
set_option linter.unusedSimpArgs false
set_option linter.unusedSectionVars false
namespace Go.Sx
open Go.RowKit
def vJ:AV→Option Nat
 | .lp t _ _=>some t
 | .ms t _ _ _ _=>some t
 |_=>none
def yw(rg:ag)(t s:Nat):Bool:=match vJ (lk rg s)with
 |some t'=> !Nat.beq t' t
 |none=>false
def nu(ah cf:List Nat)(rg:ag):aw→Bool
 | .load _ _ x=>match ev rg x with
  | .lp t _ _=> !ah.elem t && cf.all (yw rg t)
  |_=>true
 |_=>false
def uh(ah cf:List Nat)(rg:ag):aw→Bool
 | .store _ x _=>match ev rg x with
  | .lp t _ _=>match cf with
   |[]=>true
   |[s]=>match vJ (lk rg s)with
    |some t'=>Nat.beq t' t && (!ah.elem s || Nat.beq s t)
    |none=>false
   |_=>false
  |_=>true
 |_=>false
def de(P:Program)[Glob P](cfg:Nat→Nat)(ah cf:List Nat)(d:Option Nat)(rg:ag)(σ:Store)(K:AV→Store→Prop)(op:aw):Prop:=
 match op.cls with
 |0=>aG P cfg d rg σ (fun x=>K x σ) op
 |1=>nu ah cf rg op=true∧aj P cfg d rg σ K (fun _ _=>False) op
 |2=>aj P cfg d rg σ K (fun _ _=>False) op
 |3=>uh ah cf rg op=true∧aj P cfg d rg σ K (fun _ _=>False) op
 |4=>(isApp op && ah.elem (d.getD 0))=true∧aj P cfg d rg σ K (fun _ _=>False) op
 |_=>False
def du(P:Program)[Glob P](cfg:Nat→Nat)(ah:List Nat)(c:CD)(K:AV→Store→Prop)(rg:ag)(σ:Store):Prop:=
 match c.c.g with
 |none=>de P cfg ah c.cf c.c.d rg σ K c.c.op
 |some (t,want)=>match lk rg t with
  | .v (.bool b)=>(b=want→de P cfg ah c.cf c.c.d rg σ K c.c.op)∧(b= !want→K (.v undef) σ)
  | .v (.tuple _)=>K (.v undef) σ
  |_=>False
def cZ(P:Program)[Glob P](cfg:Nat→Nat)(ah:List Nat):List CD→(ag→Store→Prop)→ag→Store→Prop
 |[],K,rg,σ=>K rg σ
 |c::l,K,rg,σ=>du P cfg ah c (fun x σ'=>cZ P cfg ah l K (cm c.c.d x rg) σ') rg σ
section
variable {P:Program}[Glob P]{cfg:Nat→Nat}{ah:List Nat}{c:CD}{rg ao:ag}{σ σ':Store}{K K':AV→Store→Prop}
theorem axN{d:Option Nat}{K:AV→Prop}{op:aw}(h:∀ t∈tmpsOf op.opers,lk rg t=lk ao t):aG P cfg d rg σ K op=aG P cfg d ao σ K op:=by
 cases op with
 |call f args=>simp only[aG];rw[j3 args h]
 |dY f args=>
  have hf:ev rg f=ev ao f:=sQ fun t ht=>h t (by simp only[aw.opers];rw[rP];exact ZN _ ht)
  have ha:bo rg args=bo ao args:=j3 args fun t ht=>h t (by simp only[aw.opers];rw[rP];exact Zt _ ht)
  simp only[aG];rw[hf,ha]
 |bM t af parts=>simp only[aG];rw[j3 parts h]
 |len s x=>cases s<;>(simp only[aG];rw[sQ h])
 |box t x=>rfl
 |alloc t z=>rfl
 |store n x y=>rfl
 |append t n k z x y=>rfl
 |exts op ty ti args=>rfl
 |panic x=>rfl
 |cH op ty ti args=>simp only[aG];rw[j3 args h]
 |_=>simp only[aG];exact rV h
theorem Sa{cf:List Nat}{op:aw}(h:∀ t∈tmpsOf op.opers,lk rg t=lk ao t)(h2:∀ t∈cf,lk rg t=lk ao t):nu ah cf rg op=nu ah cf ao op:=by
 cases op<;>try rfl
 rename_i a n x
 simp only[nu]
 rw[sQ h]
 have:∀ t,cf.all (yw rg t)=cf.all (yw ao t):=fun t=>by
  rw[YF,ZA,ZA]
  exact⟨fun k s hs=>by have:=k s hs;unfold yw at *;rwa [← h2 s hs],fun k s hs=>by have:=k s hs;unfold yw at *;rwa [h2 s hs]⟩
 split<;>simp only[this]
theorem UG{cf:List Nat}{op:aw}(h:∀ t∈tmpsOf op.opers,lk rg t=lk ao t)(h2:∀ t∈cf,lk rg t=lk ao t):uh ah cf rg op=uh ah cf ao op:=by
 cases op<;>try rfl
 rename_i n x y
 have hx:ev rg x=ev ao x:=sQ fun t ht=>h t (by simp only[aw.opers];rw[rP];exact ZN _ ht)
 simp only[uh]
 rw[hx]
 split
 ·split
  ·rfl
  ·rename_i s;rw[h2 s (by simp)]
  ·rfl
 ·rfl
def tX(c:CD):List Nat:=c.c.reads++c.cf
theorem Vr{cf:List Nat}{d:Option Nat}{op:aw}(h:∀ t∈tmpsOf op.opers,lk rg t=lk ao t)(h2:∀ t∈cf,lk rg t=lk ao t):de P cfg ah cf d rg σ K op=de P cfg ah cf d ao σ K op:=by
 unfold de
 split
 ·exact axN h
 ·rw[Sa h h2,rV h]
 ·exact rV h
 ·rw[UG h h2,rV h]
 ·rw[rV h]
 ·rfl
theorem FT(h:∀ t∈tX c,lk rg t=lk ao t)(hv:du P cfg ah c K rg σ):du P cfg ah c K ao σ:=by
 have e:de P cfg ah c.cf c.c.d rg σ K c.c.op=de P cfg ah c.cf c.c.d ao σ K c.c.op:=
  Vr (fun t ht=>h t (by unfold tX CI.reads;exact ZN _ (ZN _ ht))) (fun t ht=>h t (by unfold tX;exact Zt _ ht))
 unfold du at *
 cases hg:c.c.g with
 |none=>rw[hg]at hv;simp only at hv ⊢;rw[← e];exact hv
 |some p=>
  obtain⟨u,want⟩:=p
  have hu:lk rg u=lk ao u:=h u (by unfold tX CI.reads;rw[hg];simp)
  rw[hg]at hv
  simp only at hv ⊢
  rw[← hu]
  split<;>rename_i e2<;>simp only[e2]at hv
  ·rw[← e];exact hv
  ·exact hv
def aW(ah:List Nat)(c:CD)(rg:ag)(σ σ':Store):Prop:=∀ t,ah.elem t=false→(∀ s∈c.cf,vJ (lk rg s)≠some t)→∀ b l,aR σ t=some (b,.cells l)→aR σ' t=some (b,.cells l)
theorem Sh{cf:List Nat}{d:Option Nat}{E:List PanicEntry→Store→Prop}{op:aw}(h1:op.cls=1)(hk:nu ah cf rg op=true)(h:aj P cfg d rg σ K E op):
  ∃ x,K x σ∧∀ (σ':Store),(∀ t,ah.elem t=false→(∀ s∈cf,vJ (lk rg s)≠some t)→∀ b l,aR σ t=some (b,.cells l)→aR σ' t=some (b,.cells l))→∀ (K':AV→Store→Prop) (E':List PanicEntry→Store→Prop),K' x σ'→aj P cfg d rg σ' K' E' op:=by
 cases op<;>simp only[aw.cls,reduceCtorEq,Nat.reduceEqDiff]at h1
 rename_i g n x
 simp only[aj]at h ⊢
 simp only[nu]at hk
 split at h
 ·rename_i t b o he
  rw[he]at hk
  simp only[Z0,YW]at hk
  have QG:∀ σ':Store,(∀ t,ah.elem t=false→(∀ s∈cf,vJ (lk rg s)≠some t)→∀ b l,aR σ t=some (b,.cells l)→aR σ' t=some (b,.cells l))→∀ b l,aR σ t=some (b,.cells l)→aR σ' t=some (b,.cells l):=fun σ' hh=>hh t hk.1 fun s hs e=>by
   have:=ZA.1 hk.2 s hs
   unfold yw at this
   rw[e]at this
   simp[YB]at this
  split at h
  ·rename_i b' l hb
   obtain⟨rfl,h⟩:=h
   cases g with
   |true=>
    simp only[Y4]at h ⊢
    exact⟨_,h.2,fun σ' hs K' E' cC=>by rw[QG σ' hs _ _ hb];exact⟨by trivial,h.1,cC⟩⟩
   |false=>
    simp only[ZM,Zf]at h ⊢
    split at h
    ·rename_i y hy
     exact⟨_,h,fun σ' hs K' E' cC=>by rw[QG σ' hs _ _ hb];simp only[hy];exact⟨by trivial,cC⟩⟩
    ·exact h.elim
  ·exact h.elim
 ·rename_i l he
  cases g with
  |true=>simp only[Y4]at h ⊢;exact⟨_,h.2,fun σ' _ K' E' cC=>⟨h.1,cC⟩⟩
  |false=>
   simp only[ZM,Zf]at h ⊢
   split at h
   ·rename_i y hy
    exact⟨_,h,fun σ' _ K' E' cC=>by(try simp only[hy]);exact cC⟩
   ·exact h.elim
 ·rename_i gv he
  split at h
  ·rename_i l hl
   (try simp only[hl])
   cases g with
   |true=>simp only[Y4]at h ⊢;exact⟨_,h.2,fun σ' _ K' E' cC=>⟨h.1,cC⟩⟩
   |false=>
    simp only[ZM,Zf]at h ⊢
    split at h
    ·rename_i y hy
     exact⟨_,h,fun σ' _ K' E' cC=>by(try simp only[hy]);exact cC⟩
    ·exact h.elim
  ·exact h.elim
 ·exact h.elim
theorem xy(hc:c.c.op.cls≤1)(h:du P cfg ah c K rg σ):∃ x,K x σ∧∀ σ',(c.c.op.cls=1→aW ah c rg σ σ')→∀ K':AV→Store→Prop,K' x σ'→du P cfg ah c K' rg σ':=by
 have bP:de P cfg ah c.cf c.c.d rg σ K c.c.op→∃ x,K x σ∧∀ σ',(c.c.op.cls=1→aW ah c rg σ σ')→∀ K':AV→Store→Prop,K' x σ'→de P cfg ah c.cf c.c.d rg σ' K' c.c.op:=by
  intro h
  unfold de at h
  split at h
  ·rename_i h0
   obtain⟨x,hx,hv⟩:=axM h0 h
   exact⟨x,hx,fun σ' _ K' hk=>by unfold de;rw[h0];exact hv σ' _ hk⟩
  ·rename_i h1
   obtain⟨x,hx,hv⟩:=Sh h1 h.1 h.2
   exact⟨x,hx,fun σ' hs K' hk=>by unfold de;rw[h1];exact⟨h.1,hv σ' (hs h1) _ _ hk⟩⟩
  ·rename_i h2;rw[h2]at hc;omega
  ·rename_i h2;rw[h2]at hc;omega
  ·rename_i h2;rw[h2]at hc;omega
  ·exact h.elim
 unfold du at h ⊢
 cases hg:c.c.g with
 |none=>rw[hg]at h;exact bP h
 |some p=>
  obtain⟨u,want⟩:=p
  rw[hg]at h
  simp only at h ⊢
  split at h
  ·rename_i b he
   by_cases hb:b=want
   ·obtain⟨x,hx,hv⟩:=bP (h.1 hb)
    exact⟨x,hx,fun σ' hs K' hk=>⟨fun _=>hv σ' hs K' hk,fun h'=>by subst hb;cases b<;>simp at h'⟩⟩
   ·have iG:b= !want:=by cases b<;>cases want<;>simp_all
    exact⟨_,h.2 iG,fun σ' hs K' hk=>⟨fun h'=>absurd h' hb,fun _=>hk⟩⟩
  ·exact⟨_,h,fun σ' hs K' hk=>hk⟩
  ·exact h.elim
def xi(rg:ag):aw→Option (List AV)
 | .alloc _ z=>some (z.cells.toList.map .v)
 | .box _ x=>(ev rg x).cells?
 |_=>none
theorem GI{op:aw}(h:∀ t∈tmpsOf op.opers,lk rg t=lk ao t):xi rg op=xi ao op:=by
 cases op<;>try rfl
 simp only[xi]
 rw[sQ h]
theorem rU(h2:c.c.op.cls=2)(hg:c.c.g=none):du P cfg ah c K rg σ↔∃ l,xi rg c.c.op=some l∧∀ b,K (.lp (c.c.d.getD 0) b 0) ((c.c.d.getD 0,b,.cells l)::σ):=by
 unfold du de
 rw[hg]
 simp only[h2]
 cases ho:c.c.op<;>rw[ho]at h2<;>simp only[aw.cls,reduceCtorEq,Nat.reduceEqDiff]at h2
 ·rename_i t x
  simp only[aj,xi]
  cases(ev rg x).cells? with
  |none=>simp
  |some l=>simp
 ·simp only[aj,xi,Z1,exists_eq_left']
theorem Vv(h3:c.c.op.cls=3)(hg:c.c.g=none)(h:du P cfg ah c K rg σ):
  ∃ t b l x,aR σ t=some (b,.cells l)∧(∀ s,c.cf=[s]→vJ (lk rg s)=some t∧(ah.elem s=true→s=t))∧K (.v undef) (cM σ t b x)∧
   ∀ (σ':Store) (K':AV→Store→Prop),aR σ' t=aR σ t→K' (.v undef) (cM σ' t b x)→du P cfg ah c K' rg σ':=by
 unfold du de at *
 rw[hg]at *
 simp only[h3]at h ⊢
 cases ho:c.c.op<;>rw[ho]at h3<;>simp only[aw.cls,reduceCtorEq,Nat.reduceEqDiff]at h3
 rename_i n x y
 rw[ho]at h
 simp only[aj,uh]at h ⊢
 obtain⟨hk,h⟩:=h
 split at h
 ·rename_i t b o l' e1 e2
  rw[e1]at hk
  simp only at hk
  split at h
  ·rename_i b' l e3
   obtain⟨rfl,g1,g2,g3,g4⟩:=h
   refine⟨t,b,l,_,e3,fun s hs=> ?_,g4,fun σ' K' hl cC=> ?_⟩
   ·rw[hs]at hk
    simp only at hk
    split at hk
    ·rename_i t' e4
     simp only[Z0,Y7,YW]at hk
     have:=ZB hk.1
     subst this
     refine⟨e4,fun ha=> ?_⟩
     rcases hk.2 with h|h
     ·rw[ha]at h;cases h
     ·exact ZB h
    ·cases hk
   ·rw[e1]
    simp only[hk,hl,e2,e3,true_and]
    exact⟨g1,g2,g3,cC⟩
  ·exact h.elim
 ·exact h.elim
theorem RU{op:aw}(h:isApp op=true):op.cls=4:=by cases op<;>first|rfl|cases h
theorem Nn{d:Option Nat}{E E':List PanicEntry→Store→Prop}{op:aw}(ha:isApp op=true)(hs:dI σ σ')
  (hk:∀ y bI kA,dI bI kA∧(σ=σ'→bI=kA)→(∀ t b l,d.getD 0≠t→aR σ t=some (b,.cells l)→aR bI t=some (b,.cells l))→K y bI→K' y kA) (h:aj P cfg d rg σ K E op):aj P cfg d rg σ' K' E' op:=by
 cases op<;>first|cases ha|skip
 have vm:∀ (b:Nat) (x:cG),∀ t b' l,d.getD 0≠t→aR σ t=some (b',.cells l)→aR ((d.getD 0,b,x)::σ) t=some (b',.cells l):=fun b x t b' l aJ hl=>by
  rw[rE,Z9 aJ];exact hl
 simp only[aj]at h ⊢
 split at h
 ·exact⟨h.1,fun e=>hk _ _ _ ⟨hs,fun e=>e⟩ (fun _ _ _ _ hl=>hl) (h.2.1 e),fun e b u c hu=>hk _ _ _ ⟨hs.cons _,fun e=>by rw[e]⟩ (vm _ _) (h.2.2 e b u c hu)⟩
 ·refine⟨h.1,(hs.1 _).symm.trans h.2.1,h.2.2.1,h.2.2.2.1,fun b u c hu=>hk _ _ _ ⟨hs.cM h.2.1 _ _,fun e=>by rw[e]⟩ (fun t b' l _ hl=> ?_) (h.2.2.2.2 b u c hu)⟩
  rw[vP h.2.1,Z9 (fun e=>by subst e;rw[h.2.1]at hl;cases hl)];exact hl
 ·exact⟨h.1,h.2.1,fun e=>hk _ _ _ ⟨hs,fun e=>e⟩ (fun _ _ _ _ hl=>hl) (h.2.2.1 e),fun e b u c=>hk _ _ _ ⟨hs.cons _,fun e=>by rw[e]⟩ (vm _ _) (h.2.2.2 e b u c)⟩
 ·exact h.elim
theorem Nl(ha:isApp c.c.op=true)(hg:c.c.g=none)(hs:dI σ σ')
  (hk:∀ y bI kA,dI bI kA∧(σ=σ'→bI=kA)→(∀ t b l,c.c.d.getD 0≠t→aR σ t=some (b,.cells l)→aR bI t=some (b,.cells l))→K y bI→K' y kA) (h:du P cfg ah c K rg σ):du P cfg ah c K' rg σ':=by
 have hc:=RU ha
 unfold du de at *
 rw[hg]at *
 simp only[hc]at h ⊢
 exact⟨h.1,Nn ha hs hk h.2⟩
def Step(ah:List Nat)(c:CD)(rg:ag)(σ az:Store):Prop:=
 (c.c.op.cls≤1→az=σ)∧(c.c.op.cls=2→∃ b x,az=(c.c.d.getD 0,b,x)::σ)∧
 (c.c.op.cls=3→∃ t b x l,aR σ t=some (b,.cells l)∧az=cM σ t b x∧∀ s,c.cf=[s]→vJ (lk rg s)=some t∧(ah.elem s=true→s=t))∧
 (c.c.op.cls=4→∀ t b l,c.c.d.getD 0≠t→aR σ t=some (b,.cells l)→aR az t=some (b,.cells l))
theorem B8{x:CD}(h:gI x=true):(x.c.op.cls≤1∨(x.c.op.cls=2∧x.c.g=none∧x.c.d.isSome=true)∨(x.c.op.cls=3∧x.c.g=none))∨(isApp x.c.op=true∧x.c.op.cls=4∧x.c.g=none):=by
 unfold gI at h
 simp only[Z0,Y7,Nat.ble_eq,YW,Option.isNone_iff_eq_none]at h
 obtain⟨⟨h1,h2⟩,h3⟩:=h
 rcases h1 with h1|h1
 rotate_left
 ·have h4:=RU h1
  refine .inr ⟨h1,h4,?_⟩
  rcases h2 with h2|h2
  ·omega
  ·exact h2
 left
 rcases X6 x.c.op.cls 2 with h|h
 ·exact .inl (by omega)
 ·right
  have hg:x.c.g=none:=by
   rcases h2 with h2|h2
   ·omega
   ·exact h2
  rcases X6 x.c.op.cls 3 with h'|h'
  ·have e:x.c.op.cls=2:=by omega
   left
   refine⟨e,hg,?_⟩
   rcases h3 with h3|h3
   ·rw[e]at h3;simp at h3
   ·exact h3
  ·exact .inr ⟨by omega,hg⟩
theorem CL(ho:gI c=true)(h:du P cfg ah c K rg σ)(hk:∀ y az,Step ah c rg σ az→K y az→K' y az):du P cfg ah c K' rg σ:=by
 rcases B8 ho with(h1|⟨h2,hg,_⟩|⟨h3,hg⟩)|⟨ha,h4,hg⟩
 ·obtain⟨x,hx,hv⟩:=xy h1 h
  exact hv σ (fun _ _ _ _ _ _ h=>h) _ (hk _ _ ⟨fun _=>rfl,fun e=>by omega,fun e=>by omega,fun e=>by omega⟩ hx)
 ·obtain⟨l,hl,hb⟩:=(rU h2 hg).1 h
  exact(rU h2 hg).2 ⟨l,hl,fun b=>hk _ _ ⟨fun e=>by omega,fun _=>⟨b,_,rfl⟩,fun e=>by omega,fun e=>by omega⟩ (hb b)⟩
 ·obtain⟨t,b,l,x,g1,g2,g3,g4⟩:=Vv h3 hg h
  exact g4 σ _ rfl (hk _ _ ⟨fun e=>by omega,fun e=>by omega,fun _=>⟨t,b,x,l,g1,rfl,g2⟩,fun e=>by omega⟩ g3)
 ·have hK:du P cfg ah c (fun y az=>K y az∧Step ah c rg σ az) rg σ:=by
   have hc:=h4
   unfold du de at h ⊢
   rw[hg]at h ⊢
   simp only[hc]at h ⊢
   refine⟨h.1,?_⟩
   have h:=h.2
   obtain⟨ix,⟨d,op,g⟩,cf⟩:=c
   simp only at *
   cases op<;>first|cases ha|skip
   have hS:∀ az,(∀ t b l,d.getD 0≠t→aR σ t=some (b,.cells l)→aR az t=some (b,.cells l))→∀ o:aw,o.cls=4→Step ah ⟨ix,⟨d,o,g⟩,cf⟩ rg σ az:=fun az hh o ho=>⟨fun e=>by simp only at e;omega,fun e=>by simp only at e;omega,fun e=>by simp only at e;omega,fun _=>hh⟩
   have vm:∀ (b:Nat) (x:cG),∀ t b' l,d.getD 0≠t→aR σ t=some (b',.cells l)→aR ((d.getD 0,b,x)::σ) t=some (b',.cells l):=fun b x t b' l aJ hl=>by
    rw[rE,Z9 aJ];exact hl
   simp only[aj]at h ⊢
   split at h
   ·exact⟨h.1,fun e=>⟨h.2.1 e,hS _ (fun _ _ _ _ hl=>hl) _ hc⟩,fun e b u c hu=>⟨h.2.2 e b u c hu,hS _ (vm _ _) _ hc⟩⟩
   ·refine⟨h.1,h.2.1,h.2.2.1,h.2.2.2.1,fun b u c hu=>⟨h.2.2.2.2 b u c hu,hS _ (fun t b' l _ hl=> ?_) _ hc⟩⟩
    rw[vP h.2.1,Z9 (fun e=>by subst e;rw[h.2.1]at hl;cases hl)];exact hl
   ·exact⟨h.1,h.2.1,fun e=>⟨h.2.2.1 e,hS _ (fun _ _ _ _ hl=>hl) _ hc⟩,fun e b u c=>⟨h.2.2.2 e b u c,hS _ (vm _ _) _ hc⟩⟩
   ·exact h.elim
  exact Nl ha hg (dI.refl σ) (fun y bI kA h1 _ hy=>by obtain rfl:=h1.2 rfl;exact hk y bI hy.2 hy.1) hK
theorem axI(ho:gI c=true)(hs:dI σ σ')(h:du P cfg ah c K rg σ)(hk:∀ y bI kA,dI bI kA→K y bI→K' y kA):du P cfg ah c K' rg σ':=by
 rcases B8 ho with(h1|⟨h2,hg,_⟩|⟨h3,hg⟩)|⟨ha,h4,hg⟩
 ·obtain⟨x,hx,hv⟩:=xy h1 h
  exact hv σ' (fun _ t _ _ b l hl=>(hs.1 _).symm.trans hl) _ (hk _ _ _ hs hx)
 ·obtain⟨l,hl,hb⟩:=(rU h2 hg).1 h
  exact(rU h2 hg).2 ⟨l,hl,fun b=>hk _ _ _ (hs.cons _) (hb b)⟩
 ·obtain⟨t,b,l,x,g1,g2,g3,g4⟩:=Vv h3 hg h
  exact g4 σ' _ (hs.1 t).symm (hk _ _ _ (hs.cM g1 b x) g3)
 ·exact Nl ha hg hs (fun y bI kA h1 _ h2=>hk y bI kA h1.1 h2) h
def sj(K:ag→Store→Prop):Prop:=∀ rg ao σ σ',(∀ i,lk rg i=lk ao i)→dI σ σ'→K rg σ→K ao σ'
theorem FU{K:ag→Store→Prop}(hK:sj K):∀ (l:List CD),(∀ x∈l,gI x=true)→sj (cZ P cfg ah l K)
 |[],_=>hK
 |c::l,ho=>fun rg ao σ σ' hr hs h=>by
  simp only[cZ]at h ⊢
  refine FT (fun t _=>hr t) (axI (ho c (by simp)) hs h fun y bI kA iI hk=> ?_)
  exact FU hK l (fun x hx=>ho x (by simp[hx])) _ _ _ _ (yA hr _ _) iI hk
theorem vW{d:Option Nat}{x:AV}(h:ER d c=true):∀ t∈tX c,lk (cm d x rg) t=lk rg t:=by
 intro t ht
 cases d with
 |none=>rfl
 |some d=>
  simp only[ER,Z0,YW]at h
  have aJ:d≠t:=fun e=>by
   subst e
   rcases ZG.1 ht with ht|ht
   ·have:=List.elem_eq_true_of_mem ht;rw[h.1]at this;cases this
   ·have:=List.elem_eq_true_of_mem ht;rw[h.2]at this;cases this
  simp only[cm,Sf,Z9 aJ]
theorem KA{d d':Option Nat}{x y:AV}(h:d.isNone=true∨d≠d')(i:Nat):lk (cm d x (cm d' y rg)) i=lk (cm d' y (cm d x rg)) i:=by
 cases d with
 |none=>rfl
 |some d=>
  cases d' with
  |none=>rfl
  |some d'=>
   have aJ:d≠d':=by rcases h with h|h<;>simp_all
   simp only[cm,Sf]
   by_cases h1:d=i<;>by_cases h2:d'=i<;>simp_all
theorem awP{a:CD}{Z:ag→Store→Prop}(hz:sj Z)(hc:j2 ah a c=true)(ha:gI a=true)(ho:gI c=true)
  (h:du P cfg ah a (fun x bI=>du P cfg ah c (fun y az=>Z (cm c.c.d y (cm a.c.d x rg)) az) (cm a.c.d x rg) bI) rg σ):
  du P cfg ah c (fun y az=>du P cfg ah a (fun x bI=>Z (cm a.c.d x (cm c.c.d y rg)) bI) (cm c.c.d y rg) az) rg σ:=by
 unfold j2 at hc
 simp only[Z0,Y7,Zq]at hc
 obtain⟨⟨⟨oq,ia⟩,jM⟩,dw⟩:=hc
 rcases B8 ha with(h1|⟨h2,hg,aff⟩|⟨h3,hg⟩)|⟨_,h4,_⟩
 ·obtain⟨x,hx,hD⟩:=xy h1 h
  have mj:=FT (ao:=rg) (vW oq) hx
  refine CL ho mj fun y az er hZ=> ?_
  refine FT (rg:=rg) (fun t ht=>(vW ia t ht).symm) (hD az (fun h1=> ?_) _ (hz _ _ _ _ (fun i=>(KA jM i).symm) (dI.refl _) hZ))
  rw[h1]at dw
  intro t ht xV b0 l0 kS
  rcases B8 ho with(k1|⟨k2,_,k3⟩|⟨k3,_⟩)|⟨_,k4,_⟩
  ·rw[er.1 k1];exact kS
  rotate_left 2
  ·refine er.2.2.2 k4 t b0 l0 ?_ kS
   rw[k4]at dw
   simp only at dw
   split at dw
   ·rename_i d hd
    rw[hd]
    intro e
    have e:d=t:=e
    subst e
    rw[ht]at dw;cases dw
   ·cases dw
  ·obtain⟨b,v,rfl⟩:=er.2.1 k2
   rw[k2]at dw
   simp only at dw
   split at dw
   ·rename_i d hd
    rw[hd,rE,Z9]
    ·exact kS
    intro e
    have e:d=t:=e
    subst e
    rw[ht]at dw;cases dw
   ·cases dw
  ·obtain⟨t',b,v,l,g1,rfl,g2⟩:=er.2.2.1 k3
   rw[k3]at dw
   simp only at dw
   split at dw
   ·rename_i s hs
    rw[vP g1,Z9]
    ·exact kS
    rintro rfl
    obtain⟨g3,g4⟩:=g2 s hs
    simp only[Y7]at dw
    rcases dw with dw|dw
    ·exact xV s (List.mem_of_elem_eq_true dw) g3
    ·have:=g4 dw;subst this;rw[ht]at dw;cases dw
   ·cases dw
 ·rw[h2]at dw
  have k2:c.c.op.cls=2∧c.c.g=none∧c.c.d.isSome=true:=by
   rcases B8 ho with(k1|k2|⟨k3,_⟩)|⟨_,k4,_⟩
   ·exfalso
    generalize c.c.op.cls=m at k1 dw
    match m,k1,dw with
    |0,_,h=>cases h
    |1,_,h=>cases h
   ·exact k2
   ·rw[k3]at dw;cases dw
   ·rw[k4]at dw;cases dw
  obtain⟨k2,kg,afX⟩:=k2
  obtain⟨l,hl,hb⟩:=(rU h2 hg).1 h
  have ox:∀ (x:CD) t,t∈tmpsOf x.c.op.opers→t∈tX x:=fun x t ht=>by unfold tX CI.reads;exact ZN _ (ZN _ ht)
  obtain⟨l',gg,_⟩:=(rU k2 kg).1 (hb 0)
  rw[GI (ao:=rg) fun t ht=>vW oq t (ox c t ht)]at gg
  refine(rU k2 kg).2 ⟨l',gg,fun b'=>(rU h2 hg).2 ⟨l,?_,fun b=> ?_⟩⟩
  ·rw[GI (ao:=rg) fun t ht=>vW ia t (ox a t ht)];exact hl
  ·obtain⟨l2,oi,cW⟩:=(rU k2 kg).1 (hb b)
   rw[GI (ao:=rg) fun t ht=>vW oq t (ox c t ht),gg]at oi
   cases oi
   refine hz _ _ _ _ (fun i=>(KA jM i).symm) ?_ (cW b')
   refine dI.swap ?_ σ
   obtain⟨d,hd⟩:=Ye.1 aff
   obtain⟨d',hd'⟩:=Ye.1 afX
   rw[hd,hd']at jM ⊢
   simp only[Option.isNone_some,ZM,false_or,Zx,ne_eq,Z1]at jM ⊢
   exact fun e=>jM e.symm
 ·rw[h3]at dw
  cases dw
 ·rw[h4]at dw
  cases dw
theorem DJ{K:ag→Store→Prop}(hK:sj K)(ho:gI c=true):∀ (A B:List CD) (rg:ag) (σ:Store),(∀ a∈A,j2 ah a c=true∧gI a=true)→(∀ b∈B,gI b=true)→
  cZ P cfg ah (A++c::B) K rg σ→du P cfg ah c (fun y az=>cZ P cfg ah (A++B) K (cm c.c.d y rg) az) rg σ
 |[],B,rg,σ,_,_,h=>h
 |a::A,B,rg,σ,hA,hB,h=>by
  simp only[ZC,cZ]at h ⊢
  have ha:=hA a (by simp)
  refine awP (Z:=cZ P cfg ah (A++B) K) (FU hK _ fun x hx=> ?_) ha.1 ha.2 ho (CL ha.2 h fun x bI _ hv=> ?_)
  ·rcases ZG.1 hx with hx|hx
   ·exact(hA x (by simp[hx])).2
   ·exact hB x hx
  ·exact DJ hK ho A B _ bI (fun x hx=>hA x (by simp[hx])) hB hv
theorem FR{E:List PanicEntry→Store→Prop}(ho:gI c=true)(h:du P cfg ah c K rg σ):dO P cfg c.c K E rg σ:=by
 have bP:de P cfg ah c.cf c.c.d rg σ K c.c.op→aj P cfg c.c.d rg σ K E c.c.op:=by
  intro h
  unfold de at h
  split at h
  ·obtain⟨x,hx,hv⟩:=Ls h;exact hv _ _ hx
  ·rename_i h1
   obtain⟨x,hx,hv⟩:=Sh h1 h.1 h.2
   exact hv σ (fun _ _ _ _ _ h=>h) _ _ hx
  ·rename_i h2
   cases bP:c.c.op<;>rw[bP]at h2 h<;>simp only[aw.cls,reduceCtorEq,Nat.reduceEqDiff]at h2<;>exact h
  ·rename_i h2
   cases bP:c.c.op<;>rw[bP]at h2 h<;>simp only[aw.cls,reduceCtorEq,Nat.reduceEqDiff]at h2
   exact h.2
  ·have ha:=h.1
   rw[Z0]at ha
   exact Nn (hs:=dI.refl σ) ha.1 (fun y bI kA h1 _ hy=>by obtain rfl:=h1.2 rfl;exact hy) h.2
  ·exact h.elim
 unfold du at h
 unfold dO
 cases hg:c.c.g with
 |none=>rw[hg]at h;exact bP h
 |some p=>
  obtain⟨u,want⟩:=p
  rw[hg]at h
  simp only at h ⊢
  split at h
  ·rename_i b he;simp only[he];exact⟨fun hb=>bP (h.1 hb),h.2⟩
  ·rename_i he;simp only[he];exact h
  ·exact h.elim
end
end Go.Sx
