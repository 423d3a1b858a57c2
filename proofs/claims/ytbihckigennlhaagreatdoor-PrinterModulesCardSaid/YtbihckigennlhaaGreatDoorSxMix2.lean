/-
  The layer Sx, fourteenth part: operations that may stand in any order.
-/
import Derived.Test.YtbihckigennlhaaGreatDoorSxStep
set_option linter.unusedVariables false
set_option linter.unusedSimpArgs false
set_option linter.unusedSectionVars false
namespace Go.Sx
open Go.RowKit
def tu:AV→Option Nat
 | .lp t _ _=>some t
 | .ms t _ _ _ _=>some t
 |_=>none
def vG(rg:ae)(t s:Nat):Bool:=match tu (lk rg s)with
 |some t'=> !Nat.beq t' t
 |none=>false
def lN(ah cf:List Nat)(rg:ae):aw→Bool
 | .load _ _ x=>match ev rg x with
  | .lp t _ _=> !ah.elem t && cf.all (vG rg t)
  |_=>true
 |_=>false
def rD(ah cf:List Nat)(rg:ae):aw→Bool
 | .store _ x _=>match ev rg x with
  | .lp t _ _=>match cf with
   |[]=>true
   |[s]=>match tu (lk rg s)with
    |some t'=>Nat.beq t' t && (!ah.elem s || Nat.beq s t)
    |none=>false
   |_=>false
  |_=>true
 |_=>false
def cO(P:Program)[Glob P](cfg:Nat→Nat)(ah cf:List Nat)(d:Option Nat)(rg:ae)(σ:Store)(K:AV→Store→Prop)(op:aw):Prop:=
 match op.cls with
 |0=>aG P cfg d rg σ (fun x=>K x σ) op
 |1=>lN ah cf rg op=true∧aj P cfg d rg σ K (fun _ _=>False) op
 |2=>aj P cfg d rg σ K (fun _ _=>False) op
 |3=>rD ah cf rg op=true∧aj P cfg d rg σ K (fun _ _=>False) op
 |4=>(isApp op && ah.elem (d.getD 0))=true∧aj P cfg d rg σ K (fun _ _=>False) op
 |_=>False
def hU(P:Program)[Glob P](cfg:Nat→Nat)(ah:List Nat)(c:CD)(K:AV→Store→Prop)(rg:ae)(σ:Store):Prop:=
 match c.c.g with
 |none=>cO P cfg ah c.cf c.c.d rg σ K c.c.op
 |some (t,want)=>match lk rg t with
  | .v (.bool b)=>(b=want→cO P cfg ah c.cf c.c.d rg σ K c.c.op)∧(b= !want→K (.v undef) σ)
  | .v (.tuple _)=>K (.v undef) σ
  |_=>False
def cD(P:Program)[Glob P](cfg:Nat→Nat)(ah:List Nat):List CD→(ae→Store→Prop)→ae→Store→Prop
 |[],K,rg,σ=>K rg σ
 |c::l,K,rg,σ=>hU P cfg ah c (fun x σ'=>cD P cfg ah l K (bM c.c.d x rg) σ') rg σ
section
variable {P:Program}[Glob P]{cfg:Nat→Nat}{ah:List Nat}{c:CD}{rg rg':ae}{σ σ':Store}{K K':AV→Store→Prop}
theorem ay9{d:Option Nat}{K:AV→Prop}{op:aw}(h:∀ t∈tmpsOf op.opers,lk rg t=lk rg' t):aG P cfg d rg σ K op=aG P cfg d rg' σ K op:=by
 cases op with
 |call f args=>simp only[aG];rw[jz args h]
 |dA f args=>
  have hf:ev rg f=ev rg' f:=qs fun t ht=>h t (by simp only[aw.opers];rw[pS];exact Zy _ ht)
  have ha:aU rg args=aU rg' args:=jz args fun t ht=>h t (by simp only[aw.opers];rw[pS];exact Zj _ ht)
  simp only[aG];rw[hf,ha]
 |aZ t ag parts=>simp only[aG];rw[jz parts h]
 |len s x=>cases s<;>(simp only[aG];rw[qs h])
 |box t x=>rfl
 |alloc t z=>rfl
 |store n x y=>rfl
 |append t n k z x y=>rfl
 |exts op ty ti args=>rfl
 |panic x=>rfl
 |cp op ty ti args=>simp only[aG];rw[jz args h]
 |_=>simp only[aG];exact pV h
theorem MD{cf:List Nat}{op:aw}(h:∀ t∈tmpsOf op.opers,lk rg t=lk rg' t)(h2:∀ t∈cf,lk rg t=lk rg' t):lN ah cf rg op=lN ah cf rg' op:=by
 cases op<;>try rfl
 rename_i a n x
 simp only[lN]
 rw[qs h]
 have:∀ t,cf.all (vG rg t)=cf.all (vG rg' t):=fun t=>by
  rw[YD,ZF,ZF]
  exact⟨fun k s hs=>by have:=k s hs;unfold vG at *;rwa [← h2 s hs],fun k s hs=>by have:=k s hs;unfold vG at *;rwa [h2 s hs]⟩
 split<;>simp only[this]
theorem OY{cf:List Nat}{op:aw}(h:∀ t∈tmpsOf op.opers,lk rg t=lk rg' t)(h2:∀ t∈cf,lk rg t=lk rg' t):rD ah cf rg op=rD ah cf rg' op:=by
 cases op<;>try rfl
 rename_i n x y
 have hx:ev rg x=ev rg' x:=qs fun t ht=>h t (by simp only[aw.opers];rw[pS];exact Zy _ ht)
 simp only[rD]
 rw[hx]
 split
 ·split
  ·rfl
  ·rename_i s;rw[h2 s (by simp)]
  ·rfl
 ·rfl
def rm(c:CD):List Nat:=c.c.reads++c.cf
theorem PJ{cf:List Nat}{d:Option Nat}{op:aw}(h:∀ t∈tmpsOf op.opers,lk rg t=lk rg' t)(h2:∀ t∈cf,lk rg t=lk rg' t):cO P cfg ah cf d rg σ K op=cO P cfg ah cf d rg' σ K op:=by
 unfold cO
 split
 ·exact ay9 h
 ·rw[MD h h2,pV h]
 ·exact pV h
 ·rw[OY h h2,pV h]
 ·rw[pV h]
 ·rfl
theorem Cw(h:∀ t∈rm c,lk rg t=lk rg' t)(hv:hU P cfg ah c K rg σ):hU P cfg ah c K rg' σ:=by
 have e:cO P cfg ah c.cf c.c.d rg σ K c.c.op=cO P cfg ah c.cf c.c.d rg' σ K c.c.op:=
  PJ (fun t ht=>h t (by unfold rm CI.reads;exact Zy _ (Zy _ ht))) (fun t ht=>h t (by unfold rm;exact Zj _ ht))
 unfold hU at *
 cases hg:c.c.g with
 |none=>rw[hg]at hv;simp only at hv ⊢;rw[← e];exact hv
 |some p=>
  obtain⟨u,want⟩:=p
  have hu:lk rg u=lk rg' u:=h u (by unfold rm CI.reads;rw[hg];simp)
  rw[hg]at hv
  simp only at hv ⊢
  rw[← hu]
  split<;>rename_i e2<;>simp only[e2]at hv
  ·rw[← e];exact hv
  ·exact hv
def HI(ah:List Nat)(c:CD)(rg:ae)(σ σ':Store):Prop:=∀ t,ah.elem t=false→(∀ s∈c.cf,tu (lk rg s)≠some t)→∀ b l,aN σ t=some (b,.cells l)→aN σ' t=some (b,.cells l)
theorem MR{cf:List Nat}{d:Option Nat}{E:List PanicEntry→Store→Prop}{op:aw}(h1:op.cls=1)(hk:lN ah cf rg op=true)(h:aj P cfg d rg σ K E op):
  ∃ x,K x σ∧∀ (σ':Store),(∀ t,ah.elem t=false→(∀ s∈cf,tu (lk rg s)≠some t)→∀ b l,aN σ t=some (b,.cells l)→aN σ' t=some (b,.cells l))→∀ (K':AV→Store→Prop) (E':List PanicEntry→Store→Prop),K' x σ'→aj P cfg d rg σ' K' E' op:=by
 cases op<;>simp only[aw.cls,reduceCtorEq,Nat.reduceEqDiff]at h1
 rename_i g n x
 simp only[aj]at h ⊢
 simp only[lN]at hk
 split at h
 ·rename_i t b o he
  rw[he]at hk
  simp only[Z0,YV]at hk
  have Ll:∀ σ':Store,(∀ t,ah.elem t=false→(∀ s∈cf,tu (lk rg s)≠some t)→∀ b l,aN σ t=some (b,.cells l)→aN σ' t=some (b,.cells l))→∀ b l,aN σ t=some (b,.cells l)→aN σ' t=some (b,.cells l):=fun σ' hh=>hh t hk.1 fun s hs e=>by
   have:=ZF.1 hk.2 s hs
   unfold vG at this
   rw[e]at this
   simp[YJ]at this
  split at h
  ·rename_i b' l hb
   obtain⟨rfl,h⟩:=h
   cases g with
   |true=>
    simp only[Y7]at h ⊢
    exact⟨_,h.2,fun σ' hs K' E' bY=>by rw[Ll σ' hs _ _ hb];exact⟨by trivial,h.1,bY⟩⟩
   |false=>
    simp only[ZS,Zt]at h ⊢
    split at h
    ·rename_i y hy
     exact⟨_,h,fun σ' hs K' E' bY=>by rw[Ll σ' hs _ _ hb];simp only[hy];exact⟨by trivial,bY⟩⟩
    ·exact h.elim
  ·exact h.elim
 ·rename_i l he
  cases g with
  |true=>simp only[Y7]at h ⊢;exact⟨_,h.2,fun σ' _ K' E' bY=>⟨h.1,bY⟩⟩
  |false=>
   simp only[ZS,Zt]at h ⊢
   split at h
   ·rename_i y hy
    exact⟨_,h,fun σ' _ K' E' bY=>by(try simp only[hy]);exact bY⟩
   ·exact h.elim
 ·rename_i gv he
  split at h
  ·rename_i l hl
   (try simp only[hl])
   cases g with
   |true=>simp only[Y7]at h ⊢;exact⟨_,h.2,fun σ' _ K' E' bY=>⟨h.1,bY⟩⟩
   |false=>
    simp only[ZS,Zt]at h ⊢
    split at h
    ·rename_i y hy
     exact⟨_,h,fun σ' _ K' E' bY=>by(try simp only[hy]);exact bY⟩
    ·exact h.elim
  ·exact h.elim
 ·exact h.elim
theorem uT(hc:c.c.op.cls≤1)(h:hU P cfg ah c K rg σ):∃ x,K x σ∧∀ σ',(c.c.op.cls=1→HI ah c rg σ σ')→∀ K':AV→Store→Prop,K' x σ'→hU P cfg ah c K' rg σ':=by
 have bT:cO P cfg ah c.cf c.c.d rg σ K c.c.op→∃ x,K x σ∧∀ σ',(c.c.op.cls=1→HI ah c rg σ σ')→∀ K':AV→Store→Prop,K' x σ'→cO P cfg ah c.cf c.c.d rg σ' K' c.c.op:=by
  intro h
  unfold cO at h
  split at h
  ·rename_i h0
   obtain⟨x,hx,hv⟩:=ay8 h0 h
   exact⟨x,hx,fun σ' _ K' hk=>by unfold cO;rw[h0];exact hv σ' _ hk⟩
  ·rename_i h1
   obtain⟨x,hx,hv⟩:=MR h1 h.1 h.2
   exact⟨x,hx,fun σ' hs K' hk=>by unfold cO;rw[h1];exact⟨h.1,hv σ' (hs h1) _ _ hk⟩⟩
  ·rename_i h2;rw[h2]at hc;omega
  ·rename_i h2;rw[h2]at hc;omega
  ·rename_i h2;rw[h2]at hc;omega
  ·exact h.elim
 unfold hU at h ⊢
 cases hg:c.c.g with
 |none=>rw[hg]at h;exact bT h
 |some p=>
  obtain⟨u,want⟩:=p
  rw[hg]at h
  simp only at h ⊢
  split at h
  ·rename_i b he
   by_cases hb:b=want
   ·obtain⟨x,hx,hv⟩:=bT (h.1 hb)
    exact⟨x,hx,fun σ' hs K' hk=>⟨fun _=>hv σ' hs K' hk,fun h'=>by subst hb;cases b<;>simp at h'⟩⟩
   ·have gr:b= !want:=by cases b<;>cases want<;>simp_all
    exact⟨_,h.2 gr,fun σ' hs K' hk=>⟨fun h'=>absurd h' hb,fun _=>hk⟩⟩
  ·exact⟨_,h,fun σ' hs K' hk=>hk⟩
  ·exact h.elim
def uI(rg:ae):aw→Option (List AV)
 | .alloc _ z=>some (z.cells.toList.map .v)
 | .box _ x=>(ev rg x).cells?
 |_=>none
theorem Dg{op:aw}(h:∀ t∈tmpsOf op.opers,lk rg t=lk rg' t):uI rg op=uI rg' op:=by
 cases op<;>try rfl
 simp only[uI]
 rw[qs h]
theorem pU(h2:c.c.op.cls=2)(hg:c.c.g=none):hU P cfg ah c K rg σ↔∃ l,uI rg c.c.op=some l∧∀ b,K (.lp (c.c.d.getD 0) b 0) ((c.c.d.getD 0,b,.cells l)::σ):=by
 unfold hU cO
 rw[hg]
 simp only[h2]
 cases ho:c.c.op<;>rw[ho]at h2<;>simp only[aw.cls,reduceCtorEq,Nat.reduceEqDiff]at h2
 ·rename_i t x
  simp only[aj,uI]
  cases(ev rg x).cells? with
  |none=>simp
  |some l=>simp
 ·simp only[aj,uI,Z5,exists_eq_left']
theorem PO(h3:c.c.op.cls=3)(hg:c.c.g=none)(h:hU P cfg ah c K rg σ):
  ∃ t b l x,aN σ t=some (b,.cells l)∧(∀ s,c.cf=[s]→tu (lk rg s)=some t∧(ah.elem s=true→s=t))∧K (.v undef) (ct σ t b x)∧
   ∀ (σ':Store) (K':AV→Store→Prop),aN σ' t=aN σ t→K' (.v undef) (ct σ' t b x)→hU P cfg ah c K' rg σ':=by
 unfold hU cO at *
 rw[hg]at *
 simp only[h3]at h ⊢
 cases ho:c.c.op<;>rw[ho]at h3<;>simp only[aw.cls,reduceCtorEq,Nat.reduceEqDiff]at h3
 rename_i n x y
 rw[ho]at h
 simp only[aj,rD]at h ⊢
 obtain⟨hk,h⟩:=h
 split at h
 ·rename_i t b o l' e1 e2
  rw[e1]at hk
  simp only at hk
  split at h
  ·rename_i b' l e3
   obtain⟨rfl,g1,g2,g3,g4⟩:=h
   refine⟨t,b,l,_,e3,fun s hs=> ?_,g4,fun σ' K' hl bY=> ?_⟩
   ·rw[hs]at hk
    simp only at hk
    split at hk
    ·rename_i t' e4
     simp only[Z0,Zl,YV]at hk
     have:=ZL hk.1
     subst this
     refine⟨e4,fun ha=> ?_⟩
     rcases hk.2 with h|h
     ·rw[ha]at h;cases h
     ·exact ZL h
    ·cases hk
   ·rw[e1]
    simp only[hk,hl,e2,e3,true_and]
    exact⟨g1,g2,g3,bY⟩
  ·exact h.elim
 ·exact h.elim
theorem Mk{op:aw}(h:isApp op=true):op.cls=4:=by cases op<;>first|rfl|cases h
theorem IJ{d:Option Nat}{E E':List PanicEntry→Store→Prop}{op:aw}(ha:isApp op=true)(hs:dk σ σ')
  (hk:∀ y br jM,dk br jM∧(σ=σ'→br=jM)→(∀ t b l,d.getD 0≠t→aN σ t=some (b,.cells l)→aN br t=some (b,.cells l))→K y br→K' y jM) (h:aj P cfg d rg σ K E op):aj P cfg d rg σ' K' E' op:=by
 cases op<;>first|cases ha|skip
 have sS:∀ (b:Nat) (x:bN),∀ t b' l,d.getD 0≠t→aN σ t=some (b',.cells l)→aN ((d.getD 0,b,x)::σ) t=some (b',.cells l):=fun b x t b' l aQ hl=>by
  rw[pB,if_neg aQ];exact hl
 simp only[aj]at h ⊢
 split at h
 ·exact⟨h.1,fun e=>hk _ _ _ ⟨hs,fun e=>e⟩ (fun _ _ _ _ hl=>hl) (h.2.1 e),fun e b u c hu=>hk _ _ _ ⟨hs.cons _,fun e=>by rw[e]⟩ (sS _ _) (h.2.2 e b u c hu)⟩
 ·refine⟨h.1,(hs.1 _).symm.trans h.2.1,h.2.2.1,h.2.2.2.1,fun b u c hu=>hk _ _ _ ⟨hs.ct h.2.1 _ _,fun e=>by rw[e]⟩ (fun t b' l _ hl=> ?_) (h.2.2.2.2 b u c hu)⟩
  rw[tz h.2.1,if_neg (fun e=>by subst e;rw[h.2.1]at hl;cases hl)];exact hl
 ·exact⟨h.1,h.2.1,fun e=>hk _ _ _ ⟨hs,fun e=>e⟩ (fun _ _ _ _ hl=>hl) (h.2.2.1 e),fun e b u c=>hk _ _ _ ⟨hs.cons _,fun e=>by rw[e]⟩ (sS _ _) (h.2.2.2 e b u c)⟩
 ·exact h.elim
theorem II(ha:isApp c.c.op=true)(hg:c.c.g=none)(hs:dk σ σ')
  (hk:∀ y br jM,dk br jM∧(σ=σ'→br=jM)→(∀ t b l,c.c.d.getD 0≠t→aN σ t=some (b,.cells l)→aN br t=some (b,.cells l))→K y br→K' y jM) (h:hU P cfg ah c K rg σ):hU P cfg ah c K' rg σ':=by
 have hc:=Mk ha
 unfold hU cO at *
 rw[hg]at *
 simp only[hc]at h ⊢
 exact⟨h.1,IJ ha hs hk h.2⟩
def Step(ah:List Nat)(c:CD)(rg:ae)(σ σ2:Store):Prop:=
 (c.c.op.cls≤1→σ2=σ)∧(c.c.op.cls=2→∃ b x,σ2=(c.c.d.getD 0,b,x)::σ)∧
 (c.c.op.cls=3→∃ t b x l,aN σ t=some (b,.cells l)∧σ2=ct σ t b x∧∀ s,c.cf=[s]→tu (lk rg s)=some t∧(ah.elem s=true→s=t))∧
 (c.c.op.cls=4→∀ t b l,c.c.d.getD 0≠t→aN σ t=some (b,.cells l)→aN σ2 t=some (b,.cells l))
theorem yN{x:CD}(h:fV x=true):(x.c.op.cls≤1∨(x.c.op.cls=2∧x.c.g=none∧x.c.d.isSome=true)∨(x.c.op.cls=3∧x.c.g=none))∨(isApp x.c.op=true∧x.c.op.cls=4∧x.c.g=none):=by
 unfold fV at h
 simp only[Z0,Zl,Nat.ble_eq,YV,Option.isNone_iff_eq_none]at h
 obtain⟨⟨h1,h2⟩,h3⟩:=h
 rcases h1 with h1|h1
 rotate_left
 ·have h4:=Mk h1
  refine .inr ⟨h1,h4,?_⟩
  rcases h2 with h2|h2
  ·omega
  ·exact h2
 left
 rcases Nat.lt_or_ge x.c.op.cls 2 with h|h
 ·exact .inl (by omega)
 ·right
  have hg:x.c.g=none:=by
   rcases h2 with h2|h2
   ·omega
   ·exact h2
  rcases Nat.lt_or_ge x.c.op.cls 3 with h'|h'
  ·have e:x.c.op.cls=2:=by omega
   left
   refine⟨e,hg,?_⟩
   rcases h3 with h3|h3
   ·rw[e]at h3;simp at h3
   ·exact h3
  ·exact .inr ⟨by omega,hg⟩
theorem zO(ho:fV c=true)(h:hU P cfg ah c K rg σ)(hk:∀ y σ2,Step ah c rg σ σ2→K y σ2→K' y σ2):hU P cfg ah c K' rg σ:=by
 rcases yN ho with(h1|⟨h2,hg,_⟩|⟨h3,hg⟩)|⟨ha,h4,hg⟩
 ·obtain⟨x,hx,hv⟩:=uT h1 h
  exact hv σ (fun _ _ _ _ _ _ h=>h) _ (hk _ _ ⟨fun _=>rfl,fun e=>by omega,fun e=>by omega,fun e=>by omega⟩ hx)
 ·obtain⟨l,hl,hb⟩:=(pU h2 hg).1 h
  exact(pU h2 hg).2 ⟨l,hl,fun b=>hk _ _ ⟨fun e=>by omega,fun _=>⟨b,_,rfl⟩,fun e=>by omega,fun e=>by omega⟩ (hb b)⟩
 ·obtain⟨t,b,l,x,g1,g2,g3,g4⟩:=PO h3 hg h
  exact g4 σ _ rfl (hk _ _ ⟨fun e=>by omega,fun e=>by omega,fun _=>⟨t,b,x,l,g1,rfl,g2⟩,fun e=>by omega⟩ g3)
 ·have hK:hU P cfg ah c (fun y σ2=>K y σ2∧Step ah c rg σ σ2) rg σ:=by
   have hc:=h4
   unfold hU cO at h ⊢
   rw[hg]at h ⊢
   simp only[hc]at h ⊢
   refine⟨h.1,?_⟩
   have h:=h.2
   obtain⟨ix,⟨d,op,g⟩,cf⟩:=c
   simp only at *
   cases op<;>first|cases ha|skip
   have hS:∀ σ2,(∀ t b l,d.getD 0≠t→aN σ t=some (b,.cells l)→aN σ2 t=some (b,.cells l))→∀ o:aw,o.cls=4→Step ah ⟨ix,⟨d,o,g⟩,cf⟩ rg σ σ2:=fun σ2 hh o ho=>⟨fun e=>by simp only at e;omega,fun e=>by simp only at e;omega,fun e=>by simp only at e;omega,fun _=>hh⟩
   have sS:∀ (b:Nat) (x:bN),∀ t b' l,d.getD 0≠t→aN σ t=some (b',.cells l)→aN ((d.getD 0,b,x)::σ) t=some (b',.cells l):=fun b x t b' l aQ hl=>by
    rw[pB,if_neg aQ];exact hl
   simp only[aj]at h ⊢
   split at h
   ·exact⟨h.1,fun e=>⟨h.2.1 e,hS _ (fun _ _ _ _ hl=>hl) _ hc⟩,fun e b u c hu=>⟨h.2.2 e b u c hu,hS _ (sS _ _) _ hc⟩⟩
   ·refine⟨h.1,h.2.1,h.2.2.1,h.2.2.2.1,fun b u c hu=>⟨h.2.2.2.2 b u c hu,hS _ (fun t b' l _ hl=> ?_) _ hc⟩⟩
    rw[tz h.2.1,if_neg (fun e=>by subst e;rw[h.2.1]at hl;cases hl)];exact hl
   ·exact⟨h.1,h.2.1,fun e=>⟨h.2.2.1 e,hS _ (fun _ _ _ _ hl=>hl) _ hc⟩,fun e b u c=>⟨h.2.2.2 e b u c,hS _ (sS _ _) _ hc⟩⟩
   ·exact h.elim
  exact II ha hg (dk.refl σ) (fun y br jM h1 _ hy=>by obtain rfl:=h1.2 rfl;exact hk y br hy.2 hy.1) hK
theorem ay4(ho:fV c=true)(hs:dk σ σ')(h:hU P cfg ah c K rg σ)(hk:∀ y br jM,dk br jM→K y br→K' y jM):hU P cfg ah c K' rg σ':=by
 rcases yN ho with(h1|⟨h2,hg,_⟩|⟨h3,hg⟩)|⟨ha,h4,hg⟩
 ·obtain⟨x,hx,hv⟩:=uT h1 h
  exact hv σ' (fun _ t _ _ b l hl=>(hs.1 _).symm.trans hl) _ (hk _ _ _ hs hx)
 ·obtain⟨l,hl,hb⟩:=(pU h2 hg).1 h
  exact(pU h2 hg).2 ⟨l,hl,fun b=>hk _ _ _ (hs.cons _) (hb b)⟩
 ·obtain⟨t,b,l,x,g1,g2,g3,g4⟩:=PO h3 hg h
  exact g4 σ' _ (hs.1 t).symm (hk _ _ _ (hs.ct g1 b x) g3)
 ·exact II ha hg hs (fun y br jM h1 _ h2=>hk y br jM h1.1 h2) h
def wV(K:ae→Store→Prop):Prop:=∀ rg rg' σ σ',(∀ i,lk rg i=lk rg' i)→dk σ σ'→K rg σ→K rg' σ'
theorem Cx{K:ae→Store→Prop}(hK:wV K):∀ (l:List CD),(∀ x∈l,fV x=true)→wV (cD P cfg ah l K)
 |[],_=>hK
 |c::l,ho=>fun rg rg' σ σ' hr hs h=>by
  simp only[cD]at h ⊢
  refine Cw (fun t _=>hr t) (ay4 (ho c (by simp)) hs h fun y br jM jd hk=> ?_)
  exact Cx hK l (fun x hx=>ho x (by simp[hx])) _ _ _ _ (vL hr _ _) jd hk
theorem tK{d:Option Nat}{x:AV}(h:BG d c=true):∀ t∈rm c,lk (bM d x rg) t=lk rg t:=by
 intro t ht
 cases d with
 |none=>rfl
 |some d=>
  simp only[BG,Z0,YV]at h
  have aQ:d≠t:=fun e=>by
   subst e
   rcases Zm.1 ht with ht|ht
   ·have:=List.elem_eq_true_of_mem ht;rw[h.1]at this;cases this
   ·have:=List.elem_eq_true_of_mem ht;rw[h.2]at this;cases this
  simp only[bM,MN,if_neg aQ]
theorem F9{d d':Option Nat}{x y:AV}(h:d.isNone=true∨d≠d')(i:Nat):lk (bM d x (bM d' y rg)) i=lk (bM d' y (bM d x rg)) i:=by
 cases d with
 |none=>rfl
 |some d=>
  cases d' with
  |none=>rfl
  |some d'=>
   have aQ:d≠d':=by rcases h with h|h<;>simp_all
   simp only[bM,MN]
   by_cases h1:d=i<;>by_cases h2:d'=i<;>simp_all
theorem ayn{a:CD}{Z:ae→Store→Prop}(hz:wV Z)(hc:jy ah a c=true)(ha:fV a=true)(ho:fV c=true)
  (h:hU P cfg ah a (fun x br=>hU P cfg ah c (fun y σ2=>Z (bM c.c.d y (bM a.c.d x rg)) σ2) (bM a.c.d x rg) br) rg σ):
  hU P cfg ah c (fun y σ2=>hU P cfg ah a (fun x br=>Z (bM a.c.d x (bM c.c.d y rg)) br) (bM c.c.d y rg) σ2) rg σ:=by
 unfold jy at hc
 simp only[Z0,Zl,ZB]at hc
 obtain⟨⟨⟨nR,ib⟩,iY⟩,cX⟩:=hc
 rcases yN ha with(h1|⟨h2,hg,aaF⟩|⟨h3,hg⟩)|⟨_,h4,_⟩
 ·obtain⟨x,hx,hD⟩:=uT h1 h
  have vz:=Cw (rg':=rg) (tK nR) hx
  refine zO ho vz fun y σ2 ep hZ=> ?_
  refine Cw (rg:=rg) (fun t ht=>(tK ib t ht).symm) (hD σ2 (fun h1=> ?_) _ (hz _ _ _ _ (fun i=>(F9 iY i).symm) (dk.refl _) hZ))
  rw[h1]at cX
  intro t ht hcf b0 l0 kA
  rcases yN ho with(k1|⟨k2,_,k3⟩|⟨k3,_⟩)|⟨_,k4,_⟩
  ·rw[ep.1 k1];exact kA
  rotate_left 2
  ·refine ep.2.2.2 k4 t b0 l0 ?_ kA
   rw[k4]at cX
   simp only at cX
   split at cX
   ·rename_i d hd
    rw[hd]
    intro e
    have e:d=t:=e
    subst e
    rw[ht]at cX;cases cX
   ·cases cX
  ·obtain⟨b,v,rfl⟩:=ep.2.1 k2
   rw[k2]at cX
   simp only at cX
   split at cX
   ·rename_i d hd
    rw[hd,pB,if_neg]
    ·exact kA
    intro e
    have e:d=t:=e
    subst e
    rw[ht]at cX;cases cX
   ·cases cX
  ·obtain⟨t',b,v,l,g1,rfl,g2⟩:=ep.2.2.1 k3
   rw[k3]at cX
   simp only at cX
   split at cX
   ·rename_i s hs
    rw[tz g1,if_neg]
    ·exact kA
    rintro rfl
    obtain⟨g3,g4⟩:=g2 s hs
    simp only[Zl]at cX
    rcases cX with cX|cX
    ·exact hcf s (List.mem_of_elem_eq_true cX) g3
    ·have:=g4 cX;subst this;rw[ht]at cX;cases cX
   ·cases cX
 ·rw[h2]at cX
  have k2:c.c.op.cls=2∧c.c.g=none∧c.c.d.isSome=true:=by
   rcases yN ho with(k1|k2|⟨k3,_⟩)|⟨_,k4,_⟩
   ·exfalso
    generalize c.c.op.cls=m at k1 cX
    match m,k1,cX with
    |0,_,h=>cases h
    |1,_,h=>cases h
   ·exact k2
   ·rw[k3]at cX;cases cX
   ·rw[k4]at cX;cases cX
  obtain⟨k2,kg,acf⟩:=k2
  obtain⟨l,hl,hb⟩:=(pU h2 hg).1 h
  have mH:∀ (x:CD) t,t∈tmpsOf x.c.op.opers→t∈rm x:=fun x t ht=>by unfold rm CI.reads;exact Zy _ (Zy _ ht)
  obtain⟨l',gd,_⟩:=(pU k2 kg).1 (hb 0)
  rw[Dg (rg':=rg) fun t ht=>tK nR t (mH c t ht)]at gd
  refine(pU k2 kg).2 ⟨l',gd,fun b'=>(pU h2 hg).2 ⟨l,?_,fun b=> ?_⟩⟩
  ·rw[Dg (rg':=rg) fun t ht=>tK ib t (mH a t ht)];exact hl
  ·obtain⟨l2,hl2,fx⟩:=(pU k2 kg).1 (hb b)
   rw[Dg (rg':=rg) fun t ht=>tK nR t (mH c t ht),gd]at hl2
   cases hl2
   refine hz _ _ _ _ (fun i=>(F9 iY i).symm) ?_ (fx b')
   refine dk.swap ?_ σ
   obtain⟨d,hd⟩:=Ym.1 aaF
   obtain⟨d',hd'⟩:=Ym.1 acf
   rw[hd,hd']at iY ⊢
   simp only[Option.isNone_some,ZS,false_or,ZE,ne_eq,Z5]at iY ⊢
   exact fun e=>iY e.symm
 ·rw[h3]at cX
  cases cX
 ·rw[h4]at cX
  cases cX
theorem AU{K:ae→Store→Prop}(hK:wV K)(ho:fV c=true):∀ (A B:List CD) (rg:ae) (σ:Store),(∀ a∈A,jy ah a c=true∧fV a=true)→(∀ b∈B,fV b=true)→
  cD P cfg ah (A++c::B) K rg σ→hU P cfg ah c (fun y σ2=>cD P cfg ah (A++B) K (bM c.c.d y rg) σ2) rg σ
 |[],B,rg,σ,_,_,h=>h
 |a::A,B,rg,σ,hA,hB,h=>by
  simp only[ZD,cD]at h ⊢
  have ha:=hA a (by simp)
  refine ayn (Z:=cD P cfg ah (A++B) K) (Cx hK _ fun x hx=> ?_) ha.1 ha.2 ho (zO ha.2 h fun x br _ hv=> ?_)
  ·rcases Zm.1 hx with hx|hx
   ·exact(hA x (by simp[hx])).2
   ·exact hB x hx
  ·exact AU hK ho A B _ br (fun x hx=>hA x (by simp[hx])) hB hv
theorem Cv{E:List PanicEntry→Store→Prop}(ho:fV c=true)(h:hU P cfg ah c K rg σ):di P cfg c.c K E rg σ:=by
 have bT:cO P cfg ah c.cf c.c.d rg σ K c.c.op→aj P cfg c.c.d rg σ K E c.c.op:=by
  intro h
  unfold cO at h
  split at h
  ·obtain⟨x,hx,hv⟩:=G3 h;exact hv _ _ hx
  ·rename_i h1
   obtain⟨x,hx,hv⟩:=MR h1 h.1 h.2
   exact hv σ (fun _ _ _ _ _ h=>h) _ _ hx
  ·rename_i h2
   cases bT:c.c.op<;>rw[bT]at h2 h<;>simp only[aw.cls,reduceCtorEq,Nat.reduceEqDiff]at h2<;>exact h
  ·rename_i h2
   cases bT:c.c.op<;>rw[bT]at h2 h<;>simp only[aw.cls,reduceCtorEq,Nat.reduceEqDiff]at h2
   exact h.2
  ·have ha:=h.1
   rw[Z0]at ha
   exact IJ (hs:=dk.refl σ) ha.1 (fun y br jM h1 _ hy=>by obtain rfl:=h1.2 rfl;exact hy) h.2
  ·exact h.elim
 unfold hU at h
 unfold di
 cases hg:c.c.g with
 |none=>rw[hg]at h;exact bT h
 |some p=>
  obtain⟨u,want⟩:=p
  rw[hg]at h
  simp only at h ⊢
  split at h
  ·rename_i b he;simp only[he];exact⟨fun hb=>bT (h.1 hb),h.2⟩
  ·rename_i he;simp only[he];exact h
  ·exact h.elim
end
end Go.Sx
