/-
  The layer Sx, fourteenth part: operations that may stand in any order.
-/
import Derived.Test.YtbihckigennlhaaGreatDoorSxStep
set_option linter.unusedVariables false
set_option linter.unusedSimpArgs false
set_option linter.unusedSectionVars false
namespace Go.Sx
open Go.RowKit
def rW:AV→Option Nat
 | .lp t _ _=>some t
 | .ms t _ _ _ _=>some t
 |_=>none
def uF(rg:ae)(t s:Nat):Bool:=match rW (lk rg s)with
 |some t'=> !Nat.beq t' t
 |none=>false
def kG(ah cf:List Nat)(rg:ae):au→Bool
 | .load _ _ x=>match ev rg x with
  | .lp t _ _=> !ah.elem t && cf.all (uF rg t)
  |_=>true
 |_=>false
def ql(ah cf:List Nat)(rg:ae):au→Bool
 | .store _ x _=>match ev rg x with
  | .lp t _ _=>match cf with
   |[]=>true
   |[s]=>match rW (lk rg s)with
    |some t'=>Nat.beq t' t && (!ah.elem s || Nat.beq s t)
    |none=>false
   |_=>false
  |_=>true
 |_=>false
def cF(P:Program)[Glob P](cfg:Nat→Nat)(ah cf:List Nat)(d:Option Nat)(rg:ae)(σ:Store)(K:AV→Store→Prop)(op:au):Prop:=
 match op.cls with
 |0=>aC P cfg d rg σ (fun x=>K x σ) op
 |1=>kG ah cf rg op=true∧aj P cfg d rg σ K (fun _ _=>False) op
 |2=>aj P cfg d rg σ K (fun _ _=>False) op
 |3=>ql ah cf rg op=true∧aj P cfg d rg σ K (fun _ _=>False) op
 |4=>(isApp op && ah.elem (d.getD 0))=true∧aj P cfg d rg σ K (fun _ _=>False) op
 |_=>False
def cK(P:Program)[Glob P](cfg:Nat→Nat)(ah:List Nat)(c:CD)(K:AV→Store→Prop)(rg:ae)(σ:Store):Prop:=
 match c.c.g with
 |none=>cF P cfg ah c.cf c.c.d rg σ K c.c.op
 |some (t,want)=>match lk rg t with
  | .v (.bool b)=>(b=want→cF P cfg ah c.cf c.c.d rg σ K c.c.op)∧(b= !want→K (.v undef) σ)
  | .v (.tuple _)=>K (.v undef) σ
  |_=>False
def cx(P:Program)[Glob P](cfg:Nat→Nat)(ah:List Nat):List CD→(ae→Store→Prop)→ae→Store→Prop
 |[],K,rg,σ=>K rg σ
 |c::l,K,rg,σ=>cK P cfg ah c (fun x σ'=>cx P cfg ah l K (bM c.c.d x rg) σ') rg σ
section
variable {P:Program}[Glob P]{cfg:Nat→Nat}{ah:List Nat}{c:CD}{rg ao:ae}{σ σ':Store}{K K':AV→Store→Prop}
theorem atd{d:Option Nat}{K:AV→Prop}{op:au}(h:∀ t∈tmpsOf op.opers,lk rg t=lk ao t):aC P cfg d rg σ K op=aC P cfg d ao σ K op:=by
 cases op with
 |call f args=>simp only[aC];rw[iQ args h]
 |dp f args=>
  have hf:ev rg f=ev ao f:=ph fun t ht=>h t (by simp only[au.opers];rw[oM];exact ZC _ ht)
  have ha:aQ rg args=aQ ao args:=iQ args fun t ht=>h t (by simp only[au.opers];rw[oM];exact Zp _ ht)
  simp only[aC];rw[hf,ha]
 |bh t af parts=>simp only[aC];rw[iQ parts h]
 |len s x=>cases s<;>(simp only[aC];rw[ph h])
 |box t x=>rfl
 |alloc t z=>rfl
 |store n x y=>rfl
 |append t n k z x y=>rfl
 |exts op ty ti args=>rfl
 |panic x=>rfl
 |b8 op ty ti args=>simp only[aC];rw[iQ args h]
 |_=>simp only[aC];exact oO h
theorem KB{cf:List Nat}{op:au}(h:∀ t∈tmpsOf op.opers,lk rg t=lk ao t)(h2:∀ t∈cf,lk rg t=lk ao t):kG ah cf rg op=kG ah cf ao op:=by
 cases op<;>try rfl
 rename_i a n x
 simp only[kG]
 rw[ph h]
 have:∀ t,cf.all (uF rg t)=cf.all (uF ao t):=fun t=>by
  rw[YH,ZJ,ZJ]
  exact⟨fun k s hs=>by have:=k s hs;unfold uF at *;rwa [← h2 s hs],fun k s hs=>by have:=k s hs;unfold uF at *;rwa [h2 s hs]⟩
 split<;>simp only[this]
theorem MF{cf:List Nat}{op:au}(h:∀ t∈tmpsOf op.opers,lk rg t=lk ao t)(h2:∀ t∈cf,lk rg t=lk ao t):ql ah cf rg op=ql ah cf ao op:=by
 cases op<;>try rfl
 rename_i n x y
 have hx:ev rg x=ev ao x:=ph fun t ht=>h t (by simp only[au.opers];rw[oM];exact ZC _ ht)
 simp only[ql]
 rw[hx]
 split
 ·split
  ·rfl
  ·rename_i s;rw[h2 s (by simp)]
  ·rfl
 ·rfl
def qe(c:CD):List Nat:=c.c.reads++c.cf
theorem Nl{cf:List Nat}{d:Option Nat}{op:au}(h:∀ t∈tmpsOf op.opers,lk rg t=lk ao t)(h2:∀ t∈cf,lk rg t=lk ao t):cF P cfg ah cf d rg σ K op=cF P cfg ah cf d ao σ K op:=by
 unfold cF
 split
 ·exact atd h
 ·rw[KB h h2,oO h]
 ·exact oO h
 ·rw[MF h h2,oO h]
 ·rw[oO h]
 ·rfl
theorem A9(h:∀ t∈qe c,lk rg t=lk ao t)(hv:cK P cfg ah c K rg σ):cK P cfg ah c K ao σ:=by
 have e:cF P cfg ah c.cf c.c.d rg σ K c.c.op=cF P cfg ah c.cf c.c.d ao σ K c.c.op:=
  Nl (fun t ht=>h t (by unfold qe CI.reads;exact ZC _ (ZC _ ht))) (fun t ht=>h t (by unfold qe;exact Zp _ ht))
 unfold cK at *
 cases hg:c.c.g with
 |none=>rw[hg]at hv;simp only at hv ⊢;rw[← e];exact hv
 |some p=>
  obtain⟨u,want⟩:=p
  have hu:lk rg u=lk ao u:=h u (by unfold qe CI.reads;rw[hg];simp)
  rw[hg]at hv
  simp only at hv ⊢
  rw[← hu]
  split<;>rename_i e2<;>simp only[e2]at hv
  ·rw[← e];exact hv
  ·exact hv
def FO(ah:List Nat)(c:CD)(rg:ae)(σ σ':Store):Prop:=∀ t,ah.elem t=false→(∀ s∈c.cf,rW (lk rg s)≠some t)→∀ b l,aK σ t=some (b,.cells l)→aK σ' t=some (b,.cells l)
theorem KH{cf:List Nat}{d:Option Nat}{E:List PanicEntry→Store→Prop}{op:au}(h1:op.cls=1)(hk:kG ah cf rg op=true)(h:aj P cfg d rg σ K E op):
  ∃ x,K x σ∧∀ (σ':Store),(∀ t,ah.elem t=false→(∀ s∈cf,rW (lk rg s)≠some t)→∀ b l,aK σ t=some (b,.cells l)→aK σ' t=some (b,.cells l))→∀ (K':AV→Store→Prop) (E':List PanicEntry→Store→Prop),K' x σ'→aj P cfg d rg σ' K' E' op:=by
 cases op<;>simp only[au.cls,reduceCtorEq,Nat.reduceEqDiff]at h1
 rename_i g n x
 simp only[aj]at h ⊢
 simp only[kG]at hk
 split at h
 ·rename_i t b o he
  rw[he]at hk
  simp only[Z3,Y4]at hk
  have JD:∀ σ':Store,(∀ t,ah.elem t=false→(∀ s∈cf,rW (lk rg s)≠some t)→∀ b l,aK σ t=some (b,.cells l)→aK σ' t=some (b,.cells l))→∀ b l,aK σ t=some (b,.cells l)→aK σ' t=some (b,.cells l):=fun σ' hh=>hh t hk.1 fun s hs e=>by
   have:=ZJ.1 hk.2 s hs
   unfold uF at this
   rw[e]at this
   simp[YO]at this
  split at h
  ·rename_i b' l hb
   obtain⟨rfl,h⟩:=h
   cases g with
   |true=>
    simp only[Ze]at h ⊢
    exact⟨_,h.2,fun σ' hs K' E' bU=>by rw[JD σ' hs _ _ hb];exact⟨by trivial,h.1,bU⟩⟩
   |false=>
    simp only[ZT,ZA]at h ⊢
    split at h
    ·rename_i y hy
     exact⟨_,h,fun σ' hs K' E' bU=>by rw[JD σ' hs _ _ hb];simp only[hy];exact⟨by trivial,bU⟩⟩
    ·exact h.elim
  ·exact h.elim
 ·rename_i l he
  cases g with
  |true=>simp only[Ze]at h ⊢;exact⟨_,h.2,fun σ' _ K' E' bU=>⟨h.1,bU⟩⟩
  |false=>
   simp only[ZT,ZA]at h ⊢
   split at h
   ·rename_i y hy
    exact⟨_,h,fun σ' _ K' E' bU=>by(try simp only[hy]);exact bU⟩
   ·exact h.elim
 ·rename_i gv he
  split at h
  ·rename_i l hl
   (try simp only[hl])
   cases g with
   |true=>simp only[Ze]at h ⊢;exact⟨_,h.2,fun σ' _ K' E' bU=>⟨h.1,bU⟩⟩
   |false=>
    simp only[ZT,ZA]at h ⊢
    split at h
    ·rename_i y hy
     exact⟨_,h,fun σ' _ K' E' bU=>by(try simp only[hy]);exact bU⟩
    ·exact h.elim
  ·exact h.elim
 ·exact h.elim
theorem tz(hc:c.c.op.cls≤1)(h:cK P cfg ah c K rg σ):∃ x,K x σ∧∀ σ',(c.c.op.cls=1→FO ah c rg σ σ')→∀ K':AV→Store→Prop,K' x σ'→cK P cfg ah c K' rg σ':=by
 have cj:cF P cfg ah c.cf c.c.d rg σ K c.c.op→∃ x,K x σ∧∀ σ',(c.c.op.cls=1→FO ah c rg σ σ')→∀ K':AV→Store→Prop,K' x σ'→cF P cfg ah c.cf c.c.d rg σ' K' c.c.op:=by
  intro h
  unfold cF at h
  split at h
  ·rename_i h0
   obtain⟨x,hx,hv⟩:=atc h0 h
   exact⟨x,hx,fun σ' _ K' hk=>by unfold cF;rw[h0];exact hv σ' _ hk⟩
  ·rename_i h1
   obtain⟨x,hx,hv⟩:=KH h1 h.1 h.2
   exact⟨x,hx,fun σ' hs K' hk=>by unfold cF;rw[h1];exact⟨h.1,hv σ' (hs h1) _ _ hk⟩⟩
  ·rename_i h2;rw[h2]at hc;omega
  ·rename_i h2;rw[h2]at hc;omega
  ·rename_i h2;rw[h2]at hc;omega
  ·exact h.elim
 unfold cK at h ⊢
 cases hg:c.c.g with
 |none=>rw[hg]at h;exact cj h
 |some p=>
  obtain⟨u,want⟩:=p
  rw[hg]at h
  simp only at h ⊢
  split at h
  ·rename_i b he
   by_cases hb:b=want
   ·obtain⟨x,hx,hv⟩:=cj (h.1 hb)
    exact⟨x,hx,fun σ' hs K' hk=>⟨fun _=>hv σ' hs K' hk,fun h'=>by subst hb;cases b<;>simp at h'⟩⟩
   ·have fV:b= !want:=by cases b<;>cases want<;>simp_all
    exact⟨_,h.2 fV,fun σ' hs K' hk=>⟨fun h'=>absurd h' hb,fun _=>hk⟩⟩
  ·exact⟨_,h,fun σ' hs K' hk=>hk⟩
  ·exact h.elim
def tc(rg:ae):au→Option (List AV)
 | .alloc _ z=>some (z.cells.toList.map .v)
 | .box _ x=>(ev rg x).cells?
 |_=>none
theorem BQ{op:au}(h:∀ t∈tmpsOf op.opers,lk rg t=lk ao t):tc rg op=tc ao op:=by
 cases op<;>try rfl
 simp only[tc]
 rw[ph h]
theorem oN(h2:c.c.op.cls=2)(hg:c.c.g=none):cK P cfg ah c K rg σ↔∃ l,tc rg c.c.op=some l∧∀ b,K (.lp (c.c.d.getD 0) b 0) ((c.c.d.getD 0,b,.cells l)::σ):=by
 unfold cK cF
 rw[hg]
 simp only[h2]
 cases ho:c.c.op<;>rw[ho]at h2<;>simp only[au.cls,reduceCtorEq,Nat.reduceEqDiff]at h2
 ·rename_i t x
  simp only[aj,tc]
  cases(ev rg x).cells? with
  |none=>simp
  |some l=>simp
 ·simp only[aj,tc,Z6,exists_eq_left']
theorem Nr(h3:c.c.op.cls=3)(hg:c.c.g=none)(h:cK P cfg ah c K rg σ):
  ∃ t b l x,aK σ t=some (b,.cells l)∧(∀ s,c.cf=[s]→rW (lk rg s)=some t∧(ah.elem s=true→s=t))∧K (.v undef) (ck σ t b x)∧
   ∀ (σ':Store) (K':AV→Store→Prop),aK σ' t=aK σ t→K' (.v undef) (ck σ' t b x)→cK P cfg ah c K' rg σ':=by
 unfold cK cF at *
 rw[hg]at *
 simp only[h3]at h ⊢
 cases ho:c.c.op<;>rw[ho]at h3<;>simp only[au.cls,reduceCtorEq,Nat.reduceEqDiff]at h3
 rename_i n x y
 rw[ho]at h
 simp only[aj,ql]at h ⊢
 obtain⟨hk,h⟩:=h
 split at h
 ·rename_i t b o l' e1 e2
  rw[e1]at hk
  simp only at hk
  split at h
  ·rename_i b' l e3
   obtain⟨rfl,g1,g2,g3,g4⟩:=h
   refine⟨t,b,l,_,e3,fun s hs=> ?_,g4,fun σ' K' hl bU=> ?_⟩
   ·rw[hs]at hk
    simp only at hk
    split at hk
    ·rename_i t' e4
     simp only[Z3,Zk,Y4]at hk
     have:=ZM hk.1
     subst this
     refine⟨e4,fun ha=> ?_⟩
     rcases hk.2 with h|h
     ·rw[ha]at h;cases h
     ·exact ZM h
    ·cases hk
   ·rw[e1]
    simp only[hk,hl,e2,e3,true_and]
    exact⟨g1,g2,g3,bU⟩
  ·exact h.elim
 ·exact h.elim
theorem Ko{op:au}(h:isApp op=true):op.cls=4:=by cases op<;>first|rfl|cases h
theorem GU{d:Option Nat}{E E':List PanicEntry→Store→Prop}{op:au}(ha:isApp op=true)(hs:cV σ σ')
  (hk:∀ y bn jf,cV bn jf∧(σ=σ'→bn=jf)→(∀ t b l,d.getD 0≠t→aK σ t=some (b,.cells l)→aK bn t=some (b,.cells l))→K y bn→K' y jf) (h:aj P cfg d rg σ K E op):aj P cfg d rg σ' K' E' op:=by
 cases op<;>first|cases ha|skip
 have rA:∀ (b:Nat) (x:cp),∀ t b' l,d.getD 0≠t→aK σ t=some (b',.cells l)→aK ((d.getD 0,b,x)::σ) t=some (b',.cells l):=fun b x t b' l aR hl=>by
  rw[oB,if_neg aR];exact hl
 simp only[aj]at h ⊢
 split at h
 ·exact⟨h.1,fun e=>hk _ _ _ ⟨hs,fun e=>e⟩ (fun _ _ _ _ hl=>hl) (h.2.1 e),fun e b u c hu=>hk _ _ _ ⟨hs.cons _,fun e=>by rw[e]⟩ (rA _ _) (h.2.2 e b u c hu)⟩
 ·refine⟨h.1,(hs.1 _).symm.trans h.2.1,h.2.2.1,h.2.2.2.1,fun b u c hu=>hk _ _ _ ⟨hs.ck h.2.1 _ _,fun e=>by rw[e]⟩ (fun t b' l _ hl=> ?_) (h.2.2.2.2 b u c hu)⟩
  rw[r3 h.2.1,if_neg (fun e=>by subst e;rw[h.2.1]at hl;cases hl)];exact hl
 ·exact⟨h.1,h.2.1,fun e=>hk _ _ _ ⟨hs,fun e=>e⟩ (fun _ _ _ _ hl=>hl) (h.2.2.1 e),fun e b u c=>hk _ _ _ ⟨hs.cons _,fun e=>by rw[e]⟩ (rA _ _) (h.2.2.2 e b u c)⟩
 ·exact h.elim
theorem GR(ha:isApp c.c.op=true)(hg:c.c.g=none)(hs:cV σ σ')
  (hk:∀ y bn jf,cV bn jf∧(σ=σ'→bn=jf)→(∀ t b l,c.c.d.getD 0≠t→aK σ t=some (b,.cells l)→aK bn t=some (b,.cells l))→K y bn→K' y jf) (h:cK P cfg ah c K rg σ):cK P cfg ah c K' rg σ':=by
 have hc:=Ko ha
 unfold cK cF at *
 rw[hg]at *
 simp only[hc]at h ⊢
 exact⟨h.1,GU ha hs hk h.2⟩
def Step(ah:List Nat)(c:CD)(rg:ae)(σ aw:Store):Prop:=
 (c.c.op.cls≤1→aw=σ)∧(c.c.op.cls=2→∃ b x,aw=(c.c.d.getD 0,b,x)::σ)∧
 (c.c.op.cls=3→∃ t b x l,aK σ t=some (b,.cells l)∧aw=ck σ t b x∧∀ s,c.cf=[s]→rW (lk rg s)=some t∧(ah.elem s=true→s=t))∧
 (c.c.op.cls=4→∀ t b l,c.c.d.getD 0≠t→aK σ t=some (b,.cells l)→aK aw t=some (b,.cells l))
theorem xF{x:CD}(h:fy x=true):(x.c.op.cls≤1∨(x.c.op.cls=2∧x.c.g=none∧x.c.d.isSome=true)∨(x.c.op.cls=3∧x.c.g=none))∨(isApp x.c.op=true∧x.c.op.cls=4∧x.c.g=none):=by
 unfold fy at h
 simp only[Z3,Zk,Nat.ble_eq,Y4,Option.isNone_iff_eq_none]at h
 obtain⟨⟨h1,h2⟩,h3⟩:=h
 rcases h1 with h1|h1
 rotate_left
 ·have h4:=Ko h1
  refine .inr ⟨h1,h4,?_⟩
  rcases h2 with h2|h2
  ·omega
  ·exact h2
 left
 rcases Nat.lt_or_ge x.c.op.cls 2 with h|h
 ·exact .inl (by omega)
 ·right
  have hg:x.c.g=none:=by
   rcases h2 with h2|h2
   ·omega
   ·exact h2
  rcases Nat.lt_or_ge x.c.op.cls 3 with h'|h'
  ·have e:x.c.op.cls=2:=by omega
   left
   refine⟨e,hg,?_⟩
   rcases h3 with h3|h3
   ·rw[e]at h3;simp at h3
   ·exact h3
  ·exact .inr ⟨by omega,hg⟩
theorem yc(ho:fy c=true)(h:cK P cfg ah c K rg σ)(hk:∀ y aw,Step ah c rg σ aw→K y aw→K' y aw):cK P cfg ah c K' rg σ:=by
 rcases xF ho with(h1|⟨h2,hg,_⟩|⟨h3,hg⟩)|⟨ha,h4,hg⟩
 ·obtain⟨x,hx,hv⟩:=tz h1 h
  exact hv σ (fun _ _ _ _ _ _ h=>h) _ (hk _ _ ⟨fun _=>rfl,fun e=>by omega,fun e=>by omega,fun e=>by omega⟩ hx)
 ·obtain⟨l,hl,hb⟩:=(oN h2 hg).1 h
  exact(oN h2 hg).2 ⟨l,hl,fun b=>hk _ _ ⟨fun e=>by omega,fun _=>⟨b,_,rfl⟩,fun e=>by omega,fun e=>by omega⟩ (hb b)⟩
 ·obtain⟨t,b,l,x,g1,g2,g3,g4⟩:=Nr h3 hg h
  exact g4 σ _ rfl (hk _ _ ⟨fun e=>by omega,fun e=>by omega,fun _=>⟨t,b,x,l,g1,rfl,g2⟩,fun e=>by omega⟩ g3)
 ·have hK:cK P cfg ah c (fun y aw=>K y aw∧Step ah c rg σ aw) rg σ:=by
   have hc:=h4
   unfold cK cF at h ⊢
   rw[hg]at h ⊢
   simp only[hc]at h ⊢
   refine⟨h.1,?_⟩
   have h:=h.2
   obtain⟨ix,⟨d,op,g⟩,cf⟩:=c
   simp only at *
   cases op<;>first|cases ha|skip
   have hS:∀ aw,(∀ t b l,d.getD 0≠t→aK σ t=some (b,.cells l)→aK aw t=some (b,.cells l))→∀ o:au,o.cls=4→Step ah ⟨ix,⟨d,o,g⟩,cf⟩ rg σ aw:=fun aw hh o ho=>⟨fun e=>by simp only at e;omega,fun e=>by simp only at e;omega,fun e=>by simp only at e;omega,fun _=>hh⟩
   have rA:∀ (b:Nat) (x:cp),∀ t b' l,d.getD 0≠t→aK σ t=some (b',.cells l)→aK ((d.getD 0,b,x)::σ) t=some (b',.cells l):=fun b x t b' l aR hl=>by
    rw[oB,if_neg aR];exact hl
   simp only[aj]at h ⊢
   split at h
   ·exact⟨h.1,fun e=>⟨h.2.1 e,hS _ (fun _ _ _ _ hl=>hl) _ hc⟩,fun e b u c hu=>⟨h.2.2 e b u c hu,hS _ (rA _ _) _ hc⟩⟩
   ·refine⟨h.1,h.2.1,h.2.2.1,h.2.2.2.1,fun b u c hu=>⟨h.2.2.2.2 b u c hu,hS _ (fun t b' l _ hl=> ?_) _ hc⟩⟩
    rw[r3 h.2.1,if_neg (fun e=>by subst e;rw[h.2.1]at hl;cases hl)];exact hl
   ·exact⟨h.1,h.2.1,fun e=>⟨h.2.2.1 e,hS _ (fun _ _ _ _ hl=>hl) _ hc⟩,fun e b u c=>⟨h.2.2.2 e b u c,hS _ (rA _ _) _ hc⟩⟩
   ·exact h.elim
  exact GR ha hg (cV.refl σ) (fun y bn jf h1 _ hy=>by obtain rfl:=h1.2 rfl;exact hk y bn hy.2 hy.1) hK
theorem as8(ho:fy c=true)(hs:cV σ σ')(h:cK P cfg ah c K rg σ)(hk:∀ y bn jf,cV bn jf→K y bn→K' y jf):cK P cfg ah c K' rg σ':=by
 rcases xF ho with(h1|⟨h2,hg,_⟩|⟨h3,hg⟩)|⟨ha,h4,hg⟩
 ·obtain⟨x,hx,hv⟩:=tz h1 h
  exact hv σ' (fun _ t _ _ b l hl=>(hs.1 _).symm.trans hl) _ (hk _ _ _ hs hx)
 ·obtain⟨l,hl,hb⟩:=(oN h2 hg).1 h
  exact(oN h2 hg).2 ⟨l,hl,fun b=>hk _ _ _ (hs.cons _) (hb b)⟩
 ·obtain⟨t,b,l,x,g1,g2,g3,g4⟩:=Nr h3 hg h
  exact g4 σ' _ (hs.1 t).symm (hk _ _ _ (hs.ck g1 b x) g3)
 ·exact GR ha hg hs (fun y bn jf h1 _ h2=>hk y bn jf h1.1 h2) h
def vz(K:ae→Store→Prop):Prop:=∀ rg ao σ σ',(∀ i,lk rg i=lk ao i)→cV σ σ'→K rg σ→K ao σ'
theorem Ba{K:ae→Store→Prop}(hK:vz K):∀ (l:List CD),(∀ x∈l,fy x=true)→vz (cx P cfg ah l K)
 |[],_=>hK
 |c::l,ho=>fun rg ao σ σ' hr hs h=>by
  simp only[cx]at h ⊢
  refine A9 (fun t _=>hr t) (as8 (ho c (by simp)) hs h fun y bn jf iB hk=> ?_)
  exact Ba hK l (fun x hx=>ho x (by simp[hx])) _ _ _ _ (uH hr _ _) iB hk
theorem sj{d:Option Nat}{x:AV}(h:Ae d c=true):∀ t∈qe c,lk (bM d x rg) t=lk rg t:=by
 intro t ht
 cases d with
 |none=>rfl
 |some d=>
  simp only[Ae,Z3,Y4]at h
  have aR:d≠t:=fun e=>by
   subst e
   rcases Zl.1 ht with ht|ht
   ·have:=List.elem_eq_true_of_mem ht;rw[h.1]at this;cases this
   ·have:=List.elem_eq_true_of_mem ht;rw[h.2]at this;cases this
  simp only[bM,KF,if_neg aR]
theorem En{d d':Option Nat}{x y:AV}(h:d.isNone=true∨d≠d')(i:Nat):lk (bM d x (bM d' y rg)) i=lk (bM d' y (bM d x rg)) i:=by
 cases d with
 |none=>rfl
 |some d=>
  cases d' with
  |none=>rfl
  |some d'=>
   have aR:d≠d':=by rcases h with h|h<;>simp_all
   simp only[bM,KF]
   by_cases h1:d=i<;>by_cases h2:d'=i<;>simp_all
theorem asv{a:CD}{Z:ae→Store→Prop}(hz:vz Z)(hc:iO ah a c=true)(ha:fy a=true)(ho:fy c=true)
  (h:cK P cfg ah a (fun x bn=>cK P cfg ah c (fun y aw=>Z (bM c.c.d y (bM a.c.d x rg)) aw) (bM a.c.d x rg) bn) rg σ):
  cK P cfg ah c (fun y aw=>cK P cfg ah a (fun x bn=>Z (bM a.c.d x (bM c.c.d y rg)) bn) (bM c.c.d y rg) aw) rg σ:=by
 unfold iO at hc
 simp only[Z3,Zk,ZG]at hc
 obtain⟨⟨⟨pG,gD⟩,iq⟩,cM⟩:=hc
 rcases xF ha with(h1|⟨h2,hg,V1⟩|⟨h3,hg⟩)|⟨_,h4,_⟩
 ·obtain⟨x,hx,hD⟩:=tz h1 h
  have uy:=A9 (ao:=rg) (sj pG) hx
  refine yc ho uy fun y aw dW hZ=> ?_
  refine A9 (rg:=rg) (fun t ht=>(sj gD t ht).symm) (hD aw (fun h1=> ?_) _ (hz _ _ _ _ (fun i=>(En iq i).symm) (cV.refl _) hZ))
  rw[h1]at cM
  intro t ht tV b0 l0 jN
  rcases xF ho with(k1|⟨k2,_,k3⟩|⟨k3,_⟩)|⟨_,k4,_⟩
  ·rw[dW.1 k1];exact jN
  rotate_left 2
  ·refine dW.2.2.2 k4 t b0 l0 ?_ jN
   rw[k4]at cM
   simp only at cM
   split at cM
   ·rename_i d hd
    rw[hd]
    intro e
    have e:d=t:=e
    subst e
    rw[ht]at cM;cases cM
   ·cases cM
  ·obtain⟨b,v,rfl⟩:=dW.2.1 k2
   rw[k2]at cM
   simp only at cM
   split at cM
   ·rename_i d hd
    rw[hd,oB,if_neg]
    ·exact jN
    intro e
    have e:d=t:=e
    subst e
    rw[ht]at cM;cases cM
   ·cases cM
  ·obtain⟨t',b,v,l,g1,rfl,g2⟩:=dW.2.2.1 k3
   rw[k3]at cM
   simp only at cM
   split at cM
   ·rename_i s hs
    rw[r3 g1,if_neg]
    ·exact jN
    rintro rfl
    obtain⟨g3,g4⟩:=g2 s hs
    simp only[Zk]at cM
    rcases cM with cM|cM
    ·exact tV s (List.mem_of_elem_eq_true cM) g3
    ·have:=g4 cM;subst this;rw[ht]at cM;cases cM
   ·cases cM
 ·rw[h2]at cM
  have k2:c.c.op.cls=2∧c.c.g=none∧c.c.d.isSome=true:=by
   rcases xF ho with(k1|k2|⟨k3,_⟩)|⟨_,k4,_⟩
   ·exfalso
    generalize c.c.op.cls=m at k1 cM
    match m,k1,cM with
    |0,_,h=>cases h
    |1,_,h=>cases h
   ·exact k2
   ·rw[k3]at cM;cases cM
   ·rw[k4]at cM;cases cM
  obtain⟨k2,kg,aac⟩:=k2
  obtain⟨l,hl,hb⟩:=(oN h2 hg).1 h
  have lL:∀ (x:CD) t,t∈tmpsOf x.c.op.opers→t∈qe x:=fun x t ht=>by unfold qe CI.reads;exact ZC _ (ZC _ ht)
  obtain⟨l',fF,_⟩:=(oN k2 kg).1 (hb 0)
  rw[BQ (ao:=rg) fun t ht=>sj pG t (lL c t ht)]at fF
  refine(oN k2 kg).2 ⟨l',fF,fun b'=>(oN h2 hg).2 ⟨l,?_,fun b=> ?_⟩⟩
  ·rw[BQ (ao:=rg) fun t ht=>sj gD t (lL a t ht)];exact hl
  ·obtain⟨l2,mR,eW⟩:=(oN k2 kg).1 (hb b)
   rw[BQ (ao:=rg) fun t ht=>sj pG t (lL c t ht),fF]at mR
   cases mR
   refine hz _ _ _ _ (fun i=>(En iq i).symm) ?_ (eW b')
   refine cV.swap ?_ σ
   obtain⟨d,hd⟩:=Ys.1 V1
   obtain⟨d',UU⟩:=Ys.1 aac
   rw[hd,UU]at iq ⊢
   simp only[Option.isNone_some,ZT,false_or,ZI,ne_eq,Z6]at iq ⊢
   exact fun e=>iq e.symm
 ·rw[h3]at cM
  cases cM
 ·rw[h4]at cM
  cases cM
theorem yV{K:ae→Store→Prop}(hK:vz K)(ho:fy c=true):∀ (A B:List CD) (rg:ae) (σ:Store),(∀ a∈A,iO ah a c=true∧fy a=true)→(∀ b∈B,fy b=true)→
  cx P cfg ah (A++c::B) K rg σ→cK P cfg ah c (fun y aw=>cx P cfg ah (A++B) K (bM c.c.d y rg) aw) rg σ
 |[],B,rg,σ,_,_,h=>h
 |a::A,B,rg,σ,hA,hB,h=>by
  simp only[ZH,cx]at h ⊢
  have ha:=hA a (by simp)
  refine asv (Z:=cx P cfg ah (A++B) K) (Ba hK _ fun x hx=> ?_) ha.1 ha.2 ho (yc ha.2 h fun x bn _ hv=> ?_)
  ·rcases Zl.1 hx with hx|hx
   ·exact(hA x (by simp[hx])).2
   ·exact hB x hx
  ·exact yV hK ho A B _ bn (fun x hx=>hA x (by simp[hx])) hB hv
theorem A8{E:List PanicEntry→Store→Prop}(ho:fy c=true)(h:cK P cfg ah c K rg σ):cT P cfg c.c K E rg σ:=by
 have cj:cF P cfg ah c.cf c.c.d rg σ K c.c.op→aj P cfg c.c.d rg σ K E c.c.op:=by
  intro h
  unfold cF at h
  split at h
  ·obtain⟨x,hx,hv⟩:=E7 h;exact hv _ _ hx
  ·rename_i h1
   obtain⟨x,hx,hv⟩:=KH h1 h.1 h.2
   exact hv σ (fun _ _ _ _ _ h=>h) _ _ hx
  ·rename_i h2
   cases cj:c.c.op<;>rw[cj]at h2 h<;>simp only[au.cls,reduceCtorEq,Nat.reduceEqDiff]at h2<;>exact h
  ·rename_i h2
   cases cj:c.c.op<;>rw[cj]at h2 h<;>simp only[au.cls,reduceCtorEq,Nat.reduceEqDiff]at h2
   exact h.2
  ·have ha:=h.1
   rw[Z3]at ha
   exact GU (hs:=cV.refl σ) ha.1 (fun y bn jf h1 _ hy=>by obtain rfl:=h1.2 rfl;exact hy) h.2
  ·exact h.elim
 unfold cK at h
 unfold cT
 cases hg:c.c.g with
 |none=>rw[hg]at h;exact cj h
 |some p=>
  obtain⟨u,want⟩:=p
  rw[hg]at h
  simp only at h ⊢
  split at h
  ·rename_i b he;simp only[he];exact⟨fun hb=>cj (h.1 hb),h.2⟩
  ·rename_i he;simp only[he];exact h
  ·exact h.elim
end
end Go.Sx
