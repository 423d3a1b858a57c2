/- The laws' own functions: sizes, the example. -/
import Derived.Test.YthdeaajdmdmfnaaGreatDoorSet
import Derived.Test.YthdeaajdmdmfnaaGreatDoorCd
import Derived.Test.YthdeaajdmdmfnaaGreatDoorCo
import Derived.Test.YthdeaajdmdmfnaaGreatDoorPn
import Derived.Test.YthdeaajdmdmfnaaGreatDoorCg
set_option linter.unusedSimpArgs false
set_option linter.unusedVariables false
set_option maxRecDepth 100000
set_option maxHeartbeats 4000000
namespace Go.Sx
theorem Wk.flr{ez:Nat}{rows rows':List (List AV)}{nn:Bool}(h:rows=rows'):Wk (.fl ez rows) (.sl nn ez rows'):=h ▸ fun _ _ h=>h.GD nn
end Go.Sx
namespace Go.Proofs.YthdeaajdmdmfnaaGreatDoor
open Go.Sx Go.Proofs Go.Tb
mutual
def EI:Ex→Int→Int
 | .mk _ _ _ _ _ _ _ _ ks,m=>tJ ks m 1
def tJ:List Ex→Int→Int→Int
 |[],_,n=>n
 |x::l,m,n=>if n≤m then tJ l m (n+EI x (m-n))else n
end
mutual
theorem aiK:∀ (x:Ex) (m:Int),EI x m≤m→(x.size:Int)=EI x m
 | .mk _ _ _ _ _ _ _ _ ks,m,h=>by
  rw[EI]at h ⊢
  rw[Ex.size]
  have:=EJ ks m 1 h
  omega
theorem EJ:∀ (l:List Ex) (m n:Int),tJ l m n≤m→tJ l m n=n+(Ex.cX l:Int)
 |[],m,n,h=>by rw[tJ,Ex.cX];simp
 |x::l,m,n,h=>by
  rw[tJ]at h ⊢
  by_cases hn:n≤m
  ·rw[ZV hn]at h ⊢
   have h1:=EJ l m _ h
   have h2:=aiK x (m-n) (by have:0≤(Ex.cX l:Int):=Int.natCast_nonneg _;omega)
   rw[h1,Ex.cX]
   omega
  ·rw[Z7 hn]at h;omega
end
mutual
theorem Nh:∀ x:Ex,x.bS.length≤x.size∧x.eU.length≤x.size
 | .mk k _ n t _ _ _ _ ks=>by
  have h:=Ng ks
  rw[Ex.bS,Ex.eU,Ex.size,Z4,Z4]
  have h1:(if k=3∨k=4 then[n]else[]).length≤1:=by split<;>simp
  have h2:(if k=5 then[t]else[]).length≤1:=by split<;>simp
  omega
theorem Ng:∀ l:List Ex,(Ex.eJ l).length≤Ex.cX l∧(Ex.cI l).length≤Ex.cX l
 |[]=>by simp[Ex.eJ,Ex.cI,Ex.cX]
 |x::l=>by
  have h1:=Nh x
  have h2:=Ng l
  rw[Ex.eJ,Ex.cI,Ex.cX,Z4,Z4];omega
end
def au.all(c:au):List aq:=c.features++c.aD++c.past
structure Small(c:au):Prop where
 t:c.tables.length≤40
 f:c.features.length≤40
 d:c.aD.length≤40
 p:c.past.length≤40
 n:tJ (c.all.map aq.body) 2000 0≤2000
theorem ail(c:au):Small c↔(c.tables.length≤40∧c.features.length≤40∧c.aD.length≤40∧c.past.length≤40∧tJ (c.all.map aq.body) 2000 0≤2000):=⟨fun h=>⟨h.t,h.f,h.d,h.p,h.n⟩,fun⟨a,b,c,d,e⟩=>⟨a,b,c,d,e⟩⟩
instance (c:au):Decidable (Small c):=decidable_of_iff _ (ail c).symm
theorem Nd(l:List aq):((l.map aq.cells).all fun r=>r.all AV.one)=true:=by
 rw[List.all_map,Zz];intro x _;rfl
end Go.Proofs.YthdeaajdmdmfnaaGreatDoor
namespace Go.Sx
section
variable {P:Program}[Glob P]{cfg:Nat→Nat}{K:ag→Store→Prop}{E:List PanicEntry→Store→Prop}{σ:Store}{l:List CI}{d:Nat}{xr:XR}{ps:List Prop}{al cf:List Nat}{ix:Nat}{ld:List CD}{og:Option Bool}
theorem VX.u4{t:TypeId}{ah bytes:Nat}{z:List Value}{x y:Operand}{w:AV}{r:List AV}{rows rs:List (List AV)}(hps:OB ps)(hb:(rows.length+(r::rs).length) * bytes≤35184372088832)(k:∀ b u c,VX P cfg l K E ((d,.s (.own ah d b u c (rows++r::rs)))::xr) ((d,b,.tail u c)::σ))(h:aS xr none [x,y]=some (og,[.fl ah rows,w],ps):=by exact rfl)(hw:dG ah w=some (r::rs):=by exact rfl):VX P cfg (⟨some d,.append t ah bytes z x y,none⟩::l) K E xr σ:=LN h hw hps hb (fun e=>nomatch e) fun _=>k
theorem VY.u4{t:TypeId}{ah bytes:Nat}{z:List Value}{x y:Operand}{w:AV}{r:List AV}{rows rs:List (List AV)}(hps:OB ps)(hb:(rows.length+(r::rs).length) * bytes≤35184372088832)(k:∀ b u c,VY P cfg al ld K ((d,.s (.own ah d b u c (rows++r::rs)))::xr) ((d,b,.tail u c)::σ))(h:aS xr none [x,y]=some (og,[.fl ah rows,w],ps):=by exact rfl)(hw:dG ah w=some (r::rs):=by exact rfl)(ha:al.elem d=true:=by exact rfl):VY P cfg al (⟨ix,⟨some d,.append t ah bytes z x y,none⟩,cf⟩::ld) K xr σ:=LR h hw ha hps hb (fun e=>nomatch e) fun _=>k
theorem VY.u5{ah tg b u c:Nat}{x y:Operand}{hv:AV}{h:Int}{rows:List (List AV)}(hps:OB ps)(hb:0≤h∧h≤rows.length)(k:VY P cfg al ld K ((d,.s (.own ah tg b u c (rows.drop h.toNat)))::xr) σ)(ha:aS xr none [x,y]=some (og,[.own ah tg b u c rows,hv],ps):=by exact rfl)(hi:iz hv=some h:=by exact rfl):VY P cfg al (⟨ix,⟨some d,.slice ah x (some y) none,none⟩,cf⟩::ld) K xr σ:=by
 obtain⟨_,he⟩:=cM ha
 unfold aS gX at ha
 obtain⟨bE,h',_,_⟩:=iT ha
 have dy:og=none:=by split at h'<;>cases h';rfl
 subst dy
 have:=he hps rfl
 simp only[aL,Z2,Zn]at this
 obtain⟨q,hq⟩:=qI hi
 constructor
 simp only[cZ,cY,cy,ax.cls,aK,aj,Option.map_none,ZJ,this.1,this.2,iy,hq,XA,Zp]
 exact⟨trivial,hb.1,hb.2,Int.le_refl _,k.h⟩
end
end Go.Sx
namespace Go.Proofs.YthdeaajdmdmfnaaGreatDoor
open Go.Sx Go.Proofs Go.Tb
abbrev s0:af:=⟨#[]⟩
abbrev sA:af:=⟨#[97]⟩
abbrev sD:af:=⟨#[100]⟩
abbrev sU:af:=⟨#[117,115,101,114]⟩
abbrev sT:af:=⟨#[99,108,105,99,107,115]⟩
abbrev sN:af:=⟨#[99,111,117,110,116]⟩
abbrev eB:AV:= .v (.slice none 0 0)
def Ts:Ex:=⟨1,s0,s0,s0,⟨1,1,s0⟩,[],0,⟨0,0⟩,[]⟩
theorem aav{x:Ex}{l:List af}(h:cC l)(e:x.bS=l):zo x=l:=tH (MH x) h fun s=>by rw[MG,e]
structure UR(fs:List aq)(x:Ex)(F T:List af):Prop where
 sf:cC F
 st:cC T
 rf:∀ m∈F,Reach fs x.bS m
 rt:∀ m∈T,yR fs x.bS x.eU m
 bf:∀ m∈x.bS,m∈F
 bt:∀ m∈x.eU,m∈T
def UD(fs:List aq)(now F T:List af):Prop:=∀ m∈now,∀ f,findF fs m=some f→(∀ s∈f.body.bS,s∈F)∧∀ s∈f.body.eU,s∈T
variable {fs:List aq}{x:Ex}{F T:List af}
theorem UR.start(fs:List aq)(x:Ex):UR fs x (lN x ([],[])).1 (lN x ([],[])).2:=by
 have hm:=Cp x ([],[])
 have hs:=Cq x ([],[]) vX vX
 exact⟨hs.1,hs.2,fun m h=> .base (by simpa using(hm.1 m).1 h),fun m h=> .inl (by simpa using(hm.2 m).1 h),fun m h=>(hm.1 m).2 (.inl h),fun m h=>(hm.2 m).2 (.inl h)⟩
theorem UR.step{n:af}{f:aq}(h:UR fs x F T)(hn:n∈F)(hf:findF fs n=some f):UR fs x (lN f.body (F,T)).1 (lN f.body (F,T)).2:=by
 have hm:=Cp f.body (F,T)
 have hs:=Cq f.body (F,T) h.sf h.st
 refine⟨hs.1,hs.2,fun m k=> ?_,fun m k=> ?_,fun m k=>(hm.1 m).2 (.inr (h.bf m k)),fun m k=>(hm.2 m).2 (.inr (h.bt m k))⟩
 ·rcases(hm.1 m).1 k with k|k
  ·exact .step (h.rf n hn) hf k
  ·exact h.rf m k
 ·rcases(hm.2 m).1 k with k|k
  ·exact .inr ⟨n,f,h.rf n hn,hf,k⟩
  ·exact h.rt m k
structure UI(fs:List aq)(x:Ex)(now:List af)(i:Nat)(F T:List af):Prop where
 u:UR fs x F T
 s:∀ m∈now,m∈F
 d:UD fs (now.take i) F T
theorem UI.no{now:List af}{i:Nat}(h:UI fs x now i F T)(hi:i<now.length)(hf:findF fs (now.getD i default)=none):UI fs x now (i+1) F T:=by
 refine⟨h.u,h.s,fun m hm f xF=> ?_⟩
 rw[ZC hi,Zy,Zg]at hm
 rcases hm with hm|rfl
 ·exact h.d m hm f xF
 ·rw[getD_eq hi]at hf;rw[hf]at xF;cases xF
def UO(fs:List aq)(x:Ex)(n:Int)(F T:List af):Prop:=UR fs x F T∧(n= -1∨∃ now:List af,cC now∧n=now.length∧(∀ m∈now,m∈F)∧UD fs now F T)
theorem UO.done{n:Int}(h:UO fs x n F T)(hn:n=F.length):SP fs x=F∧SQ fs x=T:=by
 obtain⟨hu,jq⟩:=h
 obtain⟨now,h1,h2,h3,h4⟩:∃ now:List af,cC now∧n=now.length∧(∀ m∈now,m∈F)∧UD fs now F T:=by
  rcases jq with h|h
  ·omega
  ·exact h
 have he:now=F:=ait h1 hu.sf h3 (by omega)
 subst he
 obtain⟨k1,k2⟩:=RO hu.bf hu.bt hu.rf hu.rt h4
 exact⟨EB hu.sf k1,EB hu.st k2⟩
theorem UO.lt{n:Int}(h:UO fs x n F T)(hn:n≠F.length):n<F.length:=by
 obtain⟨hu,rfl|⟨now,h1,h2,h3,h4⟩⟩:=h
 ·omega
 ·have:=jU (EC h1) h3;omega
theorem UI.out{now:List af}(hs:cC now)(h:UI fs x now now.length F T):UO fs x now.length F T:=
 ⟨h.u,.inr ⟨now,hs,rfl,h.s,by have:=h.d;rwa [Yr]at this⟩⟩
abbrev iU:AV:= .v (.slice none 0 0)
theorem Kl:∀ (a b:List Ex),Ex.cX (a++b)=Ex.cX a+Ex.cX b
 |[],b=>by rw[Zl,Ex.cX];omega
 |x::a,b=>by rw[ZG,Ex.cX,Ex.cX,Kl a b];omega
theorem Small.size{c:au}(h:Small c):Ex.cX (c.features.map aq.body)≤2000:=by
 have h1:=h.n
 have h2:=EJ _ _ _ h1
 rw[h2]at h1
 unfold au.all at h1
 rw[YZ,YZ,Kl,Kl]at h1
 omega
mutual
theorem Lb:∀ (x:Ex) (s:af),(s∈x.bS∨s∈x.eU)→s.size≤x.wt
 | .mk k o n t v _ _ _ ks,s,h=>by
  have ih:=Tl ks s
  rw[Ex.wt]
  rw[Ex.bS,Ex.eU,Zy,Zy]at h
  have e1:s∈(if k=3∨k=4 then[n]else[])→s=n:=fun h=>by split at h<;>simp_all
  have e2:s∈(if k=5 then[t]else[])→s=t:=fun h=>by split at h<;>simp_all
  rcases h with(h|h)|(h|h)
  ·obtain rfl:=e1 h;omega
  ·have:=ih (.inl h);omega
  ·obtain rfl:=e2 h;omega
  ·have:=ih (.inr h);omega
theorem Tl:∀ (l:List Ex) (s:af),(s∈Ex.eJ l∨s∈Ex.cI l)→s.size≤Ex.ry l
 |[],s,h=>by simp[Ex.eJ,Ex.cI]at h
 |x::l,s,h=>by
  have h1:=Lb x s
  have h2:=Tl l s
  rw[Ex.eJ,Ex.cI,Zy,Zy]at h
  rw[Ex.ry]
  rcases h with(h|h)|(h|h)
  ·have:=h1 (.inl h);omega
  ·have:=h2 (.inl h);omega
  ·have:=h1 (.inr h);omega
  ·have:=h2 (.inr h);omega
end
structure au.Fits(c:au):Prop where
 n:∀ f∈c.features,f.name.size≤2 ^ 60
 b:∀ f∈c.features,f.body.wt≤2 ^ 60
end Go.Proofs.YthdeaajdmdmfnaaGreatDoor
