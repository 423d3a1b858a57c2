/- The laws' own functions: sizes, the example. -/
import Derived.Test.YtajimcniogfpcaaGreatDoorCe
import Derived.Test.YtajimcniogfpcaaGreatDoorSet
import Derived.Test.YtajimcniogfpcaaGreatDoorCd
import Derived.Test.YtajimcniogfpcaaGreatDoorCn
import Derived.Test.YtajimcniogfpcaaGreatDoorPn
import Derived.Test.YtajimcniogfpcaaGreatDoorCg
set_option linter.unusedSimpArgs false
set_option linter.unusedVariables false
set_option maxRecDepth 100000
set_option maxHeartbeats 4000000
namespace Go.Sx
theorem Wk.sE{ez:Nat}{rows rows':List (List AV)}{nn:Bool}(h:rows=rows'):Wk (.fl ez rows) (.sl nn ez rows'):=h ▸ fun _ _ h=>h.Jl nn
end Go.Sx
namespace Go.Proofs.YtajimcniogfpcaaGreatDoor
open Go.Sx Go.Proofs Go.Tb
mutual
def ny:Ex→Int→Int
 | .mk _ _ _ _ _ _ _ _ ks,m=>dw ks m 1
def dw:List Ex→Int→Int→Int
 |[],_,n=>n
 |x::l,m,n=>if n≤m then dw l m (n+ny x (m-n))else n
end
mutual
theorem Vb:∀ (x:Ex) (m:Int),ny x m≤m→(x.size:Int)=ny x m
 | .mk _ _ _ _ _ _ _ _ ks,m,h=>by
  rw[ny]at h ⊢
  rw[Ex.size]
  have:=Gs ks m 1 h
  omega
theorem Gs:∀ (l:List Ex) (m n:Int),dw l m n≤m→dw l m n=n+(Ex.cM l:Int)
 |[],m,n,h=>by rw[dw,Ex.cM];simp
 |x::l,m,n,h=>by
  rw[dw]at h ⊢
  by_cases hn:n≤m
  ·rw[ZW hn]at h ⊢
   have h1:=Gs l m _ h
   have h2:=Vb x (m-n) (by have:0≤(Ex.cM l:Int):=Int.natCast_nonneg _;omega)
   rw[h1,Ex.cM]
   omega
  ·rw[Z5 hn]at h;omega
end
mutual
theorem zj:∀ x:Ex,x.aW.length≤x.size∧x.bU.length≤x.size
 | .mk k _ n t _ _ _ _ ks=>by
  have h:=Pw ks
  rw[Ex.aW,Ex.bU,Ex.size,Z9,Z9]
  have h1:(if k=3∨k=4 then[n]else[]).length≤1:=by split<;>simp
  have h2:(if k=5 then[t]else[]).length≤1:=by split<;>simp
  omega
theorem Pw:∀ l:List Ex,(Ex.dm l).length≤Ex.cM l∧(Ex.bK l).length≤Ex.cM l
 |[]=>by simp[Ex.dm,Ex.bK,Ex.cM]
 |x::l=>by
  have h1:=zj x
  have h2:=Pw l
  rw[Ex.dm,Ex.bK,Ex.cM,Z9,Z9];omega
end
def az.all(c:az):List aj:=c.features++c.aT++c.past
structure Small(c:az):Prop where
 t:c.tables.length≤40
 f:c.features.length≤40
 d:c.aT.length≤40
 p:c.past.length≤40
 n:dw (c.all.map aj.body) 2000 0≤2000
theorem ako(c:az):Small c↔(c.tables.length≤40∧c.features.length≤40∧c.aT.length≤40∧c.past.length≤40∧dw (c.all.map aj.body) 2000 0≤2000):=⟨fun h=>⟨h.t,h.f,h.d,h.p,h.n⟩,fun⟨a,b,c,d,e⟩=>⟨a,b,c,d,e⟩⟩
instance (c:az):Decidable (Small c):=decidable_of_iff _ (ako c).symm
theorem Eh(l:List aj):((l.map aj.cells).all fun r=>r.all AV.one)=true:=by
 rw[List.all_map,ZB];intro x _;rfl
end Go.Proofs.YtajimcniogfpcaaGreatDoor
namespace Go.Sx
section
variable {P:Program}[Glob P]{cfg:Nat→Nat}{K:af→Store→Prop}{E:List PanicEntry→Store→Prop}{σ:Store}{l:List CI}{d:Nat}{xr:XR}{ps:List Prop}{ah cf:List Nat}{ix:Nat}{ld:List CD}{og:Option Bool}
theorem VX.u4{t:TypeId}{ag bytes:Nat}{z:List Value}{x y:Operand}{w:AV}{r:List AV}{rows rs:List (List AV)}(aq:OB ps)(hb:(rows.length+(r::rs).length) * bytes≤35184372088832)(k:∀ b u c,VX P cfg l K E ((d,.s (.own ag d b u c (rows++r::rs)))::xr) ((d,b,.tail u c)::σ))(h:aD xr none [x,y]=some (og,[.fl ag rows,w],ps):=by exact rfl)(hw:dR ag w=some (r::rs):=by exact rfl):VX P cfg (⟨some d,.append t ag bytes z x y,none⟩::l) K E xr σ:=NL h hw aq hb (fun e=>nomatch e) fun _=>k
theorem VY.u4{t:TypeId}{ag bytes:Nat}{z:List Value}{x y:Operand}{w:AV}{r:List AV}{rows rs:List (List AV)}(aq:OB ps)(hb:(rows.length+(r::rs).length) * bytes≤35184372088832)(k:∀ b u c,VY P cfg ah ld K ((d,.s (.own ag d b u c (rows++r::rs)))::xr) ((d,b,.tail u c)::σ))(h:aD xr none [x,y]=some (og,[.fl ag rows,w],ps):=by exact rfl)(hw:dR ag w=some (r::rs):=by exact rfl)(ha:ah.elem d=true:=by exact rfl):VY P cfg ah (⟨ix,⟨some d,.append t ag bytes z x y,none⟩,cf⟩::ld) K xr σ:=NR h hw ha aq hb (fun e=>nomatch e) fun _=>k
theorem VY.u5{ag tg b u c:Nat}{x y:Operand}{hv:AV}{h:Int}{rows:List (List AV)}(aq:OB ps)(hb:0≤h∧h≤rows.length)(k:VY P cfg ah ld K ((d,.s (.own ag tg b u c (rows.drop h.toNat)))::xr) σ)(ha:aD xr none [x,y]=some (og,[.own ag tg b u c rows,hv],ps):=by exact rfl)(hi:iJ hv=some h:=by exact rfl):VY P cfg ah (⟨ix,⟨some d,.slice ag x (some y) none,none⟩,cf⟩::ld) K xr σ:=by
 obtain⟨_,he⟩:=bZ ha
 unfold aD gX at ha
 obtain⟨bz,h',_,_⟩:=fY ha
 have cE:og=none:=by split at h'<;>cases h';rfl
 subst cE
 have:=he aq rfl
 simp only[aE,Z3,Zn]at this
 obtain⟨q,hq⟩:=pq hi
 constructor
 simp only[bG,cm,bQ,aw.cls,aJ,al,Option.map_none,ZD,this.1,this.2,jl,hq,Xk,Zk]
 exact⟨trivial,hb.1,hb.2,Int.le_refl _,k.h⟩
end
end Go.Sx
namespace Go.Proofs.YtajimcniogfpcaaGreatDoor
open Go.Sx Go.Proofs Go.Tb
abbrev s0:ae:=⟨#[]⟩
abbrev sA:ae:=⟨#[97]⟩
abbrev sD:ae:=⟨#[100]⟩
abbrev sU:ae:=⟨#[117,115,101,114]⟩
abbrev sT:ae:=⟨#[99,108,105,99,107,115]⟩
abbrev sN:ae:=⟨#[99,111,117,110,116]⟩
abbrev bD:AV:= .v (.slice none 0 0)
def He:Ex:=⟨1,s0,s0,s0,⟨1,1,s0⟩,[],0,⟨0,0⟩,[]⟩
theorem OW{x:Ex}{l:List ae}(h:bl l)(e:x.aW=l):nH x=l:=ox (OP x) h fun s=>by rw[zc,e]
theorem L4{g:ae→List ae}{r:ae→Nat}(h:∀ a b,b∈g a→r b<r a):∀ (q:List ae) (a:ae),de g a q→r (bn a q)≤r a
 |[],a,_=>ZM _
 |b::q,a,hp=>by have h1:=L4 h q b hp.2;have h2:=h a b hp.1;rw[bn];omega
structure UR(fs:List aj)(x:Ex)(F T:List ae):Prop where
 sf:bl F
 st:bl T
 rf:∀ m∈F,Reach fs x.aW m
 rt:∀ m∈T,wm fs x.aW x.bU m
 bf:∀ m∈x.aW,m∈F
 bt:∀ m∈x.bU,m∈T
def UD(fs:List aj)(now F T:List ae):Prop:=∀ m∈now,∀ f,findF fs m=some f→(∀ s∈f.body.aW,s∈F)∧∀ s∈f.body.bU,s∈T
variable {fs:List aj}{x:Ex}{F T:List ae}
theorem UR.start(fs:List aj)(x:Ex):UR fs x (gO x ([],[])).1 (gO x ([],[])).2:=by
 have hm:=ze x ([],[])
 have hs:=Bw x ([],[]) sY sY
 exact⟨hs.1,hs.2,fun m h=> .base (by simpa using(hm.1 m).1 h),fun m h=> .inl (by simpa using(hm.2 m).1 h),fun m h=>(hm.1 m).2 (.inl h),fun m h=>(hm.2 m).2 (.inl h)⟩
theorem UR.step{n:ae}{f:aj}(h:UR fs x F T)(hn:n∈F)(hf:findF fs n=some f):UR fs x (gO f.body (F,T)).1 (gO f.body (F,T)).2:=by
 have hm:=ze f.body (F,T)
 have hs:=Bw f.body (F,T) h.sf h.st
 refine⟨hs.1,hs.2,fun m k=> ?_,fun m k=> ?_,fun m k=>(hm.1 m).2 (.inr (h.bf m k)),fun m k=>(hm.2 m).2 (.inr (h.bt m k))⟩
 ·rcases(hm.1 m).1 k with k|k
  ·exact .step (h.rf n hn) hf k
  ·exact h.rf m k
 ·rcases(hm.2 m).1 k with k|k
  ·exact .inr ⟨n,f,h.rf n hn,hf,k⟩
  ·exact h.rt m k
structure UI(fs:List aj)(x:Ex)(now:List ae)(i:Nat)(F T:List ae):Prop where
 u:UR fs x F T
 s:∀ m∈now,m∈F
 d:UD fs (now.take i) F T
theorem UI.no{now:List ae}{i:Nat}(h:UI fs x now i F T)(hi:i<now.length)(hf:findF fs (now.getD i default)=none):UI fs x now (i+1) F T:=by
 refine⟨h.u,h.s,fun m hm f zQ=> ?_⟩
 rw[ZF hi,ZJ,Zm]at hm
 rcases hm with hm|rfl
 ·exact h.d m hm f zQ
 ·rw[getD_eq hi]at hf;rw[hf]at zQ;cases zQ
def UO(fs:List aj)(x:Ex)(n:Int)(F T:List ae):Prop:=UR fs x F T∧(n= -1∨∃ now:List ae,bl now∧n=now.length∧(∀ m∈now,m∈F)∧UD fs now F T)
theorem UO.done{n:Int}(h:UO fs x n F T)(hn:n=F.length):iB fs x=F∧oB fs x=T:=by
 obtain⟨hu,jX⟩:=h
 obtain⟨now,h1,h2,h3,h4⟩:∃ now:List ae,bl now∧n=now.length∧(∀ m∈now,m∈F)∧UD fs now F T:=by
  rcases jX with h|h
  ·omega
  ·exact h
 have he:now=F:=akv h1 hu.sf h3 (by omega)
 subst he
 obtain⟨k1,k2⟩:=F0 hu.bf hu.bt hu.rf hu.rt h4
 exact⟨pK hu.sf k1,pK hu.st k2⟩
theorem UO.lt{n:Int}(h:UO fs x n F T)(hn:n≠F.length):n<F.length:=by
 obtain⟨hu,rfl|⟨now,h1,h2,h3,h4⟩⟩:=h
 ·omega
 ·have:=ic (yj h1) h3;omega
theorem UI.out{now:List ae}(hs:bl now)(h:UI fs x now now.length F T):UO fs x now.length F T:=
 ⟨h.u,.inr ⟨now,hs,rfl,h.s,by have:=h.d;rwa [XA]at this⟩⟩
abbrev gK:AV:= .v (.slice none 0 0)
theorem Gi:∀ (a b:List Ex),Ex.cM (a++b)=Ex.cM a+Ex.cM b
 |[],b=>by rw[Zl,Ex.cM];omega
 |x::a,b=>by rw[ZH,Ex.cM,Ex.cM,Gi a b];omega
theorem Small.size{c:az}(h:Small c):Ex.cM (c.features.map aj.body)≤2000:=by
 have h1:=h.n
 have h2:=Gs _ _ _ h1
 rw[h2]at h1
 unfold az.all at h1
 rw[Y7,Y7,Gi,Gi]at h1
 omega
mutual
theorem tw:∀ (x:Ex) (s:ae),(s∈x.aW∨s∈x.bU)→s.size≤x.wt
 | .mk k o n t v _ _ _ ks,s,h=>by
  have ih:=Wc ks s
  rw[Ex.wt]
  rw[Ex.aW,Ex.bU,ZJ,ZJ]at h
  have e1:s∈(if k=3∨k=4 then[n]else[])→s=n:=fun h=>by split at h<;>simp_all
  have e2:s∈(if k=5 then[t]else[])→s=t:=fun h=>by split at h<;>simp_all
  rcases h with(h|h)|(h|h)
  ·obtain rfl:=e1 h;omega
  ·have:=ih (.inl h);omega
  ·obtain rfl:=e2 h;omega
  ·have:=ih (.inr h);omega
theorem Wc:∀ (l:List Ex) (s:ae),(s∈Ex.dm l∨s∈Ex.bK l)→s.size≤Ex.tu l
 |[],s,h=>by simp[Ex.dm,Ex.bK]at h
 |x::l,s,h=>by
  have h1:=tw x s
  have h2:=Wc l s
  rw[Ex.dm,Ex.bK,ZJ,ZJ]at h
  rw[Ex.tu]
  rcases h with(h|h)|(h|h)
  ·have:=h1 (.inl h);omega
  ·have:=h2 (.inl h);omega
  ·have:=h1 (.inr h);omega
  ·have:=h2 (.inr h);omega
end
structure az.Fits(c:az):Prop where
 n:∀ f∈c.features,f.name.size≤2 ^ 60
 b:∀ f∈c.features,f.body.wt≤2 ^ 60
end Go.Proofs.YtajimcniogfpcaaGreatDoor
