/- Catalogs: names, sorted lists of names, what is directly used. -/
import Derived.Test.YtcccbdelfhgmlaaGreatDoorYa
import Derived.Test.YtcccbdelfhgmlaaGreatDoorPt
import Derived.Test.YtcccbdelfhgmlaaGreatDoorZf
set_option linter.unusedSimpArgs false
set_option linter.unusedVariables false
set_option maxRecDepth 100000
namespace Go.Proofs.YtcccbdelfhgmlaaGreatDoor
open Go.Sx Go.Proofs
structure di where
 tables:List gV
 features:List aq
 Dy:List aq
 past:List aq
deriving Inhabited
def di.cells(c:di):List AV:=[.sl false 4 (c.tables.map gV.cells),.sl false 18 (c.features.map aq.cells),.sl false 18 (c.Dy.map aq.cells),.sl false 18 (c.past.map aq.cells)]
mutual
def lJ:Ex→List ae×List ae→List ae×List ae
 | .mk k o n t v u p w ks,a=>px ks (if k=3∨k=4 then(ju a.1 n,a.2)else if k=5 then(a.1,ju a.2 t)else a)
def px:List Ex→List ae×List ae→List ae×List ae
 |[],a=>a
 |x::l,a=>px l (lJ x a)
end
mutual
def Ex.aV:Ex→List ae
 | .mk k o n t v u p w ks=>(if k=3∨k=4 then[n]else[])++Ex.eW ks
def Ex.eW:List Ex→List ae
 |[]=>[]
 |x::l=>x.aV++Ex.eW l
end
mutual
def Ex.cy:Ex→List ae
 | .mk k o n t v u p w ks=>(if k=5 then[t]else[])++Ex.fe ks
def Ex.fe:List Ex→List ae
 |[]=>[]
 |x::l=>x.cy++Ex.fe l
end
mutual
theorem Du:∀ (x:Ex) (a:List ae×List ae),(∀ s,s∈(lJ x a).1↔s∈x.aV∨s∈a.1)∧(∀ s,s∈(lJ x a).2↔s∈x.cy∨s∈a.2)
 | .mk k o n t v u p w ks,a=>by
  have ih:=ON ks (if k=3∨k=4 then(ju a.1 n,a.2)else if k=5 then(a.1,ju a.2 t)else a)
  rw[lJ,Ex.aV,Ex.cy]
  refine⟨fun s=> ?_,fun s=> ?_⟩
  ·rw[ih.1 s,ZG]
   by_cases h:k=3∨k=4
   ·simp only[Z8 h,yR,ZI];grind
   ·by_cases h5:k=5
    ·simp only[Z9 h,Z8 h5];simp
    ·simp only[Z9 h,Z9 h5];simp
  ·rw[ih.2 s,ZG]
   by_cases h:k=3∨k=4
   ·have h5:¬k=5:=by omega
    simp only[Z8 h,Z9 h5];simp
   ·by_cases h5:k=5
    ·simp only[Z9 h,Z8 h5,yR,ZI];grind
    ·simp only[Z9 h,Z9 h5];simp
theorem ON:∀ (l:List Ex) (a:List ae×List ae),(∀ s,s∈(px l a).1↔s∈Ex.eW l∨s∈a.1)∧(∀ s,s∈(px l a).2↔s∈Ex.fe l∨s∈a.2)
 |[],a=>by simp[px,Ex.eW,Ex.fe]
 |x::l,a=>by
  have h1:=Du x a
  have h2:=ON l (lJ x a)
  rw[px,Ex.eW,Ex.fe]
  refine⟨fun s=> ?_,fun s=> ?_⟩
  ·rw[h2.1 s,h1.1 s,ZG];grind
  ·rw[h2.2 s,h1.2 s,ZG];grind
end
mutual
theorem Dv:∀ (x:Ex) (a:List ae×List ae),bO a.1→bO a.2→bO (lJ x a).1∧bO (lJ x a).2
 | .mk k o n t v u p w ks,a,h1,h2=>by
  rw[lJ]
  refine OO ks _ ?_ ?_
  ·split
   ·exact Cg h1
   ·split<;>exact h1
  ·split
   ·exact h2
   ·split
    ·exact Cg h2
    ·exact h2
theorem OO:∀ (l:List Ex) (a:List ae×List ae),bO a.1→bO a.2→bO (px l a).1∧bO (px l a).2
 |[],a,h1,h2=>by rw[px];exact⟨h1,h2⟩
 |x::l,a,h1,h2=>by
  rw[px]
  have h:=Dv x a h1 h2
  exact OO l _ h.1 h.2
end
def findF(l:List aq)(n:ae):Option aq:=l.find? fun f=>decide (f.name=n)
theorem xE{l:List aq}{n:ae}{f:aq}(h:findF l n=some f):f∈l∧f.name=n:=by
 unfold findF at h
 exact⟨List.mem_of_find?_eq_some h,by simpa using List.find?_some h⟩
inductive Reach(fs:List aq)(s:List ae):ae→Prop
 |base {n:ae} (h:n∈s):Reach fs s n
 |step {n m:ae} {f:aq} (h:Reach fs s n) (hf:findF fs n=some f) (hm:m∈f.body.aV):Reach fs s m
def xe(fs:List aq)(s t:List ae)(x:ae):Prop:=x∈t∨∃ n f,Reach fs s n∧findF fs n=some f∧x∈f.body.cy
def sj(fs:List aq)(F T:List ae):Prop:=∀ n∈F,∀ f,findF fs n=some f→(∀ m∈f.body.aV,m∈F)∧∀ x∈f.body.cy,x∈T
theorem E8{fs:List aq}{s t F T:List ae}(h1:∀ n∈s,n∈F)(h2:∀ x∈t,x∈T)(h3:∀ n∈F,Reach fs s n)(h4:∀ x∈T,xe fs s t x)(hc:sj fs F T):
  (∀ n,n∈F↔Reach fs s n)∧∀ x,x∈T↔xe fs s t x:=by
 have hF:∀ n,Reach fs s n→n∈F:=fun n h=>by
  induction h with
  |base h=>exact h1 _ h
  |step _ hf hm ih=>exact(hc _ ih _ hf).1 _ hm
 refine⟨fun n=>⟨h3 n,hF n⟩,fun x=>⟨h4 x,fun h=> ?_⟩⟩
 rcases h with h|⟨n,f,hn,hf,hx⟩
 ·exact h2 x h
 ·exact(hc n (hF n hn) f hf).2 x hx
open Classical in
noncomputable def Fy(p:ae→Prop):List ae:=if h:∃ l,bO l∧∀ x,x∈l↔p x then h.choose else[]
theorem uf{p:ae→Prop}{l:List ae}(h1:bO l)(h2:∀ x,x∈l↔p x):Fy p=l:=by
 have h:∃ l,bO l∧∀ x,x∈l↔p x:=⟨l,h1,h2⟩
 unfold Fy
 rw[dif_pos h]
 exact oP h.choose_spec.1 h1 fun x=>(h.choose_spec.2 x).trans (h2 x).symm
noncomputable def rS(fs:List aq)(x:Ex):List ae:=Fy (Reach fs x.aV)
noncomputable def rT(fs:List aq)(x:Ex):List ae:=Fy (xe fs x.aV x.cy)
theorem agN{α:Type}[DecidableEq α]{a b:List α}(h:a.Nodup)(hs:∀ x∈a,x∈b)(hl:b.length≤a.length):∀ x∈b,x∈a:=fun x hx=>by
 by_cases hm:x∈a
 ·exact hm
 ·have h2:=iN (a:=x::a) (b:=b) (YG.2 ⟨hm,h⟩) fun y hy=>by
   rcases ZV.1 hy with rfl|hy
   ·exact hx
   ·exact hs y hy
  simp only[Z6]at h2
  omega
theorem awC{a b:List ae}(ha:bO a)(hb:bO b)(hs:∀ x∈a,x∈b)(hl:b.length≤a.length):a=b:=
 oP ha hb fun x=>⟨hs x,agN (wj ha) hs hl x⟩
def univ(fs:List aq)(s:List ae):List ae:=s++fs.flatMap fun f=>f.body.aV
theorem ahY{fs:List aq}{s:List ae}{n:ae}(h:Reach fs s n):n∈univ fs s:=by
 cases h with
 |base h=>exact ZN _ h
 |step _ hf hm=>exact Zt _ (XQ.2 ⟨_,(xE hf).1,hm⟩)
end Go.Proofs.YtcccbdelfhgmlaaGreatDoor
namespace Go.Proofs.YtcccbdelfhgmlaaGreatDoor
open Go.Sx Go.Proofs Go.Tb
inductive jB(g:ae→List ae):Nat→ae→ae→Prop
 |one {a b:ae} (h:b∈g a):jB g 1 a b
 |cons {k:Nat} {a b c:ae} (h:b∈g a) (t:jB g k b c):jB g (k+1) a c
theorem jB.trans{g:ae→List ae}{k l:Nat}{a b c:ae}(h:jB g k a b)(t:jB g l b c):jB g (k+l) a c:=by
 induction h with
 |one h=>rw[Nat.add_comm];exact .cons h t
 |cons h _ ih=>rw[Nat.add_right_comm];exact .cons h (ih t)
theorem jB.pos{g:ae→List ae}{k:Nat}{a b:ae}(h:jB g k a b):1≤k:=by cases h<;>omega
def fi(g:ae→List ae):ae→List ae→Prop
 |_,[]=>True
 |a,b::l=>b∈g a∧fi g b l
def bB:ae→List ae→ae
 |a,[]=>a
 |_,b::l=>bB b l
theorem yD:∀ (a:ae) (l:List ae) (b:ae),bB a (l++[b])=b
 |_,[],_=>rfl
 |_,x::l,b=>yD x l b
theorem fi.snoc{g:ae→List ae}:∀ {a:ae} {l:List ae} {b:ae},fi g a l→b∈g (bB a l)→fi g a (l++[b])
 |_,[],_,_,h=>⟨h,trivial⟩
 |_,_::_,_,h,hb=>⟨h.1,fi.snoc h.2 hb⟩
theorem fi.app{g:ae→List ae}:∀ {a:ae} {l m:List ae},fi g a l→fi g (bB a l) m→fi g a (l++m)
 |_,[],_,_,h=>h
 |_,_::_,_,h,hb=>⟨h.1,fi.app h.2 hb⟩
theorem J6:∀ (a:ae) (l m:List ae),bB a (l++m)=bB (bB a l) m
 |_,[],_=>rfl
 |_,x::l,m=>J6 x l m
theorem fi.left{g:ae→List ae}:∀ {a:ae} {l m:List ae},fi g a (l++m)→fi g a l
 |_,[],_,_=>trivial
 |_,_::_,_,h=>⟨h.1,fi.left h.2⟩
theorem fi.right{g:ae→List ae}:∀ {a:ae} {l m:List ae},fi g a (l++m)→fi g (bB a l) m
 |_,[],_,h=>h
 |_,_::l,_,h=>fi.right (l:=l) h.2
def jj(g:ae→List ae)(a:ae)(l:List ae):Prop:=fi g a l∧a∈g (bB a l)
def lx:List ae→List ae→Prop
 |a::l,b::m=>dL a b=true∨a=b∧lx l m
 |_,_=>False
theorem EF:∀ {l m n:List ae},lx l m→lx m n→lx l n
 |_::_,_::_,_::_,h,k=>by
  rcases h with h|⟨rfl,h⟩<;>rcases k with k|⟨rfl,k⟩
  ·exact .inl (Fj h k)
  ·exact .inl h
  ·exact .inl k
  ·exact .inr ⟨rfl,EF h k⟩
 |[],_,_,h,_=>by cases h
 |_::_,[],_,h,_=>by cases h
 |_::_,_::_,[],_,k=>by cases k
theorem Sl:∀ {l:List ae},¬lx l l
 |[],h=>h
 |a::l,h=>by
  rcases h with h|⟨_,h⟩
  ·rw[y0]at h;cases h
  ·exact Sl h
theorem ED:∀ {l m:List ae} {b c:ae},l.length=m.length→lx l m→lx (l++[b]) (m++[c])
 |_::_,_::_,_,_,hl,h=>by
  rcases h with h|⟨rfl,h⟩
  ·exact .inl h
  ·exact .inr ⟨rfl,ED (by simpa using hl) h⟩
 |[],_,_,_,_,h=>by cases h
 |_::_,[],_,_,_,h=>by cases h
theorem Sn:∀ {l:List ae} {b c:ae},dL b c=true→lx (l++[b]) (l++[c])
 |[],_,_,h=> .inl h
 |_::_,_,_,h=> .inr ⟨rfl,Sn h⟩
structure oW(g:ae→List ae)(a:ae)(l:List ae):Prop where
 c:jj g a l
 s:∀ m,jj g a m→l.length≤m.length
 m:∀ m,jj g a m→m.length=l.length→m=l∨lx l m
theorem oW.uniq{g:ae→List ae}{a:ae}{l m:List ae}(h:oW g a l)(k:oW g a m):l=m:=by
 have h1:=h.s _ k.c
 have h2:=k.s _ h.c
 rcases h.m _ k.c (by omega)with e|e
 ·exact e.symm
 ·rcases k.m _ h.c (by omega)with e'|e'
  ·exact e'
  ·exact absurd (EF e e') Sl
def ext1(p:List ae):List ae→List (List ae)×List ae→List (List ae)×List ae
 |[],s=>s
 |n::l,s=>ext1 p l (if n∈s.2 then s else(s.1++[p++[n]],s.2++[n]))
def jn(g:ae→List ae)(a:ae):List (List ae)→List (List ae)×List ae→List (List ae)×List ae
 |[],s=>s
 |p::l,s=>jn g a l (ext1 p (g (bB a p)) s)
theorem Hu(p:List ae)(n:ae):∀ (l:List ae) (s:List (List ae)×List ae),ext1 p (l++[n]) s=if n∈(ext1 p l s).2 then ext1 p l s else((ext1 p l s).1++[p++[n]],(ext1 p l s).2++[n])
 |[],s=>rfl
 |x::l,s=>Hu p n l _
theorem Hv(g:ae→List ae)(a:ae)(p:List ae):∀ (l:List (List ae)) (s:List (List ae)×List ae),jn g a (l++[p]) s=ext1 p (g (bB a p)) (jn g a l s)
 |[],s=>rfl
 |x::l,s=>Hv g a p l _
structure lE(g:ae→List ae)(a:ae)(k:Nat)(D:List (List ae))(T:List ae)(s:List (List ae)×List ae):Prop where
 p:∀ q∈s.1,∃ r∈D,∃ n,q=r++[n]∧n∈g (bB a r)
 n:∀ x,x∈s.2↔x∈T∨∃ q∈s.1,bB a q=x
 d:s.2.Nodup
 o:s.1.Pairwise lx
 l:s.2.length=T.length+s.1.length
theorem lE.start{g:ae→List ae}{a:ae}{k:Nat}{T:List ae}(h:T.Nodup):lE g a k [] T ([],T):=
 ⟨fun q hq=>(by cases hq),fun x=>⟨.inl,fun h=>by rcases h with h|⟨q,hq,_⟩;exact h;cases hq⟩,h,.nil,by simp⟩
theorem lE.wider{g:ae→List ae}{a:ae}{k:Nat}{D D':List (List ae)}{T:List ae}{s:List (List ae)×List ae}(h:lE g a k D T s)(hD:∀ r∈D,r∈D'):lE g a k D' T s:=
 ⟨fun q hq=>by obtain⟨r,hr,n,h1⟩:=h.p q hq;exact⟨r,hD r hr,n,h1⟩,h.n,h.d,h.o,h.l⟩
theorem lE.ext1{g:ae→List ae}{a:ae}{k:Nat}{D:List (List ae)}{T:List ae}{p:List ae}(hp:p∈D)(hlen:∀ r∈D,r.length=k)(D7:∀ r∈D,r=p∨lx r p):
  ∀ (l:List ae) (s:List (List ae)×List ae),lE g a k D T s→(∀ n∈l,n∈g (bB a p))→bO l→(∀ q∈s.1,∀ n∈l,lx q (p++[n]))→lE g a k D T (Go.Proofs.YtcccbdelfhgmlaaGreatDoor.ext1 p l s)
 |[],s,h,_,_,_=>h
 |n::l,s,h,hg,hs,hq=>by
  have ri:=Yn.1 hs
  rw[Go.Proofs.YtcccbdelfhgmlaaGreatDoor.ext1]
  by_cases hm:n∈s.2
  ·rw[Z8 hm]
   exact lE.ext1 hp hlen D7 l s h (fun x hx=>hg x (by simp[hx])) ri.2 fun q j8 x hx=>hq q j8 x (by simp[hx])
  ·rw[Z9 hm]
   refine lE.ext1 hp hlen D7 l _ ⟨fun q j8=> ?_,fun x=> ?_,?_,?_,by have:=h.l;simp only[Z5,YU];omega⟩ (fun x hx=>hg x (by simp[hx])) ri.2 ?_
   ·rcases ZG.1 j8 with h1|h1
    ·exact h.p q h1
    ·rw[ZI]at h1;subst h1
     exact⟨p,hp,n,rfl,hg n (by simp)⟩
   ·have:=h.n x
    simp only[ZG,ZI]
    rw[this]
    constructor
    ·rintro((h1|⟨q,h1,h2⟩)|rfl)
     ·exact .inl h1
     ·exact .inr ⟨q,.inl h1,h2⟩
     ·exact .inr ⟨_,.inr rfl,yD _ _ _⟩
    ·rintro(h1|⟨q,h1|rfl,h2⟩)
     ·exact .inl (.inl h1)
     ·exact .inl (.inr ⟨q,h1,h2⟩)
     ·rw[yD]at h2;exact .inr h2.symm
   ·exact Yh.2 ⟨h.d,by simp,fun x hx y hy e=>by rw[ZI]at hy;subst hy;subst e;exact hm hx⟩
   ·refine XZ.2 ⟨h.o,by simp,fun q j8 y hy=> ?_⟩
    rw[ZI]at hy;subst hy
    exact hq q j8 n (by simp)
   ·intro q j8 x hx
    rcases ZG.1 j8 with h1|h1
    ·exact hq q h1 x (by simp[hx])
    ·rw[ZI]at h1;subst h1
     exact Sn (ri.1 x hx)
theorem Ht{p:List ae}:∀ (l:List ae) (s:List (List ae)×List ae) (x:ae),x∈s.2∨x∈l→x∈(ext1 p l s).2
 |[],s,x,h=>by
  rcases h with h|h
  ·exact h
  ·cases h
 |n::l,s,x,h=>by
  rw[ext1]
  refine Ht l _ x ?_
  rcases h with h|h
  ·left;split
   ·exact h
   ·exact ZN _ h
  ·rcases ZV.1 h with rfl|h
   ·left;split
    ·assumption
    ·simp
   ·exact .inr h
theorem O4{p:List ae}:∀ (l:List ae) (s:List (List ae)×List ae) (q:List ae),q∈s.1→q∈(ext1 p l s).1
 |[],s,q,h=>h
 |n::l,s,q,h=>by
  rw[ext1]
  refine O4 l _ q ?_
  split
  ·exact h
  ·exact ZN _ h
structure ji(g:ae→List ae)(a:ae)(k:Nat)(P:List (List ae))(S:List ae):Prop where
 p:∀ q∈P,fi g a q∧q.length=k
 o:P.Pairwise lx
 d:S.Nodup
 r:∀ x∈S,∃ q,fi g a q∧bB a q=x∧q.length≤k
 no:∀ q,jj g a q→k≤q.length
 c:∀ q,fi g a q→q.length=k→∃ r,fi g a r∧bB a r=bB a q∧(r.length<k∨r∈P∧(r=q∨lx r q))
 z:P≠[]→k≤S.length
theorem ji.start(g:ae→List ae)(a:ae):ji g a 0 [[]] []:=
 ⟨fun q hq=>by rw[ZI]at hq;subst hq;exact⟨trivial,rfl⟩,by simp,.nil,fun x hx=>(by cases hx),fun _ _=>ZH _,
  fun q hq hl=>⟨[],trivial,by rw[ZO hl],.inr ⟨by simp,.inl (ZO hl).symm⟩⟩,fun _=>ZH _⟩
theorem ji.found{g:ae→List ae}{a:ae}{k:Nat}{P:List (List ae)}{S:List ae}(h:ji g a k P S){i:Nat}{p:List ae}(hi:P[i]? =some p)(hc:a∈g (bB a p))(hn:∀ j,j<i→∀ q,P[j]? =some q→a∉g (bB a q)):oW g a p:=by
 obtain⟨dk,rfl⟩:=ZP.1 hi
 obtain⟨h1,h2⟩:=h.p _ (Zp dk)
 refine⟨⟨h1,hc⟩,fun m hm=>by rw[h2];exact h.no m hm,fun m hm hl=> ?_⟩
 obtain⟨r,hr,e,aY⟩:=h.c m hm.1 (hl.trans h2)
 have eS:jj g a r:=⟨hr,by rw[e];exact hm.2⟩
 rcases aY with aY|⟨aY,fz⟩
 ·have:=h.no r eS;omega
 ·obtain⟨j,hj,rfl⟩:=YK aY
  have gA:i≤j:=by
   rcases X6 j i with ax|Bm
   ·exact absurd eS.2 (hn j ax _ (Z4 hj))
   ·exact Bm
  rcases Nat.eq_or_lt_of_le gA with rfl|ax
  ·rcases fz with e'|e'
   ·exact .inl e'.symm
   ·exact .inr e'
  ·have:=Yj.1 h.o i j dk hj ax
   rcases fz with e'|e'
   ·rw[← e'];exact .inr this
   ·exact .inr (EF this e')
theorem O6{g:ae→List ae}(hg:∀ n,bO (g n)){a:ae}{k:Nat}{T:List ae}(hT:T.Nodup):∀ (P:List (List ae)),(∀ q∈P,q.length=k)→P.Pairwise lx→
  lE g a k P T (jn g a P ([],T)):=by
 intro P
 induction hP:P.length generalizing P with
 |zero=>intro _ _;rw[ZO hP];exact lE.start hT
 |succ n ih=>
  intro hl ho
  obtain⟨Q,p,rfl⟩:∃ Q p,P=Q++[p]:=⟨P.dropLast,P.getLast (by intro e;subst e;simp at hP),(List.dropLast_concat_getLast _).symm⟩
  have yf:=XZ.1 ho
  have h:=ih Q (by simpa using hP) (fun q hq=>hl q (ZN _ hq)) yf.1
  rw[Hv]
  have D7:∀ r∈Q++[p],r=p∨lx r p:=fun r hr=>by
   rcases ZG.1 hr with h1|h1
   ·exact .inr (yf.2.2 r h1 p (by simp))
   ·exact .inl (by simpa using h1)
  refine lE.ext1 (D:=Q++[p]) (by simp) hl D7 _ _ (h.wider fun r hr=>ZN _ hr) (fun n hn=>hn) (hg _) fun q hq n hn=> ?_
  obtain⟨r,hr,m,rfl,_⟩:=h.p q hq
  have h1:=hl r (ZN _ hr)
  have h2:=hl p (by simp)
  exact ED (by omega) (yf.2.2 r hr p (by simp))
theorem adS{g:ae→List ae}{a:ae}:∀ (P Q:List (List ae)) (p:List ae) (n:ae) (s:List (List ae)×List ae),n∈g (bB a p)→n∈(jn g a (P++p::Q) s).2:=by
 have keep:∀ (Q:List (List ae)) (s:List (List ae)×List ae) (n:ae),n∈s.2→n∈(jn g a Q s).2:=by
  intro Q
  induction Q with
  |nil=>intro s n h;exact h
  |cons q Q ih=>intro s n h;exact ih _ _ (Ht _ _ _ (.inl h))
 intro P
 induction P with
 |nil=>intro Q p n s h;exact keep Q (ext1 p (g (bB a p)) s) n (Ht _ _ _ (.inr h))
 |cons q P ih=>intro Q p n s h;exact ih Q p n _ h
theorem O5(g:ae→List ae)(a:ae):∀ (P Q:List (List ae)) (s:List (List ae)×List ae),jn g a (P++Q) s=jn g a Q (jn g a P s)
 |[],_,_=>rfl
 |_::P,Q,_=>O5 g a P Q _
theorem O7{g:ae→List ae}{a:ae}:∀ (Q:List (List ae)) (s:List (List ae)×List ae) (q:List ae),q∈s.1→q∈(jn g a Q s).1
 |[],_,_,h=>h
 |_::Q,s,q,h=>O7 Q _ q (O4 _ _ q h)
theorem adT{g:ae→List ae}(hg:∀ n,bO (g n)){a:ae}{k:Nat}{T:List ae}(hT:T.Nodup){P:List (List ae)}(hl:∀ q∈P,q.length=k)(ho:P.Pairwise lx){r:List ae}(hr:r∈P){n:ae}(hn:n∈g (bB a r)):
  n∈T∨∃ q∈(jn g a P ([],T)).1,bB a q=n∧(q=r++[n]∨lx q (r++[n])):=by
 obtain⟨Q,Q',rfl⟩:=List.append_of_mem hr
 have e:Q++r::Q'=(Q++[r])++Q':=by simp
 rw[e]at hl ho ⊢
 have yf:=XZ.1 ho
 have hL:=O6 hg hT (a:=a) (Q++[r]) (fun q hq=>hl q (ZN _ hq)) yf.1
 have hs:=adS Q [] r n ([],T) hn
 rw[O5]
 rcases(hL.n n).1 hs with h|⟨q,hq,h⟩
 ·exact .inl h
 ·refine .inr ⟨q,O7 _ _ q hq,h,?_⟩
  obtain⟨r1,bg,m,rfl,_⟩:=hL.p q hq
  rw[yD]at h;subst h
  rcases ZG.1 bg with h1|h1
  ·have h2:=(XZ.1 yf.1).2.2 r1 h1 r (by simp)
   refine .inr (ED ?_ h2)
   rw[hl r1 (by simp[h1]),hl r (by simp)]
  ·rw[ZI]at h1;subst h1;exact .inl rfl
theorem ji.next{g:ae→List ae}(hg:∀ n,bO (g n)){a:ae}{k:Nat}{P:List (List ae)}{S:List ae}(h:ji g a k P S)(hn:∀ q∈P,a∉g (bB a q)):ji g a (k+1) (jn g a P ([],S)).1 (jn g a P ([],S)).2:=by
 have hL:=O6 hg (a:=a) (k:=k) h.d P (fun q hq=>(h.p q hq).2) h.o
 have hp:∀ q∈(jn g a P ([],S)).1,fi g a q∧q.length=k+1:=fun q hq=>by
  obtain⟨r,hr,n,rfl,hn⟩:=hL.p q hq
  obtain⟨h1,h2⟩:=h.p r hr
  exact⟨h1.snoc hn,by simp[h2]⟩
 refine⟨hp,hL.o,hL.d,fun x hx=> ?_,fun q hq=> ?_,fun q hq hl=> ?_,fun aJ=> ?_⟩
 ·rcases(hL.n x).1 hx with h1|⟨q,h1,h2⟩
  ·obtain⟨q,g1,g2,g3⟩:=h.r x h1
   exact⟨q,g1,g2,by omega⟩
  ·obtain⟨g1,g2⟩:=hp q h1
   exact⟨q,g1,h2,by omega⟩
 ·have h1:=h.no q hq
  rcases Nat.eq_or_lt_of_le h1 with e|e
  ·obtain⟨r,hr,e1,aY⟩:=h.c q hq.1 e.symm
   have eS:jj g a r:=⟨hr,by rw[e1];exact hq.2⟩
   rcases aY with aY|⟨aY,_⟩
   ·have:=h.no r eS;omega
   ·exact absurd eS.2 (hn r aY)
  ·exact e
 ·obtain⟨q0,n,rfl⟩:∃ q0 n,q=q0++[n]:=⟨q.dropLast,q.getLast (by intro e;subst e;simp at hl),(List.dropLast_concat_getLast _).symm⟩
  have rh:=hq.left
  have ja:n∈g (bB a q0):=hq.right.1
  have kS:q0.length=k:=by simpa using hl
  obtain⟨r,hr,e1,aY⟩:=h.c q0 rh kS
  rw[← e1]at ja
  rw[yD]
  rcases aY with aY|⟨aY,fz⟩
  ·exact⟨r++[n],hr.snoc ja,yD _ _ _,.inl (by simp;omega)⟩
  ·have hlr:=(h.p r aY).2
   rcases adT hg (a:=a) (k:=k) h.d (fun q hq=>(h.p q hq).2) h.o aY ja with h1|⟨q1,h1,h2,h3⟩
   ·obtain⟨q1,g1,g2,g3⟩:=h.r n h1
    exact⟨q1,g1,g2,.inl (by omega)⟩
   ·refine⟨q1,(hp q1 h1).1,h2,.inr ⟨h1,?_⟩⟩
    have h4:r++[n]=q0++[n]∨lx (r++[n]) (q0++[n]):=by
     rcases fz with rfl|h5
     ·exact .inl rfl
     ·exact .inr (ED (by omega) h5)
    rcases h3 with rfl|h3
    ·exact h4
    ·rcases h4 with h4|h4
     ·rw[← h4];exact .inr h3
     ·exact .inr (EF h3 h4)
 ·have h1:=hL.l
  have h2:0<(jn g a P ([],S)).1.length:=YZ.2 aJ
  have h3:P≠[]:=by
   intro e;subst e;exact aJ rfl
  have:=h.z h3
  omega
theorem ji.none{g:ae→List ae}{a:ae}{k:Nat}{S:List ae}(h:ji g a k [] S):∀ q,¬jj g a q:=by
 have key:∀ (n:Nat) (q:List ae),q.length=n→¬jj g a q:=by
  intro n
  induction n using Nat.strongRecOn with
  |ind n ih=>
   intro q hl hq
   have h1:=h.no q hq
   have e:q=q.take k++q.drop k:=(YI k q).symm
   have hp:=hq.1
   rw[e]at hp
   obtain⟨r,hr,e1,aY⟩:=h.c (q.take k) hp.left (by rw[ZK];omega)
   rcases aY with aY|⟨aY,_⟩
   ·refine ih (r++q.drop k).length (by rw[Z5,Zj];omega) (r++q.drop k) rfl ⟨hr.app (by rw[e1];exact hp.right),?_⟩
    rw[J6,e1,← J6,YI]
    exact hq.2
   ·cases aY
 exact fun q hq=>key q.length q rfl hq
theorem ji.sub{g:ae→List ae}{a:ae}{k:Nat}{P:List (List ae)}{S:List ae}(h:ji g a k P S){N:List ae}(hN:∀ x y,y∈g x→y∈N)(hd:∀ x∈S,∃ y,x∈g y):S.length≤N.length:=
 iN h.d fun x hx=>by obtain⟨y,hy⟩:=hd x hx;exact hN y x hy
structure LZ(g:ae→List ae)(b:ae)(d:ae→Nat):Prop where
 r:∀ x,d x<1000→jB g (d x) x b
 l:∀ k x,jB g k x b→d x≤k
inductive z6(g:ae→List ae)(d:ae→Nat):Nat→ae→List ae→Prop
 |nil {a:ae}:z6 g d 0 a []
 |cons {n:Nat} {a b:ae} {l:List ae} (h:(g a).find? (fun x=>decide (d x=n+1))=some b) (t:z6 g d n b l):z6 g d (n+1) a (b::l)
theorem z6.len{g:ae→List ae}{d:ae→Nat}{n:Nat}{a:ae}{l:List ae}(h:z6 g d n a l):l.length=n:=by
 induction h with
 |nil=>rfl
 |cons _ _ ih=>simp[ih]
theorem LZ.next{g:ae→List ae}{b:ae}{d:ae→Nat}(hd:LZ g b d){n:Nat}{a:ae}(ha:d a=n+2)(h1:d a<1000):∃ c,(g a).find? (fun x=>decide (d x=n+1))=some c:=by
 have h2:=hd.r a h1
 rw[ha]at h2
 cases h2 with
 |cons h t=>
  rename_i c
  have h3:=hd.l _ _ t
  have h4:n+1≤d c:=by
   rcases X6 (d c) (n+1)with ax|Bm
   ·have:=hd.l _ _ (jB.cons h (hd.r c (by omega)))
    omega
   ·exact Bm
  cases h5:(g a).find? (fun x=>decide (d x=n+1))with
  |some c=>exact⟨c,rfl⟩
  |none=>
   have:=List.find?_eq_none.1 h5 c h
   exact absurd (by simp;omega) this
def oE(fs:List aq)(n:ae):Bool:=(findF fs n).isSome
theorem Ep{fs:List aq}{n:ae}:oE fs n=true↔∃ f∈fs,f.name=n:=by
 unfold oE findF
 rw[List.find?_isSome]
 simp
def tU:List aq→List ae→List ae
 |[],l=>l
 |f::fs,l=>tU fs (ju l f.name)
theorem Tx{x:ae}:∀ {fs:List aq} {l:List ae},x∈tU fs l↔(∃ f∈fs,f.name=x)∨x∈l
 |[],l=>by simp[tU]
 |f::fs,l=>by
  rw[tU,Tx (fs:=fs),yR]
  simp only[ZV,exists_eq_or_imp]
  grind
theorem Tz:∀ {fs:List aq} {l:List ae},bO l→bO (tU fs l)
 |[],_,h=>h
 |_::fs,_,h=>Tz (fs:=fs) (Cg h)
def bh(fs:List aq):List ae:=tU fs []
theorem EN(fs:List aq):bO (bh fs):=Tz ug
theorem qc{fs:List aq}{n:ae}:n∈bh fs↔oE fs n=true:=by
 rw[Ep];unfold bh;rw[Tx];simp
theorem Tw:∀ (fs:List aq) (l:List ae),(tU fs l).length≤l.length+fs.length
 |[],l=>ZR _
 |f::fs,l=>by
  have h1:=Tw fs (ju l f.name)
  have h2:∀ (l:List ae) (s:ae),(ju l s).length≤l.length+1:=fun l s=>by
   induction l with
   |nil=>simp[ju]
   |cons a l ih=>
    unfold ju
    split
    ·simp only[Z6];omega
    ·split
     ·simp
     ·simp
  have h3:=h2 l f.name
  rw[tU,Z6];omega
theorem EM(fs:List aq):(bh fs).length≤fs.length:=by have:=Tw fs [];simpa[bh]using this
def AK(x:Ex):List ae:=(lJ x ([],[])).1
theorem OL{x:Ex}{s:ae}:s∈AK x↔s∈x.aV:=by rw[AK,(Du x ([],[])).1];simp
theorem OM(x:Ex):bO (AK x):=(Dv x ([],[]) ug ug).1
def deps(fs:List aq)(n:ae):List ae:=match findF fs n with
 |some f=>(AK f.body).filter (oE fs)
 |none=>[]
theorem awB{l:List ae}{p:ae→Bool}(h:bO l):bO (l.filter p):=List.Pairwise.filter _ h
theorem Hk(fs:List aq)(n:ae):bO (deps fs n):=by
 unfold deps;split
 ·exact awB (OM _)
 ·exact ug
theorem Hj{fs:List aq}{n m:ae}:m∈deps fs n↔∃ f,findF fs n=some f∧m∈f.body.aV∧oE fs m=true:=by
 unfold deps
 split
 ·rename_i f h
  rw[Ze,OL]
  constructor
  ·intro h1;exact⟨f,h,h1⟩
  ·rintro⟨f',h1,h2⟩;rw[h]at h1;cases h1;exact h2
 ·rename_i h
  constructor
  ·intro h1;cases h1
  ·rintro⟨f',h1,h2⟩;rw[h]at h1;cases h1
theorem AH{fs:List aq}{n m:ae}(h:m∈deps fs n):m∈bh fs:=by
 obtain⟨_,_,_,h⟩:=Hj.1 h;exact qc.2 h
theorem acQ{fs:List aq}{n m:ae}(h:m∈deps fs n):n∈bh fs:=by
 obtain⟨_,h,_⟩:=Hj.1 h;exact qc.2 (by unfold oE;rw[h];rfl)
def ready(g:ae→List ae)(out:List ae)(n:ae):Bool:=decide (n∉out) && (g n).all fun m=>decide (m∈out)
def kj(g:ae→List ae)(N out:List ae):Option ae:=N.find? (ready g out)
def vS(g:ae→List ae)(N:List ae):Nat→List ae→List ae
 |0,out=>out
 |k+1,out=>match kj g N out with
  |some n=>vS g N k (out++[n])
  |none=>out
def oM(g:ae→List ae)(N:List ae):List ae:=vS g N N.length []
structure jA(g:ae→List ae)(N out:List ae):Prop where
 d:out.Nodup
 s:∀ x∈out,x∈N
 e:oM g N=vS g N (N.length-out.length) out
 b:∀ i (hi:i<out.length),∀ m∈g out[i],m∈out.take i
theorem jA.start(g:ae→List ae)(N:List ae):jA g N []:=⟨.nil,fun x h=>(by cases h),rfl,fun i hi=>absurd hi (by simp)⟩
theorem KF{g:ae→List ae}{out:List ae}{n:ae}:ready g out n=true↔n∉out∧∀ m∈g n,m∈out:=by
 unfold ready;simp
theorem jA.len{g:ae→List ae}{N out:List ae}(h:jA g N out):out.length≤N.length:=iN h.d h.s
theorem jA.step{g:ae→List ae}{N out:List ae}{n:ae}(h:jA g N out)(hn:kj g N out=some n):jA g N (out++[n])∧out.length<N.length:=by
 have h1:=List.mem_of_find?_eq_some hn
 obtain⟨h2,h3⟩:=KF.1 (List.find?_some hn)
 have hd:(out++[n]).Nodup:=Yh.2 ⟨h.d,by simp,fun x hx y hy e=>by rw[ZI]at hy;subst hy;subst e;exact h2 hx⟩
 have hs:∀ x∈out++[n],x∈N:=fun x hx=>by
  rcases ZG.1 hx with hx|hx
  ·exact h.s x hx
  ·rw[ZI]at hx;subst hx;exact h1
 have hl:=iN hd hs
 rw[Z5,YU]at hl
 refine⟨⟨hd,hs,?_,fun i hi m hm=> ?_⟩,hl⟩
 ·rw[h.e,show N.length-out.length=(N.length-(out++[n]).length)+1 by rw[Z5,YU];omega,vS,hn]
 ·by_cases lO:i<out.length
  ·rw[YH lO]at hm
   rw[Y0 (by omega)]
   exact h.b i lO m hm
  ·have e:i=out.length:=by simp at hi;omega
   subst e
   rw[YR (by omega)]at hm
   simp at hm
   rw[List.take_left]
   exact h3 m hm
theorem jA.done{g:ae→List ae}{N out:List ae}(h:jA g N out)(hn:kj g N out=none):out=oM g N:=by
 rw[h.e]
 cases hk:N.length-out.length with
 |zero=>rfl
 |succ k=>rw[vS,hn]
theorem jA.end_{g:ae→List ae}{N:List ae}:∃ out,jA g N out∧kj g N out=none:=by
 have key:∀ k out,jA g N out→N.length-out.length≤k→∃ out,jA g N out∧kj g N out=none:=by
  intro k
  induction k with
  |zero=>
   intro out h hk
   refine⟨out,h,?_⟩
   cases hn:kj g N out with
   |none=>rfl
   |some n=>have:=(h.step hn).2;omega
  |succ k ih=>
   intro out h hk
   cases hn:kj g N out with
   |none=>exact⟨out,h,hn⟩
   |some n=>
    obtain⟨h1,h2⟩:=h.step hn
    exact ih _ h1 (by rw[Z5,YU];omega)
 exact key _ [] (jA.start g N) (ZR _)
def wW(g:ae→List ae)(N l:List ae):Prop:=
 (l=[]∧∀ a∈N,∀ q,¬jj g a q)∨∃ a q,l=a::q∧a∈N∧oW g a q∧(∀ b∈N,dL b a=true→∀ m,jj g b m→q.length<m.length)∧∀ b∈N,∀ m,jj g b m→q.length≤m.length
theorem wW.uniq{g:ae→List ae}{N l l':List ae}(h:wW g N l)(k:wW g N l'):l=l':=by
 rcases h with⟨rfl,h⟩|⟨a,q,rfl,ha,hb,h1,h2⟩<;>rcases k with⟨rfl,k⟩|⟨b,m,rfl,kb,kc,k1,k2⟩
 ·rfl
 ·exact absurd kc.c (h b kb m)
 ·exact absurd hb.c (k a ha q)
 ·have e:a=b:=by
   by_cases e1:dL a b=true
   ·have:=k1 a ha e1 q hb.c
    have:=h2 b kb m kc.c
    omega
   ·by_cases e2:dL b a=true
    ·have:=h1 b kb e2 m kc.c
     have:=k2 a ha q hb.c
     omega
    ·exact KR (by simpa using e1) (by simpa using e2)
  subst e
  rw[hb.uniq kc]
open Classical in
noncomputable def mP(g:ae→List ae)(N:List ae):List ae:=if h:∃ l,wW g N l then h.choose else[]
theorem Dq{g:ae→List ae}{N l:List ae}(h:wW g N l):mP g N=l:=by
 have h':∃ l,wW g N l:=⟨l,h⟩
 unfold mP;rw[dif_pos h']
 exact h'.choose_spec.uniq h
def jz(g:ae→List ae)(N:List ae)(i:Nat)(l:List ae):Prop:=
 (l=[]∧∀ j (hj:j<N.length),j<i→∀ q,¬jj g N[j] q)∨
  ∃ (k:Nat) (hk:k<N.length) (q:List ae),k<i∧l=N[k]::q∧oW g N[k] q∧(∀ j (hj:j<N.length),j<k→∀ m,jj g N[j] m→q.length<m.length)∧∀ j (hj:j<N.length),j<i→∀ m,jj g N[j] m→q.length≤m.length
theorem jz.start(g:ae→List ae)(N:List ae):jz g N 0 []:= .inl ⟨rfl,fun j _ h=>absurd h (by omega)⟩
theorem jz.none{g:ae→List ae}{N l:List ae}{i:Nat}(h:jz g N i l)(hi:i<N.length)(hn:∀ q,¬jj g N[i] q):jz g N (i+1) l:=by
 rcases h with⟨rfl,h⟩|⟨k,hk,q,h1,rfl,h2,h3,h4⟩
 ·refine .inl ⟨rfl,fun j hj ax q=> ?_⟩
  rcases Yy (Yt ax)with h5|rfl
  ·exact h j hj h5 q
  ·exact hn q
 ·refine .inr ⟨k,hk,q,by omega,rfl,h2,h3,fun j hj ax m hm=> ?_⟩
  rcases Yy (Yt ax)with h5|rfl
  ·exact h4 j hj h5 m hm
  ·exact absurd hm (hn m)
theorem jz.skip{g:ae→List ae}{N l p:List ae}{i:Nat}(h:jz g N i l)(hi:i<N.length)(hb:oW g N[i] p)(hl:l≠[])(hle:l.length≤p.length+1):jz g N (i+1) l:=by
 rcases h with⟨rfl,h⟩|⟨k,hk,q,h1,rfl,h2,h3,h4⟩
 ·exact absurd rfl hl
 ·refine .inr ⟨k,hk,q,by omega,rfl,h2,h3,fun j hj ax m hm=> ?_⟩
  rcases Yy (Yt ax)with h5|rfl
  ·exact h4 j hj h5 m hm
  ·have:=hb.s m hm
   simp only[Z6]at hle
   omega
theorem jz.take{g:ae→List ae}{N l p:List ae}{i:Nat}(h:jz g N i l)(hi:i<N.length)(hb:oW g N[i] p)(ax:l=[]∨p.length+1<l.length):jz g N (i+1) (N[i]::p):=by
 refine .inr ⟨i,hi,p,by omega,rfl,hb,fun j hj j7 m hm=> ?_,fun j hj j7 m hm=> ?_⟩
 ·rcases h with⟨rfl,h⟩|⟨k,hk,q,h1,rfl,h2,h3,h4⟩
  ·exact absurd hm (h j hj j7 m)
  ·have:=h4 j hj j7 m hm
   rcases ax with e|e
   ·cases e
   ·simp only[Z6]at e;omega
 ·rcases Yy (Yt j7)with h5|rfl
  ·rcases h with⟨rfl,h⟩|⟨k,hk,q,h1,rfl,h2,h3,h4⟩
   ·exact absurd hm (h j hj h5 m)
   ·have:=h4 j hj h5 m hm
    rcases ax with e|e
    ·cases e
    ·simp only[Z6]at e;omega
  ·exact hb.s m hm
theorem jz.done{g:ae→List ae}{N l:List ae}(hN:bO N)(h:jz g N N.length l):l=mP g N:=by
 refine(Dq ?_).symm
 have lt:∀ (k:Nat) (hk:k<N.length) (j:Nat) (hj:j<N.length),dL N[j] N[k]=true→j<k:=fun k hk j hj h=>by
  rcases X6 j k with h1|h1
  ·exact h1
  ·rcases Nat.eq_or_lt_of_le h1 with rfl|h2
   ·rw[y0]at h;cases h
   ·have:=Yj.1 hN k j hk hj h2
    rw[Ue this]at h;cases h
 rcases h with⟨rfl,h⟩|⟨k,hk,q,h1,rfl,h2,h3,h4⟩
 ·refine .inl ⟨rfl,fun a ha q=> ?_⟩
  obtain⟨j,hj,rfl⟩:=YK ha
  exact h j hj hj q
 ·refine .inr ⟨_,q,rfl,Zp _,h2,fun b hb ax m hm=> ?_,fun b hb m hm=> ?_⟩
  ·obtain⟨j,hj,rfl⟩:=YK hb
   exact h3 j hj (lt k hk j hj ax) m hm
  ·obtain⟨j,hj,rfl⟩:=YK hb
   exact h4 j hj hj m hm
end Go.Proofs.YtcccbdelfhgmlaaGreatDoor
