/- Cycles: the least of the shortest ones. -/
import Derived.Test.YtekngilbecjkhaaGreatDoorCa
import Derived.Test.YtekngilbecjkhaaGreatDoorSet
set_option linter.unusedSimpArgs false
set_option linter.unusedVariables false
namespace Go.Proofs.YtekngilbecjkhaaGreatDoor
open Go.Sx Go.Proofs Go.Tb
inductive Stp(g:Str→List Str):Nat→Str→Str→Prop
 |one {a b:Str} (h:b∈g a):Stp g 1 a b
 |cons {k:Nat} {a b c:Str} (h:b∈g a) (t:Stp g k b c):Stp g (k+1) a c
theorem Stp.trans{g:Str→List Str}{k l:Nat}{a b c:Str}(h:Stp g k a b)(t:Stp g l b c):Stp g (k+l) a c:=by
 induction h with
 |one h=>rw[Nat.add_comm];exact .cons h t
 |cons h _ ih=>rw[Nat.add_right_comm];exact .cons h (ih t)
theorem Stp.pos{g:Str→List Str}{k:Nat}{a b:Str}(h:Stp g k a b):1≤k:=by cases h<;>omega
def Pth(g:Str→List Str):Str→List Str→Prop
 |_,[]=>True
 |a,b::l=>b∈g a∧Pth g b l
def lst:Str→List Str→Str
 |a,[]=>a
 |_,b::l=>lst b l
theorem lst_snoc:∀ (a:Str) (l:List Str) (b:Str),lst a (l++[b])=b
 |_,[],_=>rfl
 |_,x::l,b=>lst_snoc x l b
theorem Pth.snoc{g:Str→List Str}:∀ {a:Str} {l:List Str} {b:Str},Pth g a l→b∈g (lst a l)→Pth g a (l++[b])
 |_,[],_,_,h=>⟨h,trivial⟩
 |_,_::_,_,h,hb=>⟨h.1,Pth.snoc h.2 hb⟩
theorem Pth.app{g:Str→List Str}:∀ {a:Str} {l m:List Str},Pth g a l→Pth g (lst a l) m→Pth g a (l++m)
 |_,[],_,_,h=>h
 |_,_::_,_,h,hb=>⟨h.1,Pth.app h.2 hb⟩
theorem lst_app:∀ (a:Str) (l m:List Str),lst a (l++m)=lst (lst a l) m
 |_,[],_=>rfl
 |_,x::l,m=>lst_app x l m
theorem Pth.left{g:Str→List Str}:∀ {a:Str} {l m:List Str},Pth g a (l++m)→Pth g a l
 |_,[],_,_=>trivial
 |_,_::_,_,h=>⟨h.1,Pth.left h.2⟩
theorem Pth.right{g:Str→List Str}:∀ {a:Str} {l m:List Str},Pth g a (l++m)→Pth g (lst a l) m
 |_,[],_,h=>h
 |_,_::l,_,h=>Pth.right (l:=l) h.2
def Cyc(g:Str→List Str)(a:Str)(l:List Str):Prop:=Pth g a l∧a∈g (lst a l)
theorem Pth.stp{g:Str→List Str}{c:Str}:∀ {a:Str} {l:List Str},Pth g a l→c∈g (lst a l)→Stp g (l.length+1) a c
 |_,[],_,h=> .one h
 |_,_::_,h,hc=> .cons h.1 (Pth.stp h.2 hc)
theorem Stp.pth{g:Str→List Str}{k:Nat}{a c:Str}(h:Stp g k a c):∃ l,Pth g a l∧c∈g (lst a l)∧l.length+1=k:=by
 induction h with
 |one h=>exact⟨[],trivial,h,rfl⟩
 |cons h _ ih=>
  obtain⟨l,h1,h2,h3⟩:=ih
  exact⟨_::l,⟨h,h1⟩,h2,by simpa using h3⟩
def lx:List Str→List Str→Prop
 |a::l,b::m=>sLt a b=true∨a=b∧lx l m
 |_,_=>False
theorem lx_trans:∀ {l m n:List Str},lx l m→lx m n→lx l n
 |_::_,_::_,_::_,h,k=>by
  rcases h with h|⟨rfl,h⟩<;>rcases k with k|⟨rfl,k⟩
  ·exact .inl (sLt_trans h k)
  ·exact .inl h
  ·exact .inl k
  ·exact .inr ⟨rfl,lx_trans h k⟩
 |[],_,_,h,_=>by cases h
 |_::_,[],_,h,_=>by cases h
 |_::_,_::_,[],_,k=>by cases k
theorem lx_irrefl:∀ {l:List Str},¬lx l l
 |[],h=>h
 |a::l,h=>by
  rcases h with h|⟨_,h⟩
  ·rw[sLt_irrefl]at h;cases h
  ·exact lx_irrefl h
theorem lx_snoc:∀ {l m:List Str} {b c:Str},l.length=m.length→lx l m→lx (l++[b]) (m++[c])
 |_::_,_::_,_,_,hl,h=>by
  rcases h with h|⟨rfl,h⟩
  ·exact .inl h
  ·exact .inr ⟨rfl,lx_snoc (by simpa using hl) h⟩
 |[],_,_,_,_,h=>by cases h
 |_::_,[],_,_,_,h=>by cases h
theorem lx_last:∀ {l:List Str} {b c:Str},sLt b c=true→lx (l++[b]) (l++[c])
 |[],_,_,h=> .inl h
 |_::_,_,_,h=> .inr ⟨rfl,lx_last h⟩
structure Best(g:Str→List Str)(a:Str)(l:List Str):Prop where
 c:Cyc g a l
 s:∀ m,Cyc g a m→l.length≤m.length
 m:∀ m,Cyc g a m→m.length=l.length→m=l∨lx l m
theorem Best.uniq{g:Str→List Str}{a:Str}{l m:List Str}(h:Best g a l)(k:Best g a m):l=m:=by
 have h1:=h.s _ k.c
 have h2:=k.s _ h.c
 rcases h.m _ k.c (by omega)with e|e
 ·exact e.symm
 ·rcases k.m _ h.c (by omega)with e'|e'
  ·exact e'
  ·exact absurd (lx_trans e e') lx_irrefl
def ext1(p:List Str):List Str→List (List Str)×List Str→List (List Str)×List Str
 |[],s=>s
 |n::l,s=>ext1 p l (if n∈s.2 then s else(s.1++[p++[n]],s.2++[n]))
def extL(g:Str→List Str)(a:Str):List (List Str)→List (List Str)×List Str→List (List Str)×List Str
 |[],s=>s
 |p::l,s=>extL g a l (ext1 p (g (lst a p)) s)
theorem ext1_snoc(p:List Str)(n:Str):∀ (l:List Str) (s:List (List Str)×List Str),ext1 p (l++[n]) s=if n∈(ext1 p l s).2 then ext1 p l s else((ext1 p l s).1++[p++[n]],(ext1 p l s).2++[n])
 |[],s=>rfl
 |x::l,s=>ext1_snoc p n l _
theorem extL_snoc(g:Str→List Str)(a:Str)(p:List Str):∀ (l:List (List Str)) (s:List (List Str)×List Str),extL g a (l++[p]) s=ext1 p (g (lst a p)) (extL g a l s)
 |[],s=>rfl
 |x::l,s=>extL_snoc g a p l _
structure LInv(g:Str→List Str)(a:Str)(k:Nat)(D:List (List Str))(T:List Str)(s:List (List Str)×List Str):Prop where
 p:∀ q∈s.1,∃ r∈D,∃ n,q=r++[n]∧n∈g (lst a r)
 n:∀ x,x∈s.2↔x∈T∨∃ q∈s.1,lst a q=x
 d:s.2.Nodup
 o:s.1.Pairwise lx
 l:s.2.length=T.length+s.1.length
theorem LInv.start{g:Str→List Str}{a:Str}{k:Nat}{T:List Str}(h:T.Nodup):LInv g a k [] T ([],T):=
 ⟨fun q hq=>(by cases hq),fun x=>⟨.inl,fun h=>by rcases h with h|⟨q,hq,_⟩;exact h;cases hq⟩,h,.nil,by simp⟩
theorem LInv.wider{g:Str→List Str}{a:Str}{k:Nat}{D D':List (List Str)}{T:List Str}{s:List (List Str)×List Str}(h:LInv g a k D T s)(hD:∀ r∈D,r∈D'):LInv g a k D' T s:=
 ⟨fun q hq=>by obtain⟨r,hr,n,h1⟩:=h.p q hq;exact⟨r,hD r hr,n,h1⟩,h.n,h.d,h.o,h.l⟩
theorem LInv.ext1{g:Str→List Str}{a:Str}{k:Nat}{D:List (List Str)}{T:List Str}{p:List Str}(hp:p∈D)(hlen:∀ r∈D,r.length=k)(hlast:∀ r∈D,r=p∨lx r p):
  ∀ (l:List Str) (s:List (List Str)×List Str),LInv g a k D T s→(∀ n∈l,n∈g (lst a p))→Srt l→(∀ q∈s.1,∀ n∈l,lx q (p++[n]))→LInv g a k D T (Go.Proofs.YtekngilbecjkhaaGreatDoor.ext1 p l s)
 |[],s,h,_,_,_=>h
 |n::l,s,h,hg,hs,hq=>by
  have hs':=List.pairwise_cons.1 hs
  rw[Go.Proofs.YtekngilbecjkhaaGreatDoor.ext1]
  by_cases hm:n∈s.2
  ·rw[if_pos hm]
   exact LInv.ext1 hp hlen hlast l s h (fun x hx=>hg x (by simp[hx])) hs'.2 fun q hq' x hx=>hq q hq' x (by simp[hx])
  ·rw[if_neg hm]
   refine LInv.ext1 hp hlen hlast l _ ⟨fun q hq'=> ?_,fun x=> ?_,?_,?_,by have:=h.l;simp only[List.length_append,List.length_singleton];omega⟩ (fun x hx=>hg x (by simp[hx])) hs'.2 ?_
   ·rcases List.mem_append.1 hq' with h1|h1
    ·exact h.p q h1
    ·rw[List.mem_singleton]at h1;subst h1
     exact⟨p,hp,n,rfl,hg n (by simp)⟩
   ·have:=h.n x
    simp only[List.mem_append,List.mem_singleton]
    rw[this]
    constructor
    ·rintro((h1|⟨q,h1,h2⟩)|rfl)
     ·exact .inl h1
     ·exact .inr ⟨q,.inl h1,h2⟩
     ·exact .inr ⟨_,.inr rfl,lst_snoc _ _ _⟩
    ·rintro(h1|⟨q,h1|rfl,h2⟩)
     ·exact .inl (.inl h1)
     ·exact .inl (.inr ⟨q,h1,h2⟩)
     ·rw[lst_snoc]at h2;exact .inr h2.symm
   ·exact List.nodup_append.2 ⟨h.d,by simp,fun x hx y hy e=>by rw[List.mem_singleton]at hy;subst hy;subst e;exact hm hx⟩
   ·refine List.pairwise_append.2 ⟨h.o,by simp,fun q hq' y hy=> ?_⟩
    rw[List.mem_singleton]at hy;subst hy
    exact hq q hq' n (by simp)
   ·intro q hq' x hx
    rcases List.mem_append.1 hq' with h1|h1
    ·exact hq q h1 x (by simp[hx])
    ·rw[List.mem_singleton]at h1;subst h1
     exact lx_last (hs'.1 x hx)
theorem ext1_seen{p:List Str}:∀ (l:List Str) (s:List (List Str)×List Str) (x:Str),x∈s.2∨x∈l→x∈(ext1 p l s).2
 |[],s,x,h=>by
  rcases h with h|h
  ·exact h
  ·cases h
 |n::l,s,x,h=>by
  rw[ext1]
  refine ext1_seen l _ x ?_
  rcases h with h|h
  ·left;split
   ·exact h
   ·exact List.mem_append_left _ h
  ·rcases List.mem_cons.1 h with rfl|h
   ·left;split
    ·assumption
    ·simp
   ·exact .inr h
theorem ext1_keeps{p:List Str}:∀ (l:List Str) (s:List (List Str)×List Str) (q:List Str),q∈s.1→q∈(ext1 p l s).1
 |[],s,q,h=>h
 |n::l,s,q,h=>by
  rw[ext1]
  refine ext1_keeps l _ q ?_
  split
  ·exact h
  ·exact List.mem_append_left _ h
structure BInv(g:Str→List Str)(a:Str)(k:Nat)(P:List (List Str))(S:List Str):Prop where
 p:∀ q∈P,Pth g a q∧q.length=k
 o:P.Pairwise lx
 d:S.Nodup
 r:∀ x∈S,∃ q,Pth g a q∧lst a q=x∧q.length≤k
 no:∀ q,Cyc g a q→k≤q.length
 c:∀ q,Pth g a q→q.length=k→∃ r,Pth g a r∧lst a r=lst a q∧(r.length<k∨r∈P∧(r=q∨lx r q))
 z:P≠[]→k≤S.length
theorem BInv.start(g:Str→List Str)(a:Str):BInv g a 0 [[]] []:=
 ⟨fun q hq=>by rw[List.mem_singleton]at hq;subst hq;exact⟨trivial,rfl⟩,by simp,.nil,fun x hx=>(by cases hx),fun _ _=>Nat.zero_le _,
  fun q hq hl=>⟨[],trivial,by rw[List.eq_nil_of_length_eq_zero hl],.inr ⟨by simp,.inl (List.eq_nil_of_length_eq_zero hl).symm⟩⟩,fun _=>Nat.zero_le _⟩
theorem BInv.found{g:Str→List Str}{a:Str}{k:Nat}{P:List (List Str)}{S:List Str}(h:BInv g a k P S){i:Nat}{p:List Str}(hi:P[i]? =some p)(hc:a∈g (lst a p))(hn:∀ j,j<i→∀ q,P[j]? =some q→a∉g (lst a q)):Best g a p:=by
 obtain⟨hi',rfl⟩:=List.getElem?_eq_some_iff.1 hi
 obtain⟨h1,h2⟩:=h.p _ (List.getElem_mem hi')
 refine⟨⟨h1,hc⟩,fun m hm=>by rw[h2];exact h.no m hm,fun m hm hl=> ?_⟩
 obtain⟨r,hr,e,hr2⟩:=h.c m hm.1 (hl.trans h2)
 have hcr:Cyc g a r:=⟨hr,by rw[e];exact hm.2⟩
 rcases hr2 with hr2|⟨hr2,hr3⟩
 ·have:=h.no r hcr;omega
 ·obtain⟨j,hj,rfl⟩:=List.getElem_of_mem hr2
  have hij:i≤j:=by
   rcases Nat.lt_or_ge j i with hlt|hge
   ·exact absurd hcr.2 (hn j hlt _ (List.getElem?_eq_getElem hj))
   ·exact hge
  rcases Nat.eq_or_lt_of_le hij with rfl|hlt
  ·rcases hr3 with e'|e'
   ·exact .inl e'.symm
   ·exact .inr e'
  ·have:=List.pairwise_iff_getElem.1 h.o i j hi' hj hlt
   rcases hr3 with e'|e'
   ·rw[← e'];exact .inr this
   ·exact .inr (lx_trans this e')
theorem extL_inv{g:Str→List Str}(hg:∀ n,Srt (g n)){a:Str}{k:Nat}{T:List Str}(hT:T.Nodup):∀ (P:List (List Str)),(∀ q∈P,q.length=k)→P.Pairwise lx→
  LInv g a k P T (extL g a P ([],T)):=by
 intro P
 induction hP:P.length generalizing P with
 |zero=>intro _ _;rw[List.eq_nil_of_length_eq_zero hP];exact LInv.start hT
 |succ n ih=>
  intro hl ho
  obtain⟨Q,p,rfl⟩:∃ Q p,P=Q++[p]:=⟨P.dropLast,P.getLast (by intro e;subst e;simp at hP),(List.dropLast_concat_getLast _).symm⟩
  have ho':=List.pairwise_append.1 ho
  have h:=ih Q (by simpa using hP) (fun q hq=>hl q (List.mem_append_left _ hq)) ho'.1
  rw[extL_snoc]
  have hlast:∀ r∈Q++[p],r=p∨lx r p:=fun r hr=>by
   rcases List.mem_append.1 hr with h1|h1
   ·exact .inr (ho'.2.2 r h1 p (by simp))
   ·exact .inl (by simpa using h1)
  refine LInv.ext1 (D:=Q++[p]) (by simp) hl hlast _ _ (h.wider fun r hr=>List.mem_append_left _ hr) (fun n hn=>hn) (hg _) fun q hq n hn=> ?_
  obtain⟨r,hr,m,rfl,_⟩:=h.p q hq
  have h1:=hl r (List.mem_append_left _ hr)
  have h2:=hl p (by simp)
  exact lx_snoc (by omega) (ho'.2.2 r hr p (by simp))
theorem extL_has{g:Str→List Str}{a:Str}:∀ (P Q:List (List Str)) (p:List Str) (n:Str) (s:List (List Str)×List Str),n∈g (lst a p)→n∈(extL g a (P++p::Q) s).2:=by
 have keep:∀ (Q:List (List Str)) (s:List (List Str)×List Str) (n:Str),n∈s.2→n∈(extL g a Q s).2:=by
  intro Q
  induction Q with
  |nil=>intro s n h;exact h
  |cons q Q ih=>intro s n h;exact ih _ _ (ext1_seen _ _ _ (.inl h))
 intro P
 induction P with
 |nil=>intro Q p n s h;exact keep Q (ext1 p (g (lst a p)) s) n (ext1_seen _ _ _ (.inr h))
 |cons q P ih=>intro Q p n s h;exact ih Q p n _ h
theorem extL_app(g:Str→List Str)(a:Str):∀ (P Q:List (List Str)) (s:List (List Str)×List Str),extL g a (P++Q) s=extL g a Q (extL g a P s)
 |[],_,_=>rfl
 |_::P,Q,_=>extL_app g a P Q _
theorem extL_keeps{g:Str→List Str}{a:Str}:∀ (Q:List (List Str)) (s:List (List Str)×List Str) (q:List Str),q∈s.1→q∈(extL g a Q s).1
 |[],_,_,h=>h
 |_::Q,s,q,h=>extL_keeps Q _ q (ext1_keeps _ _ q h)
theorem extL_least{g:Str→List Str}(hg:∀ n,Srt (g n)){a:Str}{k:Nat}{T:List Str}(hT:T.Nodup){P:List (List Str)}(hl:∀ q∈P,q.length=k)(ho:P.Pairwise lx){r:List Str}(hr:r∈P){n:Str}(hn:n∈g (lst a r)):
  n∈T∨∃ q∈(extL g a P ([],T)).1,lst a q=n∧(q=r++[n]∨lx q (r++[n])):=by
 obtain⟨Q,Q',rfl⟩:=List.append_of_mem hr
 have e:Q++r::Q'=(Q++[r])++Q':=by simp
 rw[e]at hl ho ⊢
 have ho':=List.pairwise_append.1 ho
 have hL:=extL_inv hg hT (a:=a) (Q++[r]) (fun q hq=>hl q (List.mem_append_left _ hq)) ho'.1
 have hs:=extL_has Q [] r n ([],T) hn
 rw[extL_app]
 rcases(hL.n n).1 hs with h|⟨q,hq,h⟩
 ·exact .inl h
 ·refine .inr ⟨q,extL_keeps _ _ q hq,h,?_⟩
  obtain⟨r1,hr1,m,rfl,_⟩:=hL.p q hq
  rw[lst_snoc]at h;subst h
  rcases List.mem_append.1 hr1 with h1|h1
  ·have h2:=(List.pairwise_append.1 ho'.1).2.2 r1 h1 r (by simp)
   refine .inr (lx_snoc ?_ h2)
   rw[hl r1 (by simp[h1]),hl r (by simp)]
  ·rw[List.mem_singleton]at h1;subst h1;exact .inl rfl
theorem BInv.next{g:Str→List Str}(hg:∀ n,Srt (g n)){a:Str}{k:Nat}{P:List (List Str)}{S:List Str}(h:BInv g a k P S)(hn:∀ q∈P,a∉g (lst a q)):BInv g a (k+1) (extL g a P ([],S)).1 (extL g a P ([],S)).2:=by
 have hL:=extL_inv hg (a:=a) (k:=k) h.d P (fun q hq=>(h.p q hq).2) h.o
 have hp:∀ q∈(extL g a P ([],S)).1,Pth g a q∧q.length=k+1:=fun q hq=>by
  obtain⟨r,hr,n,rfl,hn⟩:=hL.p q hq
  obtain⟨h1,h2⟩:=h.p r hr
  exact⟨h1.snoc hn,by simp[h2]⟩
 refine⟨hp,hL.o,hL.d,fun x hx=> ?_,fun q hq=> ?_,fun q hq hl=> ?_,fun hne=> ?_⟩
 ·rcases(hL.n x).1 hx with h1|⟨q,h1,h2⟩
  ·obtain⟨q,g1,g2,g3⟩:=h.r x h1
   exact⟨q,g1,g2,by omega⟩
  ·obtain⟨g1,g2⟩:=hp q h1
   exact⟨q,g1,h2,by omega⟩
 ·have h1:=h.no q hq
  rcases Nat.eq_or_lt_of_le h1 with e|e
  ·obtain⟨r,hr,e1,hr2⟩:=h.c q hq.1 e.symm
   have hcr:Cyc g a r:=⟨hr,by rw[e1];exact hq.2⟩
   rcases hr2 with hr2|⟨hr2,_⟩
   ·have:=h.no r hcr;omega
   ·exact absurd hcr.2 (hn r hr2)
  ·exact e
 ·obtain⟨q0,n,rfl⟩:∃ q0 n,q=q0++[n]:=⟨q.dropLast,q.getLast (by intro e;subst e;simp at hl),(List.dropLast_concat_getLast _).symm⟩
  have hq0:=hq.left
  have hn':n∈g (lst a q0):=hq.right.1
  have hl0:q0.length=k:=by simpa using hl
  obtain⟨r,hr,e1,hr2⟩:=h.c q0 hq0 hl0
  rw[← e1]at hn'
  rw[lst_snoc]
  rcases hr2 with hr2|⟨hr2,hr3⟩
  ·exact⟨r++[n],hr.snoc hn',lst_snoc _ _ _,.inl (by simp;omega)⟩
  ·have hlr:=(h.p r hr2).2
   rcases extL_least hg (a:=a) (k:=k) h.d (fun q hq=>(h.p q hq).2) h.o hr2 hn' with h1|⟨q1,h1,h2,h3⟩
   ·obtain⟨q1,g1,g2,g3⟩:=h.r n h1
    exact⟨q1,g1,g2,.inl (by omega)⟩
   ·refine⟨q1,(hp q1 h1).1,h2,.inr ⟨h1,?_⟩⟩
    have h4:r++[n]=q0++[n]∨lx (r++[n]) (q0++[n]):=by
     rcases hr3 with rfl|h5
     ·exact .inl rfl
     ·exact .inr (lx_snoc (by omega) h5)
    rcases h3 with rfl|h3
    ·exact h4
    ·rcases h4 with h4|h4
     ·rw[← h4];exact .inr h3
     ·exact .inr (lx_trans h3 h4)
 ·have h1:=hL.l
  have h2:0<(extL g a P ([],S)).1.length:=List.length_pos_iff.2 hne
  have h3:P≠[]:=by
   intro e;subst e;exact hne rfl
  have:=h.z h3
  omega
theorem BInv.none{g:Str→List Str}{a:Str}{k:Nat}{S:List Str}(h:BInv g a k [] S):∀ q,¬Cyc g a q:=by
 have key:∀ (n:Nat) (q:List Str),q.length=n→¬Cyc g a q:=by
  intro n
  induction n using Nat.strongRecOn with
  |ind n ih=>
   intro q hl hq
   have h1:=h.no q hq
   have e:q=q.take k++q.drop k:=(List.take_append_drop k q).symm
   have hp:=hq.1
   rw[e]at hp
   obtain⟨r,hr,e1,hr2⟩:=h.c (q.take k) hp.left (by rw[List.length_take];omega)
   rcases hr2 with hr2|⟨hr2,_⟩
   ·refine ih (r++q.drop k).length (by rw[List.length_append,List.length_drop];omega) (r++q.drop k) rfl ⟨hr.app (by rw[e1];exact hp.right),?_⟩
    rw[lst_app,e1,← lst_app,List.take_append_drop]
    exact hq.2
   ·cases hr2
 exact fun q hq=>key q.length q rfl hq
theorem BInv.sub{g:Str→List Str}{a:Str}{k:Nat}{P:List (List Str)}{S:List Str}(h:BInv g a k P S){N:List Str}(hN:∀ x y,y∈g x→y∈N)(hd:∀ x∈S,∃ y,x∈g y):S.length≤N.length:=
 nodup_le h.d fun x hx=>by obtain⟨y,hy⟩:=hd x hx;exact hN y x hy
structure Dst(g:Str→List Str)(b:Str)(d:Str→Nat):Prop where
 r:∀ x,d x<1000→Stp g (d x) x b
 l:∀ k x,Stp g k x b→d x≤k
theorem fst_least{p:Str→Bool}:∀ {l:List Str} {x:Str},Srt l→l.find? p=some x→∀ y∈l,p y=true→y=x∨sLt x y=true
 |a::l,x,hs,h,y,hy,hp=>by
  have hs':=List.pairwise_cons.1 hs
  rw[List.find?_cons]at h
  split at h
  ·cases h
   rcases List.mem_cons.1 hy with rfl|hy
   ·exact .inl rfl
   ·exact .inr (hs'.1 y hy)
  ·rename_i hn
   rcases List.mem_cons.1 hy with rfl|hy
   ·rw[hn]at hp;cases hp
   ·exact fst_least hs'.2 h y hy hp
inductive Gre(g:Str→List Str)(d:Str→Nat):Nat→Str→List Str→Prop
 |nil {a:Str}:Gre g d 0 a []
 |cons {n:Nat} {a b:Str} {l:List Str} (h:(g a).find? (fun x=>decide (d x=n+1))=some b) (t:Gre g d n b l):Gre g d (n+1) a (b::l)
theorem Gre.len{g:Str→List Str}{d:Str→Nat}{n:Nat}{a:Str}{l:List Str}(h:Gre g d n a l):l.length=n:=by
 induction h with
 |nil=>rfl
 |cons _ _ ih=>simp[ih]
theorem Gre.pth{g:Str→List Str}{b:Str}{d:Str→Nat}(hd:Dst g b d){n:Nat}{a:Str}{l:List Str}(h:Gre g d n a l)(ha:d a=n+1)(h1:d a<1000):Pth g a l∧b∈g (lst a l):=by
 induction h with
 |nil=>
  refine⟨trivial,?_⟩
  have:=hd.r _ h1
  rw[ha]at this
  cases this with
  |one h=>exact h
  |cons _ t=>exact absurd t.pos (by omega)
 |cons h _ ih=>
  have h2:=List.find?_some h
  have h3:=List.mem_of_find?_eq_some h
  have h2:=of_decide_eq_true h2
  obtain⟨h4,h5⟩:=ih h2 (by omega)
  exact⟨⟨h3,h4⟩,h5⟩
theorem Gre.best{g:Str→List Str}(hg:∀ n,Srt (g n)){b:Str}{d:Str→Nat}(hd:Dst g b d){n:Nat}{a:Str}{l:List Str}(h:Gre g d n a l)(ha:d a=n+1)(h1:d a<1000):
  ∀ m,Pth g a m→b∈g (lst a m)→m.length=n→m=l∨lx l m:=by
 induction h with
 |nil=>intro m _ _ hl;exact .inl (List.eq_nil_of_length_eq_zero hl)
 | @cons n a c l h t ih=>
  intro m hm hb hl
  cases m with
  |nil=>simp at hl
  |cons x m=>
   have h2:d c=n+1:=by have:=List.find?_some h;exact of_decide_eq_true this
   have h3:=hd.l _ _ (Pth.stp hm.2 hb)
   have hl':m.length=n:=by simpa using hl
   have h4:n+1≤d x:=by
    rcases Nat.lt_or_ge (d x) (n+1)with hlt|hge
    ·have:=hd.l _ _ (Stp.cons hm.1 (hd.r x (by omega)))
     omega
    ·exact hge
   have h5:d x=n+1:=by omega
   rcases fst_least (hg a) h x hm.1 (by simp[h5])with rfl|h6
   ·rcases ih h2 (by omega) m hm.2 hb hl' with rfl|h7
    ·exact .inl rfl
    ·exact .inr (.inr ⟨rfl,h7⟩)
   ·exact .inr (.inl h6)
theorem Gre.isBest{g:Str→List Str}(hg:∀ n,Srt (g n)){b:Str}{d:Str→Nat}(hd:Dst g b d){n:Nat}{l:List Str}(h:Gre g d n b l)(ha:d b=n+1)(h1:d b<1000):Best g b l:=by
 have hl:=h.len
 refine⟨h.pth hd ha h1,fun m hm=> ?_,fun m hm e=>h.best hg hd ha h1 m hm.1 hm.2 (by omega)⟩
 have:=hd.l _ _ (Pth.stp hm.1 hm.2)
 omega
theorem Dst.next{g:Str→List Str}{b:Str}{d:Str→Nat}(hd:Dst g b d){n:Nat}{a:Str}(ha:d a=n+2)(h1:d a<1000):∃ c,(g a).find? (fun x=>decide (d x=n+1))=some c:=by
 have h2:=hd.r a h1
 rw[ha]at h2
 cases h2 with
 |cons h t=>
  rename_i c
  have h3:=hd.l _ _ t
  have h4:n+1≤d c:=by
   rcases Nat.lt_or_ge (d c) (n+1)with hlt|hge
   ·have:=hd.l _ _ (Stp.cons h (hd.r c (by omega)))
    omega
   ·exact hge
  cases h5:(g a).find? (fun x=>decide (d x=n+1))with
  |some c=>exact⟨c,rfl⟩
  |none=>
   have:=List.find?_eq_none.1 h5 c h
   exact absurd (by simp;omega) this
def inF(fs:List Fea)(n:Str):Bool:=(findF fs n).isSome
theorem inF_iff{fs:List Fea}{n:Str}:inF fs n=true↔∃ f∈fs,f.name=n:=by
 unfold inF findF
 rw[List.find?_isSome]
 simp
def putF:List Fea→List Str→List Str
 |[],l=>l
 |f::fs,l=>putF fs (putL l f.name)
theorem putF_mem{x:Str}:∀ {fs:List Fea} {l:List Str},x∈putF fs l↔(∃ f∈fs,f.name=x)∨x∈l
 |[],l=>by simp[putF]
 |f::fs,l=>by
  rw[putF,putF_mem (fs:=fs),putL_mem]
  simp only[List.mem_cons,exists_eq_or_imp]
  grind
theorem putF_srt:∀ {fs:List Fea} {l:List Str},Srt l→Srt (putF fs l)
 |[],_,h=>h
 |_::fs,_,h=>putF_srt (fs:=fs) (putL_srt h)
theorem srt_nil:Srt []:=List.Pairwise.nil
def namesF(fs:List Fea):List Str:=putF fs []
theorem namesF_srt(fs:List Fea):Srt (namesF fs):=putF_srt srt_nil
theorem namesF_mem{fs:List Fea}{n:Str}:n∈namesF fs↔inF fs n=true:=by
 rw[inF_iff];unfold namesF;rw[putF_mem];simp
theorem putF_len:∀ (fs:List Fea) (l:List Str),(putF fs l).length≤l.length+fs.length
 |[],l=>Nat.le_refl _
 |f::fs,l=>by
  have h1:=putF_len fs (putL l f.name)
  have h2:∀ (l:List Str) (s:Str),(putL l s).length≤l.length+1:=fun l s=>by
   induction l with
   |nil=>simp[putL]
   |cons a l ih=>
    unfold putL
    split
    ·simp only[List.length_cons];omega
    ·split
     ·simp
     ·simp
  have h3:=h2 l f.name
  rw[putF,List.length_cons];omega
theorem namesF_len(fs:List Fea):(namesF fs).length≤fs.length:=by have:=putF_len fs [];simpa[namesF]using this
def dirF(x:Ex):List Str:=(dirL x ([],[])).1
def dirT(x:Ex):List Str:=(dirL x ([],[])).2
theorem dirF_mem{x:Ex}{s:Str}:s∈dirF x↔s∈x.feats:=by rw[dirF,(dirL_mem x ([],[])).1];simp
theorem dirF_srt(x:Ex):Srt (dirF x):=(dirL_srt x ([],[]) srt_nil srt_nil).1
def deps(fs:List Fea)(n:Str):List Str:=match findF fs n with
 |some f=>(dirF f.body).filter (inF fs)
 |none=>[]
theorem srt_filter{l:List Str}{p:Str→Bool}(h:Srt l):Srt (l.filter p):=List.Pairwise.filter _ h
theorem deps_srt(fs:List Fea)(n:Str):Srt (deps fs n):=by
 unfold deps;split
 ·exact srt_filter (dirF_srt _)
 ·exact srt_nil
theorem deps_mem{fs:List Fea}{n m:Str}:m∈deps fs n↔∃ f,findF fs n=some f∧m∈f.body.feats∧inF fs m=true:=by
 unfold deps
 split
 ·rename_i f h
  rw[List.mem_filter,dirF_mem]
  constructor
  ·intro h1;exact⟨f,h,h1⟩
  ·rintro⟨f',h1,h2⟩;rw[h]at h1;cases h1;exact h2
 ·rename_i h
  constructor
  ·intro h1;cases h1
  ·rintro⟨f',h1,h2⟩;rw[h]at h1;cases h1
theorem deps_to{fs:List Fea}{n m:Str}(h:m∈deps fs n):m∈namesF fs:=by
 obtain⟨_,_,_,h⟩:=deps_mem.1 h;exact namesF_mem.2 h
theorem deps_of{fs:List Fea}{n m:Str}(h:m∈deps fs n):n∈namesF fs:=by
 obtain⟨_,h,_⟩:=deps_mem.1 h;exact namesF_mem.2 (by unfold inF;rw[h];rfl)
def ready(g:Str→List Str)(out:List Str)(n:Str):Bool:=decide (n∉out) && (g n).all fun m=>decide (m∈out)
def ordNext(g:Str→List Str)(N out:List Str):Option Str:=N.find? (ready g out)
def ordL(g:Str→List Str)(N:List Str):Nat→List Str→List Str
 |0,out=>out
 |k+1,out=>match ordNext g N out with
  |some n=>ordL g N k (out++[n])
  |none=>out
def orderL(g:Str→List Str)(N:List Str):List Str:=ordL g N N.length []
structure OInv(g:Str→List Str)(N out:List Str):Prop where
 d:out.Nodup
 s:∀ x∈out,x∈N
 e:orderL g N=ordL g N (N.length-out.length) out
 b:∀ i (hi:i<out.length),∀ m∈g out[i],m∈out.take i
theorem OInv.start(g:Str→List Str)(N:List Str):OInv g N []:=⟨.nil,fun x h=>(by cases h),rfl,fun i hi=>absurd hi (by simp)⟩
theorem ready_iff{g:Str→List Str}{out:List Str}{n:Str}:ready g out n=true↔n∉out∧∀ m∈g n,m∈out:=by
 unfold ready;simp
theorem OInv.len{g:Str→List Str}{N out:List Str}(h:OInv g N out):out.length≤N.length:=nodup_le h.d h.s
theorem OInv.step{g:Str→List Str}{N out:List Str}{n:Str}(h:OInv g N out)(hn:ordNext g N out=some n):OInv g N (out++[n])∧out.length<N.length:=by
 have h1:=List.mem_of_find?_eq_some hn
 obtain⟨h2,h3⟩:=ready_iff.1 (List.find?_some hn)
 have hd:(out++[n]).Nodup:=List.nodup_append.2 ⟨h.d,by simp,fun x hx y hy e=>by rw[List.mem_singleton]at hy;subst hy;subst e;exact h2 hx⟩
 have hs:∀ x∈out++[n],x∈N:=fun x hx=>by
  rcases List.mem_append.1 hx with hx|hx
  ·exact h.s x hx
  ·rw[List.mem_singleton]at hx;subst hx;exact h1
 have hl:=nodup_le hd hs
 rw[List.length_append,List.length_singleton]at hl
 refine⟨⟨hd,hs,?_,fun i hi m hm=> ?_⟩,hl⟩
 ·rw[h.e,show N.length-out.length=(N.length-(out++[n]).length)+1 by rw[List.length_append,List.length_singleton];omega,ordL,hn]
 ·by_cases hi2:i<out.length
  ·rw[List.getElem_append_left hi2]at hm
   rw[List.take_append_of_le_length (by omega)]
   exact h.b i hi2 m hm
  ·have e:i=out.length:=by simp at hi;omega
   subst e
   rw[List.getElem_append_right (by omega)]at hm
   simp at hm
   rw[List.take_left]
   exact h3 m hm
theorem OInv.done{g:Str→List Str}{N out:List Str}(h:OInv g N out)(hn:ordNext g N out=none):out=orderL g N:=by
 rw[h.e]
 cases hk:N.length-out.length with
 |zero=>rfl
 |succ k=>rw[ordL,hn]
theorem OInv.end_{g:Str→List Str}{N:List Str}:∃ out,OInv g N out∧ordNext g N out=none:=by
 have key:∀ k out,OInv g N out→N.length-out.length≤k→∃ out,OInv g N out∧ordNext g N out=none:=by
  intro k
  induction k with
  |zero=>
   intro out h hk
   refine⟨out,h,?_⟩
   cases hn:ordNext g N out with
   |none=>rfl
   |some n=>have:=(h.step hn).2;omega
  |succ k ih=>
   intro out h hk
   cases hn:ordNext g N out with
   |none=>exact⟨out,h,hn⟩
   |some n=>
    obtain⟨h1,h2⟩:=h.step hn
    exact ih _ h1 (by rw[List.length_append,List.length_singleton];omega)
 exact key _ [] (OInv.start g N) (Nat.le_refl _)
def IsCyc(g:Str→List Str)(N l:List Str):Prop:=
 (l=[]∧∀ a∈N,∀ q,¬Cyc g a q)∨∃ a q,l=a::q∧a∈N∧Best g a q∧(∀ b∈N,sLt b a=true→∀ m,Cyc g b m→q.length<m.length)∧∀ b∈N,∀ m,Cyc g b m→q.length≤m.length
theorem IsCyc.uniq{g:Str→List Str}{N l l':List Str}(h:IsCyc g N l)(k:IsCyc g N l'):l=l':=by
 rcases h with⟨rfl,h⟩|⟨a,q,rfl,ha,hb,h1,h2⟩<;>rcases k with⟨rfl,k⟩|⟨b,m,rfl,kb,kc,k1,k2⟩
 ·rfl
 ·exact absurd kc.c (h b kb m)
 ·exact absurd hb.c (k a ha q)
 ·have e:a=b:=by
   by_cases e1:sLt a b=true
   ·have:=k1 a ha e1 q hb.c
    have:=h2 b kb m kc.c
    omega
   ·by_cases e2:sLt b a=true
    ·have:=h1 b kb e2 m kc.c
     have:=k2 a ha q hb.c
     omega
    ·exact sLt_tri (by simpa using e1) (by simpa using e2)
  subst e
  rw[hb.uniq kc]
open Classical in
noncomputable def cycL(g:Str→List Str)(N:List Str):List Str:=if h:∃ l,IsCyc g N l then h.choose else[]
theorem cycL_eq{g:Str→List Str}{N l:List Str}(h:IsCyc g N l):cycL g N=l:=by
 have h':∃ l,IsCyc g N l:=⟨l,h⟩
 unfold cycL;rw[dif_pos h']
 exact h'.choose_spec.uniq h
def CInv(g:Str→List Str)(N:List Str)(i:Nat)(l:List Str):Prop:=
 (l=[]∧∀ j (hj:j<N.length),j<i→∀ q,¬Cyc g N[j] q)∨
  ∃ (k:Nat) (hk:k<N.length) (q:List Str),k<i∧l=N[k]::q∧Best g N[k] q∧(∀ j (hj:j<N.length),j<k→∀ m,Cyc g N[j] m→q.length<m.length)∧∀ j (hj:j<N.length),j<i→∀ m,Cyc g N[j] m→q.length≤m.length
theorem CInv.start(g:Str→List Str)(N:List Str):CInv g N 0 []:= .inl ⟨rfl,fun j _ h=>absurd h (by omega)⟩
theorem CInv.none{g:Str→List Str}{N l:List Str}{i:Nat}(h:CInv g N i l)(hi:i<N.length)(hn:∀ q,¬Cyc g N[i] q):CInv g N (i+1) l:=by
 rcases h with⟨rfl,h⟩|⟨k,hk,q,h1,rfl,h2,h3,h4⟩
 ·refine .inl ⟨rfl,fun j hj hlt q=> ?_⟩
  rcases Nat.lt_or_eq_of_le (Nat.le_of_lt_succ hlt)with h5|rfl
  ·exact h j hj h5 q
  ·exact hn q
 ·refine .inr ⟨k,hk,q,by omega,rfl,h2,h3,fun j hj hlt m hm=> ?_⟩
  rcases Nat.lt_or_eq_of_le (Nat.le_of_lt_succ hlt)with h5|rfl
  ·exact h4 j hj h5 m hm
  ·exact absurd hm (hn m)
theorem CInv.skip{g:Str→List Str}{N l p:List Str}{i:Nat}(h:CInv g N i l)(hi:i<N.length)(hb:Best g N[i] p)(hl:l≠[])(hle:l.length≤p.length+1):CInv g N (i+1) l:=by
 rcases h with⟨rfl,h⟩|⟨k,hk,q,h1,rfl,h2,h3,h4⟩
 ·exact absurd rfl hl
 ·refine .inr ⟨k,hk,q,by omega,rfl,h2,h3,fun j hj hlt m hm=> ?_⟩
  rcases Nat.lt_or_eq_of_le (Nat.le_of_lt_succ hlt)with h5|rfl
  ·exact h4 j hj h5 m hm
  ·have:=hb.s m hm
   simp only[List.length_cons]at hle
   omega
theorem CInv.take{g:Str→List Str}{N l p:List Str}{i:Nat}(h:CInv g N i l)(hi:i<N.length)(hb:Best g N[i] p)(hlt:l=[]∨p.length+1<l.length):CInv g N (i+1) (N[i]::p):=by
 refine .inr ⟨i,hi,p,by omega,rfl,hb,fun j hj hji m hm=> ?_,fun j hj hji m hm=> ?_⟩
 ·rcases h with⟨rfl,h⟩|⟨k,hk,q,h1,rfl,h2,h3,h4⟩
  ·exact absurd hm (h j hj hji m)
  ·have:=h4 j hj hji m hm
   rcases hlt with e|e
   ·cases e
   ·simp only[List.length_cons]at e;omega
 ·rcases Nat.lt_or_eq_of_le (Nat.le_of_lt_succ hji)with h5|rfl
  ·rcases h with⟨rfl,h⟩|⟨k,hk,q,h1,rfl,h2,h3,h4⟩
   ·exact absurd hm (h j hj h5 m)
   ·have:=h4 j hj h5 m hm
    rcases hlt with e|e
    ·cases e
    ·simp only[List.length_cons]at e;omega
  ·exact hb.s m hm
theorem CInv.done{g:Str→List Str}{N l:List Str}(hN:Srt N)(h:CInv g N N.length l):l=cycL g N:=by
 refine(cycL_eq ?_).symm
 have lt:∀ (k:Nat) (hk:k<N.length) (j:Nat) (hj:j<N.length),sLt N[j] N[k]=true→j<k:=fun k hk j hj h=>by
  rcases Nat.lt_or_ge j k with h1|h1
  ·exact h1
  ·rcases Nat.eq_or_lt_of_le h1 with rfl|h2
   ·rw[sLt_irrefl]at h;cases h
   ·have:=List.pairwise_iff_getElem.1 hN k j hk hj h2
    rw[sLt_asymm this]at h;cases h
 rcases h with⟨rfl,h⟩|⟨k,hk,q,h1,rfl,h2,h3,h4⟩
 ·refine .inl ⟨rfl,fun a ha q=> ?_⟩
  obtain⟨j,hj,rfl⟩:=List.getElem_of_mem ha
  exact h j hj hj q
 ·refine .inr ⟨_,q,rfl,List.getElem_mem _,h2,fun b hb hlt m hm=> ?_,fun b hb m hm=> ?_⟩
  ·obtain⟨j,hj,rfl⟩:=List.getElem_of_mem hb
   exact h3 j hj (lt k hk j hj hlt) m hm
  ·obtain⟨j,hj,rfl⟩:=List.getElem_of_mem hb
   exact h4 j hj hj m hm
end Go.Proofs.YtekngilbecjkhaaGreatDoor
