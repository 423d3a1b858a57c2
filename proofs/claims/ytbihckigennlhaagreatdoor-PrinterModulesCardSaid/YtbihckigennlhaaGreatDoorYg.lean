/- The stable sort of problems: swaps of ranges, rotations. -/
import Derived.Test.YtbihckigennlhaaGreatDoorTz
import Derived.Test.YtbihckigennlhaaGreatDoorSxZ
import Derived.Test.YtbihckigennlhaaGreatDoorZb
import Derived.Test.YtbihckigennlhaaGreatDoorWj
set_option linter.unusedSimpArgs false
set_option linter.unusedVariables false
set_option linter.unusedSectionVars false
set_option maxRecDepth 100000
set_option maxHeartbeats 4000000
namespace Go.Proofs.YtbihckigennlhaaGreatDoor
open Go.Sx Go.Proofs
open Go.Sort (swp)
def flD(l:List dw)(d:Array Nat):List AV:=(d.toList.map fun x=>(nth l x).cells).flatten
theorem aDa(l:List dw):∀ L:List Nat,((L.map fun x=>(nth l x).cells).flatten).length=L.length * 2
 |[]=>rfl
 |x::L=>by rw[ZH,Yn,Z7,aDa l L,Z9];show 2+_=_;omega
theorem aC8(l:List dw)(d:Array Nat):(flD l d).length=d.size * 2:=by unfold flD;rw[aDa,YH]
theorem aC9(l:List dw):∀ (L:List Nat) (post:List AV) (k:Nat),k<L.length→((((L.map fun x=>(nth l x).cells).flatten)++post).drop (k * 2)).take 2=(nth l (L.getD k default)).cells
 |x::L,post,0,_=>rfl
 |x::L,post,k+1,h=>by
  rw[ZH,Yn,ZA,show(k+1) * 2=(nth l x).cells.length+k * 2 by show _=2+_;omega,List.drop_append]
  rw[Yc (by omega),Ze,Nat.add_sub_cancel_left]
  exact aC9 l L post k (by simpa using h)
theorem aJn{l:List dw}{d:Array Nat}{post:List AV}{o k:Nat}(h:k<d.size)(ho:o=k * 2):((flD l d++post).drop o).take 2=(nth l d[k]!).cells∧o+2≤(flD l d++post).length:=by
 subst ho
 constructor
 ·unfold flD
  rw[aC9 l d.toList post k (by simpa using h)]
  simp[Array.getElem!_eq_getD,Z2,Z1]
 ·rw[Z7,aC8];omega
theorem aFz(A B c:List AV)(j:Nat):over (A++B) (A.length+j) c=A++over B j c:=by
 unfold over
 rw[List.take_append,ZC (by omega),Nat.add_sub_cancel_left,Nat.add_assoc,List.drop_append,Yc (by omega),Ze,Nat.add_sub_cancel_left]
 simp only[ZA]
theorem aDc(l:List dw):∀ (L:List Nat) (post:List AV) (k x:Nat),k<L.length→over (((L.map fun x=>(nth l x).cells).flatten)++post) (k * 2) (nth l x).cells=(((L.set k x).map fun x=>(nth l x).cells).flatten)++post
 |y::L,post,0,x,_=>rfl
 |y::L,post,k+1,x,h=>by
  have e:(k+1) * 2=(nth l y).cells.length+k * 2:=by show _=2+_;omega
  rw[ZH,Yn,ZA,List.set_cons_succ,ZH,Yn,ZA,e,aFz,aDc l L post k x (by simpa using h)]
theorem aBy{l:List dw}{d:Array Nat}{post:List AV}{o k:Nat}(h:k<d.size)(ho:o=k * 2)(x:Nat):over (flD l d++post) o (nth l x).cells=flD l (d.setIfInBounds k x)++post∧o+2≤(flD l d++post).length:=by
 subst ho
 constructor
 ·unfold flD
  rw[aDc l d.toList post k x (by simpa using h)]
  simp
 ·rw[Z7,aC8];omega
abbrev aDH(p:dw):AV:= .agg p.cells
def aBw(f:FuncId)(ys:List AV)(l:List dw)(z:Nat)(d d':Array Nat):Prop:=∀ (b cap:Nat) (post:List AV) (τ:Store),Sx.Spec Tryz.prog f (.ms 12 b 0 z cap::ys) ((12,b,.cells (flD l d++post))::τ) fun x σ'=>x= .ret (.aI [])∧σ'=(12,b,.cells (flD l d'++post))::τ
theorem aCF(l:List dw)(d:Array Nat)(z:Nat)(hzz:d.size=z)(a m n:Nat)(g:AV)(ha:a+n≤d.size)(hm:m+n≤d.size)(hz:d.size≤1000000):aBw 212 [iv a,iv m,iv n,g] l z d (srS a m n d):=by
 intro b cap post τ
 subst hzz
 refine Spec.cY (fun _=>0) Tryz.func212 aEn aEC (Z8 rfl) ?_
 repeat'(first|exact .nil|refine .k0 ?_|refine .k1 ?_|refine .k2 ?_|refine .k6 ?_|refine .r1 ?_ ?_|fail)
 all_goals(try simp only[BL]at *)
 refine cQ (fun q rg σ'=>∃ (i:Nat) (d':Array Nat),i≤n∧q=n-i∧d'.size=d.size∧srL a m (n-i) i d'=srS a m n d∧σ'=(12,b,.cells (flD l d'++post))::τ∧rg=[(0,.ms 12 b 0 d.size cap),(1,iv a),(2,iv m),(3,iv n),(10,iv i)]) n rfl ⟨_,_,Zr,Zs,0,d,ZK _,rfl,rfl,rfl,rfl,rfl⟩ ?_
 rintro q _ _ ⟨i,d',hi,hq,hs,hd,rfl,rfl⟩
 have hw:IntKind.i64.wrap ((m:Int)+(i:Int))=((m+i:Nat):Int):=by rw[aW (by omega)];rfl
 have hv:IntKind.i64.wrap ((a:Int)+(i:Int))=((a+i:Nat):Int):=by rw[aW (by omega)];rfl
 repeat'(first|exact .nil|refine .k0 ?_|refine .k1 ?_|refine .k2 ?_|refine .k3 ?_|refine .k6 ?_|refine .k8 ?_|refine .k9 ?_|(refine .cd ?_ ?_<;>(intro hc;skip))|refine .r1 ?_ ?_|refine .r2 ?_ ?_|refine .r8 ?_ ?_|fail)
 ·rw[hw];have:=of_decide_eq_true hc;omega
 ·refine aJm rfl (by rfl) rfl (by first|exact aJn (k:=m+i) (by have:=of_decide_eq_true hc;omega) (by rw[hw];omega)|fail) (by rfl) .nil ?_
  repeat'(first|exact .nil|refine .k1 ?_|refine .r1 ?_ ?_|refine .r8 ?_ ?_|fail)
  ·rw[hv];have:=of_decide_eq_true hc;omega
  refine aJm rfl (by rfl) rfl (by first|exact aJn (k:=a+i) (by have:=of_decide_eq_true hc;omega) (by rw[hv];omega)|fail) (by rfl) .nil ?_
  repeat'(first|exact .nil|refine .r1 ?_ ?_|refine .r8 ?_ ?_|fail)
  ·rw[hv];have:=of_decide_eq_true hc;omega
  refine aJy rfl rfl (by rfl) rfl (by rfl) (by exact aBy (k:=a+i) (by have:=of_decide_eq_true hc;omega) (by rw[hv];omega) _) (by rfl) .nil ?_
  repeat'(first|exact .nil|refine .r1 ?_ ?_|refine .r8 ?_ ?_|fail)
  ·rw[hw];have:=of_decide_eq_true hc;omega
  refine aJy rfl rfl (by rfl) rfl (by rfl) (by first|exact aBy (k:=m+i) (by have:=of_decide_eq_true hc;(rw[Array.size_setIfInBounds];omega)) (by rw[hw];omega) _|fail) (by rfl) .nil ?_
  repeat'(first|exact .nil|refine .k0 ?_|refine .k1 ?_|refine .k2 ?_|refine .r1 ?_ ?_|fail)
  have sV:i<n:=by have:=of_decide_eq_true hc;omega
  rw[aL,aL]
  rw[show n-i=(n-(i+1))+1 by omega,srL]at hd
  refine⟨n-(i+1),by omega,_,_,Zr,Zs,i+1,swp d' (a+i) (m+i),by omega,rfl,by rw[aBB];exact hs,hd,rfl,by rw[aW (by omega)];rfl⟩
 ·have EF:i=n:=by have:=of_decide_eq_false hc;omega
  subst EF
  rw[Nat.sub_self,srL]at hd
  rw[hd]
  exact⟨rfl,rfl⟩
abbrev rr:Value:= .func (.func 67) #[] #[]
theorem aJl{a b:Nat}(h:b≤a)(ha:a≤4000000):IntKind.i64.wrap ((a:Int)-(b:Int))=((a-b:Nat):Int):=by rw[aW (by omega)];omega
theorem aCd{a b:Nat}(ha:a+b≤4000000):IntKind.i64.wrap ((a:Int)+(b:Int))=((a+b:Nat):Int):=by rw[aW (by omega)];rfl
theorem aFM(l:List dw)(d:Array Nat)(z:Nat)(hzz:d.size=z)(a m e:Nat)(ha:a<m)(hm:m<e)(he:e≤d.size)(hz:d.size≤1000000):aBw 186 [iv a,iv m,iv e,.v rr] l z d (aJo m (e-a) (m-a) (e-m) d):=by
 intro b cap post τ
 subst hzz
 refine Spec.cY (fun _=>0) Tryz.func186 aEm aEB (Z8 rfl) ?_
 repeat'(first|exact .nil|refine .k0 ?_|refine .k1 ?_|refine .k2 ?_|refine .k6 ?_|refine .r1 ?_ ?_|fail)
 refine cQ (fun q rg σ'=>∃ (i j:Nat) (d':Array Nat),1≤i∧1≤j∧i≤m∧m+j≤d.size∧i+j≤q∧d'.size=d.size∧aJo m q i j d'=aJo m (e-a) (m-a) (e-m) d∧σ'=(12,b,.cells (flD l d'++post))::τ∧rg=[(0,.ms 12 b 0 d.size cap),(2,iv m),(4,.v rr),(10,iv i),(11,iv j)]) (e-a) rfl ⟨_,_,Zr,Zs,m-a,e-m,d,by omega,by omega,by omega,by omega,by omega,rfl,rfl,rfl,by rw[aJl (by omega) (by omega),aJl (by omega) (by omega)]⟩ ?_
 rintro q _ _ ⟨i,j,d',hi,hj,ED,hjm,hq,hs,hd,rfl,rfl⟩
 repeat'(first|exact .nil|refine .k0 ?_|refine .k1 ?_|refine .k2 ?_|refine .k6 ?_|refine .k8 ?_|refine .k9 ?_|(refine .cd ?_ ?_<;>(intro hc;skip))|refine .r1 ?_ ?_|fail)
 all_goals(try simp only[BL]at *)
 ·rw[aJl (by omega) (by omega)]
  refine se rfl (aCF l d' d.size hs (m-i) m j _ (by omega) (by omega) (by omega) b cap post τ) .nil (fun x σ' hR=> ?_) (fun ch σ' hR=> ?_)
  ·obtain⟨e1,rfl⟩:=hR
   cases e1
   repeat'(first|exact .nil|refine .k0 ?_|refine .k1 ?_|refine .k2 ?_|refine .r1 ?_ ?_|fail)
   obtain⟨q,rfl⟩:∃ p,q=p+1:=⟨q-1,by omega⟩
   rw[aJo,if_neg (by omega),if_pos (by omega)]at hd
   refine⟨q,by omega,_,_,Zr,Zs,i-j,j,srS (m-i) m j d',by omega,by omega,by omega,by omega,by omega,by rw[aB1];exact hs,hd,rfl,by rw[aJl (by omega) (by omega)]⟩
  ·obtain⟨e1,_⟩:=hR;cases e1
 ·rw[aCd (by omega),aJl (by omega) (by omega),aJl (by omega) (by omega)]
  refine se rfl (aCF l d' d.size hs (m-i) (m+j-i) i _ (by omega) (by omega) (by omega) b cap post τ) .nil (fun x σ' hR=> ?_) (fun ch σ' hR=> ?_)
  ·obtain⟨e1,rfl⟩:=hR
   cases e1
   repeat'(first|exact .nil|refine .k0 ?_|refine .k1 ?_|refine .k2 ?_|refine .r1 ?_ ?_|fail)
   obtain⟨q,rfl⟩:∃ p,q=p+1:=⟨q-1,by omega⟩
   rw[aJo,if_neg (by omega),if_neg (by omega)]at hd
   refine⟨q,by omega,_,_,Zr,Zs,i,j-i,srS (m-i) (m+j-i) i d',by omega,by omega,by omega,by omega,by omega,by rw[aB1];exact hs,hd,rfl,by rw[aJl (by omega) (by omega)]⟩
  ·obtain⟨e1,_⟩:=hR;cases e1
 ·have gu:i=j:=by omega
  subst gu
  rw[aJl (by omega) (by omega)]
  refine se rfl (aCF l d' d.size hs (m-i) m i _ (by omega) (by omega) (by omega) b cap post τ) .nil (fun x σ' hR=> ?_) (fun ch σ' hR=> ?_)
  ·obtain⟨e1,rfl⟩:=hR
   cases e1
   repeat'(first|exact .nil|refine .k1 ?_|refine .k3 ?_|refine .r2 ?_ ?_|fail)
   obtain⟨q,rfl⟩:∃ p,q=p+1:=⟨q-1,by omega⟩
   rw[aJo,if_pos rfl]at hd
   rw[hd]
   exact⟨rfl,rfl⟩
  ·obtain⟨e1,_⟩:=hR;cases e1
theorem aDA{p:Prop}:OB [p→p]:= .cons (fun h=>h) .nil
theorem aB3(p q:dw):Pure Tryz.prog 67 [aDH p,aDH q] (iv (IntKind.i64.wrap (p.at_-q.at_))):=by
 refine k67.p fun σ=> ?_
 repeat'(first|exact .nil|refine .k0 ?_|refine .k1 ?_|refine .k2 ?_|refine .k7 ?_|refine .r1 ?_ ?_|(refine .m1 ?_ ?_;intro b)|fail)
 all_goals(try simp only[BL]at *)
 exact Sx.Fin.intro Zs rfl
theorem aDl(l:List dw)(d:Array Nat)(z:Nat)(hzz:d.size=z)(a e:Nat)(he:e≤d.size)(ha:a≤e)(hz:d.size≤1000000):aBw 160 [iv a,iv e,.v rr] l z d (aBG (hO l) a e d):=by
 intro b cap post τ
 subst hzz
 refine Spec.cY (fun _=>0) Tryz.func160 aEk aEz (Z8 rfl) ?_
 repeat'(first|exact .nil|refine .k0 ?_|refine .k1 ?_|refine .k2 ?_|refine .k6 ?_|refine .r1 ?_ ?_|fail)
 have w1:IntKind.i64.wrap ((a:Int)+1)=((a+1:Nat):Int):=by rw[aW (by omega)];rfl
 rw[w1]
 refine cQ (fun q rg σ'=>∃ (i:Nat) (d':Array Nat),a+1≤i∧q=e-i∧d'.size=d.size∧aBF (hO l) a (e-i) i d'=aBG (hO l) a e d∧σ'=(12,b,.cells (flD l d'++post))::τ∧rg=[(0,.ms 12 b 0 d.size cap),(1,iv a),(2,iv e),(3,.v rr),(8,iv i)]) (e-(a+1)) rfl ⟨_,_,Zr,Zs,a+1,d,by omega,rfl,rfl,rfl,rfl,rfl⟩ ?_
 rintro q _ _ ⟨i,d1,hi,hq,jd,Eo,rfl,rfl⟩
 repeat'(first|exact .nil|refine .k0 ?_|refine .k1 ?_|refine .k2 ?_|refine .k3 ?_|refine .k6 ?_|refine .k8 ?_|refine .k9 ?_|(refine .cd ?_ ?_<;>(intro hc;skip))|refine .r1 ?_ ?_|refine .r2 ?_ ?_|fail)
 all_goals(try simp only[BL]at *)
 ·refine cQ (fun q rg σ'=>∃ (j:Nat) (d':Array Nat),j≤i∧q=j∧d'.size=d.size∧at1 (hO l) a j d'=at1 (hO l) a i d1∧σ'=(12,b,.cells (flD l d'++post))::τ∧rg=[(0,.ms 12 b 0 d.size cap),(1,iv a),(2,iv e),(3,.v rr),(8,iv i),(9,iv j)]) i rfl ⟨_,_,Zr,Zs,i,d1,ZI _,rfl,jd,rfl,rfl,rfl⟩ ?_
  rintro q2 _ _ ⟨j,d',hj,dQ,hs,hd,rfl,rfl⟩
  have hw:(IntKind.i64.wrap ((j:Int)-1)).toNat=j-1:=by rw[aW (by omega)];omega
  repeat'(first|exact .nil|refine .k1 ?_|refine .k4 ?_|refine .k5 ?_|refine .r1 ?_ ?_|refine .r8 ?_ ?_|fail)
  ·intro _;omega
  refine aJm rfl (by rfl) rfl (by first|exact aJn (k:=j) (by omega) (by omega)|fail) (by rfl) (by exact aDA) ?_
  repeat'(first|exact .nil|refine .k4 ?_|refine .r1 ?_ ?_|refine .r8 ?_ ?_|fail)
  ·intro h;have:=of_decide_eq_true h;rw[aW (by omega)];omega
  refine aJm rfl (by rfl) rfl (by first|exact aJn (k:=j-1) (by omega) (by rw[Zh,hw])|fail) (by rfl) (by exact aDA) ?_
  repeat'(first|exact .nil|refine .k0 ?_|refine .k1 ?_|refine .k2 ?_|refine .k3 ?_|refine .k4 ?_|refine .k6 ?_|refine .k8 ?_|refine .k9 ?_|(refine .cd ?_ ?_<;>(intro hc;skip))|refine .r1 ?_ ?_|refine .an rfl (by intro bx;exact aB3 _ _) ?_ ?_|refine .r8 ?_ ?_|fail)
  all_goals(try simp only[BL]at *)
  ·have h5:=hc.1
   rw[aW (by omega)];omega
  ·refine aJm rfl (by rfl) rfl (by first|exact aJn (k:=j-1) (by omega) (by rw[Zh,hw])|fail) (by rfl) (by first|exact .nil|fail) ?_
   repeat'(first|exact .nil|refine .r1 ?_ ?_|refine .r8 ?_ ?_|fail)
   ·omega
   refine aJm rfl (by rfl) rfl (by first|exact aJn (k:=j) (by omega) (by omega)|fail) (by rfl) (by first|exact .nil|fail) ?_
   repeat'(first|exact .nil|refine .r1 ?_ ?_|refine .r8 ?_ ?_|fail)
   ·omega
   refine aJy rfl rfl (by rfl) rfl (by rfl) (by exact aBy (k:=j) (by omega) (by omega) _) (by rfl) .nil ?_
   repeat'(first|exact .nil|refine .r1 ?_ ?_|refine .r8 ?_ ?_|fail)
   ·rw[aW (by omega)];omega
   refine aJy rfl rfl (by rfl) rfl (by rfl) (by first|exact aBy (k:=j-1) (by(rw[Array.size_setIfInBounds];omega)) (by rw[Zh,hw]) _|fail) (by rfl) .nil ?_
   repeat'(first|exact .nil|refine .k0 ?_|refine .k1 ?_|refine .k2 ?_|refine .r1 ?_ ?_|fail)
   rw[aL,aL]
   obtain⟨k,rfl⟩:∃ k,j=k+1:=⟨j-1,by omega⟩
   rw[at1,if_pos ⟨by omega,Zi (by exact hc.2)⟩]at hd
   exact⟨k,by omega,_,_,Zr,Zs,k,swp d' (k+1) k,by omega,rfl,by rw[aBB];exact hs,hd,rfl,by rw[show((k+1:Nat):Int)-1=k by omega,aW (by omega)]⟩
  ·have aE0:at1 (hO l) a j d'=d':=by
    cases j with
    |zero=>rfl
    |succ k=>
     rw[at1,if_neg]
     rintro⟨g1,g2⟩
     have g3:=of_decide_eq_true g2
     rcases hc with hc|hc
     ·omega
     ·exact hc g3
   rw[aE0]at hd
   rw[show e-i=(e-(i+1))+1 by omega,aBF,← hd]at Eo
   exact⟨e-(i+1),by omega,_,_,Zr,Zs,i+1,d',by omega,rfl,hs,Eo,rfl,by rw[aW (by omega)];rfl⟩
 ·have j0:e-i=0:=by omega
  rw[j0,aBF]at Eo
  rw[Eo]
  exact⟨trivial,rfl⟩
set_option maxHeartbeats 8000000
theorem aCe{x y:Nat}(h:x+y≤4000000):IntKind.i64.wrap (IntKind.u64.wrap (IntKind.i64.wrap ((x:Int)+(y:Int))) / 2 ^ Int.toNat 1)=(((x+y) / 2:Nat):Int):=by
 rw[aW (n:=(x:Int)+y) (by omega),IntKind.wrap_u64,show(2:Int) ^ Int.toNat 1=2 from rfl,aW (by omega)];omega
theorem aCl{q:Nat→Bool}{i j:Nat}(h:¬i<j):∀ n,bsN q n i j=i
 |0=>rfl
 |n+1=>by rw[bsN,if_neg h]
theorem aCk(q:Nat→Bool):∀ (n i j:Nat),i≤j→i≤bsN q n i j∧bsN q n i j≤j
 |0,i,j,h=>⟨ZI _,h⟩
 |n+1,i,j,h=>by
  unfold bsN
  split
  ·split
   ·have:=aCk q n ((i+j) / 2+1) j (by omega);omega
   ·have:=aCk q n i ((i+j) / 2) (by omega);omega
  ·omega
theorem aIU(l:List dw)(n:Nat)(ih:∀ (d:Array Nat) (z:Nat),d.size=z→∀ a m e:Nat,a<m→m<e→e≤d.size→e-a≤n→d.size≤1000000→aBw 161 [iv a,iv m,iv e,.v rr] l z d (aJi (hO l) n a m e d))
  (d:Array Nat) (z:Nat) (hzz:d.size=z) (a m e:Nat) (ha:a<m) (hm:m<e) (he:e≤d.size) (hn:e-a≤n+1) (hz:d.size≤1000000):aBw 161 [iv a,iv m,iv e,.v rr] l z d (aJi (hO l) (n+1) a m e d):=by
 intro b cap post τ
 subst hzz
 refine Spec.cY (fun _=>0) Tryz.func161 aEl aEA (Z8 rfl) ?_
 repeat'(first|exact .nil|refine .k0 ?_|refine .k1 ?_|refine .k2 ?_|refine .k6 ?_|refine .k9 ?_|(refine .cd ?_ ?_<;>(intro hc;skip))|refine .r1 ?_ ?_|fail)
 ·have ia:=of_decide_eq_true hc
  rw[aJl (by omega) (by omega)]at ia
  have hma:m-a=1:=by omega
  clear hc ia
  rw[show aJi (hO l) (n+1) a m e d=upL (bsN (fun h=>hO l d[h]! d[a]!) (e-m) m e-1-a) a d by rw[aJi,if_pos hma]]
  generalize Xy:bsN (fun h=>hO l d[h]! d[a]!) (e-m) m e=s at *
  refine cQ (fun q rg σ'=>∃ i j,m≤i∧i≤j∧j≤e∧j-i≤q∧bsN (fun h=>hO l d[h]! d[a]!) q i j=s∧σ'=(12,b,.cells (flD l d++post))::τ∧rg=[(0,.ms 12 b 0 d.size cap),(1,iv a),(4,.v rr),(10,iv i),(11,iv j)]) (e-m) rfl ⟨_,_,Zr,Zs,m,e,by omega,by omega,by omega,by omega,Xy,rfl,rfl⟩ ?_
  rintro q _ _ ⟨i,j,hi,gu,hj,hq,hb,rfl,rfl⟩
  have hh:=aCe (x:=i) (y:=j) (by omega)
  repeat'(first|exact .nil|refine .k0 ?_|refine .k1 ?_|refine .k2 ?_|refine .k5 ?_|refine .k6 ?_|refine .k8 ?_|refine .k9 ?_|(refine .cd ?_ ?_<;>(intro hc;skip))|refine .r1 ?_ ?_|refine .r8 ?_ ?_|fail)
  all_goals(try simp only[BL]at *)
  ·exact⟨by decide,by decide⟩
  ·rw[hh];omega
  ·rw[hh]
   refine aJm rfl (by rfl) rfl (by first|exact aJn (k:=(i+j) / 2) (by omega) (by omega)|fail) (by rfl) (by first|exact .nil|fail) ?_
   repeat'(first|exact .nil|refine .r1 ?_ ?_|refine .r8 ?_ ?_|fail)
   ·omega
   refine aJm rfl (by rfl) rfl (by exact aJn (k:=a) (by omega) (by omega)) (by rfl) (by first|exact .nil|fail) ?_
   repeat'(first|exact .nil|refine .k0 ?_|refine .k1 ?_|refine .k2 ?_|(refine .cd ?_ ?_<;>(intro hc;skip))|refine .r1 ?_ ?_|refine .an rfl (by intro bx;exact aB3 _ _) ?_ ?_|fail)
   ·obtain⟨q,rfl⟩:∃ p,q=p+1:=⟨q-1,by omega⟩
    rw[bsN,if_pos (by omega),if_pos (by exact hc)]at hb
    exact⟨q,by omega,_,_,Zr,Zs,(i+j) / 2+1,j,by omega,by omega,by omega,by omega,hb,rfl,by rw[aW (by omega)];rfl⟩
   ·obtain⟨q,rfl⟩:∃ p,q=p+1:=⟨q-1,by omega⟩
    rw[bsN,if_pos (by omega),if_neg (by rw[show hO l d[(i+j) / 2]! d[a]! =false from hc];decide)]at hb
    exact⟨q,by omega,_,_,Zr,Zs,i,(i+j) / 2,by omega,by omega,by omega,by omega,hb,rfl,rfl⟩
  ·rw[aCl (by omega)]at hb
   subst hb
   have jf:IntKind.i64.wrap ((i:Int)-1)=((i-1:Nat):Int):=by rw[aW (by omega)];omega
   refine cQ (fun q rg σ'=>∃ (k:Nat) (d':Array Nat),a≤k∧k≤i-1∧q=i-1-k∧d'.size=d.size∧upL (i-1-k) k d'=upL (i-1-a) a d∧σ'=(12,b,.cells (flD l d'++post))::τ∧rg=[(0,.ms 12 b 0 d.size cap),(10,iv i),(13,iv k)]) (i-1-a) rfl ⟨_,_,Zr,Zs,a,d,by omega,by omega,rfl,rfl,rfl,rfl,rfl⟩ ?_
   rintro q2 _ _ ⟨k,d',hk,Ln,dQ,hs,hd,rfl,rfl⟩
   have hwk:IntKind.i64.wrap ((k:Int)+1)=((k+1:Nat):Int):=by rw[aW (by omega)];rfl
   repeat'(first|exact .nil|refine .k0 ?_|refine .k1 ?_|refine .k2 ?_|refine .k3 ?_|refine .k6 ?_|refine .k7 ?_|refine .k8 ?_|refine .k9 ?_|(refine .cd ?_ ?_<;>(intro hc;skip))|refine .r1 ?_ ?_|refine .r8 ?_ ?_|fail)
   all_goals(try rw[jf]at hc)
   all_goals(try simp only[BL]at *)
   ·rw[hwk];omega
   ·refine aJm rfl (by rfl) rfl (by first|exact aJn (k:=k+1) (by omega) (by rw[hwk];omega)|fail) (by rfl) (by first|exact .nil|fail) ?_
    repeat'(first|exact .nil|refine .r1 ?_ ?_|refine .r8 ?_ ?_|fail)
    ·omega
    refine aJm rfl (by rfl) rfl (by first|exact aJn (k:=k) (by omega) (by omega)|fail) (by rfl) (by first|exact .nil|fail) ?_
    repeat'(first|exact .nil|refine .r1 ?_ ?_|refine .r8 ?_ ?_|fail)
    ·omega
    refine aJy rfl rfl (by rfl) rfl (by rfl) (by exact aBy (k:=k) (by omega) (by omega) _) (by rfl) .nil ?_
    repeat'(first|exact .nil|refine .r1 ?_ ?_|refine .r8 ?_ ?_|fail)
    ·rw[hwk];omega
    refine aJy rfl rfl (by rfl) rfl (by rfl) (by first|exact aBy (k:=k+1) (by(rw[Array.size_setIfInBounds];omega)) (by rw[hwk];omega) _|fail) (by rfl) .nil ?_
    repeat'(first|exact .nil|refine .k0 ?_|refine .k1 ?_|refine .k2 ?_|refine .r1 ?_ ?_|fail)
    rw[aL,aL]
    rw[show i-1-k=(i-1-(k+1))+1 by omega,upL]at hd
    exact⟨i-1-(k+1),by omega,_,_,Zr,Zs,k+1,swp d' k (k+1),by omega,by omega,rfl,by rw[aBB];exact hs,hd,rfl,by rw[hwk]⟩
   ·rw[show i-1-k=0 by omega,upL]at hd
    rw[hd];exact⟨trivial,rfl⟩
 ·have ia:=of_decide_eq_true hc
  rw[aJl (by omega) (by omega)]at ia
  have mB:e-m=1:=by omega
  have hma:¬m-a=1:=by
   rename_i sP
   have sP:=of_decide_eq_false sP
   rw[aJl (by omega) (by omega)]at sP
   omega
  clear hc ia
  rw[show aJi (hO l) (n+1) a m e d=dnL (m-bsN (fun h=> !hO l d[m]! d[h]!) (m-a) a m) m d by rw[aJi,if_neg hma,if_pos mB]]
  generalize Xy:bsN (fun h=> !hO l d[m]! d[h]!) (m-a) a m=s at *
  refine cQ (fun q rg σ'=>∃ i j,a≤i∧i≤j∧j≤m∧j-i≤q∧bsN (fun h=> !hO l d[m]! d[h]!) q i j=s∧σ'=(12,b,.cells (flD l d++post))::τ∧rg=[(0,.ms 12 b 0 d.size cap),(2,iv m),(4,.v rr),(14,iv i),(15,iv j)]) (m-a) rfl ⟨_,_,Zr,Zs,a,m,by omega,by omega,by omega,by omega,Xy,rfl,rfl⟩ ?_
  rintro q _ _ ⟨i,j,hi,gu,hj,hq,hb,rfl,rfl⟩
  have hh:=aCe (x:=i) (y:=j) (by omega)
  repeat'(first|exact .nil|refine .k0 ?_|refine .k1 ?_|refine .k2 ?_|refine .k5 ?_|refine .k6 ?_|refine .k8 ?_|refine .k9 ?_|(refine .cd ?_ ?_<;>(intro hc;skip))|refine .r1 ?_ ?_|refine .r8 ?_ ?_|fail)
  all_goals(try simp only[BL]at *)
  ·exact⟨by decide,by decide⟩
  ·omega
  ·rw[hh]
   refine aJm rfl (by rfl) rfl (by exact aJn (k:=m) (by omega) (by omega)) (by rfl) (by first|exact .nil|fail) ?_
   repeat'(first|exact .nil|refine .r1 ?_ ?_|refine .r8 ?_ ?_|fail)
   ·omega
   refine aJm rfl (by rfl) rfl (by first|exact aJn (k:=(i+j) / 2) (by omega) (by omega)|fail) (by rfl) (by first|exact .nil|fail) ?_
   repeat'(first|exact .nil|refine .k0 ?_|refine .k1 ?_|refine .k2 ?_|(refine .cd ?_ ?_<;>(intro hc;skip))|refine .r1 ?_ ?_|refine .an rfl (by intro bx;exact aB3 _ _) ?_ ?_|fail)
   ·obtain⟨q,rfl⟩:∃ p,q=p+1:=⟨q-1,by omega⟩
    rw[bsN,if_pos (by omega),if_pos (by exact hc)]at hb
    exact⟨q,by omega,_,_,Zr,Zs,(i+j) / 2+1,j,by omega,by omega,by omega,by omega,hb,rfl,by rw[aW (by omega)];rfl⟩
   ·obtain⟨q,rfl⟩:∃ p,q=p+1:=⟨q-1,by omega⟩
    rw[bsN,if_pos (by omega),if_neg (by rw[show(!hO l d[m]! d[(i+j) / 2]!)=false from hc];decide)]at hb
    exact⟨q,by omega,_,_,Zr,Zs,i,(i+j) / 2,by omega,by omega,by omega,by omega,hb,rfl,rfl⟩
  ·rw[aCl (by omega)]at hb
   subst hb
   refine cQ (fun q rg σ'=>∃ (k:Nat) (d':Array Nat),i≤k∧k≤m∧q=k-i∧d'.size=d.size∧dnL (k-i) k d'=dnL (m-i) m d∧σ'=(12,b,.cells (flD l d'++post))::τ∧rg=[(0,.ms 12 b 0 d.size cap),(14,iv i),(17,iv k)]) (m-i) rfl ⟨_,_,Zr,Zs,m,d,by omega,by omega,rfl,rfl,rfl,rfl,rfl⟩ ?_
   rintro q2 _ _ ⟨k,d',hk,Ln,dQ,hs,hd,rfl,rfl⟩
   have hwk:(IntKind.i64.wrap ((k:Int)-1)).toNat=k-1:=by rw[aW (by omega)];omega
   repeat'(first|exact .nil|refine .k0 ?_|refine .k1 ?_|refine .k2 ?_|refine .k3 ?_|refine .k6 ?_|refine .k7 ?_|refine .k8 ?_|refine .k9 ?_|(refine .cd ?_ ?_<;>(intro hc;skip))|refine .r1 ?_ ?_|refine .r8 ?_ ?_|fail)
   all_goals(try simp only[BL]at *)
   ·rw[aW (by omega)];omega
   ·refine aJm rfl (by rfl) rfl (by first|exact aJn (k:=k-1) (by omega) (by rw[Zh,hwk])|fail) (by rfl) (by first|exact .nil|fail) ?_
    repeat'(first|exact .nil|refine .r1 ?_ ?_|refine .r8 ?_ ?_|fail)
    ·omega
    refine aJm rfl (by rfl) rfl (by first|exact aJn (k:=k) (by omega) (by omega)|fail) (by rfl) (by first|exact .nil|fail) ?_
    repeat'(first|exact .nil|refine .r1 ?_ ?_|refine .r8 ?_ ?_|fail)
    ·omega
    refine aJy rfl rfl (by rfl) rfl (by rfl) (by exact aBy (k:=k) (by omega) (by omega) _) (by rfl) .nil ?_
    repeat'(first|exact .nil|refine .r1 ?_ ?_|refine .r8 ?_ ?_|fail)
    ·rw[aW (by omega)];omega
    refine aJy rfl rfl (by rfl) rfl (by rfl) (by first|exact aBy (k:=k-1) (by(rw[Array.size_setIfInBounds];omega)) (by rw[Zh,hwk]) _|fail) (by rfl) .nil ?_
    repeat'(first|exact .nil|refine .k0 ?_|refine .k1 ?_|refine .k2 ?_|refine .r1 ?_ ?_|fail)
    rw[aL,aL]
    rw[show k-i=(k-1-i)+1 by omega,dnL]at hd
    exact⟨k-1-i,by omega,_,_,Zr,Zs,k-1,swp d' k (k-1),by omega,by omega,rfl,by rw[aBB];exact hs,hd,rfl,by rw[aW (by omega)];congr;omega⟩
   ·rw[show k-i=0 by omega,dnL]at hd
    rw[hd];exact⟨trivial,rfl⟩
 ·exact⟨by decide,by decide⟩
 all_goals
  have aE2:=aCe (x:=a) (y:=e) (by omega)
  have jf:=aJl (a:=m) (b:=a) (by omega) (by omega)
  have s9:=aJl (a:=e) (b:=m) (by omega) (by omega)
  (try simp only[BL]at *)
  have hma:¬m-a=1:=by omega
  have mB:¬e-m=1:=by omega
  rw[aE2]at hc ⊢
  obtain⟨mid,hmd⟩:∃ mid,mid=(a+e) / 2:=⟨_,rfl⟩
  rw[← hmd]at hc ⊢
  rw[aCd (by omega)]
  try rw[aJl (a:=mid+m) (b:=e) (by omega) (by omega)]
  have Bo:IntKind.i64.wrap (((mid+m:Nat):Int)-1)=((mid+m-1:Nat):Int):=by rw[aW (by omega)];omega
  rw[Bo]
  obtain⟨s0,r0,pj,hr0,hor⟩:∃ s0 r0:Nat,s0=(if m>mid then mid+m-e else a)∧r0=(if m>mid then mid else m)∧((m>mid∧s0=mid+m-e∧r0=mid)∨(¬m>mid∧s0=a∧r0=m)):=by
   by_cases h:m>mid
   ·exact⟨_,_,rfl,rfl,.inl ⟨h,if_pos h,if_pos h⟩⟩
   ·exact⟨_,_,rfl,rfl,.inr ⟨h,if_neg h,if_neg h⟩⟩
  have aJB:∀ s,bsN (fun c=> !hO l d[mid+m-1-c]! d[c]!) (r0-s0) s0 r0=s→aJi (hO l) (n+1) a m e d=
    (if mid<mid+m-s∧mid+m-s<e then aJi (hO l) n mid (mid+m-s) e (if a<s∧s<mid then aJi (hO l) n a s mid (if s<m∧m<mid+m-s then aJo m (mid+m-s-s) (m-s) (mid+m-s-m) d else d)else(if s<m∧m<mid+m-s then aJo m (mid+m-s-s) (m-s) (mid+m-s-m) d else d))
     else(if a<s∧s<mid then aJi (hO l) n a s mid (if s<m∧m<mid+m-s then aJo m (mid+m-s-s) (m-s) (mid+m-s-m) d else d)else(if s<m∧m<mid+m-s then aJo m (mid+m-s-s) (m-s) (mid+m-s-m) d else d))):=by
   intro s hs
   rw[aJi,if_neg hma,if_neg mB,← hmd]
   simp only
   rw[pj,hr0]at hs
   by_cases h:m>mid
   ·simp only[if_pos h]at hs ⊢
    simp only[hs]
   ·simp only[if_neg h]at hs ⊢
    simp only[hs]
  first
  |rw[if_pos (by omega)]at pj hr0
  |rw[if_neg (by omega)]at pj hr0
  obtain⟨s,hs⟩:∃ s,bsN (fun c=> !hO l d[mid+m-1-c]! d[c]!) (r0-s0) s0 r0=s:=⟨_,rfl⟩
  have aJB:=aJB s hs
  have hbd:=aCk (fun c=> !hO l d[mid+m-1-c]! d[c]!) (r0-s0) s0 r0 (by omega)
  rw[hs]at hbd
  refine cQ (fun q rg σ'=>∃ i j,s0≤i∧i≤j∧j≤r0∧j-i≤q∧bsN (fun c=> !hO l d[mid+m-1-c]! d[c]!) q i j=s∧σ'=(12,b,.cells (flD l d++post))::τ∧rg=[(0,.ms 12 b 0 d.size cap),(1,iv a),(2,iv m),(3,iv e),(4,.v rr),(18,iv mid),(19,iv (mid+m:Nat)),(20,iv i),(21,iv j),(22,iv (mid+m-1:Nat))]) (r0-s0) rfl ⟨_,_,Zr,Zs,s0,r0,by omega,by omega,by omega,by omega,hs,rfl,by rw[pj,hr0]⟩ ?_
  rintro q _ _ ⟨i,j,hi,gu,hj,hq,hb,rfl,rfl⟩
  have hh:=aCe (x:=i) (y:=j) (by omega)
  repeat'(first|exact .nil|refine .k0 ?_|refine .k1 ?_|refine .k2 ?_|refine .k3 ?_|refine .k4 ?_|refine .k5 ?_|refine .k6 ?_|refine .k8 ?_|refine .k9 ?_|(refine .cd ?_ ?_<;>(intro hc;skip))|refine .r1 ?_ ?_|refine .r2 ?_ ?_|refine .r8 ?_ ?_|fail)
  all_goals(try simp only[BL]at *)
  ·exact⟨by decide,by decide⟩
  ·rw[hh,aJl (by omega) (by omega)];omega
  ·rw[hh,aJl (by omega) (by omega)]
   refine aJm rfl (by rfl) rfl (by first|exact aJn (k:=mid+m-1-(i+j) / 2) (by omega) (by omega)|fail) (by rfl) (by first|exact .nil|fail) ?_
   repeat'(first|exact .nil|refine .r1 ?_ ?_|refine .r8 ?_ ?_|fail)
   ·omega
   refine aJm rfl (by rfl) rfl (by exact aJn (k:=(i+j) / 2) (by omega) (by omega)) (by rfl) (by first|exact .nil|fail) ?_
   repeat'(first|exact .nil|refine .k0 ?_|refine .k1 ?_|refine .k2 ?_|(refine .cd ?_ ?_<;>(intro hc;skip))|refine .r1 ?_ ?_|refine .an rfl (by intro bx;exact aB3 _ _) ?_ ?_|fail)
   ·obtain⟨q,rfl⟩:∃ p,q=p+1:=⟨q-1,by omega⟩
    rw[bsN,if_pos (by omega),if_pos (by exact hc)]at hb
    exact⟨q,by omega,_,_,Zr,Zs,(i+j) / 2+1,j,by omega,by omega,by omega,by omega,hb,rfl,by rw[aW (by omega)];rfl⟩
   ·obtain⟨q,rfl⟩:∃ p,q=p+1:=⟨q-1,by omega⟩
    rw[bsN,if_pos (by omega),if_neg (by rw[show(!hO l d[mid+m-1-(i+j) / 2]! d[(i+j) / 2]!)=false from hc];decide)]at hb
    exact⟨q,by omega,_,_,Zr,Zs,i,(i+j) / 2,by omega,by omega,by omega,by omega,hb,rfl,rfl⟩
  all_goals
   rw[aCl (by omega)]at hb
   subst hb
   have hE:=aJl (a:=mid+m) (b:=i) (by omega) (by omega)
  ·(rw[hE];refine se rfl (aFM l d d.size rfl i m (mid+m-i) (by omega) (by omega) (by omega) hz b cap post τ) .nil (fun x σ' hR=> ?_) (fun ch σ' hR=> ?_))
   ·(obtain⟨e1,rfl⟩:=hR;cases e1;repeat'(first|exact .nil|refine .k0 ?_|refine .k1 ?_|refine .k2 ?_|refine .k3 ?_|refine .k4 ?_|refine .k9 ?_|(refine .cd ?_ ?_<;>(intro hc;skip))|refine .r1 ?_ ?_|refine .r2 ?_ ?_|fail))
    all_goals(try simp only[BL]at *)
    ·refine se rfl (ih _ d.size (by simp only[sx,s5]) a i mid (by omega) (by omega) (by(try simp only[sx,s5]);omega) (by omega) (by(try simp only[sx,s5]);omega) b cap post τ) .nil (fun x σ' hR=> ?_) (fun ch σ' hR=> ?_)
     ·(obtain⟨e1,rfl⟩:=hR;cases e1;repeat'(first|exact .nil|refine .k0 ?_|refine .k1 ?_|refine .k2 ?_|refine .k3 ?_|refine .k4 ?_|refine .k9 ?_|(refine .cd ?_ ?_<;>(intro hc;skip))|refine .r1 ?_ ?_|refine .r2 ?_ ?_|fail))
      all_goals(try simp only[BL]at *)
      ·(try rw[hE]);refine se rfl (ih _ d.size (by simp only[sx,s5]) mid (mid+m-i) e (by omega) (by omega) (by(try simp only[sx,s5]);omega) (by omega) (by(try simp only[sx,s5]);omega) b cap post τ) .nil (fun x σ' hR=> ?_) (fun ch σ' hR=> ?_)
       ·(obtain⟨e1,rfl⟩:=hR;cases e1;repeat'(first|exact .nil|refine .k1 ?_|refine .k3 ?_|refine .r2 ?_ ?_|fail))
        (rw[aJB];(repeat' split)<;>first|exact⟨rfl,rfl⟩|(exfalso;omega))
       ·(obtain⟨e1,_⟩:=hR;cases e1)
      ·(rw[aJB];(repeat' split)<;>first|exact⟨trivial,rfl⟩|(exfalso;omega))
     ·(obtain⟨e1,_⟩:=hR;cases e1)
    ·(try rw[hE]);refine se rfl (ih _ d.size (by simp only[sx,s5]) mid (mid+m-i) e (by omega) (by omega) (by(try simp only[sx,s5]);omega) (by omega) (by(try simp only[sx,s5]);omega) b cap post τ) .nil (fun x σ' hR=> ?_) (fun ch σ' hR=> ?_)
     ·(obtain⟨e1,rfl⟩:=hR;cases e1;repeat'(first|exact .nil|refine .k1 ?_|refine .k3 ?_|refine .r2 ?_ ?_|fail))
      (rw[aJB];(repeat' split)<;>first|exact⟨rfl,rfl⟩|(exfalso;omega))
     ·(obtain⟨e1,_⟩:=hR;cases e1)
    ·(rw[aJB];(repeat' split)<;>first|exact⟨trivial,rfl⟩|(exfalso;omega))
   ·(obtain⟨e1,_⟩:=hR;cases e1)
  ·refine se rfl (ih _ d.size (by simp only[sx,s5]) a i mid (by omega) (by omega) (by(try simp only[sx,s5]);omega) (by omega) (by(try simp only[sx,s5]);omega) b cap post τ) .nil (fun x σ' hR=> ?_) (fun ch σ' hR=> ?_)
   ·(obtain⟨e1,rfl⟩:=hR;cases e1;repeat'(first|exact .nil|refine .k0 ?_|refine .k1 ?_|refine .k2 ?_|refine .k3 ?_|refine .k4 ?_|refine .k9 ?_|(refine .cd ?_ ?_<;>(intro hc;skip))|refine .r1 ?_ ?_|refine .r2 ?_ ?_|fail))
    all_goals(try simp only[BL]at *)
    ·(try rw[hE]);refine se rfl (ih _ d.size (by simp only[sx,s5]) mid (mid+m-i) e (by omega) (by omega) (by(try simp only[sx,s5]);omega) (by omega) (by(try simp only[sx,s5]);omega) b cap post τ) .nil (fun x σ' hR=> ?_) (fun ch σ' hR=> ?_)
     ·(obtain⟨e1,rfl⟩:=hR;cases e1;repeat'(first|exact .nil|refine .k1 ?_|refine .k3 ?_|refine .r2 ?_ ?_|fail))
      (rw[aJB];(repeat' split)<;>first|exact⟨rfl,rfl⟩|(exfalso;omega))
     ·(obtain⟨e1,_⟩:=hR;cases e1)
    ·(rw[aJB];(repeat' split)<;>first|exact⟨trivial,rfl⟩|(exfalso;omega))
   ·(obtain⟨e1,_⟩:=hR;cases e1)
  ·(try rw[hE]);refine se rfl (ih _ d.size (by simp only[sx,s5]) mid (mid+m-i) e (by omega) (by omega) (by(try simp only[sx,s5]);omega) (by omega) (by(try simp only[sx,s5]);omega) b cap post τ) .nil (fun x σ' hR=> ?_) (fun ch σ' hR=> ?_)
   ·(obtain⟨e1,rfl⟩:=hR;cases e1;repeat'(first|exact .nil|refine .k1 ?_|refine .k3 ?_|refine .r2 ?_ ?_|fail))
    (rw[aJB];(repeat' split)<;>first|exact⟨rfl,rfl⟩|(exfalso;omega))
   ·(obtain⟨e1,_⟩:=hR;cases e1)
  ·(rw[aJB];(repeat' split)<;>first|exact⟨trivial,rfl⟩|(exfalso;omega))
set_option maxHeartbeats 8000000
theorem aCG(l:List dw):∀ (n:Nat) (d:Array Nat) (z:Nat),d.size=z→∀ a m e:Nat,a<m→m<e→e≤d.size→e-a≤n→d.size≤1000000→aBw 161 [iv a,iv m,iv e,.v rr] l z d (aJi (hO l) n a m e d)
 |0,d,z,_,a,m,e,h1,h2,_,h3,_=>by omega
 |n+1,d,z,hz,a,m,e,h1,h2,h3,h4,h5=>aIU l n (aCG l n) d z hz a m e h1 h2 h3 h4 h5
theorem aIL(l:List dw)(d:Array Nat)(z:Nat)(hzz:d.size=z)(hz:d.size≤1000000):aBw 116 [iv z,.v rr] l z d (aBI (hO l) d):=by
 intro b cap post τ
 subst hzz
 refine Spec.cY (fun _=>0) Tryz.func116 aEh aEw (Z8 rfl) ?_
 repeat'(first|exact .nil|refine .k0 ?_|refine .k1 ?_|refine .k2 ?_|refine .k6 ?_|refine .r1 ?_ ?_|fail)
 refine cQ (fun q rg σ'=>∃ (a:Nat) (d':Array Nat),a≤d.size∧d.size-a<q∧d'.size=d.size∧aJE (hO l) d.size q a d'=aJE (hO l) d.size (d.size+1) 0 d∧σ'=(12,b,.cells (flD l d'++post))::τ∧rg=[(0,.ms 12 b 0 d.size cap),(1,iv d.size),(2,.v rr),(6,iv 20),(7,iv a),(8,iv (a+20:Nat))]) (d.size+1) rfl ⟨_,_,Zr,Zs,0,d,by omega,by omega,rfl,rfl,rfl,rfl⟩ ?_
 rintro q _ _ ⟨a,d1,ha,hq,jd,Eo,rfl,rfl⟩
 repeat'(first|exact .nil|refine .k0 ?_|refine .k1 ?_|refine .k2 ?_|refine .k6 ?_|refine .k8 ?_|refine .k9 ?_|(refine .cd ?_ ?_<;>(intro hc;skip))|refine .r1 ?_ ?_|fail)
 all_goals(try simp only[BL]at *)
 ·refine se rfl (aDl l d1 d.size jd a (a+20) (by omega) (by omega) (by omega) b cap post τ) .nil (fun x σ' hR=> ?_) (fun ch σ' hR=> ?_)
  ·(obtain⟨e1,rfl⟩:=hR;cases e1;repeat'(first|exact .nil|refine .k0 ?_|refine .k1 ?_|refine .k2 ?_|refine .r1 ?_ ?_|fail))
   obtain⟨q,rfl⟩:∃ p,q=p+1:=⟨q-1,by omega⟩
   rw[aJE,if_pos (by omega)]at Eo
   exact⟨q,by omega,_,_,Zr,Zs,a+20,_,by omega,by omega,by rw[aB7];exact jd,Eo,rfl,by rw[show((a+20:Nat):Int)+20=((a+20+20:Nat):Int) by omega,aW (by omega)]⟩
  ·(obtain⟨e1,_⟩:=hR;cases e1)
 ·refine se rfl (aDl l d1 d.size jd a d.size (by omega) (by omega) (by omega) b cap post τ) .nil (fun x σ' hR=> ?_) (fun ch σ' hR=> ?_)
  ·(obtain⟨e1,rfl⟩:=hR;cases e1;repeat'(first|refine .k0 ?_|refine .k1 ?_|refine .k6 ?_|fail))
   obtain⟨q,rfl⟩:∃ p,q=p+1:=⟨q-1,by omega⟩
   rw[aJE,if_neg (by omega)]at Eo
   rw[show aBI (hO l) d=aJG (hO l) d.size (d.size+1) 20 (aJE (hO l) d.size (d.size+1) 0 d)from rfl,← Eo]
   have ew:(aBG (hO l) a d.size d1).size=d.size:=by rw[aB7];exact jd
   generalize aBG (hO l) a d.size d1=d2 at *
   refine cQ (fun q rg σ'=>∃ (s:Nat) (d':Array Nat),20≤s∧s≤2000000∧d.size-s<q∧d'.size=d.size∧aJG (hO l) d.size q s d'=aJG (hO l) d.size (d.size+1) 20 d2∧σ'=(12,b,.cells (flD l d'++post))::τ∧rg=[(0,.ms 12 b 0 d.size cap),(1,iv d.size),(2,.v rr),(6,iv s)]) (d.size+1) rfl ⟨_,_,Zr,Zs,20,d2,by omega,by omega,by omega,ew,rfl,rfl,rfl⟩ ?_
   rintro q2 _ _ ⟨s,d3,aI9,aJa,dQ,hs3,A8,rfl,rfl⟩
   have s9:IntKind.i64.wrap (2 * (s:Int))=((2 * s:Nat):Int):=by rw[aW (by omega)];omega
   have Bo:IntKind.i64.wrap ((s:Int) * 2)=((2 * s:Nat):Int):=by rw[aW (by omega)];omega
   repeat'((fail_if_success (show WK _ _ _ _ (.loop _) _ _ _));(first|exact .nil|refine .k0 ?_|refine .k1 ?_|refine .k2 ?_|refine .k3 ?_|refine .k6 ?_|refine .k8 ?_|refine .k9 ?_|(refine .cd ?_ ?_<;>(intro hc;skip))|refine .r1 ?_ ?_|refine .r2 ?_ ?_|fail))
   all_goals(try simp only[BL]at *)
   ·obtain⟨q2,rfl⟩:∃ p,q2=p+1:=⟨q2-1,by omega⟩
    rw[aJG,if_pos (by omega)]at A8
    rw[s9]
    refine cQ (fun q rg σ'=>∃ (a:Nat) (d':Array Nat),a≤d.size∧d.size-a<q∧d'.size=d.size∧aJF (hO l) d.size s q a d'=aJF (hO l) d.size s (d.size+1) 0 d3∧σ'=(12,b,.cells (flD l d'++post))::τ∧rg=[(0,.ms 12 b 0 d.size cap),(1,iv d.size),(2,.v rr),(6,iv s),(7,iv a),(8,iv (a+2 * s:Nat))]) (d.size+1) rfl ⟨_,_,Zr,Zs,0,d3,by omega,by omega,hs3,rfl,rfl,by rw[Zh];rfl⟩ ?_
    rintro q3 _ _ ⟨a3,d4,ha3,vr,yn,hd4,rfl,rfl⟩
    have hw4:IntKind.i64.wrap ((a3:Int)+(s:Int))=((a3+s:Nat):Int):=aCd (by omega)
    obtain⟨q3,rfl⟩:∃ p,q3=p+1:=⟨q3-1,by omega⟩
    repeat'(first|exact .nil|refine .k0 ?_|refine .k1 ?_|refine .k2 ?_|refine .k6 ?_|refine .k8 ?_|refine .k9 ?_|(refine .cd ?_ ?_<;>(intro hc;skip))|refine .r1 ?_ ?_|fail)
    all_goals(try simp only[BL]at *)
    ·rw[hw4]
     refine se rfl (aCG l (2 * s) d4 d.size yn a3 (a3+s) (a3+2 * s) (by omega) (by omega) (by omega) (by omega) (by omega) b cap post τ) .nil (fun x σ' hR=> ?_) (fun ch σ' hR=> ?_)
     ·(obtain⟨e1,rfl⟩:=hR;cases e1;repeat'(first|exact .nil|refine .k0 ?_|refine .k1 ?_|refine .k2 ?_|refine .r1 ?_ ?_|fail))
      rw[aJF,if_pos (by omega)]at hd4
      exact⟨q3,by omega,_,_,Zr,Zs,a3+2 * s,_,by omega,by omega,by rw[sx];exact yn,hd4,rfl,by rw[s9,aCd (by omega)]⟩
     ·(obtain⟨e1,_⟩:=hR;cases e1)
    ·rw[hw4]at hc ⊢
     refine se rfl (aCG l (d.size-a3) d4 d.size yn a3 (a3+s) d.size (by omega) (by omega) (by omega) (by omega) (by omega) b cap post τ) .nil (fun x σ' hR=> ?_) (fun ch σ' hR=> ?_)
     ·(obtain⟨e1,rfl⟩:=hR;cases e1;repeat'(first|exact .nil|refine .k0 ?_|refine .k1 ?_|refine .k2 ?_|refine .r1 ?_ ?_|fail))
      rw[aJF,if_neg (by omega),if_pos (by omega)]at hd4
      rw[← hd4]at A8
      exact⟨q2,by omega,_,_,Zr,Zs,2 * s,_,by omega,by omega,by omega,by rw[sx];exact yn,A8,rfl,by rw[Bo]⟩
     ·(obtain⟨e1,_⟩:=hR;cases e1)
    ·rw[hw4]at hc
     rw[aJF,if_neg (by omega),if_neg (by omega)]at hd4
     rw[← hd4]at A8
     exact⟨q2,by omega,_,_,Zr,Zs,2 * s,_,by omega,by omega,by omega,yn,A8,rfl,by rw[Bo]⟩
   ·obtain⟨q2,rfl⟩:∃ p,q2=p+1:=⟨q2-1,by omega⟩
    rw[aJG,if_neg (by omega)]at A8
    rw[← A8]
    exact⟨trivial,rfl⟩
  ·(obtain⟨e1,_⟩:=hR;cases e1)
end Go.Proofs.YtbihckigennlhaaGreatDoor
namespace Go.Sx
open Go.RowKit
inductive Stg:AV→Prop
 |v (x:Value):Stg (.v x)
 |any:Stg .any
 |agg (xs:List AV) (h:∀ i (h:i<xs.length),Stg xs[i]):Stg (.agg xs)
 |aI (xs:List AV) (h:∀ i (h:i<xs.length),Stg xs[i]):Stg (.aI xs)
 |sl (nn:Bool) (ag:Nat) (rows:List (List AV)) (h0:∀ i (h:i<rows.length),∃ j,∃ h2:j<rows[i].length,∃ s,rows[i][j]= .v (.string s))
   (h1:∀ i (h:i<rows.length) j (h2:j<rows[i].length),Stg rows[i][j]):Stg (.sl nn ag rows)
 |own (ag t b u c:Nat) (rows:List (List AV)) (h0:∀ i (h:i<rows.length),∃ j,∃ h2:j<rows[i].length,∃ s,rows[i][j]= .v (.string s))
   (h1:∀ i (h:i<rows.length) j (h2:j<rows[i].length),Stg rows[i][j]):Stg (.own ag t b u c rows)
 |lp (t b o:Nat):Stg (.lp t b o)
 |ms (t b o n c:Nat):Stg (.ms t b o n c)
def Mem.wo(M:Mem)(bb:Nat):Mem:=fun b o=>if b=bb then none else M b o
theorem Mem.aD7(M:Mem)(bb:Nat):(M.wo bb).le M:=fun b o v h=>by
 unfold Mem.wo at h
 split at h
 ·cases h
 ·exact h
theorem aD0{M:Mem}{bb:Nat}(hb:∀ o w,M bb o=some w→∃ k n,w= .int k n){ag b off:Nat}{rows:List (List AV)}{cs:Nat→Value}(hsz:∀ i (h:i<rows.length),rows[i].length=ag)
  (hM:∀ k,k<rows.length * ag→M b (off+k)=some (cs k)) (hR:∀ i (h:i<rows.length) j (h2:j<rows[i].length),R M rows[i][j] (cs (i * ag+j)))
  (h0:∀ i (h:i<rows.length),∃ j,∃ h2:j<rows[i].length,∃ s,rows[i][j]= .v (.string s)) (hn:rows≠[]):b≠bb:=by
 rintro rfl
 have hp:0<rows.length:=Y1.2 hn
 obtain⟨j,h2,s,e⟩:=h0 0 hp
 have h3:=hR 0 hp j h2
 rw[e]at h3
 have hj:j<ag:=by rw[← hsz 0 hp];exact h2
 have h4:=hM (0 * ag+j) (by
  have:=Nat.mul_le_mul_right ag (show 1≤rows.length from hp)
  omega)
 obtain⟨k,n,e2⟩:=hb _ _ h4
 rw[h3.az]at e2
 cases e2
theorem Stg.wo{M:Mem}{bb:Nat}(hb:∀ o w,M bb o=some w→∃ k n,w= .int k n){x:AV}{v:Value}(h:R M x v)(hs:Stg x):R (M.wo bb) x v:=by
 induction h with
 |v x=>exact .v x
 |any x=>exact .any x
 |agg xs cs hl _ ih=>cases hs with|agg _ h=>exact .agg xs cs hl fun i h1 h2=>ih i h1 h2 (h i h1)
 |aI xs cs hl _ ih=>cases hs with|aI _ h=>exact .aI xs cs hl fun i h1 h2=>ih i h1 h2 (h i h1)
 |nil nn ag a h=>exact .nil nn ag a h
 |sl nn ag rows b off cap cs hsz hm hR hc hx ih=>
  cases hs with
  |sl _ _ _ h0 h1=>
   refine .sl nn ag rows b off cap cs hsz (fun k hk=> ?_) (fun i h j h2=>ih i h j h2 (h1 i h j h2)) hc hx
   have hn:rows≠[]:=by rintro rfl;simp at hk
   unfold Mem.wo
   rw[if_neg (aD0 hb hsz hm hR h0 hn)]
   exact hm k hk
 |ms t b o n c=>exact .ms t b o n c
 |own ag t b u c rows off cap cs hsz hm hR hc hx hu he ih=>
  cases hs with
  |own _ _ _ _ _ _ h0 h1=>
   refine .own ag t b u c rows off cap cs hsz (fun k hk=> ?_) (fun i h j h2=>ih i h j h2 (h1 i h j h2)) hc hx hu he
   have hn:rows≠[]:=by rintro rfl;simp at hk
   unfold Mem.wo
   rw[if_neg (aD0 hb hsz hm hR h0 hn)]
   exact hm k hk
 |pc l b off cs hm _ ih=>cases hs
 |gM t x v _ ih=>cases hs
 |lp t b o=>exact .lp t b o
 |eA t b=>cases hs
 |ai k n=>cases hs
 |cl f a c va vc hl gd _ _ ih fC=>cases hs
 |fl ag rows b off cs hsz hm _ hx ih=>cases hs
set_option maxHeartbeats 4000000
def aCg:bN→Prop
 | .cells l=>∀ i (h:i<l.length),Stg l[i]
 | .tail _ _=>True
 | .map _ _=>False
theorem aIM{M:Mem}{bb:Nat}(hb:∀ o w,M bb o=some w→∃ k n,w= .int k n){l:List AV}{cs:List Value}(hl:∀ i (h:i<l.length),Stg l[i])(h:RL M l cs):RL (M.wo bb) l cs:=
 ⟨h.1,fun i h1 h2=>Stg.wo hb (h.2 i h1 h2) (hl i h1)⟩
end Go.Sx
namespace Go.Proofs.YtbihckigennlhaaGreatDoor
open Go.Sx Go.Proofs Go.RowKit
theorem aCB(l:List dw):(l.map dw.cells).flatten.length=l.length * 2:=by
 induction l with
 |nil=>rfl
 |cons p l ih=>simp only[ZH,Yn,Z7,ih,Z9];show 2+_=_;omega
theorem aE6{M M':Mem}{w0:Base}{w w':World}{σ τ:Store}{t b c:Nat}{l:List dw}{v:Value}(hI:Inv Tryz.prog M w0 σ w)(hI':Inv Tryz.prog M' ⟨w,M⟩ ((t,b,.tail (l.length * 2) c)::τ) w')(hM:M.le M')
  (hv:R M' (.own 2 t b (l.length * 2) c (l.map dw.cells)) v) (hn:l≠[]) (zE:∀ e∈τ,aCg e.2.2) (L:Nat):
  ∃ (cap:Nat) (post:List AV),v= .slice (some ⟨b,0,none⟩) l.length cap∧l.length≤cap∧cap≤maxLen∧M.le (M'.wo b)∧Inv Tryz.prog (M'.wo b) w0 ((L,b,.cells ((l.map dw.cells).flatten++post))::(τ++σ)) w'∧∀ o w,M' b o=some w→∃ k n,w= .int k n:=by
 obtain⟨off,cap,cs,rfl,hr,h4,h5,h6,h8⟩:=hv.qZ
 have hlen:0<l.length:=Y1.2 hn
 have o9:(l.map dw.cells).length=l.length:=Z3 _
 rw[o9]at h4 h6
 obtain⟨h6,h7⟩:off+l.length * 2=l.length * 2∧off+cap * 2≤c:=by
  rcases h6 with h|h
  ·omega
  ·exact h
 obtain rfl:off=0:=by omega
 have qC:=hI'.st _ ZU
 obtain⟨hg,hN,cur,ty,hh,ku,huc⟩:=qC
 simp only at hg hN hh
 have hg:w.heap.size≤b:=hg
 have hcell:∀ o v,M' b o=some v→o<l.length * 2∧v=cs o:=fun o v h=>by
  have h1:o<l.length * 2:=by
   rcases Nat.lt_or_ge o (l.length * 2)with h1|h1
   ·exact h1
   ·rw[hN o h1]at h;cases h
  have h2:=hr.mem o (by rw[o9];exact h1)
  rw[Zh,h]at h2
  exact⟨h1,by injection h2⟩
 have aEZ:∀ i (hi:i<l.length),cs (i * 2)= .int .i64 l[i].at_∧cs (i * 2+1)= .int .i64 l[i].code:=fun i hi=>by
  have h1:=hr.rel i (by rw[o9];exact hi) 0 (by rw[Zg];exact Nat.zero_lt_two)
  have h2:=hr.rel i (by rw[o9];exact hi) 1 (by rw[Zg];exact Nat.one_lt_two)
  simp only[Zg,dw.cells,YI,XQ,YN]at h1 h2
  exact⟨h1.az,h2.az⟩
 have hint:∀ o w,M' b o=some w→∃ k n,w= .int k n:=fun o v h=>by
  obtain⟨h1,rfl⟩:=hcell o v h
  have h2:=aEZ (o / 2) (by omega)
  rcases Nat.mod_two_eq_zero_or_one o with e|e
  ·exact⟨.i64,_,by rw[show o=o / 2 * 2 by omega];exact h2.1⟩
  ·exact⟨.i64,_,by rw[show o=o / 2 * 2+1 by omega];exact h2.2⟩
 have hb:Below w.heap.size w w':=⟨hI'.os,hI'.tape,hI'.output,hI'.size,hI'.old⟩
 have h1:=hI.after hb
 have hMb:∀ o,M b o=none:=fun o=>by
  cases h:M b o with
  |none=>rfl
  |some v=>
   have:=World.block_lt_of_cell? _ _ (hI.dB b o v h)
   simp at this;omega
 have hle:M.le (M'.wo b):=fun b' o v h=>by
  have aQ:b'≠b:=fun e=>by rw[e,hMb o]at h;cases h
  unfold Mem.wo
  rw[if_neg aQ];exact hM _ _ _ h
 have hold:∀ b' o,b'<w.heap.size→M b' o=none→(M'.wo b) b' o=none:=fun b' o aH h0=>by
  unfold Mem.wo
  split
  ·rfl
  ·cases h:M' b' o with
   |none=>rfl
   |some v=>have h5:M b' o=some v:=hI'.bm b' o v h aH;rw[h5]at h0;cases h0
 have hwo:∀ b' o,M' b' o=none→(M'.wo b) b' o=none:=fun b' o h=>by
  unfold Mem.wo;split
  ·rfl
  ·exact h
 have hnd:=hI'.nd
 simp only[ZH,YF]at hnd
 have aBP:∀ e∈σ,e.2.1<w.heap.size:=fun e he=>hI.BA he
 have aB6:∀ e∈τ,w.heap.size≤e.2.1:=fun e he=>(hI'.st e (ZX _ he)).1
 refine⟨cap,List.replicate (c-l.length * 2) .any,by rw[o9],h4,h5,hle,⟨h1.os,h1.tape,h1.output,h1.size,h1.old,fun b' o v h=>hI'.dB b' o v ((M'.aD7 b) _ _ _ h),fun e he=> ?_,?_,fun g l hl=>(h1.gl g l hl).mono hle,h1.gw,fun b' o v h aH=> ?_⟩,hint⟩
 ·rcases ZV.1 he with rfl|he
  ·refine⟨YG hI.size hg,fun o=>by simp[Mem.wo],cur,ty,hh,?_,fun i g1 g2=> ?_⟩
   ·simp only[Z7,YW,YH,aCB];omega
   ·by_cases i2:i<l.length * 2
    ·have nM:i<(l.map dw.cells).flatten.length:=by rw[aCB];exact i2
     rw[List.getElem_append_left nM]
     have h9:=hI'.dB _ _ _ (hr.mem i (by rw[o9];exact i2))
     rw[Zh]at h9
     have h9:cur[i]? =some (cs i):=by simpa[World.cell?,hh]using h9
     have KB:cur.toList[i]=cs i:=by simpa using(Zq.1 h9).2
     rw[KB]
     have La:=hr.flat
     have h11:=La.2 i nM (by simp[o9];omega)
     have h12:R M' ((l.map dw.cells).flatten[i]) (cs i):=by simpa using h11
     have h13:∃ n,(l.map dw.cells).flatten[i]=iv n:=by
      have hm:=Y0 (l:=(l.map dw.cells).flatten) nM
      obtain⟨r,aX,cJ⟩:=List.mem_flatten.1 hm
      obtain⟨p,_,rfl⟩:=YS.1 aX
      simp only[dw.cells,ZV,Yj,or_false]at cJ
      rcases cJ with e|e<;>exact⟨_,e⟩
     obtain⟨n,hn⟩:=h13
     rw[hn]at h12 ⊢
     rw[h12.az]
     exact .v _
    ·have e:((l.map dw.cells).flatten++List.replicate (c-l.length * 2) AV.any)[i]= .any:=by
      rw[Yp (by rw[aCB];omega),List.getElem_replicate]
     rw[e];exact .any _
  ·rcases Zm.1 he with he|he
   ·obtain⟨g1,g2⟩:=hI'.st e (ZX _ he)
    have hS:=zE e he
    refine⟨YG hI.size g1,?_⟩
    cases hx:e.2.2 with
    |cells l2=>rw[hx]at g2 hS;obtain⟨a1,Jx,t2,a2,a3⟩:=g2;exact⟨fun o=>hwo _ _ (a1 o),Jx,t2,a2,aIM hint hS a3⟩
    |tail u c=>rw[hx]at g2;obtain⟨a1,Jx,t2,a2,a3⟩:=g2;exact⟨fun o ho=>hwo _ _ (a1 o ho),Jx,t2,a2,a3⟩
    |map es k=>rw[hx]at hS;exact hS.elim
   ·obtain⟨g1,g2⟩:=h1.st e he
    have aH:=aBP e he
    obtain⟨_,g3⟩:=hI.st e he
    refine⟨g1,?_⟩
    cases hx:e.2.2 with
    |cells l2=>rw[hx]at g2 g3;obtain⟨a1,Jx,t2,a2,a3⟩:=g2;exact⟨fun o=>hold _ _ aH (a1 o),Jx,t2,a2,a3.mono hle⟩
    |tail u c=>rw[hx]at g2 g3;obtain⟨a1,Jx,t2,a2,a3⟩:=g2;exact⟨fun o ho=>hold _ _ aH (a1 o ho),Jx,t2,a2,a3⟩
    |map es k=>rw[hx]at g2 g3;obtain⟨a1,l2,a2,a3,a4⟩:=g2;exact⟨fun o=>hold _ _ aH (a1 o),l2,a2,a3,a4.mono hle⟩
 ·simp only[ZH,Y2,YF,Zm,not_or]
  refine⟨⟨hnd.1,fun h=> ?_⟩,XT.2 ⟨hnd.2,hI.nd,fun x hx y hy e=> ?_⟩⟩
  ·obtain⟨e,he,heq⟩:=YS.1 h
   have:=aBP e he
   omega
  ·obtain⟨e1,K5,rfl⟩:=YS.1 hx
   obtain⟨e2,A9,rfl⟩:=YS.1 hy
   have:=aBP e2 A9
   have:=aB6 e1 K5
   omega
 ·have aE1:b'<w.heap.size:=Nat.lt_of_lt_of_le aH hI.size
  exact hI.bm b' o v (hI'.bm b' o v ((M'.aD7 b) _ _ _ h) aE1) aH
def SWT(N:Nat)(σ:Store)(s:SC)(Q:Exit→ae→Store→Prop)(rg:ae)(br:Store):Prop:=∀ c,eB Tryz.prog N c=some s→∀ (M:Mem) (w0:Base) (ws:World),Inv Tryz.prog M w0 σ ws→∀ (M1:Mem) (a:Act) (w:World),M.le M1→Inv Tryz.prog M1 ⟨ws,M⟩ br w→bE M1 rg a→a.tmps.size=N→a.defers=Glob.df Tryz.prog→qo Tryz.prog c (gF Tryz.prog M w0 N Q) a w
theorem SWT.start{N:Nat}{σ:Store}{s:SC}{Q:Exit→ae→Store→Prop}{rg:ae}(h:SWT N σ s Q rg []):SW Tryz.prog N s Q rg σ:=
 fun c hc M w0 a w hI hR hN hD=>h c hc M w0 w hI M a w (Mem.le.refl _) (Mj hI) hR hN hD
theorem SWT.seq{N:Nat}{σ:Store}{x y:SC}{Q:Exit→ae→Store→Prop}{rg:ae}{br:Store}(hx:∀ l,x≠.azZ l)(h:SW Tryz.prog N x (fun e rg' σ'=>e= .normal∧SWT N σ y Q rg' σ') rg br):SWT N σ (.seq x y) Q rg br:=by
 intro c hc M w0 ws hI0 M1 a w hM hI hR hN hD
 rcases dO hc with⟨ca,cb,rfl,h1,h2⟩|⟨id,ops,l1,l2,rfl,rfl,rfl,_⟩
 ·refine wp_seq (wp_mono (nC (h ca h1 M1 ⟨ws,M⟩ a w hI hR hN hD)) ?_)
  rintro e a2 w2 ⟨M2,bP,σ2,g1,g2,g3,g4,g5,rfl,g6⟩
  refine nC (g6 cb h2 M w0 ws hI0 M2 a2 w2 (hM.trans g1) g2 g3 g4 g5)
 ·exact absurd rfl (hx l1)
theorem SWT.eY{N:Nat}{σ:Store}{s:SC}{Q:Exit→ae→Store→Prop}{rg rg':ae}{br:Store}(ks:List Nat)(hk:Go.Sx.eY ks rg=rg')(h:SWT N σ s Q rg' br):SWT N σ s Q rg br:=
 fun c hc M w0 ws hI0 M1 a w hM hI hR hN hD=>h c hc M w0 ws hI0 M1 a w hM hI (hk ▸ hR.eY ks) hN hD
theorem SWT.done{N:Nat}{σ:Store}{s:SC}{Q:Exit→ae→Store→Prop}{rg:ae}{br:Store}(h:SW Tryz.prog N s Q rg (br++σ)):SWT N σ s Q rg br:=by
 intro c hc M w0 ws hI0 M1 a w hM hI hR hN hD
 have hb:Below ws.heap.size ws w:=⟨hI.os,hI.tape,hI.output,hI.size,hI.old⟩
 have h1:=hI0.after hb
 have aBP:∀ e∈σ,e.2.1<ws.heap.size:=fun e he=>hI0.BA he
 have aB6:∀ e∈br,ws.heap.size≤e.2.1:=fun e he=>(hI.st e he).1
 have hold:∀ b' o,b'<ws.heap.size→M b' o=none→M1 b' o=none:=fun b' o aH h0=>by
  cases h:M1 b' o with
  |none=>rfl
  |some v=>have h5:M b' o=some v:=hI.bm b' o v h aH;rw[h5]at h0;cases h0
 refine DA (h c hc M1 w0 a w ⟨h1.os,h1.tape,h1.output,h1.size,h1.old,hI.dB,fun e he=> ?_,?_,fun g l hl=>(h1.gl g l hl).mono hM,h1.gw,fun b' o v hv aH=> ?_⟩ hR hN hD) fun e a3 w3 hh=>Dx hM hh
 ·rcases Zm.1 he with he|he
  ·exact⟨YG hI0.size (aB6 e he),(hI.st e he).2⟩
  ·obtain⟨g1,g2⟩:=h1.st e he
   have aH:=aBP e he
   refine⟨g1,?_⟩
   cases hx:e.2.2 with
   |cells l2=>rw[hx]at g2;obtain⟨a1,Jx,t2,a2,a3⟩:=g2;exact⟨fun o=>hold _ _ aH (a1 o),Jx,t2,a2,a3.mono hM⟩
   |tail u c=>rw[hx]at g2;obtain⟨a1,Jx,t2,a2,a3⟩:=g2;exact⟨fun o ho=>hold _ _ aH (a1 o ho),Jx,t2,a2,a3⟩
   |map es k=>rw[hx]at g2;obtain⟨a1,l2,a2,a3,a4⟩:=g2;exact⟨fun o=>hold _ _ aH (a1 o),l2,a2,a3,a4.mono hM⟩
 ·rw[Y2]
  refine XT.2 ⟨hI.nd,hI0.nd,fun x hx y hy e=> ?_⟩
  obtain⟨e1,K5,rfl⟩:=YS.1 hx
  obtain⟨e2,A9,rfl⟩:=YS.1 hy
  have:=aBP e2 A9
  have:=aB6 e1 K5
  omega
 ·exact hI0.bm b' o v (hI.bm b' o v hv (Nat.lt_of_lt_of_le aH hI0.size)) aH
theorem SWT.wk{N:Nat}{σ:Store}{s:SC}{Q:Exit→ae→Store→Prop}{rg rg':ae}{br σ2:Store}(hr:eJ rg rg')(hs:Sub σ2 br)(h:SWT N σ s Q rg' σ2):SWT N σ s Q rg br:=
 fun c hc M w0 ws hI0 M1 a w hM hI hR hN hD=>h c hc M w0 ws hI0 M1 a w hM (hI.sub hs) (fun j=>(hr.lk j) _ _ (hR j)) hN hD
theorem SWT.aI3{N:Nat}{σ:Store}{s:SC}{Q:Exit→ae→Store→Prop}{rg ks:ae}{br τ:Store}(l:List dw)(i t b c L:Nat)(hn:l≠[])(hi:lk rg i= .own 2 t b (l.length * 2) c (l.map dw.cells))(hp:br.Perm ((t,b,.tail (l.length * 2) c)::τ))(hS:∀ e∈τ,aCg e.2.2)(vm:∀ q∈ks,lk rg q.1=q.2∧Stg q.2)
  (h:∀ cap post,l.length≤cap→cap≤maxLen→SW Tryz.prog N s Q ((i,.ms L b 0 l.length cap)::ks) ((L,b,.cells ((l.map dw.cells).flatten++post))::(τ++σ))):SWT N σ s Q rg br:=by
 intro cd hc M w0 ws hI0 M1 a w hM hI hR hN hD
 have h3:=hR i
 rw[hi]at h3
 obtain⟨cap,post,hv,ia,sP,hle,bQ,hint⟩:=aE6 hI0 (hI.perm hp) hM h3 hn hS L
 refine DA (h cap post ia sP cd hc (M1.wo b) w0 a w bQ (fun x=> ?_) hN hD) fun e a3 w3 hh=>Dx hle hh
 simp only[lk]
 cases e:Nat.beq i x with
 |true=>
  obtain rfl:=ZL e
  rw[hv];exact .ms _ _ _ _ _
 |false=>
  show R _ (lk ks x) _
  have hk:∀ ks:ae,(∀ q∈ks,lk rg q.1=q.2∧Stg q.2)→R (M1.wo b) (lk ks x) (a.tmps.getD x undef):=by
   intro ks
   induction ks with
   |nil=>intro _;exact .any _
   |cons q ks ih=>
    intro hq
    obtain⟨j,y⟩:=q
    simp only[lk]
    cases e2:Nat.beq j x with
    |true=>
     obtain rfl:=ZL e2
     obtain⟨g1,g2⟩:=hq (j,y) ZU
     have:=hR j
     rw[g1]at this
     exact Stg.wo hint this g2
    |false=>exact ih fun q hm=>hq q (ZX _ hm)
  exact hk ks vm
end Go.Proofs.YtbihckigennlhaaGreatDoor
set_option maxHeartbeats 4000000
namespace Go.Sx
open Go.RowKit
inductive FzN(b n c e:Nat)(rows:List (List AV)):ae→ae→Prop
 |nil:FzN b n c e rows [] []
 |m {i t:Nat} {r r':ae} (h:FzN b n c e rows r r'):FzN b n c e rows ((i,.ms t b 0 n c)::r) ((i,.sl false e rows)::r')
 |same {i:Nat} {x:AV} {r r':ae} (h:FzN b n c e rows r r'):FzN b n c e rows ((i,x)::r) ((i,x)::r')
theorem FzN.lk{b n c e:Nat}{rows:List (List AV)}{r r':ae}(h:FzN b n c e rows r r')(i:Nat):lk r' i=lk r i∨∃ t,lk r i= .ms t b 0 n c∧lk r' i= .sl false e rows:=by
 induction h with
 |nil=>exact .inl rfl
 | @m j t _ _ _ ih=>
  simp only[Sx.lk]
  cases Nat.beq j i with
  |true=>exact .inr ⟨t,rfl,rfl⟩
  |false=>exact ih
 | @same j x _ _ _ ih=>
  simp only[Sx.lk]
  cases Nat.beq j i with
  |true=>exact .inl rfl
  |false=>exact ih
theorem aDd{e:Nat}:∀ (rows:List (List AV)),(∀ r∈rows,r.length=e)→rows.flatten.length=rows.length * e
 |[],_=>by simp
 |r::rows,h=>by rw[Yn,Z7,aDd rows (fun r hr=>h r (by simp[hr])),h r (by simp),Z9,Yx];omega
theorem aEb{P:Program}[Glob P]{N:Nat}{cfg:Nat→Nat}{Q:Exit→ae→Store→Prop}{a:AC}{k:List Fr}{rg rg':ae}{σ σ':Store}{t b n c e:Nat}{rows:List (List AV)}{post:List AV}(hs:oI t b (rows.flatten++post) σ σ')(hr:∀ r∈rows,r.length=e)(hn:n=rows.length)(hc:n≤c∧c≤maxLen)(hf:FzN b n c e rows rg rg')(h:WK P N cfg Q a k rg' σ'):WK P N cfg Q a k rg σ:=by
 refine⟨⟨rfl,?_⟩⟩
 intro cd XG M w0 a w hI hR hN hD
 obtain⟨M',vs,hM,hI',fa,hcell⟩:=(hI.perm hs.perm).freeze
 refine DA (h.h.h cd XG M' w0 a w hI' (fun i=> ?_) hN hD) fun _ _ _ ⟨M2,bP,σ2,h1,h2⟩=>⟨M2,bP,σ2,hM.trans h1,h2⟩
 have h1:=(hR i).mono hM
 rcases hf.lk i with e0|⟨t',e1,e2⟩
 ·rw[e0];exact h1
 ·rw[e1]at h1
  rw[e2,h1.yK,hn]
  have hlen:=aDd rows hr
  have E8:rows.length * e+post.length=vs.length:=by rw[← fa.1,Z7,hlen]
  refine R.sl (M:=M') false e rows b 0 c (fun k=>vs.getD k default) (fun i hi=>hr _ (Y0 hi)) (fun k hk=> ?_) (fun i hi j hj=> ?_) (by omega) hc.2
  ·have bY:k<vs.length:=by omega
   rw[Zh,hcell k bY,Z1,Z6 bY];rfl
  ·have hg:=Kt hr i hi j hj
   obtain⟨g1,g2⟩:=ZN.1 hg
   have g3:i * e+j<vs.length:=by omega
   have g4:=fa.2 _ (by rw[Z7];omega) g3
   rw[List.getElem_append_left g1,g2]at g4
   rw[Z1,Z6 g3]
   exact g4
end Go.Sx
namespace Go.Proofs.YtbihckigennlhaaGreatDoor
open Go.Sx Go.Proofs
open Go.Sort (swp)
theorem aIH(l:List dw)(d:Array Nat)(z:Nat)(hzz:d.size=z)(hz:d.size≤1000000):aBw 66 [.v rr] l z d (aBI (hO l) d):=by
 intro b cap post τ
 refine Spec.cY (fun _=>0) Tryz.func66 aEq aEE (Z8 rfl) ?_
 repeat'(first|exact .nil|refine .k2 ?_|refine .r1 ?_ ?_|refine .r8 ?_ ?_|fail)
 refine se rfl (aIL l d z hzz hz b cap post τ) .nil (fun x σ' hR=> ?_) (fun ch σ' hR=> ?_)
 ·obtain⟨e1,rfl⟩:=hR
  cases e1
  repeat'(first|exact .nil|refine .k1 ?_|refine .k3 ?_|refine .r2 ?_ ?_|fail)
  exact⟨rfl,rfl⟩
 ·obtain⟨e1,_⟩:=hR;cases e1
theorem aET(l:List dw):flD l (Array.range l.length)=(l.map dw.cells).flatten:=by
 unfold flD
 rw[Array.toList_range]
 congr 1
 refine List.ext_getElem (by simp) fun i h1 h2=> ?_
 have hi:i<l.length:=by simpa using h1
 simp only[Zg,List.getElem_range]
 unfold nth
 rw[Z1,Z6 hi];rfl
theorem aEU(l:List dw)(hl:l≠[]):flD l (aBI (hO l) (Array.range l.length))=((aBv l).map dw.cells).flatten:=by
 unfold flD aBv
 rw[if_neg hl,Yw];rfl
theorem aII(l:List dw)(hl:l≠[])(hz:l.length≤1000000)(b cap:Nat)(post:List AV)(τ:Store):Sx.Spec Tryz.prog 66 [.ms 12 b 0 l.length cap,.v rr] ((12,b,.cells ((l.map dw.cells).flatten++post))::τ) fun x σ'=>x= .ret (.aI [])∧σ'=(12,b,.cells (((aBv l).map dw.cells).flatten++post))::τ:=by
 have h:=aIH l (Array.range l.length) l.length (by simp) (by simpa using hz) b cap post τ
 rw[aET,aEU l hl]at h
 exact h
theorem aE5:Pure Tryz.prog 160 [.v (.slice none 0 0),iv 0,iv 0,.v rr] (.aI []):=by
 refine aFi.p fun σ=> ?_
 repeat'(first|exact .nil|refine .k0 ?_|refine .k1 ?_|refine .k2 ?_|refine .k6 ?_|refine .r1 ?_ ?_|fail)
 refine cQ (fun q rg σ'=>σ'=σ∧rg=[(0,.v (.slice none 0 0)),(1,iv 0),(2,iv 0),(3,.v rr),(8,iv 1)]) 0 rfl ⟨_,_,Zr,Zs,rfl,rfl⟩ ?_
 rintro q _ σ ⟨hσ,rfl⟩
 subst hσ
 repeat'(first|exact .nil|refine .k0 ?_|refine .k1 ?_|refine .k2 ?_|refine .k3 ?_|refine .k6 ?_|refine .k8 ?_|refine .k9 ?_|(refine .cd ?_ ?_<;>(intro hc;skip))|refine .r1 ?_ ?_|fail)
 all_goals first|(exact absurd hc (by decide))|exact Sx.Fin.intro Zs rfl
theorem aIK:Pure Tryz.prog 116 [.v (.slice none 0 0),iv 0,.v rr] (.aI []):=by
 refine aFh.p fun σ=> ?_
 repeat'(first|exact .nil|refine .k0 ?_|refine .k1 ?_|refine .k2 ?_|refine .k6 ?_|refine .r1 ?_ ?_|fail)
 refine cQ (fun q rg σ'=>σ'=σ∧rg=[(0,.v (.slice none 0 0)),(1,iv 0),(2,.v rr),(6,iv 20),(7,iv 0),(8,iv 20)]) 0 rfl ⟨_,_,Zr,Zs,rfl,rfl⟩ ?_
 rintro q _ σ ⟨hσ,rfl⟩
 subst hσ
 repeat'(first|exact .nil|refine .k0 ?_|refine .k1 ?_|refine .k2 ?_|refine .k6 ?_|refine .k8 ?_|refine .k9 ?_|(refine .cd ?_ ?_<;>(intro hc;skip))|refine .r1 ?_ ?_|refine .an rfl (by intro bx;exact aE5) ?_ ?_|fail)
 ·exact absurd hc (by decide)
 refine cQ (fun q rg σ'=>σ'=σ∧rg=[(0,.v (.slice none 0 0)),(1,iv 0),(2,.v rr),(6,iv 20)]) 0 rfl ⟨_,_,Zr,Zs,rfl,rfl⟩ ?_
 rintro q _ σ ⟨hσ,rfl⟩
 subst hσ
 repeat'(first|exact .nil|refine .k0 ?_|refine .k1 ?_|refine .k2 ?_|refine .k3 ?_|refine .k8 ?_|(refine .cd ?_ ?_<;>(intro hc;first|exact kt hc (by assumption)|skip))|refine .r1 ?_ ?_|fail)
 all_goals exact Sx.Fin.intro Zs rfl
theorem aIF:Pure Tryz.prog 66 [.v (.slice none 0 0),.v rr] (.aI []):=by
 refine k66.p fun σ=> ?_
 repeat'(first|exact .nil|refine .k1 ?_|refine .k2 ?_|refine .k3 ?_|refine .r1 ?_ ?_|refine .an rfl (by intro bx;exact aIK) ?_ ?_|refine .r8 ?_ ?_|fail)
 exact Sx.Fin.intro Zs rfl
end Go.Proofs.YtbihckigennlhaaGreatDoor
set_option maxHeartbeats 8000000
namespace Go.Proofs.YtbihckigennlhaaGreatDoor
open Go.Sx Go.Proofs
def aJs(r:List AV):Prop:=(∃ j,∃ h:j<r.length,∃ s,r[j]= .v (.string s))∧∀ x∈r,Stg x
theorem aBJ{nn:Bool}{e:Nat}{rows:List (List AV)}(h:∀ r∈rows,aJs r):Stg (.sl nn e rows):=
 .sl _ _ _ (fun i hi=>(h _ (Y0 hi)).1) fun i hi j hj=>(h _ (Y0 hi)).2 _ (Y0 hj)
theorem aIP{e t b u c:Nat}{rows:List (List AV)}(h:∀ r∈rows,aJs r):Stg (.own e t b u c rows):=
 .own _ _ _ _ _ _ (fun i hi=>(h _ (Y0 hi)).1) fun i hi j hj=>(h _ (Y0 hi)).2 _ (Y0 hj)
theorem aBC{α:Type}{f:α→List AV}{l:List α}(h:∀ x,aJs (f x)):∀ r∈l.map f,aJs r:=fun r hr=>by
 obtain⟨x,_,rfl⟩:=YS.1 hr;exact h x
theorem aIR(t:Tok):aJs t.cells:=⟨⟨1,Z8 rfl,_,rfl⟩,fun x hx=>by
 simp only[Tok.cells,ZV,Yj,or_false]at hx
 rcases hx with rfl|rfl|rfl<;>exact .v _⟩
theorem aCE(f:aq):aJs f.cells:=⟨⟨0,Z8 rfl,_,rfl⟩,fun x hx=>by
 simp only[aq.cells,ZV,Yj,or_false]at hx
 rcases hx with rfl|rfl<;>exact .v _⟩
theorem aIO(f:dX):aJs f.cells:=⟨⟨0,Z8 rfl,_,rfl⟩,fun x hx=>by
 simp only[dX.cells,ZV,Yj,or_false]at hx
 rcases hx with rfl|rfl|rfl|rfl<;>first|exact .v _|exact aBJ (aBC aCE)⟩
theorem aIQ(f:gp):aJs f.cells:=⟨⟨0,Z8 rfl,_,rfl⟩,fun x hx=>by
 simp only[gp.cells,ZV,Yj,or_false]at hx
 rcases hx with rfl|rfl|rfl|rfl<;>first|exact .v _|exact aBJ (aBC aIO)⟩
theorem aDZ:∀ (n:Nat) (x:Ex),x.size≤n→aJs x.cells
 |0,x,h=>by have:=Ex.size_pos x;omega
 |n+1,x,h=>by
  rw[congrFun Ex.oR x]
  refine⟨⟨1,Z8 rfl,_,rfl⟩,fun y hy=> ?_⟩
  have ha:∀ r∈x.args.map Ex.cells,aJs r:=fun r hr=>by
   obtain⟨z,hz,rfl⟩:=YS.1 hr
   have h1:=Ex.OL hz
   have h2:=Ex.pN x
   exact aDZ n z (by omega)
  simp only[Ex.row,ZV,Yj,or_false]at hy
  rcases hy with rfl|rfl|rfl|rfl|rfl|rfl|rfl|rfl|rfl|rfl|rfl|rfl<;>first|exact .v _|exact aBJ (aBC aCE)|exact aBJ ha
theorem aIN(f:mb):aJs f.cells:=⟨⟨0,Z8 rfl,_,rfl⟩,fun x hx=>by
 have ha:∀ r∈f.body.args.map Ex.cells,aJs r:=aBC fun x=>aDZ _ x (ZI _)
 simp only[mb.cells,ZV,Yj,or_false]at hx
 rcases hx with rfl|rfl|rfl|rfl|rfl|rfl|rfl|rfl|rfl|rfl|rfl|rfl|rfl|rfl|rfl|rfl|rfl|rfl<;>first|exact .v _|exact aBJ (aBC aCE)|exact aBJ ha⟩
theorem aBU(L:List Tok){b:Value}:Stg (.sl false 3 (L.map Tok.cells))∧Stg (.v b):=⟨aBJ (aBC aIR),.v _⟩
theorem aDY{e t:Nat}{rows:List (List AV)}{x:AV}{τ:Store}(h:rV e t rows x τ)(hr:∀ r∈rows,aJs r):Stg x∧∀ y∈τ,aCg y.2.2:=by
 rcases h with⟨_,rfl,rfl⟩|⟨_,b,u,c,rfl,rfl⟩
 ·exact⟨.v _,fun y hy=>by cases hy⟩
 ·exact⟨aIP hr,fun y hy=>by rw[Y3]at hy;subst hy;trivial⟩
def x9:AC:=match a26 with
 | .seq _ (.keep _ (.seq _ (.keep _ (.seq a _))))=>a
 |a=>a
def aCa:AC:=match a26 with
 | .seq _ (.keep _ (.seq _ (.keep _ (.seq _ (.keep _ (.seq _ (.keep _ (.seq b _))))))))=>b
 |a=>a
def aBK:AC:=match a26 with
 | .seq _ (.keep _ (.seq _ (.keep _ (.seq _ (.keep _ (.seq _ (.keep _ (.seq _ (.keep _ b)))))))))=>b
 |a=>a
def aJv(s:Bs):AV:= .aI [.agg [.sl false 4 ((aBA s).1.tables.map gp.cells),.sl false 18 ((aBA s).1.AK.map mb.cells)],.sl false 2 ((aBA s).2.1.map dw.cells),iv (aBA s).2.2]
structure aJx(s:Bs)(L:List Tok)(m:oK)(bad:List dw):Prop where
 g:Gd L
 r:aJk L.length L m bad=aJk N0 (dh s).1 aBz (dh s).2
 n:m.tables.length+m.AK.length+bad.length+L.length≤30000
theorem aEF:a26.erase= .seq (.cj aok) (.seq (.cj aol) (.seq x9.erase (.seq (.cj aov) (.seq aCa.erase aBK.erase)))):=rfl
theorem aES(cV:AV)(bm b0:Nat)(l:List (List AV)):gI [2,3,5,6] [(2,.lp 2 bm 0),(3,cV),(5,.sl false 3 l),(6,.lp 1000 b0 0)]=some [(2,.lp 2 bm 0),(3,cV),(5,.sl false 3 l),(6,.lp 1000 b0 0)]:=by
 cases cV with
 |v x=>cases x<;>rfl
 |_=>rfl
theorem Wk.aBS{e t t' b u c:Nat}{rows:List (List AV)}:Wk (.own e t b u c rows) (.own e t' b u c rows):=fun M v h=>by
 obtain⟨off,cap,cs,rfl,hr,h4,h5,h6,h8⟩:=h.qZ
 exact R.pC hr h4 h5 h6 h8
theorem aCi{P:Program}[Glob P]{N:Nat}{cfg:Nat→Nat}{Q:Exit→ae→Store→Prop}{a:AC}{k:List Fr}{rg:ae}{σ σ':Store}(hp:σ.Perm σ')(h:WK P N cfg Q a k rg σ'):WK P N cfg Q a k rg σ:=by
 refine⟨⟨rfl,?_⟩⟩
 intro cd XG M w0 a w hI hR hN hD
 exact h.h.h cd XG M w0 a w (hI.perm hp) hR hN hD
theorem aCA{α:Type}(a:α)(b l1 l2 l0:List α):(a::(b++(l1++l2++l0))).Perm (a::(l1++l2++(b++l0))):=
 .cons _ (List.perm_append_comm_assoc b (l1++l2) l0)
def aD9(b:Nat)(cK τb:Store)(m:oK)(x1 x2:AV)(ke lh:Store)(r:PR rX)(x:dj)(σ':Store):Prop:=match r with
 | .ok a L'=>∃ y1 y2 um uo,HK (IE m a) y1 y2 um uo∧Gd L'∧x= .ret (.agg [iv 0,iv 0])∧σ'=(1000,b,.cells (bh L' false++[y1,y2]))::(τb++(um++uo++cK))
 | .err p c=>x= .ret (.agg [iv p,iv c])∧∃ L' i',σ'=(1000,b,.cells (bh L' i'++[x1,x2]))::(τb++(ke++lh++cK))
theorem aDr(hN:rZ)(hD:uw)(b0:Nat)(m:oK)(hm:m.tables.length≤100000∧m.AK.length≤100000)(x1 x2:AV)(cK τb ke lh:Store)(hS:HK m x1 x2 ke lh)(L:List Tok)(hL:Gd L):
  Sx.Spec Tryz.prog 65 [.lp 1000 b0 0] ((1000,b0,.cells (bh L false++[x1,x2]))::(τb++(ke++lh++cK))) (aD9 b0 cK τb m x1 x2 ke lh (aJe L)):=by
 refine Spec.permA (Spec.adq (aFb hN hD b0 m hm x1 x2 (τb++cK) ke lh hS L hL) fun x σ' h=> ?_) (aCA _ _ _ _ _)
 cases hit:aJe L with
 |ok a L'=>rw[hit]at h;obtain⟨y1,y2,um,uo,h1,h2,h3,rfl⟩:=h;exact⟨_,(aCA _ _ _ _ _).symm,y1,y2,um,uo,h1,h2,h3,rfl⟩
 |err p c=>rw[hit]at h;obtain⟨h1,L',i',rfl⟩:=h;exact⟨_,(aCA _ _ _ _ _).symm,h1,L',i',rfl⟩
theorem aDG:Pos 1 aJe:=(Sm.item (aCP default [])).pos
theorem aDV{x:Int}{L:List Tok}(h:1<L.length)(hc:(hd L).at_<x∨(hd L).kind≠5∨(hd L).text≠ch 59):B7 x L=B7 x L.tail:=by
 match L,h with
 |t::u::L,_=>exact if_pos hc
theorem aCb{x:Int}{L:List Tok}(h:¬(1<L.length∧((hd L).at_<x∨(hd L).kind≠5∨(hd L).text≠ch 59))):B7 x L=L:=by
 match L with
 |[]=>rfl
 |[t]=>rfl
 |t::u::L=>exact if_neg fun hc=>h ⟨by simp,hc⟩
theorem aJx.ok{s:Bs}{L L':List Tok}{m:oK}{bad:List dw}{a:rX}(h:aJx s L m bad)(hi:aJe L= .ok a L')(dq:Gd L')(hk:(hd L).kind≠6):aJx s L' (IE m a) bad∧L'.length<L.length:=by
 obtain⟨h1,h2,h3⟩:=(aDG L h.g.e).ok a L' hi
 have hr:=h.r
 have hn:=h.n
 obtain⟨k,j1⟩:∃ k,L.length=k+1:=⟨L.length-1,by omega⟩
 rw[j1,aJk,if_neg hk,hi]at hr
 refine⟨⟨dq,?_,?_⟩,by omega⟩
 ·rw[aB0 L'.length k L' _ _ h2 (ZI _) (by omega)];exact hr
 ·cases a with
  |O6 t=>simp only[IE,Z7,List.length_singleton];omega
  |Kg t=>simp only[IE,Z7,List.length_singleton];omega
theorem aJx.err{s:Bs}{L:List Tok}{m:oK}{bad:List dw}{p c:Int}(h:aJx s L m bad)(hi:aJe L= .err p c)(hk:(hd L).kind≠6):c≠0∧aJx s (IQ p L) m (bad++[⟨p,c⟩])∧(IQ p L).length<L.length:=by
 obtain⟨_,h2⟩:=(aDG L h.g.e).err p c hi
 obtain⟨h3,h4⟩:=aCQ (x:=p) h.g.e hk
 have hr:=h.r
 have hn:=h.n
 have aE3:IQ p L <:+ L:=by
  obtain⟨g1,g2⟩:=aCD p L h.g.e.ne
  unfold IQ
  split
  ·exact(X3 _).trans g1
  ·exact g1
 obtain⟨k,j1⟩:∃ k,L.length=k+1:=⟨L.length-1,by omega⟩
 rw[j1,aJk,if_neg hk,hi]at hr
 refine⟨h2,⟨⟨h3,fun t ht=>h.g.t t (aE3.subset ht),by have:=h.g.n;omega⟩,?_,by simp only[Z7,List.length_singleton];omega⟩,h4⟩
 rw[aB0 (IQ p L).length k _ _ _ h3 (ZI _) (by omega)];exact hr
theorem aJx.fin{s:Bs}{L:List Tok}{m:oK}{bad:List dw}(h:aJx s L m bad)(hk:(hd L).kind=6):(m,bad)=aJk N0 (dh s).1 aBz (dh s).2:=by
 have hr:=h.r
 have hp:=h.g.pos
 obtain⟨k,j1⟩:∃ k,L.length=k+1:=⟨L.length-1,by omega⟩
 rw[j1,aJk,if_pos hk]at hr
 exact hr
theorem aFu(hN:rZ)(hD:uw)(s:Bs)(b0 bm:Nat)(L:List Tok)(m:oK)(bad:List dw)(hI:aJx s L m bad)(cV x1 x2:AV)(ke lh τb:Store)(hS:HK m x1 x2 ke lh)(hB:nk 2 12 (bad.map dw.cells) cV τb)(Q:Exit→ae→Store→Prop)
  (hQ:∀ (m:oK) (bad:List dw) (cV x1 x2 y1 y2:AV) (ke lh τb:Store),(m,bad)=aJk N0 (dh s).1 aBz (dh s).2→HK m x1 x2 ke lh→nk 2 12 (bad.map dw.cells) cV τb→Stg y1∧Stg y2→bad.length≤30000→
   Q .normal [(2,.lp 2 bm 0),(3,cV),(6,.lp 1000 b0 0)] ((1000,b0,.cells ([y1,y2]++[x1,x2]))::(τb++(ke++lh++[(2,bm,.cells [fE,fE])])))):
  WK Tryz.prog c26.N (fun _=>0) (fun e rg σ'=>Q e (eY [2,3,6] rg) σ') aCa [] [(2,.lp 2 bm 0),(3,cV),(5,.sl false 3 (L.map Tok.cells)),(6,.lp 1000 b0 0)]
   ((1000,b0,.cells ([fE,.v (.bool false)]++[x1,x2]))::(τb++(ke++lh++[(2,bm,.cells [fE,fE])]))):=by
 show WK _ _ _ _ (.block 0 _) _ _ _
 refine R8 ?_
 refine cQ (fun q rg σ'=>∃ (L:List Tok) (m:oK) (bad:List dw) (cV x1 x2 y1 y2:AV) (ke lh τb:Store),aJx s L m bad∧q=L.length∧HK m x1 x2 ke lh∧nk 2 12 (bad.map dw.cells) cV τb∧(Stg y1∧Stg y2)∧
  σ'.Perm ((1000,b0,.cells ([y1,y2]++[x1,x2]))::(τb++(ke++lh++[(2,bm,.cells [fE,fE])])))∧rg=[(2,.lp 2 bm 0),(3,cV),(5,.sl false 3 (L.map Tok.cells)),(6,.lp 1000 b0 0)]) L.length (aES _ _ _ _) ⟨_,_,Zr,Zs,L,m,bad,cV,x1,x2,fE,.v (.bool false),ke,lh,τb,hI,rfl,hS,hB,⟨.v _,.v _⟩,.refl _,rfl⟩ ?_
 rintro q _ _ ⟨L,m,bad,cV,x1,x2,y1,y2,ke,lh,τb,hI,hq,hS,hB,hY,hP,rfl⟩
 refine aCi hP ?_
 have hL:=hI.g
 have hp:=hL.pos
 have hz:m.tables.length≤100000∧m.AK.length≤100000:=by have:=hI.n;omega
 rcases hB with⟨h0,rfl,rfl⟩|⟨h0,b2,u2,c2,rfl,rfl,hu2⟩
 all_goals
  repeat'(first|exact .nil|refine .k0 ?_|refine .k1 ?_|refine .k2 ?_|refine .k3 ?_|refine .k6 ?_|refine .k8 ?_|refine .k9 ?_|(refine .cd ?_ ?_<;>(intro hc;skip))|refine .r1 ?_ ?_|refine .t1 ?_ ?_ ?_|refine .r8 ?_ ?_|fail)
 all_goals try any_goals exact fun _=>⟨Yu _,hp⟩
 ·have hk6:(hd L).kind≠6:=by rw[← lF];simpa using hc
  refine nA (cs':=bh L false++[x1,x2]) rfl rfl rfl rfl rfl ⟨rfl,by simp⟩ .nil ?_
  rw[aL]
  obtain rfl:bad=[]:=YO.1 h0
  repeat'(first|exact .nil|refine .k0 ?_|refine .k1 ?_|refine .k2 ?_|refine .r1 ?_ ?_|fail)
  refine se rfl (aDr hN hD b0 m hz x1 x2 [(2,bm,.cells [fE,fE])] [] ke lh hS L hL) .nil (fun x σ' hR=> ?_) (fun ch σ' hR=> ?_)
  ·cases hit:aJe L with
   |ok a L'=>
    rw[hit]at hR
    obtain⟨z1,z2,um,uo,KU,dq,e1,rfl⟩:=hR
    cases e1
    repeat'(first|exact .nil|refine .k0 ?_|refine .k1 ?_|refine .k2 ?_|refine .k6 ?_|refine .k8 ?_|refine .k9 ?_|(refine .cd ?_ ?_<;>(intro hc;skip))|refine .r1 ?_ ?_|(refine .l1 ?_;intro b)|refine .u1 ?_ ?_ ?_ (fun b u c=> ?_)|fail)
    all_goals try any_goals exact absurd hc (by decide)
    have nT:=hI.ok hit dq hk6
    exact⟨L'.length,by rw[hq];exact nT.2,_,_,Zr,Zs,L',IE m a,[],fE,z1,z2,_,_,um,uo,[],nT.1,rfl,KU,.inl ⟨rfl,rfl,rfl⟩,aBU L',.refl _,rfl⟩
   |err pp cc=>
    rw[hit]at hR
    obtain⟨e1,L',i',rfl⟩:=hR
    cases e1
    have aCr:=(hI.err hit hk6).1
    have at0:=(hI.err hit hk6).2
    clear hQ hP
    repeat'((fail_if_success (show VX _ _ (⟨_,.append _ _ _ _ _ _,_⟩::_) _ _ _ _));(first|exact .nil|refine .k0 ?_|refine .k1 ?_|refine .k2 ?_|refine .k8 ?_|refine .k9 ?_|(refine .cd ?_ ?_<;>(intro hc;skip))|refine .r1 ?_ ?_|(refine .l1 ?_;intro b)|fail))
    ·exact absurd (of_decide_eq_true hc) aCr
    ·exact Z8 rfl
    refine QW rfl rfl ?_ ?_ ?_ (fun b9 u9 c9 hu9=> ?_)
    ·exact .nil
    ·exact YE _ _
    ·exact Z8 rfl
    have hrw:(([]:List dw)).map dw.cells++[[iv pp,iv cc]]=(([]:List dw)++[(⟨pp,cc⟩:dw)]).map dw.cells:=by rw[Y2];rfl
    repeat'((fail_if_success (show WK _ _ _ _ (.loop _) _ _ _));(first|exact .nil|refine .k0 ?_|refine .k1 ?_|refine .k6 ?_|refine .r1 ?_ ?_|fail))
    refine cQ (fun q rg σ'=>∃ L2:List Tok,L2.length≤20000∧q=L2.length∧B7 pp L2=B7 pp L∧σ'=(48,b9,.tail u9 c9)::(7,b,.cells [iv pp,iv cc])::(1000,b0,.cells (bh L' i'++[x1,x2]))::([]++(ke++lh++[(2,bm,.cells [fE,fE])]))∧
     rg=[(2,.lp 2 bm 0),(3,.own 2 48 b9 u9 c9 [[iv pp,iv cc]]),(5,.sl false 3 (L2.map Tok.cells)),(6,.lp 1000 b0 0),(7,.lp 7 b 0)]) L.length rfl ⟨_,_,Zr,Zs,L,hL.n,rfl,rfl,rfl,rfl⟩ ?_
    rintro q3 _ _ ⟨L2,ib,vr,hsk,rfl,rfl⟩
    repeat'(first|exact .nil|refine .k0 ?_|refine .k1 ?_|refine .k2 ?_|refine .k3 ?_|refine .k4 ?_|refine .k5 ?_|refine .k6 ?_|refine .k8 ?_|refine .k9 ?_|(refine .cd ?_ ?_<;>(intro hc;skip))|refine .r1 ?_ ?_|(refine .m2 ?_ ?_;intro hlen)|refine .t1 ?_ ?_ ?_|refine .t3 ?_ ?_ ?_|refine .r2 ?_ ?_|fail)
    all_goals(try simp only[BL]at *)
    ·omega
    ·have sP:=hc.2
     simp only[lF]at sP
     exact⟨L2.tail.length,by rw[List.length_tail];omega,_,_,Zr,Zs,L2.tail,by rw[List.length_tail];omega,rfl,by rw[← aDV (by omega) (by rcases sP with(h|h)|h;exact .inl h;exact .inr (.inl h);exact .inr (.inr h))];exact hsk,rfl,by rw[XY]⟩
    ·omega
    ·rename_i sP
     simp only[lF]at sP
     have ep:=aCb (x:=pp) (L:=L2) (by rintro⟨h1,h2⟩;rcases sP with h3|⟨⟨h3,h4⟩,h5⟩;omega;rcases h2 with h2|h2|h2;omega;exact h2 h4;exact h2 h5)
     have aBE:IQ pp L=List.drop 1 L2:=by unfold IQ;rw[← hsk,ep,if_pos (by omega),XY]
     exact⟨(IQ pp L).length,by rw[hq];exact at0.2,_,(12,b9,.tail u9 c9)::(1000,b0,.cells (bh L' i'++[x1,x2]))::([]++(ke++lh++[(2,bm,.cells [fE,fE])])),(.cons (.refl _) (.cons Wk.aBS (.cons (.mS (by rw[aBE])) (.cons (.refl _) .nil)))),(.same (.cons (.refl _))),IQ pp L,m,([]:List dw)++[(⟨pp,cc⟩:dw)],.own 2 12 b9 u9 c9 ((([]:List dw)++[(⟨pp,cc⟩:dw)]).map dw.cells),x1,x2,_,_,ke,lh,[(12,b9,.tail u9 c9)],at0.1,rfl,hS,.inr ⟨by simp,b9,u9,c9,rfl,rfl,by rw[hu9];rfl⟩,aBU L',.swap _ _ _,rfl⟩
    ·have ep:=aCb (x:=pp) (L:=L2) (by rintro⟨h1,h2⟩;omega)
     have aBE:IQ pp L=L2:=by unfold IQ;rw[← hsk,ep,if_neg (by omega)]
     exact⟨(IQ pp L).length,by rw[hq];exact at0.2,_,(12,b9,.tail u9 c9)::(1000,b0,.cells (bh L' i'++[x1,x2]))::([]++(ke++lh++[(2,bm,.cells [fE,fE])])),(.cons (.refl _) (.cons Wk.aBS (.cons (.mS (by rw[aBE])) (.cons (.refl _) .nil)))),(.same (.cons (.refl _))),IQ pp L,m,([]:List dw)++[(⟨pp,cc⟩:dw)],.own 2 12 b9 u9 c9 ((([]:List dw)++[(⟨pp,cc⟩:dw)]).map dw.cells),x1,x2,_,_,ke,lh,[(12,b9,.tail u9 c9)],at0.1,rfl,hS,.inr ⟨by simp,b9,u9,c9,rfl,rfl,by rw[hu9];rfl⟩,aBU L',.swap _ _ _,rfl⟩
    all_goals(intro h;omega)
  ·cases hit:aJe L with
   |ok a L'=>rw[hit]at hR;obtain⟨_,_,_,_,_,_,e1,_⟩:=hR;cases e1
   |err p c=>rw[hit]at hR;obtain⟨e1,_⟩:=hR;cases e1
 ·have hk6:(hd L).kind=6:=by rw[← lF];simpa using hc
  refine hQ m bad _ x1 x2 y1 y2 ke lh [] (hI.fin hk6) hS (.inl ⟨h0,rfl,rfl⟩) hY (by have:=hI.n;omega)
 ·have hk6:(hd L).kind≠6:=by rw[← lF];simpa using hc
  refine nA (cs':=bh L false++[x1,x2]) rfl rfl rfl rfl rfl ⟨rfl,by simp⟩ .nil ?_
  rw[aL]
  repeat'(first|exact .nil|refine .k0 ?_|refine .k1 ?_|refine .k2 ?_|refine .r1 ?_ ?_|fail)
  refine se rfl (aDr hN hD b0 m hz x1 x2 [(2,bm,.cells [fE,fE])] [(12,b2,.tail u2 c2)] ke lh hS L hL) .nil (fun x σ' hR=> ?_) (fun ch σ' hR=> ?_)
  ·cases hit:aJe L with
   |ok a L'=>
    rw[hit]at hR
    obtain⟨z1,z2,um,uo,KU,dq,e1,rfl⟩:=hR
    cases e1
    repeat'(first|exact .nil|refine .k0 ?_|refine .k1 ?_|refine .k2 ?_|refine .k6 ?_|refine .k8 ?_|refine .k9 ?_|(refine .cd ?_ ?_<;>(intro hc;skip))|refine .r1 ?_ ?_|(refine .l1 ?_;intro b)|refine .u2 ?_ ?_ ?_ (fun b u c=> ?_)|(show List.all _ _=true;rfl)|fail)
    all_goals try any_goals exact absurd hc (by decide)
    have nT:=hI.ok hit dq hk6
    exact⟨L'.length,by rw[hq];exact nT.2,_,_,Zr,Zs,L',IE m a,bad,.own 2 12 b2 u2 c2 (bad.map dw.cells),z1,z2,_,_,um,uo,[(12,b2,.tail u2 c2)],nT.1,rfl,KU,.inr ⟨h0,b2,u2,c2,rfl,rfl,hu2⟩,aBU L',.refl _,rfl⟩
   |err pp cc=>
    rw[hit]at hR
    obtain⟨e1,L',i',rfl⟩:=hR
    cases e1
    have aCr:=(hI.err hit hk6).1
    have at0:=(hI.err hit hk6).2
    clear hQ hP
    repeat'((fail_if_success (show VX _ _ (⟨_,.append _ _ _ _ _ _,_⟩::_) _ _ _ _));(first|exact .nil|refine .k0 ?_|refine .k1 ?_|refine .k2 ?_|refine .k8 ?_|refine .k9 ?_|(refine .cd ?_ ?_<;>(intro hc;skip))|refine .r1 ?_ ?_|(refine .l1 ?_;intro b)|fail))
    ·exact absurd (of_decide_eq_true hc) aCr
    ·exact Z8 rfl
    refine QY rfl rfl rfl ?_ ?_ ?_ (fun b9 u9 c9 hu9=> ?_)
    ·exact .nil
    ·show(_+1) * 16≤_;rw[Z3];have:=hI.n;omega
    ·rfl
    have hrw:bad.map dw.cells++[[iv pp,iv cc]]=(bad++[(⟨pp,cc⟩:dw)]).map dw.cells:=by rw[Y2];rfl
    repeat'((fail_if_success (show WK _ _ _ _ (.loop _) _ _ _));(first|exact .nil|refine .k0 ?_|refine .k1 ?_|refine .k6 ?_|refine .r1 ?_ ?_|fail))
    refine cQ (fun q rg σ'=>∃ L2:List Tok,L2.length≤20000∧q=L2.length∧B7 pp L2=B7 pp L∧σ'=(7,b,.cells [iv pp,iv cc])::(1000,b0,.cells (bh L' i'++[x1,x2]))::([(12,b9,.tail u9 c9)]++(ke++lh++[(2,bm,.cells [fE,fE])]))∧
     rg=[(2,.lp 2 bm 0),(3,.own 2 12 b9 u9 c9 (bad.map dw.cells++[[iv pp,iv cc]])),(5,.sl false 3 (L2.map Tok.cells)),(6,.lp 1000 b0 0),(7,.lp 7 b 0)]) L.length rfl ⟨_,_,Zr,Zs,L,hL.n,rfl,rfl,rfl,rfl⟩ ?_
    rintro q3 _ _ ⟨L2,ib,vr,hsk,rfl,rfl⟩
    repeat'(first|exact .nil|refine .k0 ?_|refine .k1 ?_|refine .k2 ?_|refine .k3 ?_|refine .k4 ?_|refine .k5 ?_|refine .k6 ?_|refine .k8 ?_|refine .k9 ?_|(refine .cd ?_ ?_<;>(intro hc;skip))|refine .r1 ?_ ?_|(refine .m2 ?_ ?_;intro hlen)|refine .t1 ?_ ?_ ?_|refine .t3 ?_ ?_ ?_|refine .r2 ?_ ?_|fail)
    all_goals(try simp only[BL]at *)
    ·omega
    ·have sP:=hc.2
     simp only[lF]at sP
     exact⟨L2.tail.length,by rw[List.length_tail];omega,_,_,Zr,Zs,L2.tail,by rw[List.length_tail];omega,rfl,by rw[← aDV (by omega) (by rcases sP with(h|h)|h;exact .inl h;exact .inr (.inl h);exact .inr (.inr h))];exact hsk,rfl,by rw[XY]⟩
    ·omega
    ·rename_i sP
     simp only[lF]at sP
     have ep:=aCb (x:=pp) (L:=L2) (by rintro⟨h1,h2⟩;rcases sP with h3|⟨⟨h3,h4⟩,h5⟩;omega;rcases h2 with h2|h2|h2;omega;exact h2 h4;exact h2 h5)
     have aBE:IQ pp L=List.drop 1 L2:=by unfold IQ;rw[← hsk,ep,if_pos (by omega),XY]
     exact⟨(IQ pp L).length,by rw[hq];exact at0.2,_,(1000,b0,.cells (bh L' i'++[x1,x2]))::([(12,b9,.tail u9 c9)]++(ke++lh++[(2,bm,.cells [fE,fE])])),(.cons (.refl _) (.cons (.mS (by rw[hrw])) (.cons (.mS (by rw[aBE])) (.cons (.refl _) .nil)))),(.cons (.refl _)),IQ pp L,m,bad++[(⟨pp,cc⟩:dw)],.own 2 12 b9 u9 c9 ((bad++[(⟨pp,cc⟩:dw)]).map dw.cells),x1,x2,_,_,ke,lh,[(12,b9,.tail u9 c9)],at0.1,rfl,hS,.inr ⟨by simp,b9,u9,c9,rfl,rfl,by rw[hu9 hu2];simp⟩,aBU L',.refl _,rfl⟩
    ·have ep:=aCb (x:=pp) (L:=L2) (by rintro⟨h1,h2⟩;omega)
     have aBE:IQ pp L=L2:=by unfold IQ;rw[← hsk,ep,if_neg (by omega)]
     exact⟨(IQ pp L).length,by rw[hq];exact at0.2,_,(1000,b0,.cells (bh L' i'++[x1,x2]))::([(12,b9,.tail u9 c9)]++(ke++lh++[(2,bm,.cells [fE,fE])])),(.cons (.refl _) (.cons (.mS (by rw[hrw])) (.cons (.mS (by rw[aBE])) (.cons (.refl _) .nil)))),(.cons (.refl _)),IQ pp L,m,bad++[(⟨pp,cc⟩:dw)],.own 2 12 b9 u9 c9 ((bad++[(⟨pp,cc⟩:dw)]).map dw.cells),x1,x2,_,_,ke,lh,[(12,b9,.tail u9 c9)],at0.1,rfl,hS,.inr ⟨by simp,b9,u9,c9,rfl,rfl,by rw[hu9 hu2];simp⟩,aBU L',.refl _,rfl⟩
    all_goals(intro h;omega)
  ·cases hit:aJe L with
   |ok a L'=>rw[hit]at hR;obtain⟨_,_,_,_,_,_,e1,_⟩:=hR;cases e1
   |err p c=>rw[hit]at hR;obtain⟨e1,_⟩:=hR;cases e1
 ·have hk6:(hd L).kind=6:=by rw[← lF];simpa using hc
  refine hQ m bad _ x1 x2 y1 y2 ke lh [(12,b2,.tail u2 c2)] (hI.fin hk6) hS (.inr ⟨h0,b2,u2,c2,rfl,rfl,hu2⟩) hY (by have:=hI.n;omega)
theorem aFt(src:List UInt8)(hl:16384<src.length)(nn:Bool):Pure Tryz.prog 26 [.sl nn 1 (src.map bn)] (aJv src):=by
 refine k26.p fun σ=> ?_
 repeat'(first|exact .nil|refine .k0 ?_|refine .k1 ?_|refine .k2 ?_|refine .r1 ?_ ?_|(refine .l1 ?_;intro b)|fail)
 have f1:(!decide ((2:Int)=0))=true:=by decide
 refine se rfl (ayI src hl nn _) .nil (fun x σ' hR=> ?_) (fun ch σ' hR=>absurd hR.1 (by nofun))
 obtain⟨e,rfl⟩:=hR
 cases e
 repeat'(first|exact .nil|refine .k0 ?_|refine .k1 ?_|refine .k2 ?_|refine .k4 ?_|refine .k7 ?_|(refine .cd ?_ ?_<;>(intro hc;first|exact kf hc (by assumption)|skip))|refine .r1 ?_ ?_|refine .r8 ?_ ?_|fail)
 unfold aJv aBA
 rw[if_pos hl]
 exact⟨.aI (.cons (.agg (.cons .nil (.cons .nil .nil))) (.cons .nil (.cons (.refl _) .nil))),Zs⟩
theorem aFq{s:Bs}(hl:¬16384<s.length){m:oK}{bad:List dw}(h:(m,bad)=aJk N0 (dh s).1 aBz (dh s).2):aJv s= .aI [.agg [.sl false 4 (m.tables.map gp.cells),.sl false 18 (m.AK.map mb.cells)],.sl false 2 (((aBv bad).take 32).map dw.cells),iv 0]:=by
 unfold aJv aBA
 rw[if_neg hl]
 simp only
 rw[show(⟨[],[]⟩:oK)=aBz from rfl,← h]
theorem aC2{e t:Nat}{rows:List (List AV)}{x:AV}{τ:Store}(h:rV e t rows x τ):Wk x (.sl false e rows):=by
 rcases h with⟨h0,rfl,rfl⟩|⟨_,b,u,c,rfl,rfl⟩
 ·rw[h0];exact .nil
 ·exact .own false
theorem aDE{α:Type}(a e:α)(l1 l2 l0:List α):(a::((l1++l2++[e])++l0)).Perm (e::a::(l1++l2++l0)):=by
 refine(List.Perm.cons a ?_).trans (.swap _ _ _)
 rw[ZA]
 exact Yk
theorem aI2(l:List dw):List.drop ((none:Option Int).getD 0).toNat (List.take ((some (if(true:Bool)=true then if(32:Int)<(l.length:Int)then 32 else(l.length:Int)else if(32:Int)>(l.length:Int)then 32 else(l.length:Int))).getD ((l.map dw.cells).length:Int)).toNat (l.map dw.cells))=(l.take 32).map dw.cells:=by
 simp only[Option.getD_none,ZE,Y7,Int.toNat_zero,List.drop_zero,XZ]
 split
 ·rfl
 ·rename_i h
  rw[Y8,ZC (by simp),ZC (by simp;omega)]
theorem aFx(src:List UInt8)(hl:¬16384<src.length)(m:oK)(bad:List dw)(hm:(m,bad)=aJk N0 (dh src).1 aBz (dh src).2)(hb:bad.length≤30000)(cV x1 x2 y1 y2:AV)(ke lh τb σ:Store)(hS:HK m x1 x2 ke lh)
  (hC:nk 2 12 (bad.map dw.cells) cV τb) (hY:Stg y1∧Stg y2) (b0 bm:Nat):
  SWT c26.N σ aBK.erase (lW c26.res (aJv src) σ) [(2,.lp 2 bm 0),(3,cV),(6,.lp 1000 b0 0)] ((1000,b0,.cells ([y1,y2]++[x1,x2]))::(τb++(ke++lh++[(2,bm,.cells [fE,fE])]))):=by
 rw[aFq hl hm]
 obtain⟨g1,g2⟩:=aDY hS.t (aBC aIQ)
 obtain⟨g3,g4⟩:=aDY hS.f (aBC aIN)
 have w1:=aC2 hS.t
 have w2:=aC2 hS.f
 rcases hC with⟨h0,rfl,rfl⟩|⟨h0,b2,u2,c2,rfl,rfl,hu2⟩
 ·obtain rfl:bad=[]:=YO.1 h0
  refine SWT.done ?_
  refine xd (a:=aBK) (cfg:=fun _=>0) ?_
  refine aCi (σ':=(2,bm,.cells [fE,fE])::(1000,b0,.cells [y1,y2,x1,x2])::(ke++lh++σ)) (aDE _ _ _ _ _) ?_
  obtain⟨ht,hf⟩:=hS
  rcases ht with⟨_,rfl,rfl⟩|⟨_,b7,u7,c7,rfl,rfl⟩<;>rcases hf with⟨_,rfl,rfl⟩|⟨_,b8,u8,c8,rfl,rfl⟩
  all_goals
   show WK _ _ _ _ (.seq (.cj _) (.keep _ _)) _ _ _
   repeat'((fail_if_success (show WK _ _ _ _ (.seq (.dr _ _) _) _ _ _));(first|exact .nil|refine .k0 ?_|refine .k1 ?_|refine .k2 ?_|refine .r1 ?_ ?_|refine .an rfl (by intro bx;exact aIF) ?_ ?_|fail))
   refine Sh (rg':=[(2,.lp 2 bm 0),(3,.sl false 2 []),(6,.lp 1000 b0 0)]) ?_ (.cons (.refl _) (.cons .nil (.cons (.refl _) .nil))) (.refl _)
   repeat'(first|exact .nil|refine .k0 ?_|refine .k1 ?_|refine .k3 ?_|refine .k7 ?_|refine .r1 ?_ ?_|refine .r3 ?_ ?_|refine .r8 ?_ ?_|fail)
  all_goals first|(refine⟨rfl,Yu _,?_⟩;simp only[Option.getD_none,ZE,Z3,Z4,Y7];split<;>omega)|exact⟨.aI (.cons (.agg (.cons w1 (.cons w2 .nil))) (.cons (.refl _) (.cons (.refl _) .nil))),Zs⟩|fail
 ·have hn:bad≠[]:=fun e=>h0 (by rw[e];rfl)
  obtain rfl:u2=bad.length * 2:=by rw[hu2,Z3]
  refine SWT.aI3 (ks:=[(2,.lp 2 bm 0),(6,.lp 1000 b0 0)]) (τ:=(1000,b0,.cells ([y1,y2]++[x1,x2]))::(ke++lh++[(2,bm,.cells [fE,fE])])) bad 3 12 b2 c2 12 hn rfl (.swap _ _ _) ?_ ?_ fun cap post ia sP=> ?_
  ·intro e he
   rcases ZV.1 he with rfl|he
   ·intro i hi
    match i,hi with
    |0,_=>exact hY.1
    |1,_=>exact hY.2
    |2,_=>exact g1
    |3,_=>exact g3
   ·rcases Zm.1 he with he|he
    ·rcases Zm.1 he with he|he
     ·exact g2 e he
     ·exact g4 e he
    ·rw[Y3]at he
     subst he
     intro i hi
     match i,hi with
     |0,_=>exact .v _
     |1,_=>exact .v _
  ·intro q hq
   simp only[ZV,Yj,or_false]at hq
   rcases hq with rfl|rfl
   ·exact⟨rfl,.lp _ _ _⟩
   ·exact⟨rfl,.lp _ _ _⟩
  ·have hsl:(aBv bad).length=bad.length:=aIG bad
   refine xd (a:=aBK) (cfg:=fun _=>0) ?_
   show WK _ _ _ _ (.seq (.cj _) (.keep _ _)) _ _ _
   repeat'(first|exact .nil|refine .k1 ?_|refine .k2 ?_|refine .r1 ?_ ?_|fail)
   refine se rfl (aII bad hn (by omega) b2 cap post _) .nil (fun x σ' hR=> ?_) (fun ch σ' hR=> ?_)
   ·obtain⟨e1,rfl⟩:=hR
    cases e1
    repeat'((fail_if_success (show WK _ _ _ _ (.seq (.dr _ _) _) _ _ _));(first|refine .k0 ?_|refine .k1 ?_|fail))
    refine aEb (rows:=(aBv bad).map dw.cells) (e:=2) .here ?_ ?_ ⟨ia,sP⟩ (.same (.m (.same .nil))) ?_
    ·intro r hr;obtain⟨p,_,rfl⟩:=YS.1 hr;rfl
    ·rw[Z3,hsl]
    refine aCi (σ':=(2,bm,.cells [fE,fE])::(1000,b0,.cells [y1,y2,x1,x2])::(ke++lh++σ)) (aDE _ _ _ _ _) ?_
    obtain⟨ht,hf⟩:=hS
    rcases ht with⟨_,rfl,rfl⟩|⟨_,b7,u7,c7,rfl,rfl⟩<;>rcases hf with⟨_,rfl,rfl⟩|⟨_,b8,u8,c8,rfl,rfl⟩
    all_goals
     repeat'(first|exact .nil|refine .k0 ?_|refine .k1 ?_|refine .k3 ?_|refine .k7 ?_|refine .r1 ?_ ?_|refine .r2 ?_ ?_|refine .r8 ?_ ?_|fail)
    all_goals first|(refine⟨rfl,Yu _,?_⟩;simp only[Option.getD_none,ZE,Z3,Z4,Y7];split<;>omega)|exact⟨.aI (.cons (.agg (.cons w1 (.cons w2 .nil))) (.cons (.mS (congrArg (AV.sl false 2) (aI2 _))) (.cons (.refl _) .nil))),Zs⟩
   ·obtain⟨e1,_⟩:=hR;cases e1
theorem aFv(hG:ux)(hA:ur)(hN:rZ)(hD:uw)(src:List UInt8)(hl:¬16384<src.length)(nn:Bool):Pure Tryz.prog 26 [.sl nn 1 (src.map bn)] (aJv src):=by
 refine k26.p fun σ=> ?_
 refine⟨⟨rfl,?_⟩⟩
 show SW _ _ (a26.erase) _ _ _
 rw[aEF]
 have D7:Gd (dh src).1:=ayL (by omega)
 have hp:=D7.pos
 refine SWT.start (SWT.seq (by intro l h;cases h) ?_)
 refine xd (a:= .cj aok) (cfg:=fun _=>0) ?_
 repeat'(first|exact .nil|refine .k1 ?_|refine .k2 ?_|refine .k3 ?_|refine .r1 ?_ ?_|(refine .l1 ?_;intro b)|fail)
 rename Nat=>bm
 refine⟨rfl,SWT.eY (rg':=[(0,.sl nn 1 (src.map bn)),(2,.lp 2 bm 0)]) [0,2] rfl (SWT.seq (by intro l h;cases h) ?_)⟩
 refine xd (a:= .cj aol) (cfg:=fun _=>0) ?_
 repeat'(first|exact .nil|refine .k2 ?_|refine .r1 ?_ ?_|fail)
 have g1:(!decide ((0:Int)=0))=false:=by decide
 have g3:decide (((dh src).1.length:Int)=0)=false:=Zp (by omega)
 have hI:aJx src (dh src).1 aBz (dh src).2:=by
  refine⟨D7,aB0 _ _ _ _ _ D7.e (ZI _) (by have:=D7.n;show _≤1000000;omega),?_⟩
  have h1:(dh src).2.length≤32:=by unfold dh;simp only[ZT];omega
  have h2:=D7.n
  show 0+0+_+_≤_;omega
 have key:∀ (cV:AV) (τb:Store),nk 2 12 ((dh src).2.map dw.cells) cV τb→SWT c26.N σ (.seq x9.erase (.seq (.cj aov) (.seq aCa.erase aBK.erase))) (lW c26.res (aJv src) σ) [(2,.lp 2 bm 0),(3,cV),(4,iv 0),(5,.sl false 3 ((dh src).1.map Tok.cells))] (τb++[(2,bm,.cells [fE,fE])]):=by
  intro cV τb hC
  refine SWT.seq (fun l h=>nomatch (show(SC.seq _ _:SC)= .azZ l from h)) ?_
  have Mx:SWT c26.N σ (.seq (.cj aov) (.seq aCa.erase aBK.erase)) (lW c26.res (aJv src) σ) [(2,.lp 2 bm 0),(3,cV),(5,.sl false 3 ((dh src).1.map Tok.cells))] (τb++[(2,bm,.cells [fE,fE])]):=by
   refine SWT.seq (by intro l h;cases h) ?_
   refine xd (a:= .cj aov) (cfg:=fun _=>0) ?_
   repeat'(first|exact .nil|refine .k1 ?_|refine .k2 ?_|refine .k3 ?_|refine .r1 ?_ ?_|(refine .m1 ?_ ?_;intro b)|fail)
   rename Nat=>b0
   refine⟨rfl,SWT.eY (rg':=[(2,.lp 2 bm 0),(3,cV),(5,.sl false 3 ((dh src).1.map Tok.cells)),(6,.lp 24 b0 0)]) [2,3,5,6] rfl (SWT.wk (rg':=[(2,.lp 2 bm 0),(3,cV),(5,.sl false 3 ((dh src).1.map Tok.cells)),(6,.lp 1000 b0 0)]) (σ2:=(1000,b0,.cells [fE,.v (.bool false),fE,fE])::(τb++[(2,bm,.cells [fE,fE])])) (.cons (.refl _) (.cons (.refl _) (.cons (.refl _) (.cons .lp .nil)))) (.same (.refl _)) ?_)⟩
   refine SWT.seq (fun l h=>nomatch (show(SC.block _ _:SC)= .azZ l from h)) ?_
   have hlp:=aFu hN hD src b0 bm _ aBz _ hI cV fE fE [] [] τb ⟨.inl ⟨rfl,rfl,rfl⟩,.inl ⟨rfl,rfl,rfl⟩⟩ hC (fun e rg σ'=>e= .normal∧SWT c26.N σ aBK.erase (lW c26.res (aJv src) σ) rg σ')
    fun m bad cV x1 x2 y1 y2 ke lh τb h1 h2 h3 h4 h5=>⟨rfl,aFx src hl m bad h1 h5 cV x1 x2 y1 y2 ke lh τb σ h2 h3 h4 b0 bm⟩
   exact(xd hlp).mono fun e rg σ' h=>⟨h.1,SWT.eY [2,3,6] rfl h.2⟩
  rcases hC with⟨h0,rfl,rfl⟩|⟨h0,b2,u2,c2,rfl,rfl,_⟩
  all_goals
   refine xd (a:=x9) (cfg:=fun _=>0) ?_
   show WK _ _ _ _ (.seq (.cj _) (.keep _ _)) _ _ _
   repeat'(first|exact .nil|refine .k0 ?_|refine .k1 ?_|refine .k2 ?_|refine .k3 ?_|refine .k9 ?_|(refine .cd ?_ ?_<;>(intro hc;first|exact kt hc (by assumption)|skip))|refine .r1 ?_ ?_|(refine .m2 ?_ ?_;intro hlen)|fail)
  all_goals exact⟨rfl,SWT.eY [2,3,5] rfl Mx⟩
 refine se rfl (GK hG hA src (by omega) nn _) .nil (fun x σ' hR=> ?_) (fun ch σ' hR=> ?_)
 ·obtain⟨cV,τb,hC,e,rfl⟩:=hR
  cases e
  have hk:=key cV τb hC
  rcases hC with⟨h0,rfl,rfl⟩|⟨h0,b2,u2,c2,rfl,rfl,_⟩
  all_goals
   repeat'(first|exact .nil|refine .k1 ?_|refine .k3 ?_|refine .r1 ?_ ?_|fail)
   exact⟨rfl,SWT.eY [2,3,4,5] rfl hk⟩
 ·obtain⟨_,_,_,e,_⟩:=hR;cases e
theorem aFw(hG:ux)(hA:ur)(hN:rZ)(hD:uw)(src:List UInt8)(nn:Bool):Pure Tryz.prog 26 [.sl nn 1 (src.map bn)] (aJv src):=by
 by_cases hl:16384<src.length
 ·exact aFt src hl nn
 ·exact aFv hG hA hN hD src hl nn
end Go.Proofs.YtbihckigennlhaaGreatDoor
