/- The reference: lists of names. -/
import Derived.Test.YtcccbdelfhgmlaaGreatDoorPl
import Derived.Test.YtcccbdelfhgmlaaGreatDoorCa
import Derived.Test.YtcccbdelfhgmlaaGreatDoorCd
import Derived.Test.YtcccbdelfhgmlaaGreatDoorCn
import Derived.Test.YtcccbdelfhgmlaaGreatDoorCg
import Derived.Test.YtcccbdelfhgmlaaGreatDoorSxB
import Derived.Test.YtcccbdelfhgmlaaGreatDoorRows
import Derived.Lib.LaidU8
import Derived.LaidLaws
import Derived.Shelf.Vars
import Derived.HandedShaped
set_option linter.unusedSimpArgs false
set_option linter.unusedVariables false
set_option maxRecDepth 100000
set_option maxHeartbeats 4000000
namespace Go.Proofs.YtcccbdelfhgmlaaGreatDoor
open Go.Sx Go.Proofs Go.Tb
abbrev zB(l:List ae):AV:= .sl false 1 (l.map fL)
theorem awi(a b:List ae):Pure Tryz.prog 10 [zB a,zB b] (.v (.bool (decide (a=b)))):=by
 refine JW.p fun σ=> ?_
 repeat'(first|exact .nil|refine .k0 ?_|refine .k1 ?_|refine .k2 ?_|refine .k6 ?_|refine .k7 ?_|refine .k9 ?_|(refine .cd ?_ ?_<;>(intro hc;skip))|refine .r1 ?_ ?_|(refine .m2 ?_ ?_;intro hlen)|fail)
 all_goals(try simp only[BL]at *)
 ·refine Sx.Fin.intro Zs (bf ?_)
  intro e;subst e;omega
 refine dU (fun n rg σ'=>∃ i:Nat,i≤a.length∧n=a.length-i∧(∀ j,j<i→a.getD j default=b.getD j default)∧σ'=σ∧rg=[(0,zB a),(1,zB b),(5,iv i)]) a.length rfl ⟨_,_,Zr,Zs,0,ZH _,rfl,fun j hj=>absurd hj (by omega),rfl,rfl⟩ ?_
 rintro n _ _ ⟨i,hi,hn,hp,rfl,rfl⟩
 repeat'(first|exact .nil|refine .k0 ?_|refine .k1 ?_|refine .k2 ?_|refine .k5 ?_|refine .k6 ?_|refine .k7 ?_|refine .k8 ?_|refine .k9 ?_|(refine .cd ?_ ?_<;>(intro hc;skip))|refine .r1 ?_ ?_|(refine .m2 ?_ ?_;intro hlen)|refine .t1 ?_ ?_ ?_|fail)
 try any_goals(exact Zo)
 all_goals(try simp only[BL]at *)
 ·refine Sx.Fin.intro Zs (bf ?_)
  intro e;subst e;exact hc rfl
 ·refine⟨a.length-(i+1),by omega,_,_,Zr,Zs,i+1,by omega,rfl,nS hp hc,rfl,by rw[iQ (n:=a.length) (by omega) (by assumption)]⟩
 ·refine Sx.Fin.intro Zs (bt ?_)
  refine XP (by omega) fun j h1 h2=> ?_
  have:=hp j (by omega)
  rwa [getD_eq h1,getD_eq h2]at this
end Go.Proofs.YtcccbdelfhgmlaaGreatDoor
namespace Go.Sx
theorem Wk.flr{ez:Nat}{rows rows':List (List AV)}{nn:Bool}(h:rows=rows'):Wk (.fl ez rows) (.sl nn ez rows'):=h ▸ fun _ _ h=>h.PA nn
end Go.Sx
namespace Go.Proofs.YtcccbdelfhgmlaaGreatDoor
open Go.Sx Go.Proofs Go.Tb
mutual
def jw:Ex→Int→Int
 | .mk _ _ _ _ _ _ _ _ ks,m=>bN ks m 1
def bN:List Ex→Int→Int→Int
 |[],_,n=>n
 |x::l,m,n=>if n≤m then bN l m (n+jw x (m-n))else n
end
theorem awQ(x:Ex)(m:Int):jw x m=bN x.args m 1:=by cases x;rw[jw];rfl
mutual
theorem CC:∀ (x:Ex) (m:Int),1≤jw x m∧jw x m≤max m 0+1
 | .mk _ _ _ _ _ _ _ _ ks,m=>by
  rw[jw]
  have:=FE ks m 1 (by omega) (by omega)
  omega
theorem FE:∀ (l:List Ex) (m n:Int),1≤n→n≤max m 0+1→1≤bN l m n∧bN l m n≤max m 0+1
 |[],m,n,h1,h2=>by rw[bN];omega
 |x::l,m,n,h1,h2=>by
  rw[bN]
  split
  ·rename_i h
   have:=CC x (m-n)
   exact FE l m _ (by omega) (by omega)
  ·omega
end
mutual
theorem UP:∀ (x:Ex) (m:Int),jw x m≤m→(x.size:Int)=jw x m
 | .mk _ _ _ _ _ _ _ _ ks,m,h=>by
  rw[jw]at h ⊢
  rw[Ex.size]
  have:=K5 ks m 1 h
  omega
theorem K5:∀ (l:List Ex) (m n:Int),bN l m n≤m→bN l m n=n+(Ex.cR l:Int)
 |[],m,n,h=>by rw[bN,Ex.cR];simp
 |x::l,m,n,h=>by
  rw[bN]at h ⊢
  by_cases hn:n≤m
  ·rw[Z8 hn]at h ⊢
   have h1:=K5 l m _ h
   have h2:=UP x (m-n) (by have:0≤(Ex.cR l:Int):=Int.natCast_nonneg _;omega)
   rw[h1,Ex.cR]
   omega
  ·rw[Z9 hn]at h;omega
end
mutual
theorem DC:∀ x:Ex,x.aV.length≤x.size∧x.cy.length≤x.size
 | .mk k _ n t _ _ _ _ ks=>by
  have h:=Pp ks
  rw[Ex.aV,Ex.cy,Ex.size,Z5,Z5]
  have h1:(if k=3∨k=4 then[n]else[]).length≤1:=by split<;>simp
  have h2:(if k=5 then[t]else[]).length≤1:=by split<;>simp
  omega
theorem Pp:∀ l:List Ex,(Ex.eW l).length≤Ex.cR l∧(Ex.fe l).length≤Ex.cR l
 |[]=>by simp[Ex.eW,Ex.fe,Ex.cR]
 |x::l=>by
  have h1:=DC x
  have h2:=Pp l
  rw[Ex.eW,Ex.fe,Ex.cR,Z5,Z5];omega
end
theorem awS(l:List Ex){m n:Int}(h:¬n≤m):bN l m n=n:=by
 cases l with
 |nil=>rw[bN]
 |cons x l=>rw[bN,Z9 h]
theorem K4:∀ (a b:List Ex) (m n:Int),bN (a++b) m n=if bN a m n≤m then bN b m (bN a m n)else bN a m n
 |[],b,m,n=>by
  rw[Za,bN]
  split
  ·rfl
  ·rename_i h;exact awS b h
 |x::a,b,m,n=>by
  rw[ZC,bN,bN]
  by_cases hn:n≤m
  ·rw[Z8 hn,Z8 hn];exact K4 a b m _
  ·rw[Z9 hn,Z9 hn,Z9 hn]
theorem US{l:List Ex}{i:Nat}(hi:i<l.length){m n:Int}(h:bN (l.take i) m n≤m):bN (l.take (i+1)) m n=bN (l.take i) m n+jw (l.getD i default) (m-bN (l.take i) m n):=by
 rw[ZF hi,K4,Z8 h,getD_eq hi,bN,Z8 h,bN]
theorem UQ{l:List Ex}{i:Nat}{m n:Int}(h:¬bN (l.take i) m n≤m):bN l m n=bN (l.take i) m n:=by
 have:=K4 (l.take i) (l.drop i) m n
 rwa [YI,Z9 h]at this
def C7(x:Ex):Prop:=∀ m:Int, -10000≤m→m≤10000→Pure Tryz.prog 5 [.agg x.row,iv m] (iv (jw x m))
theorem awq(x:Ex)(ih:∀ i,i<x.args.length→C7 (x.args.getD i default)):C7 x:=fun m hm lU=>by
 rw[Ex.eT x,awQ]
 refine k5.p fun σ=> ?_
 repeat'(first|exact .nil|refine .k0 ?_|refine .k1 ?_|refine .k2 ?_|refine .k6 ?_|refine .r1 ?_ ?_|(refine .m1 ?_ ?_;intro b)|fail)
 all_goals(try simp only[BL]at *)
 refine dU (fun n rg σ'=>∃ i:Nat,i≤x.args.length∧n=x.args.length-i∧σ'=(2,b,cG.cells x.lay)::σ∧rg=[(1,iv m),(2,.lp 2 b 0),(5,iv (bN (x.args.take i) m 1)),(6,iv i)]) x.args.length rfl ⟨_,_,Zr,Zs,0,ZH _,rfl,rfl,by rw[List.take_zero,bN];rfl⟩ ?_
 rintro n _ _ ⟨i,hi,hn,rfl,rfl⟩
 have hp:=FE (x.args.take i) m 1 (by omega) (by omega)
 have hq:=CC (x.args.getD i default) (m-bN (x.args.take i) m 1)
 have hA:=fun(h:i<x.args.length) (h2:bN (x.args.take i) m 1≤m)=>(show Pure Tryz.prog 5 [.agg (x.args.getD i default).row,iv (IntKind.i64.wrap (m-bN (x.args.take i) m 1))] (iv (jw (x.args.getD i default) (m-bN (x.args.take i) m 1))) by rw[bG (by omega)];exact ih i h _ (by omega) (by omega))
 have hq:=CC (x.args.getD i default) (m-bN (x.args.take i) m 1)
 repeat'(first|exact .nil|refine .k0 ?_|refine .k1 ?_|refine .k2 ?_|refine .k4 ?_|refine .k6 ?_|refine .k7 ?_|refine .k8 ?_|refine .k9 ?_|(refine .cd ?_ ?_<;>(intro hc;skip))|refine .r1 ?_ ?_|(refine .m2 ?_ ?_;intro hlen)|refine .t1 ?_ ?_ ?_|refine .an rfl (by intro br;exact hA (by(simp only[BL]at *;omega)) (by(simp only[BL]at *;omega))) ?_ ?_|fail)
 try any_goals(exact Zo)
 all_goals(try simp only[BL]at *)
 ·refine⟨x.args.length-(i+1),by omega,_,_,Zr,Zs,i+1,by omega,rfl,rfl,?_⟩
  rw[US (by omega) (by omega),bG (n:=bN (x.args.take i) m 1+_) (by omega),iQ (n:=x.args.length) (by omega) (by assumption)]
 ·have e:bN x.args m 1=bN (x.args.take i) m 1:=by
   by_cases h:bN (x.args.take i) m 1≤m
   ·rw[ZD (l:=x.args) (by omega)]
   ·exact UQ (l:=x.args) h
  rw[e]
  exact Zw
theorem Uq:∀ (n:Nat) (x:Ex),x.size≤n→C7 x
 |0,x,h=>by cases x;simp[Ex.size]at h
 |n+1,x,h=>awq x fun k hk=>Uq n _ (by have:=Ex.Ur x hk;omega)
theorem Uo(x:Ex):C7 x:=Uq x.size x (ZR _)
def di.all(c:di):List aq:=c.features++c.Dy++c.past
structure Small(c:di):Prop where
 t:c.tables.length≤40
 f:c.features.length≤40
 d:c.Dy.length≤40
 p:c.past.length≤40
 n:bN (c.all.map aq.body) 2000 0≤2000
theorem Uv(c:di):Small c↔(c.tables.length≤40∧c.features.length≤40∧c.Dy.length≤40∧c.past.length≤40∧bN (c.all.map aq.body) 2000 0≤2000):=⟨fun h=>⟨h.t,h.f,h.d,h.p,h.n⟩,fun⟨a,b,c,d,e⟩=>⟨a,b,c,d,e⟩⟩
instance (c:di):Decidable (Small c):=decidable_of_iff _ (Uv c).symm
theorem awU{l:List aq}{i:Nat}(hi:i<l.length){m n:Int}(h:bN ((l.map aq.body).take i) m n≤m):bN ((l.map aq.body).take (i+1)) m n=bN ((l.map aq.body).take i) m n+jw (l.getD i default).body (m-bN ((l.map aq.body).take i) m n):=by
 have h0:i<(l.map aq.body).length:=by rw[Z3];exact hi
 rw[US h0 h]
 congr 2
 rw[getD_eq hi,getD_eq h0,Zm]
theorem awT(l:List Ex):0≤bN l 2000 0∧bN l 2000 0≤2001:=by
 cases l with
 |nil=>rw[bN];omega
 |cons x l=>
  rw[bN,Z8 (by omega)]
  have h1:=CC x (2000-0)
  have h2:=FE l 2000 (0+jw x (2000-0)) (by omega) (by omega)
  omega
theorem ad0(l:List aq):((l.map aq.cells).all fun r=>r.all AV.one)=true:=by
 rw[List.all_map,ZA];intro x _;rfl
theorem Uw(C:di):Pure Tryz.prog 4 [.agg C.cells] (.v (.bool (decide (Small C)))):=by
 refine k4.pc (fun d=>bif ([28]:List Nat).elem d then 3 else 0) fun σ=> ?_
 repeat'(first|exact .nil|refine .k0 ?_|refine .k1 ?_|refine .k2 ?_|refine .k3 ?_|refine .k4 ?_|refine .k6 ?_|refine .k7 ?_|refine .k9 ?_|(refine .cd ?_ ?_<;>(intro hc;skip))|refine .r1 ?_ ?_|(refine .m1 ?_ ?_;intro b)|(refine .m2 ?_ ?_;intro hlen)|refine .u2 ?_ ?_ ?_ (fun b u c=> ?_)|refine .u3 ?_ ?_ (fun hr0=> ?_) (fun bg b u c=> ?_)|refine .r8 ?_ ?_|fail)
 try any_goals(exact Zo)
 all_goals(try simp only[BL]at *)
 ·refine Sx.Fin.intro Zs (bf ?_)
  intro h;have h1:=h.t;have h2:=h.f;have h3:=h.d;have h4:=h.p;omega
 any_goals exact ad0 _
 any_goals(show _≤1000000;decide)
 any_goals(show _ * 248≤_;simp only[Z5,Z3,ZW];omega)
 all_goals
  refine dU (fun n rg σ'=>∃ i:Nat,i≤C.all.length∧n=C.all.length-i∧σ'=σ∧rg=[(3,iv (bN ((C.all.map aq.body).take i) 2000 0)),(4,.sl false 18 (C.all.map aq.cells)),(5,iv i)]) C.all.length rfl ?_ ?_
  ·refine⟨[(3,iv 0),(4,.sl false 18 (C.all.map aq.cells)),(5,iv (0:Nat))],σ,?_,Zs,0,ZH _,rfl,rfl,by rw[List.take_zero,bN]⟩
   refine .cons (Wk.refl _) (.cons ?_ (.cons (Wk.refl _) .nil))
   first|exact .flr (by simp[di.all, *])|exact .S6 (by simp[di.all, *])
  rintro n _ _ ⟨i,hi,hn,rfl,rfl⟩
  have hp:=awT ((C.all.map aq.body).take i)
  have hq:=CC (C.all.getD i default).body (2000-bN ((C.all.map aq.body).take i) 2000 0)
  have hA:=fun(h:i<C.all.length) (h2:bN ((C.all.map aq.body).take i) 2000 0≤2000)=>(show Pure Tryz.prog 5 [.agg (C.all.getD i default).body.row,iv (IntKind.i64.wrap (2000-bN ((C.all.map aq.body).take i) 2000 0))] (iv (jw (C.all.getD i default).body (2000-bN ((C.all.map aq.body).take i) 2000 0))) by rw[bG (by omega)];exact Uo _ _ (by omega) (by omega))
  repeat'(first|exact .nil|refine .k0 ?_|refine .k1 ?_|refine .k2 ?_|refine .k4 ?_|refine .k6 ?_|refine .k7 ?_|refine .k8 ?_|refine .k9 ?_|(refine .cd ?_ ?_<;>(intro hc;skip))|refine .r1 ?_ ?_|(refine .m2 ?_ ?_;intro hlen)|refine .t1 ?_ ?_ ?_|refine .an rfl (by intro br;exact hA (by(simp only[BL]at *;omega)) (by(simp only[BL]at *;omega))) ?_ ?_|fail)
  try any_goals(exact Zo)
  all_goals(try simp only[BL]at *)
  all_goals first
   |(refine⟨C.all.length-(i+1),by omega,_,_,Zr,Zs,i+1,by omega,rfl,rfl,?_⟩
     rw[awU (by omega) (by omega),bG (n:=bN ((C.all.map aq.body).take i) 2000 0+_) (by omega),iQ (n:=C.all.length) (by omega) (by assumption)])
   |(have e:bN (C.all.map aq.body) 2000 0=bN ((C.all.map aq.body).take i) 2000 0:=by
      by_cases h:bN ((C.all.map aq.body).take i) 2000 0≤2000
      ·rw[ZD (l:=C.all.map aq.body) (by rw[Z3];omega)]
      ·exact UQ (l:=C.all.map aq.body) h
     have e2:decide (Small C)=decide (bN ((C.all.map aq.body).take i) 2000 0≤2000):=by
      rw[decide_eq_decide,Uv,e]
      exact⟨fun h=>h.2.2.2.2,fun h=>⟨by omega,by omega,by omega,by omega,h⟩⟩
     rw[e2]
     exact Zw)
structure UR(fs:List aq)(x:Ex)(F T:List ae):Prop where
 sf:bO F
 st:bO T
 rf:∀ m∈F,Reach fs x.aV m
 rt:∀ m∈T,xe fs x.aV x.cy m
 bf:∀ m∈x.aV,m∈F
 bt:∀ m∈x.cy,m∈T
def UD(fs:List aq)(now F T:List ae):Prop:=∀ m∈now,∀ f,findF fs m=some f→(∀ s∈f.body.aV,s∈F)∧∀ s∈f.body.cy,s∈T
variable {fs:List aq}{x:Ex}{F T:List ae}
theorem UR.J2(h:UR fs x F T):T.length≤(mF fs x).length:=iN (wj h.st) fun m hm=>TU (h.rt m hm)
theorem UR.start(fs:List aq)(x:Ex):UR fs x (lJ x ([],[])).1 (lJ x ([],[])).2:=by
 have hm:=Du x ([],[])
 have hs:=Dv x ([],[]) ug ug
 exact⟨hs.1,hs.2,fun m h=> .base (by simpa using(hm.1 m).1 h),fun m h=> .inl (by simpa using(hm.2 m).1 h),fun m h=>(hm.1 m).2 (.inl h),fun m h=>(hm.2 m).2 (.inl h)⟩
theorem UR.step{n:ae}{f:aq}(h:UR fs x F T)(hn:n∈F)(hf:findF fs n=some f):UR fs x (lJ f.body (F,T)).1 (lJ f.body (F,T)).2:=by
 have hm:=Du f.body (F,T)
 have hs:=Dv f.body (F,T) h.sf h.st
 refine⟨hs.1,hs.2,fun m k=> ?_,fun m k=> ?_,fun m k=>(hm.1 m).2 (.inr (h.bf m k)),fun m k=>(hm.2 m).2 (.inr (h.bt m k))⟩
 ·rcases(hm.1 m).1 k with k|k
  ·exact .step (h.rf n hn) hf k
  ·exact h.rf m k
 ·rcases(hm.2 m).1 k with k|k
  ·exact .inr ⟨n,f,h.rf n hn,hf,k⟩
  ·exact h.rt m k
structure UI(fs:List aq)(x:Ex)(now:List ae)(i:Nat)(F T:List ae):Prop where
 u:UR fs x F T
 s:∀ m∈now,m∈F
 d:UD fs (now.take i) F T
theorem UI.no{now:List ae}{i:Nat}(h:UI fs x now i F T)(hi:i<now.length)(hf:findF fs (now.getD i default)=none):UI fs x now (i+1) F T:=by
 refine⟨h.u,h.s,fun m hm f Bw=> ?_⟩
 rw[ZF hi,ZG,ZI]at hm
 rcases hm with hm|rfl
 ·exact h.d m hm f Bw
 ·rw[getD_eq hi]at hf;rw[hf]at Bw;cases Bw
def UO(fs:List aq)(x:Ex)(n:Int)(F T:List ae):Prop:=UR fs x F T∧(n= -1∨∃ now:List ae,bO now∧n=now.length∧(∀ m∈now,m∈F)∧UD fs now F T)
theorem UO.done{n:Int}(h:UO fs x n F T)(hn:n=F.length):rS fs x=F∧rT fs x=T:=by
 obtain⟨hu,ja⟩:=h
 obtain⟨now,h1,h2,h3,h4⟩:∃ now:List ae,bO now∧n=now.length∧(∀ m∈now,m∈F)∧UD fs now F T:=by
  rcases ja with h|h
  ·omega
  ·exact h
 have he:now=F:=awC h1 hu.sf h3 (by omega)
 subst he
 obtain⟨k1,k2⟩:=E8 hu.bf hu.bt hu.rf hu.rt h4
 exact⟨uf hu.sf k1,uf hu.st k2⟩
theorem UO.lt{n:Int}(h:UO fs x n F T)(hn:n≠F.length):n<F.length:=by
 obtain⟨hu,rfl|⟨now,h1,h2,h3,h4⟩⟩:=h
 ·omega
 ·have:=iN (wj h1) h3;omega
theorem UI.out{now:List ae}(hs:bO now)(h:UI fs x now now.length F T):UO fs x now.length F T:=
 ⟨h.u,.inr ⟨now,hs,rfl,h.s,by have:=h.d;rwa [XU]at this⟩⟩
end Go.Proofs.YtcccbdelfhgmlaaGreatDoor
namespace Go.Sx
section
variable {P:Program}[Glob P]{cfg:Nat→Nat}{K:ag→Store→Prop}{E:List PanicEntry→Store→Prop}{σ:Store}{l:List CI}{d:Nat}{xr:XR}{ps:List Prop}{ah cf:List Nat}{ix:Nat}{ld:List CD}{og:Option Bool}
theorem VX.u4{t:TypeId}{af bytes:Nat}{z:List Value}{x y:Operand}{w:AV}{r:List AV}{rows rs:List (List AV)}(ak:OB ps)(hb:(rows.length+(r::rs).length) * bytes≤35184372088832)(k:∀ b u c,VX P cfg l K E ((d,.s (.own af d b u c (rows++r::rs)))::xr) ((d,b,.tail u c)::σ))(h:aB xr none [x,y]=some (og,[.fl af rows,w],ps):=by exact rfl)(hw:fb af w=some (r::rs):=by exact rfl):VX P cfg (⟨some d,.append t af bytes z x y,none⟩::l) K E xr σ:=MD h hw ak hb (fun e=>nomatch e) fun _=>k
theorem VY.u4{t:TypeId}{af bytes:Nat}{z:List Value}{x y:Operand}{w:AV}{r:List AV}{rows rs:List (List AV)}(ak:OB ps)(hb:(rows.length+(r::rs).length) * bytes≤35184372088832)(k:∀ b u c,VY P cfg ah ld K ((d,.s (.own af d b u c (rows++r::rs)))::xr) ((d,b,.tail u c)::σ))(h:aB xr none [x,y]=some (og,[.fl af rows,w],ps):=by exact rfl)(hw:fb af w=some (r::rs):=by exact rfl)(ha:ah.elem d=true:=by exact rfl):VY P cfg ah (⟨ix,⟨some d,.append t af bytes z x y,none⟩,cf⟩::ld) K xr σ:=MH h hw ha ak hb (fun e=>nomatch e) fun _=>k
theorem VY.u5{af tg b u c:Nat}{x y:Operand}{hv:AV}{h:Int}{rows:List (List AV)}(ak:OB ps)(hb:0≤h∧h≤rows.length)(k:VY P cfg ah ld K ((d,.s (.own af tg b u c (rows.drop h.toNat)))::xr) σ)(ha:aB xr none [x,y]=some (og,[.own af tg b u c rows,hv],ps):=by exact rfl)(hi:iL hv=some h:=by exact rfl):VY P cfg ah (⟨ix,⟨some d,.slice af x (some y) none,none⟩,cf⟩::ld) K xr σ:=by
 obtain⟨_,he⟩:=cz ha
 unfold aB gX at ha
 obtain⟨bC,h',_,_⟩:=fS ha
 have cP:og=none:=by split at h'<;>cases h';rfl
 subst cP
 have:=he ak rfl
 simp only[bo,ZT,Zd]at this
 obtain⟨q,hq⟩:=rA hi
 constructor
 simp only[cZ,du,de,aw.cls,aG,aj,Option.map_none,Zh,this.1,this.2,oD,hq,XW,Zx]
 exact⟨trivial,hb.1,hb.2,Int.le_refl _,k.h⟩
end
end Go.Sx
namespace Go.Proofs.YtcccbdelfhgmlaaGreatDoor
open Go.Sx Go.Proofs Go.Tb
abbrev s0:ae:=⟨#[]⟩
abbrev sA:ae:=⟨#[97]⟩
abbrev sB:ae:=⟨#[98]⟩
abbrev sC:ae:=⟨#[99]⟩
abbrev sD:ae:=⟨#[100]⟩
abbrev sE:ae:=⟨#[101]⟩
abbrev sK:ae:=⟨#[107]⟩
abbrev sU:ae:=⟨#[117,115,101,114]⟩
abbrev sT:ae:=⟨#[99,108,105,99,107,115]⟩
abbrev sN:ae:=⟨#[99,111,117,110,116]⟩
abbrev dx:AV:= .v (.slice none 0 0)
def zK(n:ae):Ex:=⟨3,s0,n,s0,⟨0,0,s0⟩,[],0,⟨0,0⟩,[]⟩
def fw(n:ae)(x:Ex):aq:=⟨n,sU,⟨2,[],s0⟩,x,1⟩
def VM:Ex:=⟨1,s0,s0,s0,⟨1,1,s0⟩,[],0,⟨0,0⟩,[]⟩
def V3:Ex:=⟨1,s0,s0,s0,⟨2,0,s0⟩,[],0,⟨0,0⟩,[]⟩
def sJ:Ex:=⟨5,sN,s0,sT,⟨0,0,s0⟩,[],0,⟨1,0⟩,[VM,VM]⟩
def bX:Ex:=⟨7,⟨#[43]⟩,s0,s0,⟨0,0,s0⟩,[],0,⟨0,0⟩,[zK sA,zK sC]⟩
def cX:Ex:=⟨9,s0,s0,s0,⟨0,0,s0⟩,[],0,⟨0,0⟩,[zK sA,V3]⟩
def dX:Ex:=⟨4,s0,sE,s0,⟨0,0,s0⟩,[],0,⟨0,0⟩,[zK sK]⟩
def aX:Ex:=⟨7,⟨#[43]⟩,s0,s0,⟨0,0,s0⟩,[],0,⟨0,0⟩,[zK sC,V3]⟩
def fH:List aq:=[fw sA sJ,fw sB bX,fw sC cX,fw sD dX]
def iF:List aq:=[fw sA aX,fw sB bX,fw sC cX,fw sD dX]
def iV:di:=⟨[⟨sT,sU,[],0⟩],fH,[],[]⟩
def pj:di:=⟨[⟨sT,sU,[],0⟩],iF,[],[]⟩
theorem axB(n:ae):Pure Tryz.prog 14 [sv n] (.agg (zK n).row):=by
 refine k14.p fun σ=> ?_
 repeat'(first|exact .nil|refine .k0 ?_|refine .k1 ?_|refine .k2 ?_|refine .k7 ?_|refine .r1 ?_ ?_|(refine .l1 ?_;intro b)|fail)
 all_goals(try simp only[BL]at *)
 exact Zw
theorem AQ(n:ae)(x:Ex):Pure Tryz.prog 13 [sv n,.agg x.row] (.agg (fw n x).cells):=by
 refine k13.p fun σ=> ?_
 repeat'(first|exact .nil|refine .k0 ?_|refine .k1 ?_|refine .k2 ?_|refine .k7 ?_|refine .r1 ?_ ?_|(refine .l1 ?_;intro b)|(refine .m1 ?_ ?_;intro b)|fail)
 all_goals(try simp only[BL]at *)
 exact Zw
theorem rL:dL sA sB=true∧dL sA sC=true∧dL sA sD=true∧dL sB sC=true∧dL sB sD=true∧dL sC sD=true∧dL sE sK=true∧dL sA sA=false∧dL sB sA=false∧dL sC sA=false∧dL sC sB=false∧dL sD sA=false∧dL sD sB=false∧dL sD sC=false:=by
 simp[dL,ByteArray.toList_eq,Op.bytesLess]
theorem HQ:findF fH sA=some (fw sA sJ)∧findF fH sB=some (fw sB bX)∧findF fH sC=some (fw sC cX)∧findF fH sD=some (fw sD dX)∧findF fH sE=none∧findF fH sK=none:=by simp[findF,fH,fw]
theorem aec:findF iF sA=some (fw sA aX)∧findF iF sB=some (fw sB bX)∧findF iF sC=some (fw sC cX)∧findF iF sD=some (fw sD dX)∧findF iF sE=none∧findF iF sK=none:=by simp[findF,iF,fw]
theorem SD:bh fH=[sA,sB,sC,sD]:=oP (EN _) (by simp[bO,rL]) fun x=>by
 rw[qc,Ep];simp[fH,fw,eq_comm]
theorem EO:bh iF=[sA,sB,sC,sD]:=oP (EN _) (by simp[bO,rL]) fun x=>by
 rw[qc,Ep];simp[iF,fw,eq_comm]
theorem pz:sJ.aV=[]∧bX.aV=[sA,sC]∧cX.aV=[sA]∧dX.aV=[sE,sK]∧aX.aV=[sC]∧sJ.cy=[sT]∧bX.cy=[]∧cX.cy=[]∧dX.cy=[]∧aX.cy=[]:=⟨rfl,rfl,rfl,rfl,rfl,rfl,rfl,rfl,rfl,rfl⟩
theorem acW{x:Ex}{l:List ae}(h:bO l)(e:x.aV=l):AK x=l:=oP (OM x) h fun s=>by rw[OL,e]
theorem sO{fs:List aq}{n:ae}{f:aq}{l m:List ae}(hf:findF fs n=some f)(he:f.body.aV=l)(hs:bO l)(hm:l.filter (oE fs)=m):deps fs n=m:=by
 unfold deps;rw[hf];simp only[acW hs he];exact hm
theorem OE:deps fH sA=[]∧deps fH sB=[sA,sC]∧deps fH sC=[sA]∧deps fH sD=[]:=by
 obtain⟨h1,h2,h3,h4,h5,h6⟩:=HQ
 refine⟨sO h1 pz.1 (by simp[bO]) rfl,sO h2 pz.2.1 (by simp[bO,rL]) ?_,sO h3 pz.2.2.1 (by simp[bO]) ?_,sO h4 pz.2.2.2.1 (by simp[bO,rL]) ?_⟩
 all_goals simp[oE,h1,h2,h3,h4,h5,h6]
theorem Hh:deps iF sA=[sC]∧deps iF sB=[sA,sC]∧deps iF sC=[sA]∧deps iF sD=[]:=by
 obtain⟨h1,h2,h3,h4,h5,h6⟩:=aec
 refine⟨sO h1 pz.2.2.2.2.1 (by simp[bO]) ?_,sO h2 pz.2.1 (by simp[bO,rL]) ?_,sO h3 pz.2.2.1 (by simp[bO]) ?_,sO h4 pz.2.2.2.1 (by simp[bO,rL]) ?_⟩
 all_goals simp[oE,h1,h2,h3,h4,h5,h6]
theorem ag6:oM (deps fH) (bh fH)=[sA,sC,sB,sD]:=by
 obtain⟨h1,h2,h3,h4⟩:=OE
 rw[SD]
 simp[oM,vS,kj,ready,List.find?,h1,h2,h3,h4]
theorem ag7:oM (deps iF) (bh iF)=[sD]:=by
 obtain⟨h1,h2,h3,h4⟩:=Hh
 rw[EO]
 simp[oM,vS,kj,ready,List.find?,h1,h2,h3,h4]
theorem TH{g:ae→List ae}{r:ae→Nat}(h:∀ a b,b∈g a→r b<r a):∀ (q:List ae) (a:ae),fi g a q→r (bB a q)≤r a
 |[],a,_=>ZR _
 |b::q,a,hp=>by have h1:=TH h q b hp.2;have h2:=h a b hp.1;rw[bB];omega
theorem acP{fs:List aq}{N:List ae}(hN:bh fs=N){a b:ae}(h:b∈deps fs a):a∈N:=by rw[← hN];exact acQ h
def T0(s:ae):Nat:=if s=sB then 2 else if s=sC then 1 else 0
theorem acx:mP (deps fH) (bh fH)=[]:=Dq (.inl ⟨rfl,fun a _ q hc=>by
 have hr:∀ a b,b∈deps fH a→T0 b<T0 a:=fun a b hb=>by
  obtain⟨h1,h2,h3,h4⟩:=OE
  have ha:=acP SD hb
  simp only[ZV,YE,or_false]at ha
  rcases ha with rfl|rfl|rfl|rfl
  ·rw[h1]at hb;cases hb
  ·rw[h2]at hb;simp at hb;rcases hb with rfl|rfl<;>decide
  ·rw[h3]at hb;simp at hb;subst hb;decide
  ·rw[h4]at hb;cases hb
 have h1:=TH hr q a hc.1
 have h2:=hr _ _ hc.2
 omega⟩)
theorem acy:mP (deps iF) (bh iF)=[sA,sC]:=Dq (.inr ⟨sA,[sC],rfl,by rw[EO];simp,by
  obtain⟨h1,h2,h3,h4⟩:=Hh
  refine⟨⟨⟨by rw[h1];simp,trivial⟩,by show sA∈deps iF sC;rw[h3];simp⟩,fun m hm=> ?_,fun m hm hl=> ?_⟩
  ·cases m with
   |nil=>have:=hm.2;simp only[bB,h1,ZI]at this;exact absurd this (by decide)
   |cons b m=>simp
  ·match m,hl,hm with
   |[b],_,hm=>
    have:=hm.1.1
    rw[h1,ZI]at this
    subst this;exact .inl rfl,fun b hb ax=>by
  rw[EO]at hb
  simp only[ZV,YE,or_false]at hb
  rcases hb with rfl|rfl|rfl|rfl<;>simp[rL]at ax,fun b hb m hm=>by
  obtain⟨h1,h2,h3,h4⟩:=Hh
  cases m with
  |cons c m=>simp
  |nil=>
   exfalso
   have:=hm.2
   rw[EO]at hb
   simp only[ZV,YE,or_false]at hb
   simp only[bB]at this
   rcases hb with rfl|rfl|rfl|rfl
   ·rw[h1]at this;exact absurd this (by decide)
   ·rw[h2]at this;exact absurd this (by decide)
   ·rw[h3]at this;exact absurd this (by decide)
   ·rw[h4]at this;cases this⟩)
theorem Vh:rS fH bX=[sA,sC]∧rT fH bX=[sT]:=by
 obtain⟨h1,h2,h3,h4,h5,h6⟩:=HQ
 obtain⟨k1,k2,k3,k4,k5,k6,k7,k8,k9,JW⟩:=pz
 have:=E8 (fs:=fH) (s:=bX.aV) (t:=bX.cy) (F:=[sA,sC]) (T:=[sT]) (by rw[k2];exact fun n h=>h) (by rw[k7];exact fun n h=>nomatch h) (by rw[k2];exact fun n h=> .base h)
  (fun x hx=> .inr ⟨sA,_,.base (by rw[k2];simp),h1,by rw[show(fw sA sJ).body.cy=[sT]from k6];exact hx⟩) (fun n hn f hf=>by
   simp only[ZV,YE,or_false]at hn
   rcases hn with rfl|rfl
   ·rw[h1]at hf;cases hf
    rw[show(fw sA sJ).body.aV=[]from k1,show(fw sA sJ).body.cy=[sT]from k6]
    exact⟨fun m h=>(nomatch h),fun m h=>h⟩
   ·rw[h3]at hf;cases hf
    rw[show(fw sC cX).body.aV=[sA]from k3,show(fw sC cX).body.cy=[]from k8]
    exact⟨fun m h=>by simp at h;simp[h],fun m h=>(nomatch h)⟩)
 exact⟨uf (by simp[bO,rL]) this.1,uf (by simp[bO]) this.2⟩
theorem Vi:rS fH dX=[sE,sK]∧rT fH dX=[]:=by
 obtain⟨h1,h2,h3,h4,h5,h6⟩:=HQ
 obtain⟨k1,k2,k3,k4,k5,k6,k7,k8,k9,JW⟩:=pz
 have:=E8 (fs:=fH) (s:=dX.aV) (t:=dX.cy) (F:=[sE,sK]) (T:=[]) (by rw[k4];exact fun n h=>h) (by rw[k9];exact fun n h=>nomatch h) (by rw[k4];exact fun n h=> .base h)
  (fun x hx=>nomatch hx) (fun n hn f hf=>by
   simp only[ZV,YE,or_false]at hn
   rcases hn with rfl|rfl
   ·rw[h5]at hf;cases hf
   ·rw[h6]at hf;cases hf)
 exact⟨uf (by simp[bO,rL]) this.1,uf (by simp[bO]) this.2⟩
theorem Vx:Pure Tryz.prog 40 [.agg [dx,dx,dx,dx]] (iv 0):=by
 refine k40.p fun σ=> ?_
 repeat'(first|exact .nil|refine .k0 ?_|refine .k1 ?_|refine .k2 ?_|refine .k6 ?_|refine .r1 ?_ ?_|(refine .m1 ?_ ?_;intro b)|(refine .m3 ?_ ?_;intro hlen)|(refine .l3 ?_;intro b)|fail)
 all_goals(try simp only[BL]at *)
 ·decide
 refine dU (fun n rg σ'=>∃ i:Nat,i≤3∧n=3-i∧σ'=(11,b,cG.map [] 0)::σ∧rg=[(3,.eu 11 b),(18,.sl true 1 [[dx],[dx],[dx]]),(19,iv 3),(20,iv i)]) 3 rfl ⟨_,_,Zr,Zs,0,by omega,rfl,rfl,rfl⟩ ?_
 rintro n _ _ ⟨i,hi,hn,rfl,rfl⟩
 rcases(show i=0∨i=1∨i=2∨i=3 by omega)with rfl|rfl|rfl|rfl
 ·repeat'(first|exact .nil|refine .k0 ?_|refine .k1 ?_|refine .k2 ?_|refine .k6 ?_|refine .k7 ?_|refine .k8 ?_|refine .k9 ?_|(refine .cd ?_ ?_<;>(intro hc;skip))|refine .r1 ?_ ?_|refine .r8 ?_ ?_|fail)
  all_goals(try simp only[BL]at *)
  any_goals(show True∧_;exact⟨trivial,by decide,by decide⟩)
  any_goals(show Sx.Fin _ _ _ _;exact Zw)
  all_goals
   refine dU (fun n rg σ'=>σ'=(11,b,cG.map [] 0)::σ∧rg=[(3,.eu 11 b),(4,iv (0:Nat)),(5,dx),(18,.sl true 1 [[dx],[dx],[dx]]),(19,iv 3),(20,iv (0:Nat)),(25,dx),(26,iv (0:Nat)),(27,iv 0)]) 0 rfl ⟨_,_,Zr,Zs,rfl,rfl⟩ ?_
   rintro n2 _ _ ⟨rfl,rfl⟩
   repeat'(first|exact .nil|refine .k0 ?_|refine .k1 ?_|refine .k2 ?_|refine .k6 ?_|refine .k8 ?_|refine .k9 ?_|(refine .cd ?_ ?_<;>(intro hc;skip))|refine .r1 ?_ ?_|fail)
   all_goals(try simp only[BL]at *)
   all_goals first
    |(exfalso;revert hc;decide)
    |(refine⟨3-1,by omega,_,_,Zr,Zs,1,by omega,rfl,rfl,rfl⟩)
 ·repeat'(first|exact .nil|refine .k0 ?_|refine .k1 ?_|refine .k2 ?_|refine .k6 ?_|refine .k7 ?_|refine .k8 ?_|refine .k9 ?_|(refine .cd ?_ ?_<;>(intro hc;skip))|refine .r1 ?_ ?_|refine .r8 ?_ ?_|fail)
  all_goals(try simp only[BL]at *)
  any_goals(show True∧_;exact⟨trivial,by decide,by decide⟩)
  any_goals(show Sx.Fin _ _ _ _;exact Zw)
  all_goals
   refine dU (fun n rg σ'=>σ'=(11,b,cG.map [] 0)::σ∧rg=[(3,.eu 11 b),(4,iv (1:Nat)),(5,dx),(18,.sl true 1 [[dx],[dx],[dx]]),(19,iv 3),(20,iv (1:Nat)),(25,dx),(26,iv (0:Nat)),(27,iv 0)]) 0 rfl ⟨_,_,Zr,Zs,rfl,rfl⟩ ?_
   rintro n2 _ _ ⟨rfl,rfl⟩
   repeat'(first|exact .nil|refine .k0 ?_|refine .k1 ?_|refine .k2 ?_|refine .k6 ?_|refine .k8 ?_|refine .k9 ?_|(refine .cd ?_ ?_<;>(intro hc;skip))|refine .r1 ?_ ?_|fail)
   all_goals(try simp only[BL]at *)
   all_goals first
    |(exfalso;revert hc;decide)
    |(refine⟨3-2,by omega,_,_,Zr,Zs,2,by omega,rfl,rfl,rfl⟩)
 ·repeat'(first|exact .nil|refine .k0 ?_|refine .k1 ?_|refine .k2 ?_|refine .k6 ?_|refine .k7 ?_|refine .k8 ?_|refine .k9 ?_|(refine .cd ?_ ?_<;>(intro hc;skip))|refine .r1 ?_ ?_|refine .r8 ?_ ?_|fail)
  all_goals(try simp only[BL]at *)
  any_goals(show True∧_;exact⟨trivial,by decide,by decide⟩)
  any_goals(show Sx.Fin _ _ _ _;exact Zw)
  all_goals
   refine dU (fun n rg σ'=>σ'=(11,b,cG.map [] 0)::σ∧rg=[(3,.eu 11 b),(4,iv (2:Nat)),(5,dx),(18,.sl true 1 [[dx],[dx],[dx]]),(19,iv 3),(20,iv (2:Nat)),(25,dx),(26,iv (0:Nat)),(27,iv 0)]) 0 rfl ⟨_,_,Zr,Zs,rfl,rfl⟩ ?_
   rintro n2 _ _ ⟨rfl,rfl⟩
   repeat'(first|exact .nil|refine .k0 ?_|refine .k1 ?_|refine .k2 ?_|refine .k6 ?_|refine .k8 ?_|refine .k9 ?_|(refine .cd ?_ ?_<;>(intro hc;skip))|refine .r1 ?_ ?_|fail)
   all_goals(try simp only[BL]at *)
   all_goals first
    |(exfalso;revert hc;decide)
    |(refine⟨3-3,by omega,_,_,Zr,Zs,3,by omega,rfl,rfl,rfl⟩)
 ·repeat'(first|exact .nil|refine .k0 ?_|refine .k1 ?_|refine .k2 ?_|refine .k6 ?_|refine .k7 ?_|refine .k8 ?_|refine .k9 ?_|(refine .cd ?_ ?_<;>(intro hc;skip))|refine .r1 ?_ ?_|refine .r8 ?_ ?_|fail)
  all_goals(try simp only[BL]at *)
  all_goals first|(exfalso;revert hc;decide)|(show Sx.Fin _ _ _ _;(refine Sx.Fin.wk Zs ?_;repeat' first|exact .refl _|fail))
def GZ:di:=⟨[],[],[],[]⟩
theorem acw:mP (deps []) (bh [])=[]:=Dq (.inl ⟨rfl,fun a h=>nomatch h⟩)
theorem acz:Pure Tryz.prog 16 [.agg [dx,dx,dx,dx]] (jU []):=by
 have h:=Hb GZ ⟨fun f h=>(nomatch h),fun f h=>(nomatch h),by show 0≤_;omega⟩
 rw[show mP (deps GZ.features) (bh GZ.features)=[]from acw]at h
 exact h.wk (.cons (.agg (.cons .nil (.cons .nil (.cons .nil (.cons .nil .nil))))) .nil)
theorem abJ:Pure Tryz.prog 17 [.agg [dx,dx,dx,dx]] (iv 0):=by
 refine k17.p fun σ=> ?_
 repeat'(first|exact .nil|refine .k0 ?_|refine .k1 ?_|refine .k2 ?_|refine .k6 ?_|refine .k7 ?_|refine .k9 ?_|(refine .cd ?_ ?_<;>(intro hc;skip))|refine .r1 ?_ ?_|(refine .m1 ?_ ?_;intro b)|refine .r8 ?_ ?_|fail)
 all_goals(try simp only[BL]at *)
 ·exfalso;revert hc;decide
 refine dU (fun n rg σ'=>σ'=(1,b,cG.cells [dx,dx,dx,dx])::σ∧rg=[(1,.lp 1 b 0),(33,dx),(34,iv (0:Nat)),(35,iv 0)]) 0 rfl ⟨_,_,Zr,Zs,rfl,rfl⟩ ?_
 rintro n _ _ ⟨rfl,rfl⟩
 repeat'(first|exact .nil|refine .k0 ?_|refine .k1 ?_|refine .k2 ?_|refine .k6 ?_|refine .k8 ?_|refine .k9 ?_|(refine .cd ?_ ?_<;>(intro hc;first|exact kt hc (by assumption)|skip))|refine .r1 ?_ ?_|refine .an rfl (by intro br;first|exact Vx|fail) ?_ ?_|refine .r8 ?_ ?_|fail)
 all_goals(try simp only[BL]at *)
 ·exfalso;revert hc;decide
 refine dU (fun n rg σ'=>σ'=(1,b,cG.cells [dx,dx,dx,dx])::σ∧rg=[(1,.lp 1 b 0),(66,dx),(67,iv (0:Nat)),(68,iv 0)]) 0 rfl ⟨_,_,Zr,Zs,rfl,rfl⟩ ?_
 rintro n _ _ ⟨rfl,rfl⟩
 repeat'(first|exact .nil|refine .k0 ?_|refine .k1 ?_|refine .k2 ?_|refine .k6 ?_|refine .k7 ?_|refine .k8 ?_|refine .k9 ?_|(refine .cd ?_ ?_<;>(intro hc;first|exact kt hc (by assumption)|skip))|refine .r1 ?_ ?_|(refine .m2 ?_ ?_;intro hlen)|refine .an rfl (by intro br;first|exact Vx|exact acz) ?_ ?_|fail)
 all_goals(try simp only[BL]at *)
 ·exfalso;revert hc;decide
 all_goals(show Sx.Fin _ _ _ _;(refine Sx.Fin.wk Zs ?_;repeat' first|exact .refl _|fail))
theorem Fs:∀ (a b:List Ex),Ex.cR (a++b)=Ex.cR a+Ex.cR b
 |[],b=>by rw[Za,Ex.cR];omega
 |x::a,b=>by rw[ZC,Ex.cR,Ex.cR,Fs a b];omega
theorem PD:∀ fs:List aq,(fs.flatMap fun f=>f.body.aV).length≤Ex.cR (fs.map aq.body)∧(fs.flatMap fun f=>f.body.cy).length≤Ex.cR (fs.map aq.body)
 |[]=>by simp
 |f::fs=>by
  have h1:=PD fs
  have h2:=DC f.body
  simp only[List.flatMap_cons,Z5,Zu,Ex.cR]
  omega
theorem agr{fs:List aq}{f:aq}(h:f∈fs):f.body.size≤Ex.cR (fs.map aq.body):=by
 obtain⟨a,b,rfl⟩:=List.append_of_mem h
 rw[YS,Fs,Zu,Ex.cR];omega
theorem Small.size{c:di}(h:Small c):Ex.cR (c.features.map aq.body)≤2000:=by
 have h1:=h.n
 have h2:=K5 _ _ _ h1
 rw[h2]at h1
 unfold di.all at h1
 rw[YS,YS,Fs,Fs]at h1
 omega
mutual
theorem wH:∀ (x:Ex) (s:ae),(s∈x.aV∨s∈x.cy)→s.size≤x.wt
 | .mk k o n t v _ _ _ ks,s,h=>by
  have ih:=VL ks s
  rw[Ex.wt]
  rw[Ex.aV,Ex.cy,ZG,ZG]at h
  have e1:s∈(if k=3∨k=4 then[n]else[])→s=n:=fun h=>by split at h<;>simp_all
  have e2:s∈(if k=5 then[t]else[])→s=t:=fun h=>by split at h<;>simp_all
  rcases h with(h|h)|(h|h)
  ·obtain rfl:=e1 h;omega
  ·have:=ih (.inl h);omega
  ·obtain rfl:=e2 h;omega
  ·have:=ih (.inr h);omega
theorem VL:∀ (l:List Ex) (s:ae),(s∈Ex.eW l∨s∈Ex.fe l)→s.size≤Ex.uy l
 |[],s,h=>by simp[Ex.eW,Ex.fe]at h
 |x::l,s,h=>by
  have h1:=wH x s
  have h2:=VL l s
  rw[Ex.eW,Ex.fe,ZG,ZG]at h
  rw[Ex.uy]
  rcases h with(h|h)|(h|h)
  ·have:=h1 (.inl h);omega
  ·have:=h2 (.inl h);omega
  ·have:=h1 (.inr h);omega
  ·have:=h2 (.inr h);omega
end
structure di.Fits(c:di):Prop where
 n:∀ f∈c.features,f.name.size≤2 ^ 60
 b:∀ f∈c.features,f.body.wt≤2 ^ 60
theorem Vg{c:di}{x:Ex}(hc:c.Fits)(hx:x.wt≤2 ^ 60):(∀ s∈univ c.features x.aV,s.size≤maxLen)∧∀ s∈mF c.features x,s.size≤maxLen:=by
 have hm:(2:Nat) ^ 60≤maxLen:=by unfold maxLen;decide
 refine⟨fun s h=> ?_,fun s h=> ?_⟩
 ·unfold univ at h
  rcases ZG.1 h with h|h
  ·have:=wH x s (.inl h);omega
  ·obtain⟨f,hf,h⟩:=XQ.1 h
   have:=wH _ s (.inl h);have:=hc.b f hf;omega
 ·unfold mF at h
  rcases ZG.1 h with h|h
  ·have:=wH x s (.inr h);omega
  ·obtain⟨f,hf,h⟩:=XQ.1 h
   have:=wH _ s (.inr h);have:=hc.b f hf;omega
theorem Vf{c:di}{x:Ex}(hs:Small c)(hx:x.size≤5000):(univ c.features x.aV).length≤7000∧(mF c.features x).length≤7000:=by
 have h1:=PD c.features
 have h2:=hs.size
 have h3:=DC x
 unfold univ mF
 rw[Z5,Z5];omega
theorem Ln{c:di}{x:Ex}(hs:Small c)(hc:c.Fits)(hz:x.size≤5000)(hx:x.wt≤2 ^ 60):Aj c.features x:=
 ⟨Zk (Vf hs hz).1 (by decide),Zk (Vf hs hz).2 (by decide),(Vg hc hx).1,(Vg hc hx).2⟩
theorem abv{c:di}(hs:Small c){f:aq}(hf:f∈c.features):f.body.size≤2000:=Zk (agr hf) hs.size
theorem Dl{c:di}(hs:Small c)(hc:c.Fits):uB c.features:=by
 have hm:(2:Nat) ^ 60≤maxLen:=by unfold maxLen;decide
 refine⟨fun f hf=> ?_,fun f hf=>Zk (hc.n f hf) hm,by have:=hs.f;omega⟩
 have h1:=abv hs hf
 have h2:=DC f.body
 have h3:=hc.b f hf
 exact⟨by omega,by omega,fun s h=>by have:=wH _ s (.inl h);omega,fun s h=>by have:=wH _ s (.inr h);omega⟩
theorem awR{x:Ex}(h:jw x 500≤500):x.size≤500:=by have:=UP x 500 h;omega
theorem awt{c:di}(h:Small c):Pure Tryz.prog 4 [.agg c.cells] (.v (.bool true)):=by have:=Uw c;rwa [Zi h]at this
theorem aws{c:di}(h:¬Small c):Pure Tryz.prog 4 [.agg c.cells] (.v (.bool false)):=by have:=Uw c;rwa [Zn h]at this
theorem vZ(l:List ae):Pure Tryz.prog 10 [zB l,zB l] (.v (.bool true)):=by have:=awi l l;rwa [Zi rfl]at this
theorem nK:iV.Fits∧pj.Fits∧Small iV∧Small pj:=by
 refine⟨⟨?_,?_⟩,⟨?_,?_⟩,?_,?_⟩
 all_goals decide+kernel
theorem adJ:Pure Tryz.prog 9 [.agg iV.cells,.agg bX.cells] (.aT [jU [sA,sC],jU [sT]]):=by
 have h:=Lm iV bX (Ln nK.2.2.1 nK.1 (by decide+kernel) (by decide+kernel))
 rwa [show rS iV.features bX=[sA,sC]from Vh.1,show rT iV.features bX=[sT]from Vh.2]at h
theorem adK:Pure Tryz.prog 9 [.agg iV.cells,.agg dX.cells] (.aT [jU [sE,sK],jU []]):=by
 have h:=Lm iV dX (Ln nK.2.2.1 nK.1 (by decide+kernel) (by decide+kernel))
 rwa [show rS iV.features dX=[sE,sK]from Vi.1,show rT iV.features dX=[]from Vi.2]at h
theorem adH:Pure Tryz.prog 15 [.agg iV.cells] (jU [sA,sC,sB,sD]):=by
 have h:=S1 iV (Dl nK.2.2.1 nK.1)
 rwa [show oM (deps iV.features) (bh iV.features)=_ from ag6]at h
theorem adI:Pure Tryz.prog 15 [.agg pj.cells] (jU [sD]):=by
 have h:=S1 pj (Dl nK.2.2.2 nK.2.1)
 rwa [show oM (deps pj.features) (bh pj.features)=_ from ag7]at h
theorem adF:Pure Tryz.prog 16 [.agg iV.cells] (jU []):=by
 have h:=Hb iV (Dl nK.2.2.1 nK.1)
 rwa [show mP (deps iV.features) (bh iV.features)=_ from acx]at h
theorem adG:Pure Tryz.prog 16 [.agg pj.cells] (jU [sA,sC]):=by
 have h:=Hb pj (Dl nK.2.2.2 nK.2.1)
 rwa [show mP (deps pj.features) (bh pj.features)=_ from acy]at h
theorem O1:Pure Tryz.prog 7 [] (.v (.bool true)):=by
 refine k7.pc (fun d=>bif ([33,106]:List Nat).elem d then 3 else 0) fun σ=> ?_
 repeat'(first|exact .nil|refine .k0 ?_|refine .k1 ?_|refine .k2 ?_|refine .k3 ?_|refine .k5 ?_|refine .k7 ?_|refine .k9 ?_|(refine .cd ?_ ?_<;>(intro hc;first|exact kt hc (by assumption)|skip))|refine .r1 ?_ ?_|(refine .l1 ?_;intro b)|(refine .m2 ?_ ?_;intro hlen)|refine .u4 ?_ ?_ (fun b u c=> ?_)|refine .u5 ?_ ?_ ?_|refine .an rfl (by intro br;first|exact axB _|(refine(AQ sA sJ).wk ?_;(repeat' first|exact .refl _|exact .nil|refine .agg ?_|refine .cons ?_ ?_|refine .rows ?_);done)|(refine(AQ sB bX).wk ?_;(repeat' first|exact .refl _|exact .nil|refine .agg ?_|refine .cons ?_ ?_|refine .rows ?_);done)|(refine(AQ sC cX).wk ?_;(repeat' first|exact .refl _|exact .nil|refine .agg ?_|refine .cons ?_ ?_|refine .rows ?_);done)|(refine(AQ sD dX).wk ?_;(repeat' first|exact .refl _|exact .nil|refine .agg ?_|refine .cons ?_ ?_|refine .rows ?_);done)|(refine(AQ sA aX).wk ?_;(repeat' first|exact .refl _|exact .nil|refine .agg ?_|refine .cons ?_ ?_|refine .rows ?_);done)|(refine adJ.wk ?_;(repeat' first|exact .refl _|exact .nil|exact .own _|refine .agg ?_|refine .cons ?_ ?_|refine .rows ?_);done)|(refine adK.wk ?_;(repeat' first|exact .refl _|exact .nil|exact .own _|refine .agg ?_|refine .cons ?_ ?_|refine .rows ?_);done)|(refine adH.wk ?_;(repeat' first|exact .refl _|exact .nil|exact .own _|refine .agg ?_|refine .cons ?_ ?_|refine .rows ?_);done)|(refine adI.wk ?_;(repeat' first|exact .refl _|exact .nil|exact .own _|refine .agg ?_|refine .cons ?_ ?_|refine .rows ?_);done)|(refine adF.wk ?_;(repeat' first|exact .refl _|exact .nil|exact .own _|refine .agg ?_|refine .cons ?_ ?_|refine .rows ?_);done)|(refine adG.wk ?_;(repeat' first|exact .refl _|exact .nil|exact .own _|refine .agg ?_|refine .cons ?_ ?_|refine .rows ?_);done)|exact abJ|(refine(vZ [sA,sC]).wk ?_;(repeat' first|exact .refl _|exact .nil|refine .cons ?_ ?_|refine .rows ?_);done)|(refine(vZ [sT]).wk ?_;(repeat' first|exact .refl _|exact .nil|refine .cons ?_ ?_|refine .rows ?_);done)|(refine(vZ [sE,sK]).wk ?_;(repeat' first|exact .refl _|exact .nil|refine .cons ?_ ?_|refine .rows ?_);done)|(refine(vZ [sA,sC,sB,sD]).wk ?_;(repeat' first|exact .refl _|exact .nil|refine .cons ?_ ?_|refine .rows ?_);done)|(refine(vZ [sD]).wk ?_;(repeat' first|exact .refl _|exact .nil|refine .cons ?_ ?_|refine .rows ?_);done)) ?_ ?_|refine .r8 ?_ ?_|fail)
 try any_goals(exact Zo)
 all_goals(try simp only[BL]at *)
 any_goals(show List.length _≤1000000;exact Z7 rfl)
 any_goals(show(List.length _+List.length _) * 248≤35184372088832;exact Z7 rfl)
 any_goals(show True∧(0:Int)≤_∧_;exact⟨trivial,by decide,by show(_:Int)<((4:Nat):Int);decide⟩)
 any_goals exact absurd rfl hc
 any_goals(show(0:Int)≤1∧(1:Int)≤_;exact⟨by decide,by show(1:Int)≤((4:Nat):Int);decide⟩)
 all_goals(show Sx.Fin _ _ _ _;exact Zw)
set_option linter.unusedSectionVars false
set_option maxHeartbeats 8000000
theorem awl(x:Ex)(hs:x.size≤100000):Sx.Pure Tryz.prog 11 [.agg x.lay] (iv (shape x)):=by have:=Ui x hs;rwa [Ex.eT x]at this
theorem adQ(x:Ex)(hs:x.size≤100000)(h:¬shape x=0):Sx.Pure Tryz.prog 6 [.agg x.lay] (.aT [sv ⟨#[]⟩,iv (shape x)]):=by
 refine k6.p fun σ=> ?_
 repeat'(first|exact .nil|refine .k0 ?_|refine .k1 ?_|refine .k2 ?_|refine .k7 ?_|refine .k9 ?_|(refine .cd ?_ ?_<;>(intro hc;skip))|refine .r1 ?_ ?_|(refine .m1 ?_ ?_;intro b)|refine .an rfl (by intro br;exact awl x hs) ?_ ?_|fail)
 all_goals(try simp only[BL]at *)
 all_goals first|(exfalso;simp_all;done)|(show Sx.Fin _ _ _ _;(refine Sx.Fin.wk Zs ?_;repeat' first|exact .refl _|fail))
theorem abF(c:di)(x:Ex)(hc:c.Fits)(hx:x.wt≤2 ^ 60):Sx.Pure Tryz.prog 3 [.agg c.cells,.agg x.row] (.v (.bool true)):=by
 have hZ:=Uo x 500 (by omega) (by omega)
 have hF:=vZ (rS c.features x)
 have hT:=vZ (rT c.features x)
 by_cases hs:Small c
 rotate_left
 ·have hS:=aws hs
  refine k3.p fun σ=> ?_
  repeat'(first|exact .nil|refine .k0 ?_|refine .k1 ?_|refine .k2 ?_|refine .k4 ?_|refine .k7 ?_|refine .k9 ?_|(refine .cd ?_ ?_<;>(intro hc;skip))|refine .r1 ?_ ?_|(refine .m1 ?_ ?_;intro b)|refine .an rfl (by intro br;first|exact hS|exact hZ|fail) ?_ ?_|fail)
  all_goals(try simp only[BL]at *)
  all_goals first|(show Sx.Fin _ _ _ _;(refine Sx.Fin.wk Zs ?_;repeat' first|exact .refl _|fail);done)|(exfalso;first|exact absurd hc.1 (by decide)|fail)
 have hS:=awt hs
 by_cases hz:jw x 500≤500
 rotate_left
 ·refine k3.p fun σ=> ?_
  repeat'(first|exact .nil|refine .k0 ?_|refine .k1 ?_|refine .k2 ?_|refine .k7 ?_|refine .k9 ?_|(refine .cd ?_ ?_<;>(intro hc;skip))|refine .r1 ?_ ?_|(refine .m1 ?_ ?_;intro b)|refine .an rfl (by intro br;first|exact hS|exact hZ|fail) ?_ ?_|fail)
  all_goals(try simp only[BL]at *)
  all_goals first|(show Sx.Fin _ _ _ _;(refine Sx.Fin.wk Zs ?_;repeat' first|exact .refl _|fail);done)|(exfalso;first|omega|fail)
 have hz5:=awR hz
 by_cases h0:shape x=0
 rotate_left
 ·have hX:=adQ x (by omega) h0
  rw[Ex.eT x]at hZ ⊢
  refine k3.p fun σ=> ?_
  repeat'(first|exact .nil|refine .k0 ?_|refine .k1 ?_|refine .k2 ?_|refine .k7 ?_|refine .k9 ?_|(refine .cd ?_ ?_<;>(intro hc;skip))|refine .r1 ?_ ?_|(refine .m1 ?_ ?_;intro b)|refine .an rfl (by intro br;first|exact hS|exact hZ|exact hX|exact O1) ?_ ?_|refine .t7 ?_ ?_ ?_|fail)
  try any_goals(exact Zo)
  all_goals(try simp only[BL]at *)
  all_goals first|(show Sx.Fin _ _ _ _;(refine Sx.Fin.wk Zs ?_;repeat' first|exact .refl _|fail);done)|(exfalso;first|omega|fail)|fail
 have PW:=KU h0
 have hX:=adP x (by omega)
 have hE:=abj h0 true
 have hSz:(AP x).size≤16000:=by
  rw[O3 h0]
  have:=Lb x false (Fq h0)
  omega
 have hU:=Lm c x (Ln hs hc (by omega) hx)
 rw[Ex.j1]at hU
 rw[Ex.eT x]at hU hZ ⊢
 refine k3.p fun σ=> ?_
 repeat'(first|exact .nil|refine .k0 ?_|refine .k1 ?_|refine .k2 ?_|refine .k4 ?_|refine .k7 ?_|refine .k9 ?_|(refine .cd ?_ ?_<;>(intro hc;skip))|refine .r1 ?_ ?_|(refine .l1 ?_;intro b)|(refine .m1 ?_ ?_;intro b)|refine .an rfl (by intro br;first|exact hS|exact hZ|exact hX|exact hE|exact hU|exact hF|exact hT|exact O1) ?_ ?_|refine .t7 ?_ ?_ ?_|fail)
 try any_goals(exact Zo)
 all_goals(try simp only[BL]at *)
 all_goals first|omega|(show Sx.Fin _ _ _ _;(refine Sx.Fin.wk Zs ?_;repeat' first|exact .refl _|fail);done)|fail
end Go.Proofs.YtcccbdelfhgmlaaGreatDoor
namespace Go.Proofs.YtcccbdelfhgmlaaGreatDoor
open Go.Sx Go.Proofs
theorem own:ownKnob Tryz.prog.godebug=none:=by kernel_rfl
theorem laidOut:laidOutB Tryz.prog=true:=by kernel_rfl
section
variable {H:Type}{enc:TypeId×Value→H}{W:World}
theorem jv(n:Nat):Rd enc Tryz.prog W n 3 fun l=>∃ z:Int,l=[iv z]:=(Rd.int Tryz.underlying3).mono fun l ⟨z,h,_⟩=>⟨z,h⟩
theorem jS(n:Nat):Rd enc Tryz.prog W n 9 fun l=>∃ s:ae,l=[sv s]∧s.size≤reachBytes:=Rd.str Tryz.underlying9
theorem rd_val:∀ n:Nat,Rd enc Tryz.prog W n 27 fun l=>∃ v:eP,l=v.cells∧v.s.size≤reachBytes
 |0=>Rd.zero _ _
 |n+1=>(Rd.struct Tryz.underlying27 (by kernel_rfl) (.cons (jv n) (.cons (jv n) (.cons (jS n) .nil)))).mono (by
  rintro _ ⟨_,_,rfl,⟨a,rfl⟩,_,_,rfl,⟨b,rfl⟩,_,_,rfl,⟨c,rfl,hc⟩,rfl⟩
  exact⟨⟨a,b,c⟩,rfl,hc⟩)
theorem ahU:∀ n:Nat,Rd enc Tryz.prog W n 30 fun l=>∃ w:gu,l=w.cells
 |0=>Rd.zero _ _
 |n+1=>(Rd.struct Tryz.underlying30 (by kernel_rfl) (.cons (jv n) (.cons (jv n) .nil))).mono (by
  rintro _ ⟨_,_,rfl,⟨a,rfl⟩,_,_,rfl,⟨b,rfl⟩,rfl⟩
  exact⟨⟨a,b⟩,rfl⟩)
theorem ahH:∀ n:Nat,Rd enc Tryz.prog W n 145 fun l=>∃ f:ar,l=f.cells
 |0=>Rd.zero _ _
 |n+1=>(Rd.struct Tryz.underlying145 (by kernel_rfl) (.cons (jS n) (.cons (jv n) .nil))).mono (by
  rintro _ ⟨_,_,rfl,⟨a,rfl,_⟩,_,_,rfl,⟨b,rfl⟩,rfl⟩
  exact⟨⟨a,b⟩,rfl⟩)
theorem ahz:∀ n:Nat,Rd enc Tryz.prog W n 28 fun l=>∃ u:List ar,l=[.sl false 2 (u.map ar.cells)]
 |0=>Rd.zero _ _
 |n+1=>(Rd.slice Tryz.underlying28 (af:=2) (by kernel_rfl) (by decide) (ahH n)).mono (by
  rintro _ ⟨rows,rfl,_,h⟩
  obtain⟨ls,rfl,_⟩:=ub (f:=ar.cells) (W:=fun _=>True) (fun r hr=>by obtain⟨x,h⟩:=h r hr;exact⟨x,h,trivial⟩)
  exact⟨ls,rfl⟩)
theorem ayg{l:List Ex}{k:Nat}(h:∀ y∈l,y.wt≤k):Ex.uy l≤k:=by
 induction l with
 |nil=>exact ZH _
 |cons x l ih=>
  have h1:=h x (by simp)
  have h2:=ih fun y hy=>h y (by simp[hy])
  rw[Ex.uy];omega
mutual
theorem TM:∀ n:Nat,Rd enc Tryz.prog W n 33 fun l=>∃ x:Ex,l=x.row∧x.wt≤2 ^ 60
 |0=>Rd.zero _ _
 |n+1=>(Rd.struct Tryz.underlying33 (by kernel_rfl) (.cons (jv n) (.cons (jS n) (.cons (jS n) (.cons (jS n) (.cons (rd_val n) (.cons (ahz n) (.cons (jv n) (.cons (ahU n) (.cons (ahF n) .nil)))))))))).mono (by
  rintro _ ⟨_,_,rfl,⟨k,rfl⟩,_,_,rfl,⟨o,rfl,ho⟩,_,_,rfl,⟨nm,rfl,hn⟩,_,_,rfl,⟨t,rfl,ht⟩,_,_,rfl,⟨v,rfl,hv⟩,_,_,rfl,⟨u,rfl⟩,_,_,rfl,⟨p,rfl⟩,_,_,rfl,⟨w,rfl⟩,_,_,rfl,⟨ks,rfl,td⟩,rfl⟩
  refine⟨⟨k,o,nm,t,v,u,p,w,ks⟩,(Ex.eT _).symm ▸ rfl,?_⟩
  rw[Ex.wt]
  have:=ayg td
  have hr:reachBytes≤2 ^ 47:=by decide
  omega)
theorem ahF:∀ n:Nat,Rd enc Tryz.prog W n 31 fun l=>∃ ks:List Ex,l=[.sl false 12 (ks.map Ex.row)]∧∀ y∈ks,y.wt≤2 ^ 60
 |0=>Rd.zero _ _
 |n+1=>(Rd.slice Tryz.underlying31 (af:=12) (by kernel_rfl) (by decide) (TM n)).mono (by
  rintro _ ⟨rows,rfl,_,h⟩
  obtain⟨ls,rfl,hl⟩:=ub (f:=Ex.row) (W:=fun y=>y.wt≤2 ^ 60) (fun r hr=>h r hr)
  exact⟨ls,rfl,hl⟩)
end
end
section
variable {H:Type}{enc:TypeId×Value→H}{W:World}
theorem ahT:∀ n:Nat,Rd enc Tryz.prog W n 27 fun l=>∃ v:eP,l=v.cells∧v.s.size≤reachBytes
 |0=>Rd.zero _ _
 |n+1=>(Rd.struct Tryz.underlying27 (by kernel_rfl) (.cons (jv n) (.cons (jv n) (.cons (jS n) .nil)))).mono (by
  rintro _ ⟨_,_,rfl,⟨a,rfl⟩,_,_,rfl,⟨b,rfl⟩,_,_,rfl,⟨c,rfl,hc⟩,rfl⟩
  exact⟨⟨a,b,c⟩,rfl,hc⟩)
theorem ahV:∀ n:Nat,Rd enc Tryz.prog W n 30 fun l=>∃ w:gu,l=w.cells
 |0=>Rd.zero _ _
 |n+1=>(Rd.struct Tryz.underlying30 (by kernel_rfl) (.cons (jv n) (.cons (jv n) .nil))).mono (by
  rintro _ ⟨_,_,rfl,⟨a,rfl⟩,_,_,rfl,⟨b,rfl⟩,rfl⟩
  exact⟨⟨a,b⟩,rfl⟩)
theorem ahI:∀ n:Nat,Rd enc Tryz.prog W n 145 fun l=>∃ f:ar,l=f.cells
 |0=>Rd.zero _ _
 |n+1=>(Rd.struct Tryz.underlying145 (by kernel_rfl) (.cons (jS n) (.cons (jv n) .nil))).mono (by
  rintro _ ⟨_,_,rfl,⟨a,rfl,_⟩,_,_,rfl,⟨b,rfl⟩,rfl⟩
  exact⟨⟨a,b⟩,rfl⟩)
theorem TT:∀ n:Nat,Rd enc Tryz.prog W n 28 fun l=>∃ u:List ar,l=[.sl false 2 (u.map ar.cells)]
 |0=>Rd.zero _ _
 |n+1=>(Rd.slice Tryz.underlying28 (af:=2) (by kernel_rfl) (by decide) (ahI n)).mono (by
  rintro _ ⟨rows,rfl,_,h⟩
  obtain⟨ls,rfl,_⟩:=ub (f:=ar.cells) (W:=fun _=>True) (fun r hr=>by obtain⟨x,h⟩:=h r hr;exact⟨x,h,trivial⟩)
  exact⟨ls,rfl⟩)
theorem TR:∀ n:Nat,Rd enc Tryz.prog W n 49 fun l=>∃ t:Ty,l=t.cells∧t.of.size≤reachBytes
 |0=>Rd.zero _ _
 |n+1=>(Rd.struct Tryz.underlying49 (by kernel_rfl) (.cons (jv n) (.cons (TT n) (.cons (jS n) .nil)))).mono (by
  rintro _ ⟨_,_,rfl,⟨a,rfl⟩,_,_,rfl,⟨b,rfl⟩,_,_,rfl,⟨c,rfl,hc⟩,rfl⟩
  exact⟨⟨a,b,c⟩,rfl,hc⟩)
theorem ayh{l:List Ex}{k:Nat}(h:∀ y∈l,y.wt≤k):Ex.uy l≤k:=by
 induction l with
 |nil=>exact ZH _
 |cons x l ih=>
  have h1:=h x (by simp)
  have h2:=ih fun y hy=>h y (by simp[hy])
  rw[Ex.uy];omega
mutual
theorem TN:∀ n:Nat,Rd enc Tryz.prog W n 33 fun l=>∃ x:Ex,l=x.row∧x.wt≤2 ^ 60
 |0=>Rd.zero _ _
 |n+1=>(Rd.struct Tryz.underlying33 (by kernel_rfl) (.cons (jv n) (.cons (jS n) (.cons (jS n) (.cons (jS n) (.cons (ahT n) (.cons (TT n) (.cons (jv n) (.cons (ahV n) (.cons (ahG n) .nil)))))))))).mono (by
  rintro _ ⟨_,_,rfl,⟨k,rfl⟩,_,_,rfl,⟨o,rfl,ho⟩,_,_,rfl,⟨nm,rfl,hn⟩,_,_,rfl,⟨t,rfl,ht⟩,_,_,rfl,⟨v,rfl,hv⟩,_,_,rfl,⟨u,rfl⟩,_,_,rfl,⟨p,rfl⟩,_,_,rfl,⟨w,rfl⟩,_,_,rfl,⟨ks,rfl,td⟩,rfl⟩
  refine⟨⟨k,o,nm,t,v,u,p,w,ks⟩,(Ex.eT _).symm ▸ rfl,?_⟩
  rw[Ex.wt]
  have:=ayh td
  have hr:reachBytes≤2 ^ 47:=by decide
  omega)
theorem ahG:∀ n:Nat,Rd enc Tryz.prog W n 31 fun l=>∃ ks:List Ex,l=[.sl false 12 (ks.map Ex.row)]∧∀ y∈ks,y.wt≤2 ^ 60
 |0=>Rd.zero _ _
 |n+1=>(Rd.slice Tryz.underlying31 (af:=12) (by kernel_rfl) (by decide) (TN n)).mono (by
  rintro _ ⟨rows,rfl,_,h⟩
  obtain⟨ls,rfl,hl⟩:=ub (f:=Ex.row) (W:=fun y=>y.wt≤2 ^ 60) (fun r hr=>h r hr)
  exact⟨ls,rfl,hl⟩)
end
theorem ahK:∀ n:Nat,Rd enc Tryz.prog W n 119 fun l=>∃ f:jX,l=f.cells
 |0=>Rd.zero _ _
 |n+1=>(Rd.struct Tryz.underlying119 (by kernel_rfl) (.cons (jS n) (.cons (TR n) .nil))).mono (by
  rintro _ ⟨_,_,rfl,⟨a,rfl,_⟩,_,_,rfl,⟨b,rfl,hb⟩,rfl⟩
  exact⟨⟨a,b⟩,rfl⟩)
theorem ahL:∀ n:Nat,Rd enc Tryz.prog W n 56 fun l=>∃ fs:List jX,l=[.sl false 4 (fs.map jX.cells)]
 |0=>Rd.zero _ _
 |n+1=>(Rd.slice Tryz.underlying56 (af:=4) (by kernel_rfl) (by decide) (ahK n)).mono (by
  rintro _ ⟨rows,rfl,_,h⟩
  obtain⟨ls,rfl,_⟩:=ub (f:=jX.cells) (W:=fun _=>True) (fun r hr=>by obtain⟨x,h⟩:=h r hr;exact⟨x,h,trivial⟩)
  exact⟨ls,rfl⟩)
theorem ahR:∀ n:Nat,Rd enc Tryz.prog W n 58 fun l=>∃ t:gV,l=t.cells
 |0=>Rd.zero _ _
 |n+1=>(Rd.struct Tryz.underlying58 (by kernel_rfl) (.cons (jS n) (.cons (jS n) (.cons (ahL n) (.cons (jv n) .nil))))).mono (by
  rintro _ ⟨_,_,rfl,⟨a,rfl,ha⟩,_,_,rfl,⟨b,rfl,hb⟩,_,_,rfl,⟨fs,rfl⟩,_,_,rfl,⟨k,rfl⟩,rfl⟩
  exact⟨⟨a,b,fs,k⟩,rfl⟩)
def Gi(f:aq):Prop:=f.name.size≤2 ^ 60∧f.body.wt≤2 ^ 60
theorem ad1(f:aq):f.cells=[sv f.name,sv f.nT]++f.type.cells++f.body.row++[iv f.version]:=by rw[Ex.eT];unfold aq.cells Ty.cells;rw[Ex.j1];rfl
theorem ahJ:∀ n:Nat,Rd enc Tryz.prog W n 51 fun l=>∃ f:aq,l=f.cells∧Gi f
 |0=>Rd.zero _ _
 |n+1=>(Rd.struct Tryz.underlying51 (by kernel_rfl) (.cons (jS n) (.cons (jS n) (.cons (TR n) (.cons (TN n) (.cons (jv n) .nil)))))).mono (by
  rintro _ ⟨_,_,rfl,⟨a,rfl,ha⟩,_,_,rfl,⟨b,rfl,hb⟩,_,_,rfl,⟨t,rfl,ht⟩,_,_,rfl,⟨x,rfl,hx⟩,_,_,rfl,⟨v,rfl⟩,rfl⟩
  exact⟨⟨a,b,t,x,v⟩,by rw[ad1];simp,Zk ha (by decide),hx⟩)
theorem ahS:∀ n:Nat,Rd enc Tryz.prog W n 22 fun l=>∃ ts:List gV,l=[.sl false 4 (ts.map gV.cells)]
 |0=>Rd.zero _ _
 |n+1=>(Rd.slice Tryz.underlying22 (af:=4) (by kernel_rfl) (by decide) (ahR n)).mono (by
  rintro _ ⟨rows,rfl,_,h⟩
  obtain⟨ls,rfl,_⟩:=ub (f:=gV.cells) (W:=fun _=>True) (fun r hr=>by obtain⟨x,h⟩:=h r hr;exact⟨x,h,trivial⟩)
  exact⟨ls,rfl⟩)
theorem KD:∀ n:Nat,Rd enc Tryz.prog W n 23 fun l=>∃ fs:List aq,l=[.sl false 18 (fs.map aq.cells)]∧∀ f∈fs,Gi f
 |0=>Rd.zero _ _
 |n+1=>(Rd.slice Tryz.underlying23 (af:=18) (by kernel_rfl) (by decide) (ahJ n)).mono (by
  rintro _ ⟨rows,rfl,_,h⟩
  obtain⟨ls,rfl,hl⟩:=ub (f:=aq.cells) (W:=Gi) (fun r hr=>h r hr)
  exact⟨ls,rfl,hl⟩)
theorem ahD:∀ n:Nat,Rd enc Tryz.prog W n 25 fun l=>∃ c:di,l=c.cells∧c.Fits
 |0=>Rd.zero _ _
 |n+1=>(Rd.struct Tryz.underlying25 (by kernel_rfl) (.cons (ahS n) (.cons (KD n) (.cons (KD n) (.cons (KD n) .nil))))).mono (by
  rintro _ ⟨_,_,rfl,⟨ts,rfl⟩,_,_,rfl,⟨fs,rfl,hf⟩,_,_,rfl,⟨ds,rfl,_⟩,_,_,rfl,⟨ps,rfl,_⟩,rfl⟩
  exact⟨⟨ts,fs,ds,ps⟩,rfl,fun f h=>(hf f h).1,fun f h=>(hf f h).2⟩)
end
end Go.Proofs.YtcccbdelfhgmlaaGreatDoor
namespace Go.Proofs.YtcccbdelfhgmlaaGreatDoor
open Go.Sx Go.Proofs Go.Lib
theorem Ks{W:World}{g:Nat}{x:AV}{v:Value}(hc:W.cell? ⟨g,0,none⟩=some v)(h:R (M0 W) x v):R (M0 W) (.pc [x]) (.pointer (some ⟨g,0,none⟩)):=by
 refine .pc [x] g 0 (fun _=>v) (fun k hk=> ?_) (fun k hk=> ?_)
 ·obtain rfl:k=0:=by simpa using hk
  exact hc
 ·obtain rfl:k=0:=by simpa using hk
  exact h
def yz(s:ae):DataW Unit:= .lit (.string s.data.toList)
theorem awN{enc:TypeId×Value→Unit}{P:Program}[Glob P]{W:World}{t e:TypeId}{fuel:Nat}{held:Bool}{cs:List Value}{p:List MemPlace}{ss:List ae}(ht:P.underlying t=some (.slice e))(he:P.underlying e=some .string)(hce:P.cellsOf e=1)
  (h0:ss≠[]) (hx:DataW.trod enc P W 0 (fun _=>true) held fuel t cs=some (.slice (ss.map yz) [],p)):∃ v,cs=[v]∧R (M0 W) (.sl false 1 (ss.map fL)) v:=by
 rcases DataW.trod_slice ht hx with⟨_,h⟩|⟨a,len,cap,elems,rest,m,rfl,rfl,dK,_,hlc,lM,hlen,pH,fJ,_⟩
 ·cases h
 ·simp only[Yw,DataW.slice.injEq]at dK
  have Qx:=dK.1.1
  have hl:elems.length=ss.length:=by
   have:=Zy List.length Qx
   simpa using this.symm
  have pN:0<ss.length:=YZ.2 h0
  have cell:∀ i (hi:i<ss.length),W.cell? (a.add i)=some (.string (ss.getD i ⟨#[]⟩)):=by
   intro i hi
   have h1:=pH i (by omega)
   have kQ:i<elems.length:=by omega
   rw[Z4 kQ,Option.bind_eq_some_iff]at h1
   obtain⟨cs',hc,rq⟩:=h1
   obtain⟨s,rfl,hs,_⟩:=U5 he rq
   obtain⟨g1,g2⟩:=G2 hc
   have g3:=g2 0 (by omega)
   have e1:(elems.map (·.1))[i]'(by simpa using kQ)=yz (ss[i]'hi):=by
    have:(ss.map yz)[i]'(by simpa using hi)=yz (ss[i]'hi):=by rw[Zm]
    rw[← this]
    exact List.getElem_of_eq Qx.symm _
   rw[Zm,hs]at e1
   simp only[yz,DataW.lit.injEq,Lit.string.injEq]at e1
   have e2:s=ss[i]'hi:=ui e1
   rw[hce,Yi]at g3
   have e3:(a.add i).add 0=a.add i:=by rw[Go.Deep.add_add];rfl
   rw[e3]at g3
   rw[g3,e2,ZY,Z4 hi];rfl
  have rj:a.spot=none:=by
   have:=K0 (cell 0 pN)
   simpa[Addr.add]using this
  obtain⟨b,o,s⟩:=a
  simp only at rj
  subst rj
  refine⟨_,rfl,?_⟩
  have qX:(ss.map fL).length=len:=by rw[Z3];omega
  have:=R.nz (M:=M0 W) (b:=b) (off:=o) (cap:=cap) (af:=1) (rows:=ss.map fL) (cs:=fun k=> .string (ss.getD k ⟨#[]⟩)) ⟨fun i hi=> ?_,fun k hk=> ?_,fun i hi j hj=> ?_⟩ (by omega) lM false
  ·rw[qX]at this;exact this
  ·rw[Zm];rfl
  ·have:=cell k (by simpa using hk)
   rw[Addr.add_lit]at this
   exact this
  ·have dk:i<ss.length:=by simpa using hi
   simp only[Zm,fL,Z6,ZW]at hj ⊢
   obtain rfl:j=0:=by omega
   rw[ZY,Yi,YP,Z4 dk]
   exact .v _
theorem H9{W:World}{name:String}{G:Nat}{d:DataW Unit}{ss:List ae}(h:VarReads Tryz.prog W name d)(hg:Tryz.prog.globalNamed name=some G)(tB:(Tryz.prog.globals[G]?).map (·.type)=some 43)(hd:d= .slice (ss.map yz) [])(h0:ss≠[]):
  R (M0 W) (.pc [.sl false 1 (ss.map fL)]) (.pointer (some ⟨G,0,none⟩)):=by
 obtain⟨g,t,cs,fuel,p,h1,h2,h3,h4⟩:=h
 obtain rfl:=Y2 (hg.symm.trans h1)
 obtain rfl:=Y2 (tB.symm.trans h2)
 rw[hd]at h4
 obtain⟨v,hv,hR⟩:=awN Tryz.underlying43 Tryz.underlying9 (by kernel_rfl) h0 h4
 refine Ks ?_ hR
 rw[World.var?_cell hg h3 0]
 have:=Zy (·[0]?) hv
 simpa using this
theorem Tk{W:World}{g:Nat}{vs:List Value}(hc:∀ k (h:k<vs.length),W.cell? ⟨g,k,none⟩=some vs[k]):R (M0 W) (.pc (vs.map AV.v)) (.pointer (some ⟨g,0,none⟩)):=by
 refine .pc _ g 0 (fun k=>vs.getD k undef) (fun k hk=> ?_) (fun k hk=> ?_)
 ·have cC:k<vs.length:=by simpa using hk
  rw[Zc,ZY,Z4 cC]
  exact hc k cC
 ·have cC:k<vs.length:=by simpa using hk
  rw[Zm,ZY,Z4 cC]
  exact .v _
theorem K7{W:World}{name:String}{d:DataW Unit}{G:Nat}{t e:TypeId}{n:Nat}{k:IntKind}{zs:List Int}(h:VarReads Tryz.prog W name d)(hd:d=tabData k zs)(hG:Tryz.prog.globalNamed name=some G)(tB:(Tryz.prog.globals[G]?).map (·.type)=some t)
  (ht:Tryz.prog.underlying t=some (.array n e)) (he:Tryz.prog.underlying e=some (.int k)) (h1:Tryz.prog.cellsOf e=1) (hn:Tryz.prog.cellsOf t=n):TabIs Tryz.prog W name k zs:=by
 obtain⟨g,t',cs,fuel,p,g1,g2,g3,g4⟩:=h
 obtain rfl:=Y2 (hG.symm.trans g1)
 obtain rfl:=Y2 (tB.symm.trans g2)
 rw[hd]at g4
 have:=cells_of_tab ht he h1 hn g4
 unfold TabIs
 rw[g3,← this]
theorem Tj{W:World}{name:String}{G:Nat}{k:IntKind}{zs:List Int}(h:TabIs Tryz.prog W name k zs)(hG:Tryz.prog.globalNamed name=some G):R (M0 W) (.pc ((zs.map fun z=>Value.int k z).map AV.v)) (.pointer (some ⟨G,0,none⟩)):=by
 refine Tk fun i hi=> ?_
 have dk:i<zs.length:=by simpa using hi
 have:=h.cell hG i dk
 rw[this]
 simp[dk]
theorem aek{W:World}(hL:laidMet Tryz.prog Rows.catalogPrintedRow.laid W)(tv:W.ShapedOpen Tryz.prog):Gk Tryz.prog W:=by
 have Jp:=laidMet.reads hL (n:= "internal/strconv.uint64pow10") (d:=Rows.laid_internal_strconv_uint64pow10) (by simp[Rows.catalogPrintedRow])
 refine⟨fun g l h=> ?_,?_,?_⟩
 ·simp only[Glob.av]at h
  split at h
  ·cases h
   exact H9 (laidMet.reads hL (n:= "asof/checker.aggregates") (d:=Rows.laid_asof_checker_aggregates) (by simp[Rows.catalogPrintedRow])) (by kernel_rfl) (by kernel_rfl) (by rfl) (by decide)
  ·cases h
   exact H9 (laidMet.reads hL (n:= "asof/checker.unary") (d:=Rows.laid_asof_checker_unary) (by simp[Rows.catalogPrintedRow])) (by kernel_rfl) (by kernel_rfl) (by rfl) (by decide)
  ·cases h
   exact H9 (laidMet.reads hL (n:= "asof/checker.binary") (d:=Rows.laid_asof_checker_binary) (by simp[Rows.catalogPrintedRow])) (by kernel_rfl) (by kernel_rfl) (by rfl) (by decide)
  ·cases h
   obtain⟨m,hm⟩:=cell_of_shapedOpen_int (g:=3) (zero:= #[.int .i64 0]) (t:=3) tv (Yv (by kernel_rfl)) (by kernel_rfl) rfl (by kernel_rfl) (by kernel_rfl) Tryz.underlying3
   exact Ks hm (.ai .i64 m)
  ·cases h
   have h1:=K7 (k:= .i64) (zs:=[1,10,100,1000,10000,100000,1000000]) (n:=7) (G:=4) (t:=222) (e:=3) (laidMet.reads hL (n:= "asof/decimal.tens") (d:=Rows.laid_asof_decimal_tens) (by simp[Rows.catalogPrintedRow])) (by rfl) (by kernel_rfl) (by kernel_rfl) Tryz.underlying222 Tryz.underlying3 (by kernel_rfl) (by kernel_rfl)
   exact Tj h1 (by kernel_rfl)
  ·cases h
   obtain⟨g,t,cs,fuel,p,h1,h2,h3,h4⟩:=laidMet.reads hL (n:= "strconv.ErrRange") (d:=Rows.laid_strconv_ErrRange) (by simp[Rows.catalogPrintedRow])
   have hG:Tryz.prog.globalNamed "strconv.ErrRange" =some 9:=by kernel_rfl
   obtain rfl:=Y2 (hG.symm.trans h1)
   have tB:(Tryz.prog.globals[9]?).map (·.type)=some 186:=by kernel_rfl
   obtain rfl:=Y2 (tB.symm.trans h2)
   have fx:=World.var?_cell hG h3 0
   have Rj: "*" ++ "errors.errorString" = "*errors.errorString" :=by decide
   cases fuel with
   |zero=>simp[DataW.trod]at h4
   |succ fuel=>
    unfold DataW.trod at h4
    rw[Tryz.underlying186]at h4
    clear hL tv Jp h1 h2 tB h3
    generalize b7:cs.toList=l at h4
    have e0:cs[0]? =l[0]? :=by rw[← b7];simp
    rw[e0]at fx
    clear e0 b7
    have key:∃ u v,l=[.iface u v]∧Tryz.prog.typeName? 3 u=some "*errors.errorString" :=by
     unfold Rows.laid_strconv_ErrRange at h4
     split at h4
     all_goals first|(exfalso;rename_i heq;cases heq;done)|(exfalso;cases h4;done)|skip
     rename_i u v _
     refine⟨u,v,rfl,?_⟩
     cases hn:Tryz.prog.typeName? 3 u with
     |none=>rw[hn]at h4;cases h4
     |some nm=>
      rw[hn]at h4
      simp only[ZQ,Yw,DataW.iface.injEq]at h4
      obtain⟨_,_,⟨rfl,_⟩,_⟩:=h4
      rfl
    obtain⟨u,v,rfl,hu⟩:=key
    obtain rfl:u=279:=typeName_ptr_named (nm:= "errors.errorString") (by rw[Rj];kernel_rfl) (by kernel_rfl) (by decide) u (by rw[Rj];exact hu)
    exact Ks (fx.trans rfl) (.iK _ _ v (.any v))
  ·cases h
   have h1:=K7 (k:= .u8) (zs:=firstTab) (n:=256) (G:=6) (t:=129) (e:=5) (laidMet.reads hL (n:= "unicode/utf8.first") (d:=Rows.laid_unicode_utf8_first) (by simp[Rows.catalogPrintedRow])) (by kernel_rfl) (by kernel_rfl) (by kernel_rfl) Tryz.underlying129 Tryz.underlying5 (by kernel_rfl) (by kernel_rfl)
   have:=Tj h1 (G:=6) (by kernel_rfl)
   rw[show(firstTab.map fun z=>Value.int .u8 z).map AV.v=(List.range 256).map fun c=>AV.v (.int .u8 (Lib.firstT c:Nat)) by unfold firstTab;rw[Yf,Yf];rfl]at this
   exact this
  ·cases h
   have h4:=laidMet.reads hL (n:= "unicode/utf8.acceptRanges") (d:=Rows.laid_unicode_utf8_acceptRanges) (by simp[Rows.catalogPrintedRow])
   rw[show(Rows.laid_unicode_utf8_acceptRanges:DataW Unit)=acceptData by kernel_rfl]at h4
   have hcell:∀ i,i<16→W.cell? ⟨7,2 * i,none⟩=some (.int .u8 (Lib.accLo i:Nat))∧W.cell? ⟨7,2 * i+1,none⟩=some (.int .u8 (Lib.accHi i:Nat)):=fun i hi=>by
    obtain⟨g,t,cs,fuel,p,hg,tB,Rr,hd⟩:=h4
    have hG:Tryz.prog.globalNamed "unicode/utf8.acceptRanges" =some 7:=by kernel_rfl
    obtain rfl:=Y2 (hG.symm.trans hg)
    have afl:(Tryz.prog.globals[7]?).map (·.type)=some 252:=by kernel_rfl
    obtain rfl:=Y2 (afl.symm.trans tB)
    obtain⟨aym,d,q,Qt,he⟩:=array_elem Tryz.underlying252 hd i hi
    simp only[YA,List.getElem?_range hi,Zh,Z1]at Qt
    subst Qt
    have c2:Tryz.prog.cellsOf 251=2:=by kernel_rfl
    rw[c2]at he
    have mV:=ints_of_struct Tryz.underlying251 (fun j f hj=>by
     match j,hj with
     |0,hj=>simp at hj;subst hj;exact⟨Tryz.underlying5,rfl,by kernel_rfl⟩
     |1,hj=>simp at hj;subst hj;exact⟨Tryz.underlying5,rfl,by kernel_rfl⟩
     |j+2,hj=>simp at hj) (by rw[c2];rfl) he
    have e0:=Zy (·[0]?) mV
    have e1:=Zy (·[1]?) mV
    simp only[List.getElem?_take,XK]at e0 e1
    constructor
    ·rw[World.var?_cell hG Rr (2 * i),← Array.getElem?_toList]
     simpa[Yp]using e0
    ·rw[World.var?_cell hG Rr (2 * i+1),← Array.getElem?_toList]
     simpa[Yp]using e1
   have hl:((List.range 16).flatMap fun i=>[AV.v (.int .u8 (Lib.accLo i:Nat)),AV.v (.int .u8 (Lib.accHi i:Nat))])=(((List.range 16).flatMap fun i=>[(Value.int .u8 (Lib.accLo i:Nat)),(Value.int .u8 (Lib.accHi i:Nat))]).map AV.v):=by kernel_rfl
   rw[hl]
   refine Tk fun k hk=> ?_
   have cC:k<32:=hk
   have key:∀ i:Fin 16,((List.range 16).flatMap fun i=>[(Value.int .u8 (Lib.accLo i:Nat)),(Value.int .u8 (Lib.accHi i:Nat))])[2 * i.val]? =some (Value.int .u8 (Lib.accLo i.val:Nat))∧
     ((List.range 16).flatMap fun i=>[(Value.int .u8 (Lib.accLo i:Nat)),(Value.int .u8 (Lib.accHi i:Nat))])[2 * i.val+1]? =some (Value.int .u8 (Lib.accHi i.val:Nat)):=by
    rintro⟨i,hi⟩
    have:i=0∨i=1∨i=2∨i=3∨i=4∨i=5∨i=6∨i=7∨i=8∨i=9∨i=10∨i=11∨i=12∨i=13∨i=14∨i=15:=by omega
    rcases this with rfl|rfl|rfl|rfl|rfl|rfl|rfl|rfl|rfl|rfl|rfl|rfl|rfl|rfl|rfl|rfl<;>exact⟨rfl,rfl⟩
   obtain⟨k1,k2⟩:=key ⟨k / 2,by omega⟩
   obtain⟨c1,c2⟩:=hcell (k / 2) (by omega)
   rcases Nat.mod_two_eq_zero_or_one k with e|e
   ·rw[show 2 * (k / 2)=k by omega]at c1 k1
    rw[c1,← k1,Z4 hk]
   ·rw[show 2 * (k / 2)+1=k by omega]at c2 k2
    rw[c2,← k2,Z4 hk]
  ·cases h
 ·exact K7 (G:=5) Jp (by rfl) (by kernel_rfl) (t:=240) (n:=20) (e:=178) (by kernel_rfl) Tryz.underlying240 Tryz.underlying178 (by kernel_rfl) (by kernel_rfl)
 ·obtain⟨g,t,cs,fuel,p,h1,h2,h3,h4⟩:=Jp
  have hG:Tryz.prog.globalNamed "internal/strconv.uint64pow10" =some 5:=by kernel_rfl
  simp only[World.var?,hG,Option.bind_some]at h3
  split at h3
  ·rename_i e
   exact(ZX.1 e).1
  ·cases h3
end Go.Proofs.YtcccbdelfhgmlaaGreatDoor
