/- decimal.Parse of digits, a point, digits. -/
import Derived.Test.YtcccbdelfhgmlaaGreatDoorWn
set_option linter.unusedSimpArgs false
set_option linter.unusedVariables false
set_option linter.unusedSectionVars false
set_option maxRecDepth 100000
set_option maxHeartbeats 4000000
namespace Go.Sx
open Go.RowKit Go.Proofs
theorem MF{P:Program}[Glob P]{cfg:Nat→Nat}{K:ag→Store→Prop}{E:List PanicEntry→Store→Prop}{σ:Store}{rest:List CI}{d g n af:Nat}{xr:XR}{ps:List Prop}{og:Option Bool}{i:Operand}{q:IntKind}{k:Int}{l:List AV}
  (h:aB xr none [i,.global g]=some (og,[.v (.int q k),.v (.pointer (some ⟨g,0,none⟩))],ps)) (hav:Glob.av P g=some l) (ak:OB ps) (hb:0≤k∧k<n) (kk:VX P cfg rest K E ((d,.s (.pc (l.drop (k.toNat * af))))::xr) σ):VX P cfg (⟨some d,.jt n af (.global g) i,none⟩::rest) K E xr σ:=by
 obtain⟨hc,he⟩:=cz h
 have cP:=xj h
 subst cP
 have h2:=he ak rfl
 simp only[bo,Zu,YO,ZT,Zd]at h2
 constructor
 simp only[fg,dO,aj,h2.1,h2.2]
 exact⟨l,hav,trivial,hb.1,hb.2,kk.h⟩
end Go.Sx
namespace Go.Proofs.YtcccbdelfhgmlaaGreatDoor
open Go.Sx Go.Proofs
abbrev qb:Nat:=1152921504606846976
theorem B3:∀ (l:List UInt8) (c:UInt8) (x:Nat),cD (l++[c]) x=10 * cD l x+(c.toNat-48)
 |[],c,x=>rfl
 |b::l,c,x=>by simp only[ZC,cD];exact B3 l c _
def jH(a b:List UInt8)(i:Nat):List UInt8:=if i≤a.length then a.take i else a++b.take (i-a.length-1)
def nD(a:List UInt8)(i:Nat):Int:=if i≤a.length then -1 else a.length
def wO(D:List UInt8)(x:Int)(pd:Bool):Prop:=(pd=false∧x=(cD D 0:Nat)∧cD D 0≤qb)∨(pd=true∧qb<cD D 0∧0≤x∧x≤(qb:Nat))
theorem Nf{D:List UInt8}{x:Int}{c:UInt8}(h:wO D x false):(¬x>((1152921504606846976:Int)-((c.toNat:Int)-48)) / 10→48≤c.toNat→c.toNat≤57→wO (D++[c]) (10 * x+((c.toNat:Int)-48)) false)∧(x>((1152921504606846976:Int)-((c.toNat:Int)-48)) / 10→48≤c.toNat→c.toNat≤57→wO (D++[c]) x true):=by
 rcases h with⟨_,rfl,h2⟩|⟨e,_⟩
 ·refine⟨fun h h3 h4=> .inl ⟨rfl,?_,?_⟩,fun h h3 h4=> .inr ⟨rfl,?_,by omega,by exact_mod_cast h2⟩⟩
  ·rw[B3];omega
  ·rw[B3];unfold qb at *;omega
  ·rw[B3];unfold qb at *;omega
 ·cases e
theorem aaR{D:List UInt8}{x:Int}{c:UInt8}(h:wO D x true):wO (D++[c]) x true:=by
 rcases h with⟨e,_⟩|⟨_,h1,h2⟩
 ·cases e
 ·exact .inr ⟨rfl,by rw[B3];omega,h2⟩
theorem zF{m:Int}(h:1≤m∧m≤100000):IntKind.i64.wrap (Int.tdiv 1152921504606846976 m)=1152921504606846976 / m:=by
 rw[Int.tdiv_eq_ediv_of_nonneg (by decide),bG ⟨?_,?_⟩]
 ·have:=Int.ediv_nonneg (a:=1152921504606846976) (b:=m) (by decide) (by omega);omega
 ·have:=Int.ediv_le_self m (show(0:Int)≤1152921504606846976 by decide);omega
theorem U1:IntKind.i64.wrap (Int.tdiv 1152921504606846976 1)=1152921504606846976∧IntKind.i64.wrap (Int.tdiv 1152921504606846976 10)=115292150460684697∧IntKind.i64.wrap (Int.tdiv 1152921504606846976 100)=11529215046068469∧IntKind.i64.wrap (Int.tdiv 1152921504606846976 1000)=1152921504606846∧IntKind.i64.wrap (Int.tdiv 1152921504606846976 10000)=115292150460684∧IntKind.i64.wrap (Int.tdiv 1152921504606846976 100000)=11529215046068:=
 ⟨zF (by decide),zF (by decide),zF (by decide),zF (by decide),zF (by decide),zF (by decide)⟩
def km(a b:List UInt8):Int:=if b.length>6 then 3 else if cD (a++b) 0 * 10 ^ (6-b.length)>1152921504606846976 then 2 else 0
def qi(a b:List UInt8):Int:=if km a b=0 then((cD (a++b) 0 * 10 ^ (6-b.length):Nat):Int)else 0
theorem Te(a b:List UInt8)(ha:jk a)(hb:jk b)(hl:(a++46::b).length≤16384):Pure Tryz.prog 138 [sv ⟨(a++46::b).toArray⟩] (.aT [iv (qi a b),iv (km a b)]):=by
 refine afO.p fun σ=> ?_
 obtain⟨l,hL⟩:∃ l,l=a++46::b:=⟨_,rfl⟩
 rw[← hL]at hl ⊢
 have hlen:l.length=a.length+1+b.length:=by rw[hL];simp;omega
 have ha0:0<a.length:=YZ.2 ha.1
 have kN:0<b.length:=YZ.2 hb.1
 have Qp:∀ i,i<a.length→48≤(bZ ⟨l.toArray⟩ i).toNat∧(bZ ⟨l.toArray⟩ i).toNat≤57∧jH a b (i+1)=jH a b i++[bZ ⟨l.toArray⟩ i]:=fun i h=>by
  have e:bZ ⟨l.toArray⟩ i=a[i]:=by
   show l.getD i 0=_
   rw[hL,ZY,Y9 h,Z4 h];rfl
  rw[e]
  have:=ha.2 _ (Zp h)
  refine⟨this.1,this.2,?_⟩
  unfold jH
  rw[Z8 (by omega),Z8 (by omega),ZF h]
 have aeB:bZ ⟨l.toArray⟩ a.length=46:=by
  show l.getD a.length 0=_
  rw[hL,ZY,Yz (ZR _)];simp
 have aeC:∀ i,a.length<i→i<l.length→48≤(bZ ⟨l.toArray⟩ i).toNat∧(bZ ⟨l.toArray⟩ i).toNat≤57∧jH a b (i+1)=jH a b i++[bZ ⟨l.toArray⟩ i]:=fun i h h2=>by
  obtain⟨j,rfl⟩:∃ j,i=a.length+1+j:=⟨i-a.length-1,by omega⟩
  have hk:j<b.length:=by omega
  have e:bZ ⟨l.toArray⟩ (a.length+1+j)=b[j]:=by
   show l.getD _ 0=_
   rw[hL,ZY,Yz (by omega),show a.length+1+j-a.length=j+1 by omega,List.getElem?_cons_succ,Z4 hk];rfl
  rw[e]
  have:=hb.2 _ (Zp hk)
  refine⟨this.1,this.2,?_⟩
  unfold jH
  rw[Z9 (by omega),Z9 (by omega),show a.length+1+j+1-a.length-1=j+1 by omega,show a.length+1+j-a.length-1=j by omega,ZF hk,Zz]
 have u0:jH a b (a.length+1)=jH a b a.length:=by
  unfold jH;rw[Z9 (by omega),Z8 (ZR _)];simp
 have aJ:(⟨l.toArray⟩:ae)≠⟨#[]⟩:=fun e=>by
  have:l.toArray.size=0:=Zy (fun s:ae=>s.data.size) e
  simp only[ZS]at this;omega
 have kP:∀ i,i<l.length→(i=a.length∧(bZ ⟨l.toArray⟩ i).toNat=46∧nD a i= -1)∨(48≤(bZ ⟨l.toArray⟩ i).toNat∧(bZ ⟨l.toArray⟩ i).toNat≤57∧jH a b (i+1)=jH a b i++[bZ ⟨l.toArray⟩ i]∧nD a (i+1)=nD a i):=fun i h=>by
  unfold nD
  rcases Yu i a.length with h1|h1|h1
  ·have:=Qp i h1
   exact .inr ⟨this.1,this.2.1,this.2.2,by rw[Z8 (by omega),Z8 (by omega)]⟩
  ·subst h1
   exact .inl ⟨rfl,by rw[aeB];rfl,by rw[Z8 (ZR _)]⟩
  ·have:=aeC i h1 h
   exact .inr ⟨this.1,this.2.1,this.2.2,by rw[Z9 (by omega),Z9 (by omega)]⟩
 have ayA:(!decide ((⟨l.toArray⟩:ae)=⟨#[]⟩) && decide (((bZ ⟨l.toArray⟩ (Int.toNat 0)).toNat:Int)=45))=false:=by
  have:=Qp 0 ha0
  simp only[Bool.and_eq_false_iff]
  exact .inr (Zn (by show¬((bZ ⟨l.toArray⟩ 0).toNat:Int)=45;omega))
 have aQ:((⟨l.toArray⟩:ae).size:Int)=(l.length:Nat):=by show(l.toArray.size:Int)=_;simp
 repeat'((fail_if_success (show WK _ _ _ _ (.scope _) _ _ _));(first|exact .nil|refine .k0 ?_|refine .k1 ?_|refine .k2 ?_|refine .r1 ?_ ?_|fail))
 refine Gy (fun l n rg σ'=>False) (fun _=>[]) ?_ (fun _ _ _ _ h=>h.elim)
 repeat'((fail_if_success (show WK _ _ _ _ (.seq (.label _) _) _ _ _));(first|exact .nil|refine .k0 ?_|refine .k1 ?_|refine .k2 ?_|refine .k4 ?_|refine .k9 ?_|(refine .cd ?_ ?_<;>(intro hc;first|exact kt hc (by assumption)|skip))|refine .r1 ?_ ?_|refine .t5 ?_ ?_ ?_|fail))
 any_goals(first|exact fun _=>⟨Int.le_refl _,by rw[aQ];omega⟩|skip)
 refine xg (MK (zY ?_))
 repeat'((fail_if_success (show WK _ _ _ _ (.loop _) _ _ _));(first|exact .nil|refine .k0 ?_|refine .k1 ?_|refine .k2 ?_|refine .k6 ?_|refine .r1 ?_ ?_|fail))
 refine dU (fun m rg σ'=>∃ (i:Nat) (x:Int) (pd:Bool),i≤l.length∧m=l.length-i∧wO (jH a b i) x pd∧σ'=σ∧rg=[(2,iv x),(4,sv ⟨l.toArray⟩),(5,.v (.bool false)),(6,iv (nD a i)),(7,.v (.bool pd)),(8,iv (i:Nat))]) l.length rfl ⟨_,_,Zr,Zs,0,0,false,ZH _,rfl,.inl ⟨rfl,by simp[jH,cD],by simp[jH,cD]⟩,rfl,by simp[nD]⟩ ?_
 rintro m _ _ ⟨i,x,pd,hi,hm,pD,rfl,rfl⟩
 have JC:∀ i,i<l.length→IntKind.i64.wrap ((i:Int)+1)=((i+1:Nat):Int):=fun i h=>by rw[bG (by omega)];rfl
 have pM:nD a l.length=a.length:=by unfold nD;rw[Z9 (by omega)]
 have P4:jH a b l.length=a++b:=by unfold jH;rw[Z9 (by omega),ZD (by omega)]
 cases pd
 ·repeat'(first|exact .nil|refine .k0 ?_|refine .k1 ?_|refine .k2 ?_|refine .k4 ?_|refine .k6 ?_|refine .k7 ?_|refine .k8 ?_|refine .k9 ?_|(refine .cd ?_ ?_<;>first|with_reducible exact fT|(intro hc;skip))|refine .r1 ?_ ?_|refine .t5 ?_ ?_ ?_|refine .r8 ?_ ?_|fail)
  try any_goals(exact Zo)
  all_goals(try simp only[BL]at *)
  ·have bJ:i<l.length:=by omega
   rcases kP i bJ with⟨rfl,xU,yg⟩|⟨h1,h2,h3,h4⟩
   ·refine⟨m-1,by omega,_,_,Zr,Zs,a.length+1,x,false,by omega,by omega,by rw[u0];exact pD,rfl,?_⟩
    rw[show IntKind.i64.wrap ((a.length:Int)+1)=((a.length+1:Nat):Int) by rw[bG (by omega)];rfl,show nD a (a.length+1)=a.length by unfold nD;rw[Z9 (by omega)]]
   ·omega
  ·exfalso
   have bJ:i<l.length:=by omega
   rcases kP i bJ with⟨rfl,xU,yg⟩|⟨h1,h2,h3,h4⟩
   ·omega
   ·omega
  ·have bJ:i<l.length:=by omega
   rcases kP i bJ with⟨rfl,xU,yg⟩|⟨h1,h2,h3,h4⟩
   ·omega
   ·have hd:IntKind.i64.wrap (IntKind.u8.wrap (((bZ ⟨l.toArray⟩ i).toNat:Int)-48))=((bZ ⟨l.toArray⟩ i).toNat:Int)-48:=by rw[IntKind.wrap_u8,bG (by omega)];omega
    have q1:=bG (n:=1152921504606846976-(((bZ ⟨l.toArray⟩ i).toNat:Int)-48)) (by omega)
    have q2:(1152921504606846976-(((bZ ⟨l.toArray⟩ i).toNat:Int)-48)).tdiv 10=(1152921504606846976-(((bZ ⟨l.toArray⟩ i).toNat:Int)-48)) / 10:=Int.tdiv_eq_ediv_of_nonneg (by omega)
    have q3:=bG (n:=(1152921504606846976-(((bZ ⟨l.toArray⟩ i).toNat:Int)-48)) / 10) (by omega)
    rw[hd,q1,q2,q3]at hc
    refine⟨m-1,by omega,_,_,Zr,Zs,i+1,x,true,by omega,by omega,by rw[h3];exact(Nf pD).2 hc h1 h2,rfl,?_⟩
    rw[JC i bJ,h4]
  ·have bJ:i<l.length:=by omega
   rcases kP i bJ with⟨rfl,xU,yg⟩|⟨h1,h2,h3,h4⟩
   ·omega
   ·have hd:IntKind.i64.wrap (IntKind.u8.wrap (((bZ ⟨l.toArray⟩ i).toNat:Int)-48))=((bZ ⟨l.toArray⟩ i).toNat:Int)-48:=by rw[IntKind.wrap_u8,bG (by omega)];omega
    have q1:=bG (n:=1152921504606846976-(((bZ ⟨l.toArray⟩ i).toNat:Int)-48)) (by omega)
    have q2:(1152921504606846976-(((bZ ⟨l.toArray⟩ i).toNat:Int)-48)).tdiv 10=(1152921504606846976-(((bZ ⟨l.toArray⟩ i).toNat:Int)-48)) / 10:=Int.tdiv_eq_ediv_of_nonneg (by omega)
    have q3:=bG (n:=(1152921504606846976-(((bZ ⟨l.toArray⟩ i).toNat:Int)-48)) / 10) (by omega)
    rw[hd,q1,q2,q3]at hc
    have hx:0≤x:=by rcases pD with⟨_,h,_⟩|⟨e,_⟩<;>omega
    refine⟨m-1,by omega,_,_,Zr,Zs,i+1,10 * x+(((bZ ⟨l.toArray⟩ i).toNat:Int)-48),false,by omega,by omega,by rw[h3];exact(Nf pD).1 hc h1 h2,rfl,?_⟩
    have q4:=bG (n:=10 * x) (by omega)
    have q5:=bG (n:=10 * x+(((bZ ⟨l.toArray⟩ i).toNat:Int)-48)) (by omega)
    rw[JC i bJ,h4,hd,q4,q5]
  ·have kQ:i=l.length:=by omega
   subst kQ
   have q1:=bG (n:=(l.length:Int)-a.length) (by omega)
   have q2:=bG (n:=(l.length:Int)-a.length-1) (by omega)
   rw[pM,aQ,q1,q2]at hc
   have Iz:b.length>6:=by omega
   have Jl:km a b=3:=Z8 Iz
   refine vG ?_
   repeat'(first|exact .nil|refine .r1 ?_ ?_|fail)
   exact Sx.Fin.intro Zs (by unfold qi;rw[Jl,Z9 (by decide)])
  ·exact absurd hc aJ
  ·have kQ:i=l.length:=by omega
   subst kQ
   have q1:=bG (n:=(l.length:Int)-a.length) (by omega)
   have q2:=bG (n:=(l.length:Int)-a.length-1) (by omega)
   have q3:(l.length:Int)-a.length-1=(b.length:Nat):=by omega
   rw[pM,aQ,q1,q2,q3]at hc
   simp only[pM,aQ,q1,q2,q3]
   rw[P4]at pD
   obtain⟨k,m6,hk,oo,hk6⟩:∃ k m6:Nat,k=6-b.length∧m6=10 ^ k∧k≤5:=⟨_,_,rfl,rfl,by omega⟩
   have q5:IntKind.i64.wrap (6-(b.length:Int))=(k:Int):=by rw[bG (by omega)];omega
   have q6:=bG (n:=(b.length:Int)) (by omega)
   simp only[q6,q5]
   have vb:km a b=if cD (a++b) 0 * m6>1152921504606846976 then 2 else 0:=by unfold km;rw[Z9 (by omega),← hk,oo]
   have A6:qi a b=if km a b=0 then((cD (a++b) 0 * m6:Nat):Int)else 0:=by unfold qi;rw[← hk,oo]
   have I9:k=0∨k=1∨k=2∨k=3∨k=4∨k=5:=by omega
   clear hk q5
   rcases I9 with rfl|rfl|rfl|rfl|rfl|rfl
   all_goals
    refine MF rfl rfl .nil (by decide) ?_
    repeat'(first|exact .nil|refine .k0 ?_|refine .k1 ?_|refine .k2 ?_|refine .k7 ?_|refine .k9 ?_|(refine .cd ?_ ?_<;>first|with_reducible exact fT|(intro hc;skip))|refine .r1 ?_ ?_|fail)
    try any_goals(exact Zo)
    all_goals(try simp only[BL]at *)
   all_goals trace_state
   all_goals
    have ae0:m6=1∨m6=10∨m6=100∨m6=1000∨m6=10000∨m6=100000:=by rw[oo];decide
    simp only[Nat.reducePow]at oo
    subst oo
    refine vG ?_
    repeat'(first|exact .nil|refine .r1 ?_ ?_|fail)
    rcases pD with⟨e1,vF,dK⟩|⟨e1,vF,dK⟩
    all_goals first
    |(cases e1;done)
    |(simp only[U1]at *
      split at vb
      ·rename_i hg
       first
       |(exfalso;(unfold qb at *;omega;done))
       |exact Sx.Fin.intro Zs (by rw[A6,vb,Z9 (by decide)])
      ·rename_i hg
       first
       |(exfalso;unfold qb at *;omega)
       |exact Sx.Fin.intro Zs (by rw[A6,vb,Z8 rfl,bG (by unfold qb at *;omega),vF];rfl))
  ·exact absurd hc aJ
  ·exfalso
   have kQ:i=l.length:=by omega
   subst kQ
   omega
 ·repeat'(first|exact .nil|refine .k0 ?_|refine .k1 ?_|refine .k2 ?_|refine .k4 ?_|refine .k6 ?_|refine .k7 ?_|refine .k8 ?_|refine .k9 ?_|(refine .cd ?_ ?_<;>first|with_reducible exact tF|(intro hc;skip))|refine .r1 ?_ ?_|refine .t5 ?_ ?_ ?_|refine .r8 ?_ ?_|fail)
  try any_goals(exact Zo)
  all_goals(try simp only[BL]at *)
  ·have bJ:i<l.length:=by omega
   rcases kP i bJ with⟨rfl,xU,yg⟩|⟨h1,h2,h3,h4⟩
   ·refine⟨m-1,by omega,_,_,Zr,Zs,a.length+1,x,true,by omega,by omega,by rw[u0];exact pD,rfl,?_⟩
    rw[show IntKind.i64.wrap ((a.length:Int)+1)=((a.length+1:Nat):Int) by rw[bG (by omega)];rfl,show nD a (a.length+1)=a.length by unfold nD;rw[Z9 (by omega)]]
   ·omega
  ·exfalso
   have bJ:i<l.length:=by omega
   rcases kP i bJ with⟨rfl,xU,yg⟩|⟨h1,h2,h3,h4⟩
   ·omega
   ·omega
  ·have bJ:i<l.length:=by omega
   rcases kP i bJ with⟨rfl,xU,yg⟩|⟨h1,h2,h3,h4⟩
   ·omega
   ·refine⟨m-1,by omega,_,_,Zr,Zs,i+1,x,true,by omega,by omega,by rw[h3];exact aaR pD,rfl,?_⟩
    rw[JC i bJ,h4]
  ·have kQ:i=l.length:=by omega
   subst kQ
   have q1:=bG (n:=(l.length:Int)-a.length) (by omega)
   have q2:=bG (n:=(l.length:Int)-a.length-1) (by omega)
   rw[pM,aQ,q1,q2]at hc
   have Iz:b.length>6:=by omega
   have Jl:km a b=3:=Z8 Iz
   refine vG ?_
   repeat'(first|exact .nil|refine .r1 ?_ ?_|fail)
   exact Sx.Fin.intro Zs (by unfold qi;rw[Jl,Z9 (by decide)])
  ·exact absurd hc aJ
  ·have kQ:i=l.length:=by omega
   subst kQ
   have q1:=bG (n:=(l.length:Int)-a.length) (by omega)
   have q2:=bG (n:=(l.length:Int)-a.length-1) (by omega)
   have q3:(l.length:Int)-a.length-1=(b.length:Nat):=by omega
   rw[pM,aQ,q1,q2,q3]at hc
   simp only[pM,aQ,q1,q2,q3]
   rw[P4]at pD
   obtain⟨k,m6,hk,oo,hk6⟩:∃ k m6:Nat,k=6-b.length∧m6=10 ^ k∧k≤5:=⟨_,_,rfl,rfl,by omega⟩
   have q5:IntKind.i64.wrap (6-(b.length:Int))=(k:Int):=by rw[bG (by omega)];omega
   have q6:=bG (n:=(b.length:Int)) (by omega)
   simp only[q6,q5]
   have vb:km a b=if cD (a++b) 0 * m6>1152921504606846976 then 2 else 0:=by unfold km;rw[Z9 (by omega),← hk,oo]
   have A6:qi a b=if km a b=0 then((cD (a++b) 0 * m6:Nat):Int)else 0:=by unfold qi;rw[← hk,oo]
   have I9:k=0∨k=1∨k=2∨k=3∨k=4∨k=5:=by omega
   clear hk q5
   rcases I9 with rfl|rfl|rfl|rfl|rfl|rfl
   all_goals
    refine MF rfl rfl .nil (by decide) ?_
    repeat'(first|exact .nil|refine .k0 ?_|refine .k1 ?_|refine .k2 ?_|refine .k4 ?_|refine .k7 ?_|refine .k9 ?_|(refine .cd ?_ ?_<;>first|with_reducible exact fT|(intro hc;skip))|refine .r1 ?_ ?_|fail)
    try any_goals(exact Zo)
    all_goals(try simp only[BL]at *)
   all_goals trace_state
   all_goals
    have ae0:m6=1∨m6=10∨m6=100∨m6=1000∨m6=10000∨m6=100000:=by rw[oo];decide
    simp only[Nat.reducePow]at oo
    subst oo
    refine vG ?_
    repeat'(first|exact .nil|refine .r1 ?_ ?_|fail)
    rcases pD with⟨e1,vF,dK⟩|⟨e1,vF,dK⟩
    all_goals first
    |(cases e1;done)
    |(simp only[U1]at *
      split at vb
      ·rename_i hg
       first
       |(exfalso;first|(cases hc.1;done)|fail)
       |exact Sx.Fin.intro Zs (by rw[A6,vb,Z9 (by decide)])
      ·rename_i hg
       first
       |(exfalso;unfold qb at *;omega)
       |exact Sx.Fin.intro Zs (by rw[A6,vb,Z8 rfl,bG (by unfold qb at *;omega),vF];rfl))
  ·exact absurd hc aJ
  ·exfalso
   have kQ:i=l.length:=by omega
   subst kQ
   omega
end Go.Proofs.YtcccbdelfhgmlaaGreatDoor
