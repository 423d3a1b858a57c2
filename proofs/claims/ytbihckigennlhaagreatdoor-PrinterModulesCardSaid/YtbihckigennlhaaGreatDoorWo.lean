/- decimal.Parse of digits, a point, digits. -/
import Derived.Test.YtbihckigennlhaaGreatDoorWn
set_option linter.unusedSimpArgs false
set_option linter.unusedVariables false
set_option linter.unusedSectionVars false
set_option maxRecDepth 100000
set_option maxHeartbeats 4000000
namespace Go.Sx
open Go.RowKit Go.Proofs
theorem H7{P:Program}[Glob P]{cfg:Nat→Nat}{K:ae→Store→Prop}{E:List PanicEntry→Store→Prop}{σ:Store}{rest:List CI}{d g n ag:Nat}{xr:XR}{ps:List Prop}{og:Option Bool}{i:Operand}{q:IntKind}{k:Int}{l:List AV}
  (h:aA xr none [i,.global g]=some (og,[.v (.int q k),.v (.pointer (some ⟨g,0,none⟩))],ps)) (Xv:Glob.av P g=some l) (al:OB ps) (hb:0≤k∧k<n) (kk:VX P cfg rest K E ((d,.s (.pc (l.drop (k.toNat * ag))))::xr) σ):VX P cfg (⟨some d,.iH n ag (.global g) i,none⟩::rest) K E xr σ:=by
 obtain⟨hc,he⟩:=bZ h
 have cI:=uJ h
 subst cI
 have h2:=he al rfl
 simp only[aU,ZH,YX,ZW,and_true]at h2
 constructor
 simp only[dW,di,aj,h2.1,h2.2]
 exact⟨l,Xv,trivial,hb.1,hb.2,kk.h⟩
end Go.Sx
namespace Go.Proofs.YtbihckigennlhaaGreatDoor
open Go.Sx Go.Proofs
abbrev oq:Nat:=1152921504606846976
theorem yH:∀ (l:List UInt8) (c:UInt8) (x:Nat),ei (l++[c]) x=10 * ei l x+(c.toNat-48)
 |[],c,x=>rfl
 |b::l,c,x=>by simp only[ZD,ei];exact yH l c _
def iR(a b:List UInt8)(i:Nat):List UInt8:=if i≤a.length then a.take i else a++b.take (i-a.length-1)
def lU(a:List UInt8)(i:Nat):Int:=if i≤a.length then -1 else a.length
def uq(D:List UInt8)(x:Int)(ko:Bool):Prop:=(ko=false∧x=(ei D 0:Nat)∧ei D 0≤oq)∨(ko=true∧oq<ei D 0∧0≤x∧x≤(oq:Nat))
theorem IC{D:List UInt8}{x:Int}{c:UInt8}(h:uq D x false):(¬x>((1152921504606846976:Int)-((c.toNat:Int)-48)) / 10→48≤c.toNat→c.toNat≤57→uq (D++[c]) (10 * x+((c.toNat:Int)-48)) false)∧(x>((1152921504606846976:Int)-((c.toNat:Int)-48)) / 10→48≤c.toNat→c.toNat≤57→uq (D++[c]) x true):=by
 rcases h with⟨_,rfl,h2⟩|⟨e,_⟩
 ·refine⟨fun h h3 h4=> .inl ⟨rfl,?_,?_⟩,fun h h3 h4=> .inr ⟨rfl,?_,by omega,by exact_mod_cast h2⟩⟩
  ·rw[yH];omega
  ·rw[yH];unfold oq at *;omega
  ·rw[yH];unfold oq at *;omega
 ·cases e
theorem Tg{D:List UInt8}{x:Int}{c:UInt8}(h:uq D x true):uq (D++[c]) x true:=by
 rcases h with⟨e,_⟩|⟨_,h1,h2⟩
 ·cases e
 ·exact .inr ⟨rfl,by rw[yH];omega,h2⟩
theorem wD{m:Int}(h:1≤m∧m≤100000):IntKind.i64.wrap (Int.tdiv 1152921504606846976 m)=1152921504606846976 / m:=by
 rw[Int.tdiv_eq_ediv_of_nonneg (by decide),aW ⟨?_,?_⟩]
 ·have:=Int.ediv_nonneg (a:=1152921504606846976) (b:=m) (by decide) (by omega);omega
 ·have:=Int.ediv_le_self m (show(0:Int)≤1152921504606846976 by decide);omega
theorem Pf:IntKind.i64.wrap (Int.tdiv 1152921504606846976 1)=1152921504606846976∧IntKind.i64.wrap (Int.tdiv 1152921504606846976 10)=115292150460684697∧IntKind.i64.wrap (Int.tdiv 1152921504606846976 100)=11529215046068469∧IntKind.i64.wrap (Int.tdiv 1152921504606846976 1000)=1152921504606846∧IntKind.i64.wrap (Int.tdiv 1152921504606846976 10000)=115292150460684∧IntKind.i64.wrap (Int.tdiv 1152921504606846976 100000)=11529215046068:=
 ⟨wD (by decide),wD (by decide),wD (by decide),wD (by decide),wD (by decide),wD (by decide)⟩
def jG(a b:List UInt8):Int:=if b.length>6 then 3 else if ei (a++b) 0 * 10 ^ (6-b.length)>1152921504606846976 then 2 else 0
def ov(a b:List UInt8):Int:=if jG a b=0 then((ei (a++b) 0 * 10 ^ (6-b.length):Nat):Int)else 0
theorem ND(a b:List UInt8)(ha:iz a)(hb:iz b)(hl:(a++46::b).length≤16384):Pure Tryz.prog 135 [sv ⟨(a++46::b).toArray⟩] (.aI [iv (ov a b),iv (jG a b)]):=by
 refine abG.p fun σ=> ?_
 obtain⟨l,hL⟩:∃ l,l=a++46::b:=⟨_,rfl⟩
 rw[← hL]at hl ⊢
 have hlen:l.length=a.length+1+b.length:=by rw[hL];simp;omega
 have Xr:0<a.length:=Y1.2 ha.1
 have qC:0<b.length:=Y1.2 hb.1
 have K3:∀ i,i<a.length→48≤(bB ⟨l.toArray⟩ i).toNat∧(bB ⟨l.toArray⟩ i).toNat≤57∧iR a b (i+1)=iR a b i++[bB ⟨l.toArray⟩ i]:=fun i h=>by
  have e:bB ⟨l.toArray⟩ i=a[i]:=by
   show l.getD i 0=_
   rw[hL,Z1,Zk h,Z6 h];rfl
  rw[e]
  have:=ha.2 _ (Y0 h)
  refine⟨this.1,this.2,?_⟩
  unfold iR
  rw[if_pos (by omega),if_pos (by omega),Zv h]
 have XC:bB ⟨l.toArray⟩ a.length=46:=by
  show l.getD a.length 0=_
  rw[hL,Z1,YR (ZI _)];simp
 have XD:∀ i,a.length<i→i<l.length→48≤(bB ⟨l.toArray⟩ i).toNat∧(bB ⟨l.toArray⟩ i).toNat≤57∧iR a b (i+1)=iR a b i++[bB ⟨l.toArray⟩ i]:=fun i h h2=>by
  obtain⟨j,rfl⟩:∃ j,i=a.length+1+j:=⟨i-a.length-1,by omega⟩
  have hk:j<b.length:=by omega
  have e:bB ⟨l.toArray⟩ (a.length+1+j)=b[j]:=by
   show l.getD _ 0=_
   rw[hL,Z1,YR (by omega),show a.length+1+j-a.length=j+1 by omega,List.getElem?_cons_succ,Z6 hk];rfl
  rw[e]
  have:=hb.2 _ (Y0 hk)
  refine⟨this.1,this.2,?_⟩
  unfold iR
  rw[if_neg (by omega),if_neg (by omega),show a.length+1+j+1-a.length-1=j+1 by omega,show a.length+1+j-a.length-1=j by omega,Zv hk,ZA]
 have sF:iR a b (a.length+1)=iR a b a.length:=by
  unfold iR;rw[if_neg (by omega),if_pos (ZI _)];simp
 have aQ:(⟨l.toArray⟩:af)≠⟨#[]⟩:=fun e=>by
  have:l.toArray.size=0:=congrArg (fun s:af=>s.data.size) e
  simp only[ZY]at this;omega
 have nI:∀ i,i<l.length→(i=a.length∧(bB ⟨l.toArray⟩ i).toNat=46∧lU a i= -1)∨(48≤(bB ⟨l.toArray⟩ i).toNat∧(bB ⟨l.toArray⟩ i).toNat≤57∧iR a b (i+1)=iR a b i++[bB ⟨l.toArray⟩ i]∧lU a (i+1)=lU a i):=fun i h=>by
  unfold lU
  rcases YB i a.length with h1|h1|h1
  ·have:=K3 i h1
   exact .inr ⟨this.1,this.2.1,this.2.2,by rw[if_pos (by omega),if_pos (by omega)]⟩
  ·subst h1
   exact .inl ⟨rfl,by rw[XC];rfl,by rw[if_pos (ZI _)]⟩
  ·have:=XD i h1 h
   exact .inr ⟨this.1,this.2.1,this.2.2,by rw[if_neg (by omega),if_neg (by omega)]⟩
 have azU:(!decide ((⟨l.toArray⟩:af)=⟨#[]⟩) && decide (((bB ⟨l.toArray⟩ (Int.toNat 0)).toNat:Int)=45))=false:=by
  have:=K3 0 Xr
  simp only[Bool.and_eq_false_iff]
  exact .inr (Zp (by show¬((bB ⟨l.toArray⟩ 0).toNat:Int)=45;omega))
 have hsz:((⟨l.toArray⟩:af).size:Int)=(l.length:Nat):=by show(l.toArray.size:Int)=_;simp
 repeat'((fail_if_success (show WK _ _ _ _ (.scope _) _ _ _));(first|exact .nil|refine .k0 ?_|refine .k1 ?_|refine .k2 ?_|refine .r1 ?_ ?_|fail))
 refine C8 (fun l n rg σ'=>False) (fun _=>[]) ?_ (fun _ _ _ _ h=>h.elim)
 repeat'((fail_if_success (show WK _ _ _ _ (.seq (.label _) _) _ _ _));(first|exact .nil|refine .k0 ?_|refine .k1 ?_|refine .k2 ?_|refine .k4 ?_|refine .k9 ?_|(refine .cd ?_ ?_<;>(intro hc;first|exact kt hc (by assumption)|skip))|refine .r1 ?_ ?_|refine .t5 ?_ ?_ ?_|fail))
 any_goals(first|exact fun _=>⟨Yu _,by rw[hsz];omega⟩|skip)
 refine uF (Ib (wX ?_))
 repeat'((fail_if_success (show WK _ _ _ _ (.loop _) _ _ _));(first|exact .nil|refine .k0 ?_|refine .k1 ?_|refine .k2 ?_|refine .k6 ?_|refine .r1 ?_ ?_|fail))
 refine cQ (fun m rg σ'=>∃ (i:Nat) (x:Int) (ko:Bool),i≤l.length∧m=l.length-i∧uq (iR a b i) x ko∧σ'=σ∧rg=[(2,iv x),(4,sv ⟨l.toArray⟩),(5,.v (.bool false)),(6,iv (lU a i)),(7,.v (.bool ko)),(8,iv (i:Nat))]) l.length rfl ⟨_,_,Zr,Zs,0,0,false,ZK _,rfl,.inl ⟨rfl,by simp[iR,ei],by simp[iR,ei]⟩,rfl,by simp[lU]⟩ ?_
 rintro m _ _ ⟨i,x,ko,hi,hm,nG,rfl,rfl⟩
 have E7:∀ i,i<l.length→IntKind.i64.wrap ((i:Int)+1)=((i+1:Nat):Int):=fun i h=>by rw[aW (by omega)];rfl
 have nV:lU a l.length=a.length:=by unfold lU;rw[if_neg (by omega)]
 have KM:iR a b l.length=a++b:=by unfold iR;rw[if_neg (by omega),ZC (by omega)]
 cases ko
 ·repeat'(first|exact .nil|refine .k0 ?_|refine .k1 ?_|refine .k2 ?_|refine .k4 ?_|refine .k6 ?_|refine .k7 ?_|refine .k8 ?_|refine .k9 ?_|(refine .cd ?_ ?_<;>first|with_reducible exact fT|(intro hc;skip))|refine .r1 ?_ ?_|refine .t5 ?_ ?_ ?_|refine .r8 ?_ ?_|fail)
  try any_goals(exact Zo)
  all_goals(try simp only[BL]at *)
  ·have bz:i<l.length:=by omega
   rcases nI i bz with⟨rfl,u6,vq⟩|⟨h1,h2,h3,h4⟩
   ·refine⟨m-1,by omega,_,_,Zr,Zs,a.length+1,x,false,by omega,by omega,by rw[sF];exact nG,rfl,?_⟩
    rw[show IntKind.i64.wrap ((a.length:Int)+1)=((a.length+1:Nat):Int) by rw[aW (by omega)];rfl,show lU a (a.length+1)=a.length by unfold lU;rw[if_neg (by omega)]]
   ·omega
  ·exfalso
   have bz:i<l.length:=by omega
   rcases nI i bz with⟨rfl,u6,vq⟩|⟨h1,h2,h3,h4⟩
   ·omega
   ·omega
  ·have bz:i<l.length:=by omega
   rcases nI i bz with⟨rfl,u6,vq⟩|⟨h1,h2,h3,h4⟩
   ·omega
   ·have hd:IntKind.i64.wrap (IntKind.u8.wrap (((bB ⟨l.toArray⟩ i).toNat:Int)-48))=((bB ⟨l.toArray⟩ i).toNat:Int)-48:=by rw[IntKind.wrap_u8,aW (by omega)];omega
    have q1:=aW (n:=1152921504606846976-(((bB ⟨l.toArray⟩ i).toNat:Int)-48)) (by omega)
    have q2:(1152921504606846976-(((bB ⟨l.toArray⟩ i).toNat:Int)-48)).tdiv 10=(1152921504606846976-(((bB ⟨l.toArray⟩ i).toNat:Int)-48)) / 10:=Int.tdiv_eq_ediv_of_nonneg (by omega)
    have q3:=aW (n:=(1152921504606846976-(((bB ⟨l.toArray⟩ i).toNat:Int)-48)) / 10) (by omega)
    rw[hd,q1,q2,q3]at hc
    refine⟨m-1,by omega,_,_,Zr,Zs,i+1,x,true,by omega,by omega,by rw[h3];exact(IC nG).2 hc h1 h2,rfl,?_⟩
    rw[E7 i bz,h4]
  ·have bz:i<l.length:=by omega
   rcases nI i bz with⟨rfl,u6,vq⟩|⟨h1,h2,h3,h4⟩
   ·omega
   ·have hd:IntKind.i64.wrap (IntKind.u8.wrap (((bB ⟨l.toArray⟩ i).toNat:Int)-48))=((bB ⟨l.toArray⟩ i).toNat:Int)-48:=by rw[IntKind.wrap_u8,aW (by omega)];omega
    have q1:=aW (n:=1152921504606846976-(((bB ⟨l.toArray⟩ i).toNat:Int)-48)) (by omega)
    have q2:(1152921504606846976-(((bB ⟨l.toArray⟩ i).toNat:Int)-48)).tdiv 10=(1152921504606846976-(((bB ⟨l.toArray⟩ i).toNat:Int)-48)) / 10:=Int.tdiv_eq_ediv_of_nonneg (by omega)
    have q3:=aW (n:=(1152921504606846976-(((bB ⟨l.toArray⟩ i).toNat:Int)-48)) / 10) (by omega)
    rw[hd,q1,q2,q3]at hc
    have hx:0≤x:=by rcases nG with⟨_,h,_⟩|⟨e,_⟩<;>omega
    refine⟨m-1,by omega,_,_,Zr,Zs,i+1,10 * x+(((bB ⟨l.toArray⟩ i).toNat:Int)-48),false,by omega,by omega,by rw[h3];exact(IC nG).1 hc h1 h2,rfl,?_⟩
    have q4:=aW (n:=10 * x) (by omega)
    have q5:=aW (n:=10 * x+(((bB ⟨l.toArray⟩ i).toNat:Int)-48)) (by omega)
    rw[E7 i bz,h4,hd,q4,q5]
  ·have j0:i=l.length:=by omega
   subst j0
   have q1:=aW (n:=(l.length:Int)-a.length) (by omega)
   have q2:=aW (n:=(l.length:Int)-a.length-1) (by omega)
   rw[nV,hsz,q1,q2]at hc
   have Ek:b.length>6:=by omega
   have ES:jG a b=3:=if_pos Ek
   refine tn ?_
   repeat'(first|exact .nil|refine .r1 ?_ ?_|fail)
   exact Sx.Fin.intro Zs (by unfold ov;rw[ES,if_neg (by decide)])
  ·exact absurd hc aQ
  ·have j0:i=l.length:=by omega
   subst j0
   have q1:=aW (n:=(l.length:Int)-a.length) (by omega)
   have q2:=aW (n:=(l.length:Int)-a.length-1) (by omega)
   have q3:(l.length:Int)-a.length-1=(b.length:Nat):=by omega
   rw[nV,hsz,q1,q2,q3]at hc
   simp only[nV,hsz,q1,q2,q3]
   rw[KM]at nG
   obtain⟨k,m6,hk,mF,hk6⟩:∃ k m6:Nat,k=6-b.length∧m6=10 ^ k∧k≤5:=⟨_,_,rfl,rfl,by omega⟩
   have q5:IntKind.i64.wrap (6-(b.length:Int))=(k:Int):=by rw[aW (by omega)];omega
   have q6:=aW (n:=(b.length:Int)) (by omega)
   simp only[q6,q5]
   have sG:jG a b=if ei (a++b) 0 * m6>1152921504606846976 then 2 else 0:=by unfold jG;rw[if_neg (by omega),← hk,mF]
   have xQ:ov a b=if jG a b=0 then((ei (a++b) 0 * m6:Nat):Int)else 0:=by unfold ov;rw[← hk,mF]
   have EH:k=0∨k=1∨k=2∨k=3∨k=4∨k=5:=by omega
   clear hk q5
   rcases EH with rfl|rfl|rfl|rfl|rfl|rfl
   all_goals
    refine H7 rfl rfl .nil (by decide) ?_
    repeat'(first|exact .nil|refine .k0 ?_|refine .k1 ?_|refine .k2 ?_|refine .k7 ?_|refine .k9 ?_|(refine .cd ?_ ?_<;>first|with_reducible exact fT|(intro hc;skip))|refine .r1 ?_ ?_|fail)
    try any_goals(exact Zo)
    all_goals(try simp only[BL]at *)
   all_goals trace_state
   all_goals
    have aas:m6=1∨m6=10∨m6=100∨m6=1000∨m6=10000∨m6=100000:=by rw[mF];decide
    simp only[Nat.reducePow]at mF
    subst mF
    refine tn ?_
    repeat'(first|exact .nil|refine .r1 ?_ ?_|fail)
    rcases nG with⟨e1,jE,dm⟩|⟨e1,jE,dm⟩
    all_goals first
    |(cases e1;done)
    |(simp only[Pf]at *
      split at sG
      ·rename_i hg
       first
       |(exfalso;(unfold oq at *;omega;done))
       |exact Sx.Fin.intro Zs (by rw[xQ,sG,if_neg (by decide)])
      ·rename_i hg
       first
       |(exfalso;unfold oq at *;omega)
       |exact Sx.Fin.intro Zs (by rw[xQ,sG,if_pos rfl,aW (by unfold oq at *;omega),jE];rfl))
  ·exact absurd hc aQ
  ·exfalso
   have j0:i=l.length:=by omega
   subst j0
   omega
 ·repeat'(first|exact .nil|refine .k0 ?_|refine .k1 ?_|refine .k2 ?_|refine .k4 ?_|refine .k6 ?_|refine .k7 ?_|refine .k8 ?_|refine .k9 ?_|(refine .cd ?_ ?_<;>first|with_reducible exact tF|(intro hc;skip))|refine .r1 ?_ ?_|refine .t5 ?_ ?_ ?_|refine .r8 ?_ ?_|fail)
  try any_goals(exact Zo)
  all_goals(try simp only[BL]at *)
  ·have bz:i<l.length:=by omega
   rcases nI i bz with⟨rfl,u6,vq⟩|⟨h1,h2,h3,h4⟩
   ·refine⟨m-1,by omega,_,_,Zr,Zs,a.length+1,x,true,by omega,by omega,by rw[sF];exact nG,rfl,?_⟩
    rw[show IntKind.i64.wrap ((a.length:Int)+1)=((a.length+1:Nat):Int) by rw[aW (by omega)];rfl,show lU a (a.length+1)=a.length by unfold lU;rw[if_neg (by omega)]]
   ·omega
  ·exfalso
   have bz:i<l.length:=by omega
   rcases nI i bz with⟨rfl,u6,vq⟩|⟨h1,h2,h3,h4⟩
   ·omega
   ·omega
  ·have bz:i<l.length:=by omega
   rcases nI i bz with⟨rfl,u6,vq⟩|⟨h1,h2,h3,h4⟩
   ·omega
   ·refine⟨m-1,by omega,_,_,Zr,Zs,i+1,x,true,by omega,by omega,by rw[h3];exact Tg nG,rfl,?_⟩
    rw[E7 i bz,h4]
  ·have j0:i=l.length:=by omega
   subst j0
   have q1:=aW (n:=(l.length:Int)-a.length) (by omega)
   have q2:=aW (n:=(l.length:Int)-a.length-1) (by omega)
   rw[nV,hsz,q1,q2]at hc
   have Ek:b.length>6:=by omega
   have ES:jG a b=3:=if_pos Ek
   refine tn ?_
   repeat'(first|exact .nil|refine .r1 ?_ ?_|fail)
   exact Sx.Fin.intro Zs (by unfold ov;rw[ES,if_neg (by decide)])
  ·exact absurd hc aQ
  ·have j0:i=l.length:=by omega
   subst j0
   have q1:=aW (n:=(l.length:Int)-a.length) (by omega)
   have q2:=aW (n:=(l.length:Int)-a.length-1) (by omega)
   have q3:(l.length:Int)-a.length-1=(b.length:Nat):=by omega
   rw[nV,hsz,q1,q2,q3]at hc
   simp only[nV,hsz,q1,q2,q3]
   rw[KM]at nG
   obtain⟨k,m6,hk,mF,hk6⟩:∃ k m6:Nat,k=6-b.length∧m6=10 ^ k∧k≤5:=⟨_,_,rfl,rfl,by omega⟩
   have q5:IntKind.i64.wrap (6-(b.length:Int))=(k:Int):=by rw[aW (by omega)];omega
   have q6:=aW (n:=(b.length:Int)) (by omega)
   simp only[q6,q5]
   have sG:jG a b=if ei (a++b) 0 * m6>1152921504606846976 then 2 else 0:=by unfold jG;rw[if_neg (by omega),← hk,mF]
   have xQ:ov a b=if jG a b=0 then((ei (a++b) 0 * m6:Nat):Int)else 0:=by unfold ov;rw[← hk,mF]
   have EH:k=0∨k=1∨k=2∨k=3∨k=4∨k=5:=by omega
   clear hk q5
   rcases EH with rfl|rfl|rfl|rfl|rfl|rfl
   all_goals
    refine H7 rfl rfl .nil (by decide) ?_
    repeat'(first|exact .nil|refine .k0 ?_|refine .k1 ?_|refine .k2 ?_|refine .k4 ?_|refine .k7 ?_|refine .k9 ?_|(refine .cd ?_ ?_<;>first|with_reducible exact fT|(intro hc;skip))|refine .r1 ?_ ?_|fail)
    try any_goals(exact Zo)
    all_goals(try simp only[BL]at *)
   all_goals trace_state
   all_goals
    have aas:m6=1∨m6=10∨m6=100∨m6=1000∨m6=10000∨m6=100000:=by rw[mF];decide
    simp only[Nat.reducePow]at mF
    subst mF
    refine tn ?_
    repeat'(first|exact .nil|refine .r1 ?_ ?_|fail)
    rcases nG with⟨e1,jE,dm⟩|⟨e1,jE,dm⟩
    all_goals first
    |(cases e1;done)
    |(simp only[Pf]at *
      split at sG
      ·rename_i hg
       first
       |(exfalso;first|(cases hc.1;done)|fail)
       |exact Sx.Fin.intro Zs (by rw[xQ,sG,if_neg (by decide)])
      ·rename_i hg
       first
       |(exfalso;unfold oq at *;omega)
       |exact Sx.Fin.intro Zs (by rw[xQ,sG,if_pos rfl,aW (by unfold oq at *;omega),jE];rfl))
  ·exact absurd hc aQ
  ·exfalso
   have j0:i=l.length:=by omega
   subst j0
   omega
end Go.Proofs.YtbihckigennlhaaGreatDoor
