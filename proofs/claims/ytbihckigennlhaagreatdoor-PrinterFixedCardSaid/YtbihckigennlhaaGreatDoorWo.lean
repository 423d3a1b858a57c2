/- decimal.Parse of digits, a point, digits. -/
import Derived.Test.YtbihckigennlhaaGreatDoorWn
set_option linter.unusedSimpArgs false
set_option linter.unusedVariables false
set_option linter.unusedSectionVars false
set_option maxRecDepth 100000
set_option maxHeartbeats 4000000
namespace Go.Sx
open Go.RowKit Go.Proofs
theorem Gb{P:Program}[Glob P]{cfg:Nat→Nat}{K:ae→Store→Prop}{E:List PanicEntry→Store→Prop}{σ:Store}{rest:List CI}{d g n af:Nat}{xr:XR}{ps:List Prop}{og:Option Bool}{i:Operand}{q:IntKind}{k:Int}{l:List AV}
  (h:ay xr none [i,.global g]=some (og,[.v (.int q k),.v (.pointer (some ⟨g,0,none⟩))],ps)) (UF:Glob.av P g=some l) (al:OB ps) (hb:0≤k∧k<n) (kk:VX P cfg rest K E ((d,.s (.pc (l.drop (k.toNat * af))))::xr) σ):VX P cfg (⟨some d,.gV n af (.global g) i,none⟩::rest) K E xr σ:=by
 obtain⟨hc,he⟩:=bY h
 have cA:=td h
 subst cA
 have h2:=he al rfl
 simp only[aQ,ZL,Y7,ZY,and_true]at h2
 constructor
 simp only[dO,cT,aj,h2.1,h2.2]
 exact⟨l,UF,trivial,hb.1,hb.2,kk.h⟩
end Go.Sx
namespace Go.Proofs.YtbihckigennlhaaGreatDoor
open Go.Sx Go.Proofs
abbrev nu:Nat:=1152921504606846976
theorem xA:∀ (l:List UInt8) (c:UInt8) (x:Nat),bW (l++[c]) x=10 * bW l x+(c.toNat-48)
 |[],c,x=>rfl
 |b::l,c,x=>by simp only[ZH,bW];exact xA l c _
def ie(a b:List UInt8)(i:Nat):List UInt8:=if i≤a.length then a.take i else a++b.take (i-a.length-1)
def kM(a:List UInt8)(i:Nat):Int:=if i≤a.length then -1 else a.length
def sT(D:List UInt8)(x:Int)(mD:Bool):Prop:=(mD=false∧x=(bW D 0:Nat)∧bW D 0≤nu)∨(mD=true∧nu<bW D 0∧0≤x∧x≤(nu:Nat))
theorem GJ{D:List UInt8}{x:Int}{c:UInt8}(h:sT D x false):(¬x>((1152921504606846976:Int)-((c.toNat:Int)-48)) / 10→48≤c.toNat→c.toNat≤57→sT (D++[c]) (10 * x+((c.toNat:Int)-48)) false)∧(x>((1152921504606846976:Int)-((c.toNat:Int)-48)) / 10→48≤c.toNat→c.toNat≤57→sT (D++[c]) x true):=by
 rcases h with⟨_,rfl,h2⟩|⟨e,_⟩
 ·refine⟨fun h h3 h4=> .inl ⟨rfl,?_,?_⟩,fun h h3 h4=> .inr ⟨rfl,?_,by omega,by exact_mod_cast h2⟩⟩
  ·rw[xA];omega
  ·rw[xA];unfold nu at *;omega
  ·rw[xA];unfold nu at *;omega
 ·cases e
theorem QB{D:List UInt8}{x:Int}{c:UInt8}(h:sT D x true):sT (D++[c]) x true:=by
 rcases h with⟨e,_⟩|⟨_,h1,h2⟩
 ·cases e
 ·exact .inr ⟨rfl,by rw[xA];omega,h2⟩
theorem vj{m:Int}(h:1≤m∧m≤100000):IntKind.i64.wrap (Int.tdiv 1152921504606846976 m)=1152921504606846976 / m:=by
 rw[Int.tdiv_eq_ediv_of_nonneg (by decide),bw ⟨?_,?_⟩]
 ·have:=Int.ediv_nonneg (a:=1152921504606846976) (b:=m) (by decide) (by omega);omega
 ·have:=Int.ediv_le_self m (show(0:Int)≤1152921504606846976 by decide);omega
theorem MS:IntKind.i64.wrap (Int.tdiv 1152921504606846976 1)=1152921504606846976∧IntKind.i64.wrap (Int.tdiv 1152921504606846976 10)=115292150460684697∧IntKind.i64.wrap (Int.tdiv 1152921504606846976 100)=11529215046068469∧IntKind.i64.wrap (Int.tdiv 1152921504606846976 1000)=1152921504606846∧IntKind.i64.wrap (Int.tdiv 1152921504606846976 10000)=115292150460684∧IntKind.i64.wrap (Int.tdiv 1152921504606846976 100000)=11529215046068:=
 ⟨vj (by decide),vj (by decide),vj (by decide),vj (by decide),vj (by decide),vj (by decide)⟩
def iW(a b:List UInt8):Int:=if b.length>6 then 3 else if bW (a++b) 0 * 10 ^ (6-b.length)>1152921504606846976 then 2 else 0
def ny(a b:List UInt8):Int:=if iW a b=0 then((bW (a++b) 0 * 10 ^ (6-b.length):Nat):Int)else 0
theorem Ln(a b:List UInt8)(ha:gN a)(hb:gN b)(hl:(a++46::b).length≤16384):Pure Tryz.prog 135 [sv ⟨(a++46::b).toArray⟩] (.aL [iv (ny a b),iv (iW a b)]):=by
 refine W8.p fun σ=> ?_
 obtain⟨l,hL⟩:∃ l,l=a++46::b:=⟨_,rfl⟩
 rw[← hL]at hl ⊢
 have hlen:l.length=a.length+1+b.length:=by rw[hL];simp;omega
 have UC:0<a.length:=YU.2 ha.1
 have tQ:0<b.length:=YU.2 hb.1
 have Jm:∀ i,i<a.length→48≤(bH ⟨l.toArray⟩ i).toNat∧(bH ⟨l.toArray⟩ i).toNat≤57∧ie a b (i+1)=ie a b i++[bH ⟨l.toArray⟩ i]:=fun i h=>by
  have e:bH ⟨l.toArray⟩ i=a[i]:=by
   show l.getD i 0=_
   rw[hL,ZV,Zb h,Z1 h];rfl
  rw[e]
  have:=ha.2 _ (Za h)
  refine⟨this.1,this.2,?_⟩
  unfold ie
  rw[if_pos (by omega),if_pos (by omega),Zt h]
 have UM:bH ⟨l.toArray⟩ a.length=46:=by
  show l.getD a.length 0=_
  rw[hL,ZV,YI (ZK _)];simp
 have UN:∀ i,a.length<i→i<l.length→48≤(bH ⟨l.toArray⟩ i).toNat∧(bH ⟨l.toArray⟩ i).toNat≤57∧ie a b (i+1)=ie a b i++[bH ⟨l.toArray⟩ i]:=fun i h h2=>by
  obtain⟨j,rfl⟩:∃ j,i=a.length+1+j:=⟨i-a.length-1,by omega⟩
  have hk:j<b.length:=by omega
  have e:bH ⟨l.toArray⟩ (a.length+1+j)=b[j]:=by
   show l.getD _ 0=_
   rw[hL,ZV,YI (by omega),show a.length+1+j-a.length=j+1 by omega,List.getElem?_cons_succ,Z1 hk];rfl
  rw[e]
  have:=hb.2 _ (Za hk)
  refine⟨this.1,this.2,?_⟩
  unfold ie
  rw[if_neg (by omega),if_neg (by omega),show a.length+1+j+1-a.length-1=j+1 by omega,show a.length+1+j-a.length-1=j by omega,Zt hk,Zv]
 have qW:ie a b (a.length+1)=ie a b a.length:=by
  unfold ie;rw[if_neg (by omega),if_pos (ZK _)];simp
 have aR:(⟨l.toArray⟩:ag)≠⟨#[]⟩:=fun e=>by
  have:l.toArray.size=0:=congrArg (fun s:ag=>s.data.size) e
  simp only[Z0]at this;omega
 have mK:∀ i,i<l.length→(i=a.length∧(bH ⟨l.toArray⟩ i).toNat=46∧kM a i= -1)∨(48≤(bH ⟨l.toArray⟩ i).toNat∧(bH ⟨l.toArray⟩ i).toNat≤57∧ie a b (i+1)=ie a b i++[bH ⟨l.toArray⟩ i]∧kM a (i+1)=kM a i):=fun i h=>by
  unfold kM
  rcases YF i a.length with h1|h1|h1
  ·have:=Jm i h1
   exact .inr ⟨this.1,this.2.1,this.2.2,by rw[if_pos (by omega),if_pos (by omega)]⟩
  ·subst h1
   exact .inl ⟨rfl,by rw[UM];rfl,by rw[if_pos (ZK _)]⟩
  ·have:=UN i h1 h
   exact .inr ⟨this.1,this.2.1,this.2.2,by rw[if_neg (by omega),if_neg (by omega)]⟩
 have atT:(!decide ((⟨l.toArray⟩:ag)=⟨#[]⟩) && decide (((bH ⟨l.toArray⟩ (Int.toNat 0)).toNat:Int)=45))=false:=by
  have:=Jm 0 UC
  simp only[Bool.and_eq_false_iff]
  exact .inr (Zu (by show¬((bH ⟨l.toArray⟩ 0).toNat:Int)=45;omega))
 have aT:((⟨l.toArray⟩:ag).size:Int)=(l.length:Nat):=by show(l.toArray.size:Int)=_;simp
 repeat'((fail_if_success (show WK _ _ _ _ (.scope _) _ _ _));(first|exact .nil|refine .k0 ?_|refine .k1 ?_|refine .k2 ?_|refine .r1 ?_ ?_|fail))
 refine BG (fun l n rg σ'=>False) (fun _=>[]) ?_ (fun _ _ _ _ h=>h.elim)
 repeat'((fail_if_success (show WK _ _ _ _ (.seq (.label _) _) _ _ _));(first|exact .nil|refine .k0 ?_|refine .k1 ?_|refine .k2 ?_|refine .k4 ?_|refine .k9 ?_|(refine .cd ?_ ?_<;>(intro hc;first|exact kt hc (by assumption)|skip))|refine .r1 ?_ ?_|refine .t5 ?_ ?_ ?_|fail))
 any_goals(first|exact fun _=>⟨Int.le_refl _,by rw[aT];omega⟩|skip)
 refine s9 (Gg (vB ?_))
 repeat'((fail_if_success (show WK _ _ _ _ (.loop _) _ _ _));(first|exact .nil|refine .k0 ?_|refine .k1 ?_|refine .k2 ?_|refine .k6 ?_|refine .r1 ?_ ?_|fail))
 refine dU (fun m rg σ'=>∃ (i:Nat) (x:Int) (mD:Bool),i≤l.length∧m=l.length-i∧sT (ie a b i) x mD∧σ'=σ∧rg=[(2,iv x),(4,sv ⟨l.toArray⟩),(5,.v (.bool false)),(6,iv (kM a i)),(7,.v (.bool mD)),(8,iv (i:Nat))]) l.length rfl ⟨_,_,Zr,Zs,0,0,false,ZF _,rfl,.inl ⟨rfl,by simp[ie,bW],by simp[ie,bW]⟩,rfl,by simp[kM]⟩ ?_
 rintro m _ _ ⟨i,x,mD,hi,hm,mJ,rfl,rfl⟩
 have DB:∀ i,i<l.length→IntKind.i64.wrap ((i:Int)+1)=((i+1:Nat):Int):=fun i h=>by rw[bw (by omega)];rfl
 have mX:kM a l.length=a.length:=by unfold kM;rw[if_neg (by omega)]
 have I8:ie a b l.length=a++b:=by unfold ie;rw[if_neg (by omega),ZD (by omega)]
 cases mD
 ·repeat'(first|exact .nil|refine .k0 ?_|refine .k1 ?_|refine .k2 ?_|refine .k4 ?_|refine .k6 ?_|refine .k7 ?_|refine .k8 ?_|refine .k9 ?_|(refine .cd ?_ ?_<;>first|with_reducible exact fT|(intro hc;skip))|refine .r1 ?_ ?_|refine .t5 ?_ ?_ ?_|refine .r8 ?_ ?_|fail)
  try any_goals(exact Zo)
  all_goals(try simp only[BL]at *)
  ·have br:i<l.length:=by omega
   rcases mK i br with⟨rfl,tR,um⟩|⟨h1,h2,h3,h4⟩
   ·refine⟨m-1,by omega,_,_,Zr,Zs,a.length+1,x,false,by omega,by omega,by rw[qW];exact mJ,rfl,?_⟩
    rw[show IntKind.i64.wrap ((a.length:Int)+1)=((a.length+1:Nat):Int) by rw[bw (by omega)];rfl,show kM a (a.length+1)=a.length by unfold kM;rw[if_neg (by omega)]]
   ·omega
  ·exfalso
   have br:i<l.length:=by omega
   rcases mK i br with⟨rfl,tR,um⟩|⟨h1,h2,h3,h4⟩
   ·omega
   ·omega
  ·have br:i<l.length:=by omega
   rcases mK i br with⟨rfl,tR,um⟩|⟨h1,h2,h3,h4⟩
   ·omega
   ·have hd:IntKind.i64.wrap (IntKind.u8.wrap (((bH ⟨l.toArray⟩ i).toNat:Int)-48))=((bH ⟨l.toArray⟩ i).toNat:Int)-48:=by rw[IntKind.wrap_u8,bw (by omega)];omega
    have q1:=bw (n:=1152921504606846976-(((bH ⟨l.toArray⟩ i).toNat:Int)-48)) (by omega)
    have q2:(1152921504606846976-(((bH ⟨l.toArray⟩ i).toNat:Int)-48)).tdiv 10=(1152921504606846976-(((bH ⟨l.toArray⟩ i).toNat:Int)-48)) / 10:=Int.tdiv_eq_ediv_of_nonneg (by omega)
    have q3:=bw (n:=(1152921504606846976-(((bH ⟨l.toArray⟩ i).toNat:Int)-48)) / 10) (by omega)
    rw[hd,q1,q2,q3]at hc
    refine⟨m-1,by omega,_,_,Zr,Zs,i+1,x,true,by omega,by omega,by rw[h3];exact(GJ mJ).2 hc h1 h2,rfl,?_⟩
    rw[DB i br,h4]
  ·have br:i<l.length:=by omega
   rcases mK i br with⟨rfl,tR,um⟩|⟨h1,h2,h3,h4⟩
   ·omega
   ·have hd:IntKind.i64.wrap (IntKind.u8.wrap (((bH ⟨l.toArray⟩ i).toNat:Int)-48))=((bH ⟨l.toArray⟩ i).toNat:Int)-48:=by rw[IntKind.wrap_u8,bw (by omega)];omega
    have q1:=bw (n:=1152921504606846976-(((bH ⟨l.toArray⟩ i).toNat:Int)-48)) (by omega)
    have q2:(1152921504606846976-(((bH ⟨l.toArray⟩ i).toNat:Int)-48)).tdiv 10=(1152921504606846976-(((bH ⟨l.toArray⟩ i).toNat:Int)-48)) / 10:=Int.tdiv_eq_ediv_of_nonneg (by omega)
    have q3:=bw (n:=(1152921504606846976-(((bH ⟨l.toArray⟩ i).toNat:Int)-48)) / 10) (by omega)
    rw[hd,q1,q2,q3]at hc
    have hx:0≤x:=by rcases mJ with⟨_,h,_⟩|⟨e,_⟩<;>omega
    refine⟨m-1,by omega,_,_,Zr,Zs,i+1,10 * x+(((bH ⟨l.toArray⟩ i).toNat:Int)-48),false,by omega,by omega,by rw[h3];exact(GJ mJ).1 hc h1 h2,rfl,?_⟩
    have q4:=bw (n:=10 * x) (by omega)
    have q5:=bw (n:=10 * x+(((bH ⟨l.toArray⟩ i).toNat:Int)-48)) (by omega)
    rw[DB i br,h4,hd,q4,q5]
  ·have js:i=l.length:=by omega
   subst js
   have q1:=bw (n:=(l.length:Int)-a.length) (by omega)
   have q2:=bw (n:=(l.length:Int)-a.length-1) (by omega)
   rw[mX,aT,q1,q2]at hc
   have CS:b.length>6:=by omega
   have Dm:iW a b=3:=if_pos CS
   refine rT ?_
   repeat'(first|exact .nil|refine .r1 ?_ ?_|fail)
   exact Sx.Fin.intro Zs (by unfold ny;rw[Dm,if_neg (by decide)])
  ·exact absurd hc aR
  ·have js:i=l.length:=by omega
   subst js
   have q1:=bw (n:=(l.length:Int)-a.length) (by omega)
   have q2:=bw (n:=(l.length:Int)-a.length-1) (by omega)
   have q3:(l.length:Int)-a.length-1=(b.length:Nat):=by omega
   rw[mX,aT,q1,q2,q3]at hc
   simp only[mX,aT,q1,q2,q3]
   rw[I8]at mJ
   obtain⟨k,m6,hk,lI,Vh⟩:∃ k m6:Nat,k=6-b.length∧m6=10 ^ k∧k≤5:=⟨_,_,rfl,rfl,by omega⟩
   have q5:IntKind.i64.wrap (6-(b.length:Int))=(k:Int):=by rw[bw (by omega)];omega
   have q6:=bw (n:=(b.length:Int)) (by omega)
   simp only[q6,q5]
   have qX:iW a b=if bW (a++b) 0 * m6>1152921504606846976 then 2 else 0:=by unfold iW;rw[if_neg (by omega),← hk,lI]
   have wC:ny a b=if iW a b=0 then((bW (a++b) 0 * m6:Nat):Int)else 0:=by unfold ny;rw[← hk,lI]
   have Db:k=0∨k=1∨k=2∨k=3∨k=4∨k=5:=by omega
   clear hk q5
   rcases Db with rfl|rfl|rfl|rfl|rfl|rfl
   all_goals
    refine Gb rfl rfl .nil (by decide) ?_
    repeat'(first|exact .nil|refine .k0 ?_|refine .k1 ?_|refine .k2 ?_|refine .k7 ?_|refine .k9 ?_|(refine .cd ?_ ?_<;>first|with_reducible exact fT|(intro hc;skip))|refine .r1 ?_ ?_|fail)
    try any_goals(exact Zo)
    all_goals(try simp only[BL]at *)
   all_goals trace_state
   all_goals
    have Vt:m6=1∨m6=10∨m6=100∨m6=1000∨m6=10000∨m6=100000:=by rw[lI];decide
    simp only[Nat.reducePow]at lI
    subst lI
    refine rT ?_
    repeat'(first|exact .nil|refine .r1 ?_ ?_|fail)
    rcases mJ with⟨e1,rP,cX⟩|⟨e1,rP,cX⟩
    all_goals first
    |(cases e1;done)
    |(simp only[MS]at *
      split at qX
      ·rename_i hg
       first
       |(exfalso;(unfold nu at *;omega;done))
       |exact Sx.Fin.intro Zs (by rw[wC,qX,if_neg (by decide)])
      ·rename_i hg
       first
       |(exfalso;unfold nu at *;omega)
       |exact Sx.Fin.intro Zs (by rw[wC,qX,if_pos rfl,bw (by unfold nu at *;omega),rP];rfl))
  ·exact absurd hc aR
  ·exfalso
   have js:i=l.length:=by omega
   subst js
   omega
 ·repeat'(first|exact .nil|refine .k0 ?_|refine .k1 ?_|refine .k2 ?_|refine .k4 ?_|refine .k6 ?_|refine .k7 ?_|refine .k8 ?_|refine .k9 ?_|(refine .cd ?_ ?_<;>first|with_reducible exact tF|(intro hc;skip))|refine .r1 ?_ ?_|refine .t5 ?_ ?_ ?_|refine .r8 ?_ ?_|fail)
  try any_goals(exact Zo)
  all_goals(try simp only[BL]at *)
  ·have br:i<l.length:=by omega
   rcases mK i br with⟨rfl,tR,um⟩|⟨h1,h2,h3,h4⟩
   ·refine⟨m-1,by omega,_,_,Zr,Zs,a.length+1,x,true,by omega,by omega,by rw[qW];exact mJ,rfl,?_⟩
    rw[show IntKind.i64.wrap ((a.length:Int)+1)=((a.length+1:Nat):Int) by rw[bw (by omega)];rfl,show kM a (a.length+1)=a.length by unfold kM;rw[if_neg (by omega)]]
   ·omega
  ·exfalso
   have br:i<l.length:=by omega
   rcases mK i br with⟨rfl,tR,um⟩|⟨h1,h2,h3,h4⟩
   ·omega
   ·omega
  ·have br:i<l.length:=by omega
   rcases mK i br with⟨rfl,tR,um⟩|⟨h1,h2,h3,h4⟩
   ·omega
   ·refine⟨m-1,by omega,_,_,Zr,Zs,i+1,x,true,by omega,by omega,by rw[h3];exact QB mJ,rfl,?_⟩
    rw[DB i br,h4]
  ·have js:i=l.length:=by omega
   subst js
   have q1:=bw (n:=(l.length:Int)-a.length) (by omega)
   have q2:=bw (n:=(l.length:Int)-a.length-1) (by omega)
   rw[mX,aT,q1,q2]at hc
   have CS:b.length>6:=by omega
   have Dm:iW a b=3:=if_pos CS
   refine rT ?_
   repeat'(first|exact .nil|refine .r1 ?_ ?_|fail)
   exact Sx.Fin.intro Zs (by unfold ny;rw[Dm,if_neg (by decide)])
  ·exact absurd hc aR
  ·have js:i=l.length:=by omega
   subst js
   have q1:=bw (n:=(l.length:Int)-a.length) (by omega)
   have q2:=bw (n:=(l.length:Int)-a.length-1) (by omega)
   have q3:(l.length:Int)-a.length-1=(b.length:Nat):=by omega
   rw[mX,aT,q1,q2,q3]at hc
   simp only[mX,aT,q1,q2,q3]
   rw[I8]at mJ
   obtain⟨k,m6,hk,lI,Vh⟩:∃ k m6:Nat,k=6-b.length∧m6=10 ^ k∧k≤5:=⟨_,_,rfl,rfl,by omega⟩
   have q5:IntKind.i64.wrap (6-(b.length:Int))=(k:Int):=by rw[bw (by omega)];omega
   have q6:=bw (n:=(b.length:Int)) (by omega)
   simp only[q6,q5]
   have qX:iW a b=if bW (a++b) 0 * m6>1152921504606846976 then 2 else 0:=by unfold iW;rw[if_neg (by omega),← hk,lI]
   have wC:ny a b=if iW a b=0 then((bW (a++b) 0 * m6:Nat):Int)else 0:=by unfold ny;rw[← hk,lI]
   have Db:k=0∨k=1∨k=2∨k=3∨k=4∨k=5:=by omega
   clear hk q5
   rcases Db with rfl|rfl|rfl|rfl|rfl|rfl
   all_goals
    refine Gb rfl rfl .nil (by decide) ?_
    repeat'(first|exact .nil|refine .k0 ?_|refine .k1 ?_|refine .k2 ?_|refine .k4 ?_|refine .k7 ?_|refine .k9 ?_|(refine .cd ?_ ?_<;>first|with_reducible exact fT|(intro hc;skip))|refine .r1 ?_ ?_|fail)
    try any_goals(exact Zo)
    all_goals(try simp only[BL]at *)
   all_goals trace_state
   all_goals
    have Vt:m6=1∨m6=10∨m6=100∨m6=1000∨m6=10000∨m6=100000:=by rw[lI];decide
    simp only[Nat.reducePow]at lI
    subst lI
    refine rT ?_
    repeat'(first|exact .nil|refine .r1 ?_ ?_|fail)
    rcases mJ with⟨e1,rP,cX⟩|⟨e1,rP,cX⟩
    all_goals first
    |(cases e1;done)
    |(simp only[MS]at *
      split at qX
      ·rename_i hg
       first
       |(exfalso;first|(cases hc.1;done)|fail)
       |exact Sx.Fin.intro Zs (by rw[wC,qX,if_neg (by decide)])
      ·rename_i hg
       first
       |(exfalso;unfold nu at *;omega)
       |exact Sx.Fin.intro Zs (by rw[wC,qX,if_pos rfl,bw (by unfold nu at *;omega),rP];rfl))
  ·exact absurd hc aR
  ·exfalso
   have js:i=l.length:=by omega
   subst js
   omega
end Go.Proofs.YtbihckigennlhaaGreatDoor
