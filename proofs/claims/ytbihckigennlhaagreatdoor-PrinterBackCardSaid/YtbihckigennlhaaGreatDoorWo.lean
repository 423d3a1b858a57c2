/- decimal.Parse of digits, a point, digits. -/
import Derived.Test.YtbihckigennlhaaGreatDoorWn
set_option linter.unusedSimpArgs false
set_option linter.unusedVariables false
set_option linter.unusedSectionVars false
set_option maxRecDepth 100000
set_option maxHeartbeats 4000000
namespace Go.Sx
open Go.RowKit Go.Proofs
theorem VX_gidx{P:Program}[Glob P]{cfg:Nat→Nat}{K:Regs→Store→Prop}{E:List PanicEntry→Store→Prop}{σ:Store}{rest:List CI}{d g n esz:Nat}{xr:XR}{ps:List Prop}{og:Option Bool}{i:Operand}{q:IntKind}{k:Int}{l:List AV}
  (h:argO xr none [i,.global g]=some (og,[.v (.int q k),.v (.pointer (some ⟨g,0,none⟩))],ps)) (hav:Glob.av P g=some l) (hps:OB ps) (hb:0≤k∧k<n) (kk:VX P cfg rest K E ((d,.s (.pc (l.drop (k.toNat * esz))))::xr) σ):VX P cfg (⟨some d,.iaddrA n esz (.global g) i,none⟩::rest) K E xr σ:=by
 obtain⟨hc,he⟩:=argO_eq h
 have hog:=argO_none h
 subst hog
 have h2:=he hps rfl
 simp only[evs,List.map_cons,List.map_nil,List.cons.injEq,and_true]at h2
 constructor
 simp only[vcX,vcG,vcO,h2.1,h2.2]
 exact⟨l,hav,trivial,hb.1,hb.2,kk.h⟩
end Go.Sx
namespace Go.Proofs.YtbihckigennlhaaGreatDoor
open Go.Sx Go.Proofs
abbrev maxN:Nat:=1152921504606846976
theorem numL_snoc:∀ (l:List UInt8) (c:UInt8) (x:Nat),numL (l++[c]) x=10 * numL l x+(c.toNat-48)
 |[],c,x=>rfl
 |b::l,c,x=>by simp only[List.cons_append,numL];exact numL_snoc l c _
def digA(a b:List UInt8)(i:Nat):List UInt8:=if i≤a.length then a.take i else a++b.take (i-a.length-1)
def ptA(a:List UInt8)(i:Nat):Int:=if i≤a.length then -1 else a.length
def AccA(D:List UInt8)(x:Int)(big:Bool):Prop:=(big=false∧x=(numL D 0:Nat)∧numL D 0≤maxN)∨(big=true∧maxN<numL D 0∧0≤x∧x≤(maxN:Nat))
theorem acc_step{D:List UInt8}{x:Int}{c:UInt8}(h:AccA D x false):(¬x>((1152921504606846976:Int)-((c.toNat:Int)-48)) / 10→48≤c.toNat→c.toNat≤57→AccA (D++[c]) (10 * x+((c.toNat:Int)-48)) false)∧(x>((1152921504606846976:Int)-((c.toNat:Int)-48)) / 10→48≤c.toNat→c.toNat≤57→AccA (D++[c]) x true):=by
 rcases h with⟨_,rfl,h2⟩|⟨e,_⟩
 ·refine⟨fun h h3 h4=> .inl ⟨rfl,?_,?_⟩,fun h h3 h4=> .inr ⟨rfl,?_,by omega,by exact_mod_cast h2⟩⟩
  ·rw[numL_snoc];omega
  ·rw[numL_snoc];unfold maxN at *;omega
  ·rw[numL_snoc];unfold maxN at *;omega
 ·cases e
theorem acc_big{D:List UInt8}{x:Int}{c:UInt8}(h:AccA D x true):AccA (D++[c]) x true:=by
 rcases h with⟨e,_⟩|⟨_,h1,h2⟩
 ·cases e
 ·exact .inr ⟨rfl,by rw[numL_snoc];omega,h2⟩
theorem tdv{m:Int}(h:1≤m∧m≤100000):IntKind.i64.wrap (Int.tdiv 1152921504606846976 m)=1152921504606846976 / m:=by
 rw[Int.tdiv_eq_ediv_of_nonneg (by decide),i64w ⟨?_,?_⟩]
 ·have:=Int.ediv_nonneg (a:=1152921504606846976) (b:=m) (by decide) (by omega);omega
 ·have:=Int.ediv_le_self m (show(0:Int)≤1152921504606846976 by decide);omega
theorem tdvs:IntKind.i64.wrap (Int.tdiv 1152921504606846976 1)=1152921504606846976∧IntKind.i64.wrap (Int.tdiv 1152921504606846976 10)=115292150460684697∧IntKind.i64.wrap (Int.tdiv 1152921504606846976 100)=11529215046068469∧IntKind.i64.wrap (Int.tdiv 1152921504606846976 1000)=1152921504606846∧IntKind.i64.wrap (Int.tdiv 1152921504606846976 10000)=115292150460684∧IntKind.i64.wrap (Int.tdiv 1152921504606846976 100000)=11529215046068:=
 ⟨tdv (by decide),tdv (by decide),tdv (by decide),tdv (by decide),tdv (by decide),tdv (by decide)⟩
def parseE(a b:List UInt8):Int:=if b.length>6 then 3 else if numL (a++b) 0 * 10 ^ (6-b.length)>1152921504606846976 then 2 else 0
def parseX(a b:List UInt8):Int:=if parseE a b=0 then((numL (a++b) 0 * 10 ^ (6-b.length):Nat):Int)else 0
theorem parse_ok(a b:List UInt8)(ha:DigL a)(hb:DigL b)(hl:(a++46::b).length≤16384):Pure Tryz.prog 135 [sv ⟨(a++46::b).toArray⟩] (.tup [iv (parseX a b),iv (parseE a b)]):=by
 refine Pure.runk (fun _=>0) Tryz.func135 comp135 era135 (Nat.le_of_ble_eq_true rfl) fun σ=> ?_
 obtain⟨l,hL⟩:∃ l,l=a++46::b:=⟨_,rfl⟩
 rw[← hL]at hl ⊢
 have hlen:l.length=a.length+1+b.length:=by rw[hL];simp;omega
 have ha0:0<a.length:=List.length_pos_iff.2 ha.1
 have hb0:0<b.length:=List.length_pos_iff.2 hb.1
 have hby1:∀ i,i<a.length→48≤(byteAt ⟨l.toArray⟩ i).toNat∧(byteAt ⟨l.toArray⟩ i).toNat≤57∧digA a b (i+1)=digA a b i++[byteAt ⟨l.toArray⟩ i]:=fun i h=>by
  have e:byteAt ⟨l.toArray⟩ i=a[i]:=by
   show l.getD i 0=_
   rw[hL,List.getD_eq_getElem?_getD,List.getElem?_append_left h,List.getElem?_eq_getElem h];rfl
  rw[e]
  have:=ha.2 _ (List.getElem_mem h)
  refine⟨this.1,this.2,?_⟩
  unfold digA
  rw[if_pos (by omega),if_pos (by omega),List.take_succ_eq_append_getElem h]
 have hby2:byteAt ⟨l.toArray⟩ a.length=46:=by
  show l.getD a.length 0=_
  rw[hL,List.getD_eq_getElem?_getD,List.getElem?_append_right (Nat.le_refl _)];simp
 have hby3:∀ i,a.length<i→i<l.length→48≤(byteAt ⟨l.toArray⟩ i).toNat∧(byteAt ⟨l.toArray⟩ i).toNat≤57∧digA a b (i+1)=digA a b i++[byteAt ⟨l.toArray⟩ i]:=fun i h h2=>by
  obtain⟨j,rfl⟩:∃ j,i=a.length+1+j:=⟨i-a.length-1,by omega⟩
  have hk:j<b.length:=by omega
  have e:byteAt ⟨l.toArray⟩ (a.length+1+j)=b[j]:=by
   show l.getD _ 0=_
   rw[hL,List.getD_eq_getElem?_getD,List.getElem?_append_right (by omega),show a.length+1+j-a.length=j+1 by omega,List.getElem?_cons_succ,List.getElem?_eq_getElem hk];rfl
  rw[e]
  have:=hb.2 _ (List.getElem_mem hk)
  refine⟨this.1,this.2,?_⟩
  unfold digA
  rw[if_neg (by omega),if_neg (by omega),show a.length+1+j+1-a.length-1=j+1 by omega,show a.length+1+j-a.length-1=j by omega,List.take_succ_eq_append_getElem hk,List.append_assoc]
 have h46:digA a b (a.length+1)=digA a b a.length:=by
  unfold digA;rw[if_neg (by omega),if_pos (Nat.le_refl _)];simp
 have hne:(⟨l.toArray⟩:Str)≠⟨#[]⟩:=fun e=>by
  have:l.toArray.size=0:=congrArg (fun s:Str=>s.data.size) e
  simp only[List.size_toArray]at this;omega
 have hcase:∀ i,i<l.length→(i=a.length∧(byteAt ⟨l.toArray⟩ i).toNat=46∧ptA a i= -1)∨(48≤(byteAt ⟨l.toArray⟩ i).toNat∧(byteAt ⟨l.toArray⟩ i).toNat≤57∧digA a b (i+1)=digA a b i++[byteAt ⟨l.toArray⟩ i]∧ptA a (i+1)=ptA a i):=fun i h=>by
  unfold ptA
  rcases Nat.lt_trichotomy i a.length with h1|h1|h1
  ·have:=hby1 i h1
   exact .inr ⟨this.1,this.2.1,this.2.2,by rw[if_pos (by omega),if_pos (by omega)]⟩
  ·subst h1
   exact .inl ⟨rfl,by rw[hby2];rfl,by rw[if_pos (Nat.le_refl _)]⟩
  ·have:=hby3 i h1 h
   exact .inr ⟨this.1,this.2.1,this.2.2,by rw[if_neg (by omega),if_neg (by omega)]⟩
 have hs45:(!decide ((⟨l.toArray⟩:Str)=⟨#[]⟩) && decide (((byteAt ⟨l.toArray⟩ (Int.toNat 0)).toNat:Int)=45))=false:=by
  have:=hby1 0 ha0
  simp only[Bool.and_eq_false_iff]
  exact .inr (decide_eq_false (by show¬((byteAt ⟨l.toArray⟩ 0).toNat:Int)=45;omega))
 have hsz:((⟨l.toArray⟩:Str).size:Int)=(l.length:Nat):=by show(l.toArray.size:Int)=_;simp
 repeat'((fail_if_success (show WK _ _ _ _ (.scope _) _ _ _));(first|exact .nil|refine .k0 ?_|refine .k1 ?_|refine .k2 ?_|refine .r1 ?_ ?_|fail))
 refine WK_scope (fun l n rg σ'=>False) (fun _=>[]) ?_ (fun _ _ _ _ h=>h.elim)
 repeat'((fail_if_success (show WK _ _ _ _ (.seq (.label _) _) _ _ _));(first|exact .nil|refine .k0 ?_|refine .k1 ?_|refine .k2 ?_|refine .k4 ?_|refine .k9 ?_|(refine .cd ?_ ?_<;>(intro hc;first|exact kt hc (by assumption)|skip))|refine .r1 ?_ ?_|refine .t5 ?_ ?_ ?_|fail))
 any_goals(first|exact fun _=>⟨Int.le_refl _,by rw[hsz];omega⟩|skip)
 refine WK_seq (WK_label (FK_seq ?_))
 repeat'((fail_if_success (show WK _ _ _ _ (.loop _) _ _ _));(first|exact .nil|refine .k0 ?_|refine .k1 ?_|refine .k2 ?_|refine .k6 ?_|refine .r1 ?_ ?_|fail))
 refine WK_loop (fun m rg σ'=>∃ (i:Nat) (x:Int) (big:Bool),i≤l.length∧m=l.length-i∧AccA (digA a b i) x big∧σ'=σ∧rg=[(2,iv x),(4,sv ⟨l.toArray⟩),(5,.v (.bool false)),(6,iv (ptA a i)),(7,.v (.bool big)),(8,iv (i:Nat))]) l.length rfl ⟨_,_,Zr,Zs,0,0,false,Nat.zero_le _,rfl,.inl ⟨rfl,by simp[digA,numL],by simp[digA,numL]⟩,rfl,by simp[ptA]⟩ ?_
 rintro m _ _ ⟨i,x,big,hi,hm,hacc,rfl,rfl⟩
 have hup:∀ i,i<l.length→IntKind.i64.wrap ((i:Int)+1)=((i+1:Nat):Int):=fun i h=>by rw[i64w (by omega)];rfl
 have hpe:ptA a l.length=a.length:=by unfold ptA;rw[if_neg (by omega)]
 have hDe:digA a b l.length=a++b:=by unfold digA;rw[if_neg (by omega),List.take_of_length_le (by omega)]
 cases big
 ·repeat'(first|exact .nil|refine .k0 ?_|refine .k1 ?_|refine .k2 ?_|refine .k4 ?_|refine .k6 ?_|refine .k7 ?_|refine .k8 ?_|refine .k9 ?_|(refine .cd ?_ ?_<;>first|with_reducible exact fT|(intro hc;skip))|refine .r1 ?_ ?_|refine .t5 ?_ ?_ ?_|refine .r8 ?_ ?_|fail)
  try any_goals(exact Zo)
  all_goals(try simp only[BL]at *)
  ·have hil:i<l.length:=by omega
   rcases hcase i hil with⟨rfl,hb46,hpt⟩|⟨h1,h2,h3,h4⟩
   ·refine⟨m-1,by omega,_,_,Zr,Zs,a.length+1,x,false,by omega,by omega,by rw[h46];exact hacc,rfl,?_⟩
    rw[show IntKind.i64.wrap ((a.length:Int)+1)=((a.length+1:Nat):Int) by rw[i64w (by omega)];rfl,show ptA a (a.length+1)=a.length by unfold ptA;rw[if_neg (by omega)]]
   ·omega
  ·exfalso
   have hil:i<l.length:=by omega
   rcases hcase i hil with⟨rfl,hb46,hpt⟩|⟨h1,h2,h3,h4⟩
   ·omega
   ·omega
  ·have hil:i<l.length:=by omega
   rcases hcase i hil with⟨rfl,hb46,hpt⟩|⟨h1,h2,h3,h4⟩
   ·omega
   ·have hd:IntKind.i64.wrap (IntKind.u8.wrap (((byteAt ⟨l.toArray⟩ i).toNat:Int)-48))=((byteAt ⟨l.toArray⟩ i).toNat:Int)-48:=by rw[IntKind.wrap_u8,i64w (by omega)];omega
    have q1:=i64w (n:=1152921504606846976-(((byteAt ⟨l.toArray⟩ i).toNat:Int)-48)) (by omega)
    have q2:(1152921504606846976-(((byteAt ⟨l.toArray⟩ i).toNat:Int)-48)).tdiv 10=(1152921504606846976-(((byteAt ⟨l.toArray⟩ i).toNat:Int)-48)) / 10:=Int.tdiv_eq_ediv_of_nonneg (by omega)
    have q3:=i64w (n:=(1152921504606846976-(((byteAt ⟨l.toArray⟩ i).toNat:Int)-48)) / 10) (by omega)
    rw[hd,q1,q2,q3]at hc
    refine⟨m-1,by omega,_,_,Zr,Zs,i+1,x,true,by omega,by omega,by rw[h3];exact(acc_step hacc).2 hc h1 h2,rfl,?_⟩
    rw[hup i hil,h4]
  ·have hil:i<l.length:=by omega
   rcases hcase i hil with⟨rfl,hb46,hpt⟩|⟨h1,h2,h3,h4⟩
   ·omega
   ·have hd:IntKind.i64.wrap (IntKind.u8.wrap (((byteAt ⟨l.toArray⟩ i).toNat:Int)-48))=((byteAt ⟨l.toArray⟩ i).toNat:Int)-48:=by rw[IntKind.wrap_u8,i64w (by omega)];omega
    have q1:=i64w (n:=1152921504606846976-(((byteAt ⟨l.toArray⟩ i).toNat:Int)-48)) (by omega)
    have q2:(1152921504606846976-(((byteAt ⟨l.toArray⟩ i).toNat:Int)-48)).tdiv 10=(1152921504606846976-(((byteAt ⟨l.toArray⟩ i).toNat:Int)-48)) / 10:=Int.tdiv_eq_ediv_of_nonneg (by omega)
    have q3:=i64w (n:=(1152921504606846976-(((byteAt ⟨l.toArray⟩ i).toNat:Int)-48)) / 10) (by omega)
    rw[hd,q1,q2,q3]at hc
    have hx:0≤x:=by rcases hacc with⟨_,h,_⟩|⟨e,_⟩<;>omega
    refine⟨m-1,by omega,_,_,Zr,Zs,i+1,10 * x+(((byteAt ⟨l.toArray⟩ i).toNat:Int)-48),false,by omega,by omega,by rw[h3];exact(acc_step hacc).1 hc h1 h2,rfl,?_⟩
    have q4:=i64w (n:=10 * x) (by omega)
    have q5:=i64w (n:=10 * x+(((byteAt ⟨l.toArray⟩ i).toNat:Int)-48)) (by omega)
    rw[hup i hil,h4,hd,q4,q5]
  ·have hie:i=l.length:=by omega
   subst hie
   have q1:=i64w (n:=(l.length:Int)-a.length) (by omega)
   have q2:=i64w (n:=(l.length:Int)-a.length-1) (by omega)
   rw[hpe,hsz,q1,q2]at hc
   have hb6:b.length>6:=by omega
   have hpE:parseE a b=3:=if_pos hb6
   refine jumpQ_ret ?_
   repeat'(first|exact .nil|refine .r1 ?_ ?_|fail)
   exact Sx.Fin.intro Zs (by unfold parseX;rw[hpE,if_neg (by decide)])
  ·exact absurd hc hne
  ·have hie:i=l.length:=by omega
   subst hie
   have q1:=i64w (n:=(l.length:Int)-a.length) (by omega)
   have q2:=i64w (n:=(l.length:Int)-a.length-1) (by omega)
   have q3:(l.length:Int)-a.length-1=(b.length:Nat):=by omega
   rw[hpe,hsz,q1,q2,q3]at hc
   simp only[hpe,hsz,q1,q2,q3]
   rw[hDe]at hacc
   obtain⟨k,m6,hk,hm6,hk6⟩:∃ k m6:Nat,k=6-b.length∧m6=10 ^ k∧k≤5:=⟨_,_,rfl,rfl,by omega⟩
   have q5:IntKind.i64.wrap (6-(b.length:Int))=(k:Int):=by rw[i64w (by omega)];omega
   have q6:=i64w (n:=(b.length:Int)) (by omega)
   simp only[q6,q5]
   have hEE:parseE a b=if numL (a++b) 0 * m6>1152921504606846976 then 2 else 0:=by unfold parseE;rw[if_neg (by omega),← hk,hm6]
   have hXX:parseX a b=if parseE a b=0 then((numL (a++b) 0 * m6:Nat):Int)else 0:=by unfold parseX;rw[← hk,hm6]
   have hk7:k=0∨k=1∨k=2∨k=3∨k=4∨k=5:=by omega
   clear hk q5
   rcases hk7 with rfl|rfl|rfl|rfl|rfl|rfl
   all_goals
    refine VX_gidx rfl rfl .nil (by decide) ?_
    repeat'(first|exact .nil|refine .k0 ?_|refine .k1 ?_|refine .k2 ?_|refine .k7 ?_|refine .k9 ?_|(refine .cd ?_ ?_<;>first|with_reducible exact fT|(intro hc;skip))|refine .r1 ?_ ?_|fail)
    try any_goals(exact Zo)
    all_goals(try simp only[BL]at *)
   all_goals trace_state
   all_goals
    have hm6':m6=1∨m6=10∨m6=100∨m6=1000∨m6=10000∨m6=100000:=by rw[hm6];decide
    simp only[Nat.reducePow]at hm6
    subst hm6
    refine jumpQ_ret ?_
    repeat'(first|exact .nil|refine .r1 ?_ ?_|fail)
    rcases hacc with⟨e1,hx1,hx2⟩|⟨e1,hx1,hx2⟩
    all_goals first
    |(cases e1;done)
    |(simp only[tdvs]at *
      split at hEE
      ·rename_i hg
       first
       |(exfalso;(unfold maxN at *;omega;done))
       |exact Sx.Fin.intro Zs (by rw[hXX,hEE,if_neg (by decide)])
      ·rename_i hg
       first
       |(exfalso;unfold maxN at *;omega)
       |exact Sx.Fin.intro Zs (by rw[hXX,hEE,if_pos rfl,i64w (by unfold maxN at *;omega),hx1];rfl))
  ·exact absurd hc hne
  ·exfalso
   have hie:i=l.length:=by omega
   subst hie
   omega
 ·repeat'(first|exact .nil|refine .k0 ?_|refine .k1 ?_|refine .k2 ?_|refine .k4 ?_|refine .k6 ?_|refine .k7 ?_|refine .k8 ?_|refine .k9 ?_|(refine .cd ?_ ?_<;>first|with_reducible exact tF|(intro hc;skip))|refine .r1 ?_ ?_|refine .t5 ?_ ?_ ?_|refine .r8 ?_ ?_|fail)
  try any_goals(exact Zo)
  all_goals(try simp only[BL]at *)
  ·have hil:i<l.length:=by omega
   rcases hcase i hil with⟨rfl,hb46,hpt⟩|⟨h1,h2,h3,h4⟩
   ·refine⟨m-1,by omega,_,_,Zr,Zs,a.length+1,x,true,by omega,by omega,by rw[h46];exact hacc,rfl,?_⟩
    rw[show IntKind.i64.wrap ((a.length:Int)+1)=((a.length+1:Nat):Int) by rw[i64w (by omega)];rfl,show ptA a (a.length+1)=a.length by unfold ptA;rw[if_neg (by omega)]]
   ·omega
  ·exfalso
   have hil:i<l.length:=by omega
   rcases hcase i hil with⟨rfl,hb46,hpt⟩|⟨h1,h2,h3,h4⟩
   ·omega
   ·omega
  ·have hil:i<l.length:=by omega
   rcases hcase i hil with⟨rfl,hb46,hpt⟩|⟨h1,h2,h3,h4⟩
   ·omega
   ·refine⟨m-1,by omega,_,_,Zr,Zs,i+1,x,true,by omega,by omega,by rw[h3];exact acc_big hacc,rfl,?_⟩
    rw[hup i hil,h4]
  ·have hie:i=l.length:=by omega
   subst hie
   have q1:=i64w (n:=(l.length:Int)-a.length) (by omega)
   have q2:=i64w (n:=(l.length:Int)-a.length-1) (by omega)
   rw[hpe,hsz,q1,q2]at hc
   have hb6:b.length>6:=by omega
   have hpE:parseE a b=3:=if_pos hb6
   refine jumpQ_ret ?_
   repeat'(first|exact .nil|refine .r1 ?_ ?_|fail)
   exact Sx.Fin.intro Zs (by unfold parseX;rw[hpE,if_neg (by decide)])
  ·exact absurd hc hne
  ·have hie:i=l.length:=by omega
   subst hie
   have q1:=i64w (n:=(l.length:Int)-a.length) (by omega)
   have q2:=i64w (n:=(l.length:Int)-a.length-1) (by omega)
   have q3:(l.length:Int)-a.length-1=(b.length:Nat):=by omega
   rw[hpe,hsz,q1,q2,q3]at hc
   simp only[hpe,hsz,q1,q2,q3]
   rw[hDe]at hacc
   obtain⟨k,m6,hk,hm6,hk6⟩:∃ k m6:Nat,k=6-b.length∧m6=10 ^ k∧k≤5:=⟨_,_,rfl,rfl,by omega⟩
   have q5:IntKind.i64.wrap (6-(b.length:Int))=(k:Int):=by rw[i64w (by omega)];omega
   have q6:=i64w (n:=(b.length:Int)) (by omega)
   simp only[q6,q5]
   have hEE:parseE a b=if numL (a++b) 0 * m6>1152921504606846976 then 2 else 0:=by unfold parseE;rw[if_neg (by omega),← hk,hm6]
   have hXX:parseX a b=if parseE a b=0 then((numL (a++b) 0 * m6:Nat):Int)else 0:=by unfold parseX;rw[← hk,hm6]
   have hk7:k=0∨k=1∨k=2∨k=3∨k=4∨k=5:=by omega
   clear hk q5
   rcases hk7 with rfl|rfl|rfl|rfl|rfl|rfl
   all_goals
    refine VX_gidx rfl rfl .nil (by decide) ?_
    repeat'(first|exact .nil|refine .k0 ?_|refine .k1 ?_|refine .k2 ?_|refine .k4 ?_|refine .k7 ?_|refine .k9 ?_|(refine .cd ?_ ?_<;>first|with_reducible exact fT|(intro hc;skip))|refine .r1 ?_ ?_|fail)
    try any_goals(exact Zo)
    all_goals(try simp only[BL]at *)
   all_goals trace_state
   all_goals
    have hm6':m6=1∨m6=10∨m6=100∨m6=1000∨m6=10000∨m6=100000:=by rw[hm6];decide
    simp only[Nat.reducePow]at hm6
    subst hm6
    refine jumpQ_ret ?_
    repeat'(first|exact .nil|refine .r1 ?_ ?_|fail)
    rcases hacc with⟨e1,hx1,hx2⟩|⟨e1,hx1,hx2⟩
    all_goals first
    |(cases e1;done)
    |(simp only[tdvs]at *
      split at hEE
      ·rename_i hg
       first
       |(exfalso;first|(cases hc.1;done)|fail)
       |exact Sx.Fin.intro Zs (by rw[hXX,hEE,if_neg (by decide)])
      ·rename_i hg
       first
       |(exfalso;unfold maxN at *;omega)
       |exact Sx.Fin.intro Zs (by rw[hXX,hEE,if_pos rfl,i64w (by unfold maxN at *;omega),hx1];rfl))
  ·exact absurd hc hne
  ·exfalso
   have hie:i=l.length:=by omega
   subst hie
   omega
end Go.Proofs.YtbihckigennlhaaGreatDoor
