/- The reference: lists of names. -/
import Derived.Test.YtomhopcnkicknaaGreatDoorCe
import Derived.Test.YtomhopcnkicknaaGreatDoorSet
import Derived.Test.YtomhopcnkicknaaGreatDoorCd
import Derived.Test.YtomhopcnkicknaaGreatDoorCn
import Derived.Test.YtomhopcnkicknaaGreatDoorPl
import Derived.Test.YtomhopcnkicknaaGreatDoorCg
set_option linter.unusedSimpArgs false
set_option linter.unusedVariables false
set_option maxRecDepth 100000
set_option maxHeartbeats 4000000
namespace Go.Proofs.YtomhopcnkicknaaGreatDoor
open _root_.Go.Proofs.Tryz
open Go.Sx Go.Proofs Go.Tb
abbrev cS(l:List ae):AV:= .sl false 1 (l.map cq)
theorem adq{l:List ae}{s:ae}{i:Nat}(hi:l.length≤i)(h:∀ j,j<i→¬l.getD j default=s):s∉l:=fun hm=>by
 obtain⟨j,hj,e⟩:=Zj hm
 exact h j (by omega) (by rw[ZY,ZX hj];exact e)
theorem adp(l:List ae)(s:ae):Pure prog 124 [cS l,sv s] (.v (.bool (decide (s∈l)))):=by
 refine aeb.p fun σ=> ?_
 repeat'(first|exact .nil|refine .k0 ?_|refine .k1 ?_|refine .k2 ?_|refine .k6 ?_|refine .r1 ?_ ?_|fail)
 all_goals(try simp only[BL]at *)
 refine aH (fun n rg af=>∃ i:Nat,i≤l.length∧n=l.length-i∧(∀ j,j<i→¬l.getD j default=s)∧af=σ∧rg=[(0,cS l),(1,sv s),(5,iv i)]) l.length rfl ⟨_,_,Zr,Zs,0,Z1 _,rfl,fun j hj=>absurd hj (by omega),rfl,rfl⟩ ?_
 rintro n _ _ ⟨i,hi,hn,hp,rfl,rfl⟩
 repeat'(first|exact .nil|refine .k0 ?_|refine .k1 ?_|refine .k2 ?_|refine .k6 ?_|refine .k7 ?_|refine .k8 ?_|refine .k9 ?_|(refine .cd ?_ ?_<;>(intro hc;skip))|refine .r1 ?_ ?_|(refine .m2 ?_ ?_;intro hlen)|refine .t1 ?_ ?_ ?_|fail)
 try any_goals(exact Zo)
 all_goals(try simp only[BL]at *)
 ·have hm:s∈l:=by rw[← hc];exact bu (by omega)
  refine Sx.Fin.intro Zs (bt ?_)
  exact hm
 ·refine⟨l.length-(i+1),by omega,_,_,Zr,Zs,i+1,by omega,rfl,dp hp hc,rfl,by rw[aO (n:=l.length) (by omega) (by assumption)]⟩
 ·refine Sx.Fin.intro Zs (bf ?_)
  exact adq (by omega) hp
theorem aLr(a b:List ae):Pure prog 25 [cS a,cS b] (.v (.bool (decide (a=b)))):=by
 refine k25.p fun σ=> ?_
 repeat'(first|exact .nil|refine .k0 ?_|refine .k1 ?_|refine .k2 ?_|refine .k6 ?_|refine .k7 ?_|refine .k9 ?_|(refine .cd ?_ ?_<;>(intro hc;skip))|refine .r1 ?_ ?_|(refine .m2 ?_ ?_;intro hlen)|fail)
 all_goals(try simp only[BL]at *)
 ·refine Sx.Fin.intro Zs (bf ?_)
  intro e;subst e;omega
 refine aH (fun n rg af=>∃ i:Nat,i≤a.length∧n=a.length-i∧(∀ j,j<i→a.getD j default=b.getD j default)∧af=σ∧rg=[(0,cS a),(1,cS b),(5,iv i)]) a.length rfl ⟨_,_,Zr,Zs,0,Z1 _,rfl,fun j hj=>absurd hj (by omega),rfl,rfl⟩ ?_
 rintro n _ _ ⟨i,hi,hn,hp,rfl,rfl⟩
 repeat'(first|exact .nil|refine .k0 ?_|refine .k1 ?_|refine .k2 ?_|refine .k5 ?_|refine .k6 ?_|refine .k7 ?_|refine .k8 ?_|refine .k9 ?_|(refine .cd ?_ ?_<;>(intro hc;skip))|refine .r1 ?_ ?_|(refine .m2 ?_ ?_;intro hlen)|refine .t1 ?_ ?_ ?_|fail)
 try any_goals(exact Zo)
 all_goals(try simp only[BL]at *)
 ·refine Sx.Fin.intro Zs (bf ?_)
  intro e;subst e;exact hc rfl
 ·refine⟨a.length-(i+1),by omega,_,_,Zr,Zs,i+1,by omega,rfl,dp hp hc,rfl,by rw[aO (n:=a.length) (by omega) (by assumption)]⟩
 ·refine Sx.Fin.intro Zs (bt ?_)
  refine Ys (by omega) fun j h1 h2=> ?_
  have:=hp j (by omega)
  rwa [getD_eq h1,getD_eq h2]at this
theorem Dw(l:List ae):((l.map cq).all fun r=>r.all AV.one)=true:=by
 rw[List.all_map,Zx];intro x _;rfl
theorem Ie{s:ae}:∀ {l:List ae} {k:Nat},k≤l.length→(∀ j,j<k→ct (l.getD j default) s=true)→(k<l.length→¬ct (l.getD k default) s=true)→putAt l s=k
 |[],k,h,_,_=>by simp at h;subst h;rfl
 |a::l,0,_,_,h=>by have:=h (by simp);unfold putAt;rw[Z6 (by simpa using this)]
 |a::l,k+1,h,hp,hn=>by
  have h0:=hp 0 (by omega)
  unfold putAt
  rw[Z3 (by simpa using h0),Ie (l:=l) (k:=k) (by simpa using h) (fun j hj=>by have:=hp (j+1) (by omega);simpa using this) (fun hk=>by have:=hn (by simpa using hk);simpa using this)]
theorem PL(l:List ae)(s:ae)(hl:l.length≤1000000):Pure prog 168 [cS l,sv s] (cS (cZ l s)):=by
 refine aeI.pc (fun d=>bif ([34]:List Nat).elem d then 1 else 0) fun σ=> ?_
 repeat'(first|exact .nil|refine .k0 ?_|refine .k1 ?_|refine .k2 ?_|refine .k6 ?_|refine .r1 ?_ ?_|fail)
 all_goals(try simp only[BL]at *)
 refine aH (fun n rg af=>∃ i:Nat,i≤l.length∧n=l.length-i∧(∀ j,j<i→ct (l.getD j default) s=true)∧af=σ∧rg=[(0,cS l),(1,sv s),(5,iv i)]) l.length rfl ⟨_,_,Zr,Zs,0,Z1 _,rfl,fun j hj=>absurd hj (by omega),rfl,rfl⟩ ?_
 rintro n _ _ ⟨i,hi,hn,hp,rfl,rfl⟩
 repeat'(first|exact .nil|refine .k0 ?_|refine .k1 ?_|refine .k2 ?_|refine .k3 ?_|refine .k4 ?_|refine .k6 ?_|refine .k7 ?_|refine .k8 ?_|refine .k9 ?_|(refine .cd ?_ ?_<;>(intro hc;skip))|refine .r1 ?_ ?_|(refine .m2 ?_ ?_;intro hlen)|refine .t1 ?_ ?_ ?_|refine .t2 ?_ ?_ ?_|refine .t3 ?_ ?_ ?_|(refine .l2 ?_;intro b)|refine .u2 ?_ ?_ ?_ (fun b u c=> ?_)|(show List.all _ _=true;rfl)|fail)
 try any_goals(exact Zo)
 all_goals(try simp only[BL]at *)
 any_goals((simp only[Z8,Z5,Z9,Z7,Z4,bz,aV,bU,Z2];omega))
 ·refine⟨l.length-(i+1),by omega,_,_,Zr,Zs,i+1,by omega,rfl,dp hp hc.2,rfl,by rw[aO (n:=l.length) (by omega) (by assumption)]⟩
 all_goals have yS:=Ie hi hp (fun hk h=>by rename_i h1;first|(rcases h1 with h1|h1;exact h1 (by omega);unfold ct at h;rw[h1]at h;cases h)|fail)
 ·have e:=zX l s
  rw[yS,Z3 ⟨by omega,hc.2⟩]at e
  rw[e];exact Zw
 ·exact Dw _
 ·simp only[Z9,Z7,Z4,X9,Z8,Z5];omega
 ·exact Dw _
 ·have e:=zX l s
  rw[yS,Z6 (by rintro⟨h1,h2⟩;rcases hc with h|h;exact h (by omega);exact h h2)]at e
  rw[e,show([]++List.map cq (List.take i l)++[[AV.v (Value.string s)]]++List.map cq (List.drop i l))=(List.take i l++[s]++List.drop i l).map cq by simp[cq]]
  exact Zw
theorem ab5{fs:List aj}{n:ae}(h:∀ j,j<fs.length→¬(fs.getD j default).name=n):findF fs n=none:=by
 unfold findF
 rw[XG]
 intro x hx
 obtain⟨j,hj,rfl⟩:=Zj hx
 have:=h j hj
 rw[getD_eq hj]at this
 simpa using this
theorem ab3{fs:List aj}{n:ae}{i:Nat}(hi:i<fs.length)(h:∀ j,j<i→¬(fs.getD j default).name=n)(hn:(fs.getD i default).name=n):findF fs n=some (fs.getD i default):=by
 unfold findF
 rw[getD_eq hi]at hn ⊢
 rw[YM]
 refine⟨by simpa using hn,i,hi,rfl,fun j hj=> ?_⟩
 have:=h j hj
 rw[getD_eq (Nat.lt_trans hj hi)]at this
 simpa using this
theorem abX(fs:List aj)(n:ae)(o:Option aj)(h:findF fs n=o):Pure prog 213 [.sl false 18 (fs.map aj.cells),sv n] (L7 o):=by
 subst h
 refine afe.p fun σ=> ?_
 repeat'(first|exact .nil|refine .k0 ?_|refine .k1 ?_|refine .k2 ?_|refine .k6 ?_|refine .r1 ?_ ?_|(refine .l1 ?_;intro b)|fail)
 all_goals(try simp only[BL]at *)
 refine aH (fun m rg af=>∃ i:Nat,i≤fs.length∧m=fs.length-i∧(∀ j,j<i→¬(fs.getD j default).name=n)∧af=(4,b,aG.cells BB)::σ∧rg=[(0,.sl false 18 (fs.map aj.cells)),(1,sv n),(4,.lp 4 b 0),(6,iv i)]) fs.length rfl ⟨_,_,Zr,Zs,0,Z1 _,rfl,fun j hj=>absurd hj (by omega),rfl,rfl⟩ ?_
 rintro m _ _ ⟨i,hi,hn,hp,rfl,rfl⟩
 repeat'(first|exact .nil|refine .k0 ?_|refine .k1 ?_|refine .k2 ?_|refine .k6 ?_|refine .k7 ?_|refine .k8 ?_|refine .k9 ?_|(refine .cd ?_ ?_<;>(intro hc;skip))|refine .r1 ?_ ?_|(refine .m2 ?_ ?_;intro hlen)|refine .t1 ?_ ?_ ?_|fail)
 try any_goals(exact Zo)
 all_goals(try simp only[BL]at *)
 ·rw[ab3 (by omega) hp hc]
  exact Zw
 ·refine⟨fs.length-(i+1),by omega,_,_,Zr,Zs,i+1,by omega,rfl,dp hp hc,rfl,by rw[aO (n:=fs.length) (by omega) (by assumption)]⟩
 ·rw[ab5 (fun j hj=>hp j (by omega))]
  exact Zw
theorem PN:∀ (a b:List aj) (l:List ae),jx (a++b) l=jx b (jx a l)
 |[],_,_=>rfl
 |_::a,b,_=>PN a b _
theorem ahy{fs:List aj}{i:Nat}(hi:i<fs.length)(l:List ae):jx (fs.take (i+1)) l=cZ (jx (fs.take i) l) (fs.getD i default).name:=by
 rw[ZV hi,PN,getD_eq hi];rfl
theorem agF(c:az)(hl:c.features.length≤1000000):Pure prog 122 [.agg c.cells] (cS (aQ c.features)):=by
 refine ad9.p fun σ=> ?_
 repeat'(first|exact .nil|refine .k0 ?_|refine .k1 ?_|refine .k2 ?_|refine .k6 ?_|refine .r1 ?_ ?_|(refine .m1 ?_ ?_;intro b)|fail)
 all_goals(try simp only[BL]at *)
 refine aH (fun n rg af=>∃ i:Nat,i≤c.features.length∧n=c.features.length-i∧af=(1,b,aG.cells c.cells)::σ∧rg=[(1,.lp 1 b 0),(3,cS (jx (c.features.take i) [])),(4,iv i)]) c.features.length rfl ⟨_,_,Zr,Zs,0,Z1 _,rfl,rfl,rfl⟩ ?_
 rintro n _ _ ⟨i,hi,hn,rfl,rfl⟩
 repeat'(first|exact .nil|refine .k0 ?_|refine .k1 ?_|refine .k2 ?_|refine .k6 ?_|refine .k7 ?_|refine .k8 ?_|refine .k9 ?_|(refine .cd ?_ ?_<;>(intro hc;skip))|refine .r1 ?_ ?_|(refine .m2 ?_ ?_;intro hlen)|refine .t1 ?_ ?_ ?_|refine .an rfl (by intro aq;exact PL (jx (c.features.take i) []) _ (by have:=Ig (c.features.take i) [];rw[Z4]at this;simp at this;omega)) ?_ ?_|fail)
 try any_goals(exact Zo)
 all_goals(try simp only[BL]at *)
 ·refine⟨c.features.length-(i+1),by omega,_,_,Zr,Zs,i+1,by omega,rfl,rfl,?_⟩
  rw[ahy (by omega),aO (n:=c.features.length) (by omega) (by assumption)]
 ·rw[show aQ c.features=jx (c.features.take i) [] by rw[ZU (by omega)];rfl]
  exact Zw
theorem zY(l:List ae)(s:ae):(cZ l s).length≤l.length+1:=by
 induction l with
 |nil=>simp[cZ]
 |cons a l ih=>
  unfold cZ
  split
  ·simp only[Z8];omega
  ·split<;>simp
mutual
theorem Lg:∀ (x:Ex) (a:List ae×List ae),(fI x a).1.length≤a.1.length+x.aR.length∧(fI x a).2.length≤a.2.length+x.bO.length
 | .mk k o n t v u p w ks,a=>by
  have ih:=Bu ks (if k=3∨k=4 then(cZ a.1 n,a.2)else if k=5 then(a.1,cZ a.2 t)else a)
  rw[fI,Ex.aR,Ex.bO,Z9,Z9]
  have h1:=zY a.1 n
  have h2:=zY a.2 t
  by_cases h:k=3∨k=4
  ·rw[Z3 h]at ih ⊢
   have h5:¬k=5:=by omega
   simp only[Z3 h,Z6 h5,Z5,Zg]at *;omega
  ·by_cases h5:k=5
   ·rw[Z6 h,Z3 h5]at ih ⊢
    simp only[Z6 h,Z3 h5,Z5,Zg]at *;omega
   ·rw[Z6 h,Z6 h5]at ih ⊢
    simp only[Z6 h,Z6 h5,Z5]at *;omega
theorem Bu:∀ (l:List Ex) (a:List ae×List ae),(ey l a).1.length≤a.1.length+(Ex.cM l).length∧(ey l a).2.length≤a.2.length+(Ex.bG l).length
 |[],a=>by simp[ey,Ex.cM,Ex.bG]
 |x::l,a=>by
  have h1:=Lg x a
  have h2:=Bu l (fI x a)
  rw[ey,Ex.cM,Ex.bG,Z9,Z9];omega
end
theorem Ld:∀ (l m:List Ex) (a:List ae×List ae),ey (l++m) a=ey m (ey l a)
 |[],_,_=>by rw[ey];rfl
 |x::l,m,a=>by rw[Ze,ey,Ld l m,ey]
theorem aaM{l:List Ex}{i:Nat}(hi:i<l.length)(a:List ae×List ae):ey (l.take (i+1)) a=fI (l.getD i default) (ey (l.take i) a):=by
 rw[ZV hi,Ld,getD_eq hi,ey,ey]
def lu(x:Ex)(a:List ae×List ae):List ae×List ae:=if x.kind=3∨x.kind=4 then(cZ a.1 x.name,a.2)else if x.kind=5 then(a.1,cZ a.2 x.table)else a
theorem aaN(x:Ex)(a:List ae×List ae):fI x a=ey x.args (lu x a):=by cases x;rw[fI];rfl
theorem abF(x:Ex):x.aR=(if x.kind=3∨x.kind=4 then[x.name]else[])++Ex.cM x.args:=by cases x;rw[Ex.aR];rfl
theorem aMe(x:Ex):x.bO=(if x.kind=5 then[x.table]else[])++Ex.bG x.args:=by cases x;rw[Ex.bO];rfl
theorem aaK(x:Ex)(a:List ae×List ae):(lu x a).1.length+(Ex.cM x.args).length≤a.1.length+x.aR.length∧(lu x a).2.length+(Ex.bG x.args).length≤a.2.length+x.bO.length:=by
 have h1:=zY a.1 x.name
 have h2:=zY a.2 x.table
 rw[abF,aMe,Z9,Z9]
 unfold lu
 by_cases h:x.kind=3∨x.kind=4
 ·have h5:¬x.kind=5:=by omega
  simp only[Z3 h,Z6 h5,Z5,Zg];omega
 ·by_cases h5:x.kind=5
  ·simp only[Z6 h,Z3 h5,Z5,Zg];omega
  ·simp only[Z6 h,Z6 h5,Z5];omega
theorem Ma(l:List Ex){i:Nat}(hi:i<l.length):(Ex.cM (l.take i)).length+(l.getD i default).aR.length≤(Ex.cM l).length∧(Ex.bG (l.take i)).length+(l.getD i default).bO.length≤(Ex.bG l).length:=by
 have e:l=l.take i++(l.getD i default::l.drop (i+1)):=by
  rw[getD_eq hi,X7 hi,YI]
 have Wr:∀ (a b:List Ex),(Ex.cM (a++b)).length=(Ex.cM a).length+(Ex.cM b).length:=fun a=>by
  induction a with
  |nil=>intro b;simp[Ex.cM]
  |cons x a ih=>intro b;rw[Ze,Ex.cM,Ex.cM,Z9,Z9,ih];omega
 have Ws:∀ (a b:List Ex),(Ex.bG (a++b)).length=(Ex.bG a).length+(Ex.bG b).length:=fun a=>by
  induction a with
  |nil=>intro b;simp[Ex.bG]
  |cons x a ih=>intro b;rw[Ze,Ex.bG,Ex.bG,Z9,Z9,ih];omega
 have h1:=Zy (fun l=>(Ex.cM l).length) e
 have h2:=Zy (fun l=>(Ex.bG l).length) e
 simp only[Wr,Ws,Ex.cM,Ex.bG,Z9]at h1 h2
 omega
def AR(x:Ex):Prop:=∀ (F T:List ae),F.length+x.aR.length≤1000000→T.length+x.bO.length≤1000000→Pure prog 170 [.agg x.row,cS F,cS T] (.aE [cS (fI x (F,T)).1,cS (fI x (F,T)).2])
theorem aaQ(x:Ex)(ih:∀ i,i<x.args.length→AR (x.args.getD i default)):AR x:=fun F T hF hT=>by
 rw[Ex.bP x,aaN]
 have hd:=aaK x (F,T)
 refine aeK.p fun σ=> ?_
 repeat'(first|exact .nil|refine .k0 ?_|refine .k1 ?_|refine .k2 ?_|refine .k4 ?_|refine .k6 ?_|refine .k9 ?_|(refine .cd ?_ ?_<;>(intro hc;skip))|refine .r1 ?_ ?_|(refine .m1 ?_ ?_;intro b)|refine .an rfl (by intro aq;first|exact PL _ _ (by omega)|fail) ?_ ?_|fail)
 try any_goals(exact Zo)
 all_goals(try simp only[BL]at *)
 ·omega
 all_goals
  refine aH (fun n rg af=>∃ i:Nat,i≤x.args.length∧n=x.args.length-i∧af=(3,b,aG.cells x.lay)::σ∧rg=[(1,cS (ey (x.args.take i) (lu x (F,T))).1),(2,cS (ey (x.args.take i) (lu x (F,T))).2),(3,.lp 3 b 0),(8,iv i)]) x.args.length rfl ⟨_,_,Zr,Zs,0,Z1 _,rfl,rfl,(by
   rw[YB,ey]
   first
    |(rw[show lu x (F,T)=(cZ F x.name,T)from Z3 (by assumption)];rfl)
    |(rw[show lu x (F,T)=(F,cZ T x.table)from(Z6 (by omega)).trans (Z3 (by assumption))];rfl)
    |(rw[show lu x (F,T)=(F,T)from(Z6 (by omega)).trans (Z6 (by assumption))];rfl))⟩ ?_
  rintro n _ _ ⟨i,hi,hn,rfl,rfl⟩
  have hA:=fun(h:i<x.args.length)=>ih i h (ey (x.args.take i) (lu x (F,T))).1 (ey (x.args.take i) (lu x (F,T))).2 (by have h1:=Bu (x.args.take i) (lu x (F,T));have h2:=Ma x.args h;omega) (by have h1:=Bu (x.args.take i) (lu x (F,T));have h2:=Ma x.args h;omega)
  repeat'(first|exact .nil|refine .k0 ?_|refine .k1 ?_|refine .k2 ?_|refine .k6 ?_|refine .k7 ?_|refine .k8 ?_|refine .k9 ?_|(refine .cd ?_ ?_<;>(intro hc;skip))|refine .r1 ?_ ?_|(refine .m2 ?_ ?_;intro hlen)|refine .t1 ?_ ?_ ?_|refine .an rfl (by intro aq;exact hA (by(simp only[BL]at *;omega))) ?_ ?_|fail)
  try any_goals(exact Zo)
  all_goals(try simp only[BL]at *)
  all_goals first
   |(refine⟨x.args.length-(i+1),by omega,_,_,Zr,Zs,i+1,by omega,rfl,rfl,?_⟩;rw[aaM (by omega),aO (n:=x.args.length) (by omega) (by assumption)])
   |(rw[ZU (by omega)];(refine Sx.Fin.wk Zs ?_;repeat' first|exact .refl _|fail))
theorem Lh:∀ (n:Nat) (x:Ex),x.size≤n→AR x
 |0,x,h=>by cases x;simp[Ex.size]at h
 |n+1,x,h=>aaQ x fun k hk=>Lh n _ (by
  have:=Ex.Ah x hk;omega)
theorem aaP(x:Ex):AR x:=Lh x.size x (ZR _)
end Go.Proofs.YtomhopcnkicknaaGreatDoor
namespace Go.Sx
theorem Wk.Fh{ez:Nat}{rows rows':List (List AV)}{nn:Bool}(h:rows=rows'):Wk (.fl ez rows) (.sl nn ez rows'):=h ▸ fun _ _ h=>h.LX nn
end Go.Sx
namespace Go.Proofs.YtomhopcnkicknaaGreatDoor
open _root_.Go.Proofs.Tryz
open Go.Sx Go.Proofs Go.Tb
mutual
def ka:Ex→Int→Int
 | .mk _ _ _ _ _ _ _ _ ks,m=>bK ks m 1
def bK:List Ex→Int→Int→Int
 |[],_,n=>n
 |x::l,m,n=>if n≤m then bK l m (n+ka x (m-n))else n
end
theorem aLW(x:Ex)(m:Int):ka x m=bK x.args m 1:=by cases x;rw[ka];rfl
mutual
theorem Ak:∀ (x:Ex) (m:Int),1≤ka x m∧ka x m≤max m 0+1
 | .mk _ _ _ _ _ _ _ _ ks,m=>by
  rw[ka]
  have:=Dy ks m 1 (by omega) (by omega)
  omega
theorem Dy:∀ (l:List Ex) (m n:Int),1≤n→n≤max m 0+1→1≤bK l m n∧bK l m n≤max m 0+1
 |[],m,n,h1,h2=>by rw[bK];omega
 |x::l,m,n,h1,h2=>by
  rw[bK]
  split
  ·rename_i h
   have:=Ak x (m-n)
   exact Dy l m _ (by omega) (by omega)
  ·omega
end
mutual
theorem aLX:∀ (x:Ex) (m:Int),ka x m≤m→(x.size:Int)=ka x m
 | .mk _ _ _ _ _ _ _ _ ks,m,h=>by
  rw[ka]at h ⊢
  rw[Ex.size]
  have:=Dz ks m 1 h
  omega
theorem Dz:∀ (l:List Ex) (m n:Int),bK l m n≤m→bK l m n=n+(Ex.cB l:Int)
 |[],m,n,h=>by rw[bK,Ex.cB];simp
 |x::l,m,n,h=>by
  rw[bK]at h ⊢
  by_cases hn:n≤m
  ·rw[Z3 hn]at h ⊢
   have h1:=Dz l m _ h
   have h2:=aLX x (m-n) (by have:0≤(Ex.cB l:Int):=Int.natCast_nonneg _;omega)
   rw[h1,Ex.cB]
   omega
  ·rw[Z6 hn]at h;omega
end
mutual
theorem sX:∀ x:Ex,x.aR.length≤x.size∧x.bO.length≤x.size
 | .mk k _ n t _ _ _ _ ks=>by
  have h:=LK ks
  rw[Ex.aR,Ex.bO,Ex.size,Z9,Z9]
  have h1:(if k=3∨k=4 then[n]else[]).length≤1:=by split<;>simp
  have h2:(if k=5 then[t]else[]).length≤1:=by split<;>simp
  omega
theorem LK:∀ l:List Ex,(Ex.cM l).length≤Ex.cB l∧(Ex.bG l).length≤Ex.cB l
 |[]=>by simp[Ex.cM,Ex.bG,Ex.cB]
 |x::l=>by
  have h1:=sX x
  have h2:=LK l
  rw[Ex.cM,Ex.bG,Ex.cB,Z9,Z9];omega
end
theorem aLY(l:List Ex){m n:Int}(h:¬n≤m):bK l m n=n:=by
 cases l with
 |nil=>rw[bK]
 |cons x l=>rw[bK,Z6 h]
theorem IK:∀ (a b:List Ex) (m n:Int),bK (a++b) m n=if bK a m n≤m then bK b m (bK a m n)else bK a m n
 |[],b,m,n=>by
  rw[Y0,bK]
  split
  ·rfl
  ·rename_i h;exact aLY b h
 |x::a,b,m,n=>by
  rw[Ze,bK,bK]
  by_cases hn:n≤m
  ·rw[Z3 hn,Z3 hn];exact IK a b m _
  ·rw[Z6 hn,Z6 hn,Z6 hn]
theorem QS{l:List Ex}{i:Nat}(hi:i<l.length){m n:Int}(h:bK (l.take i) m n≤m):bK (l.take (i+1)) m n=bK (l.take i) m n+ka (l.getD i default) (m-bK (l.take i) m n):=by
 rw[ZV hi,IK,Z3 h,getD_eq hi,bK,Z3 h,bK]
theorem QR{l:List Ex}{i:Nat}{m n:Int}(h:¬bK (l.take i) m n≤m):bK l m n=bK (l.take i) m n:=by
 have:=IK (l.take i) (l.drop i) m n
 rwa [YI,Z6 h]at this
def A0(x:Ex):Prop:=∀ m:Int, -10000≤m→m≤10000→Pure prog 8 [.agg x.row,iv m] (iv (ka x m))
theorem aLz(x:Ex)(ih:∀ i,i<x.args.length→A0 (x.args.getD i default)):A0 x:=fun m hm js=>by
 rw[Ex.bP x,aLW]
 refine k8.p fun σ=> ?_
 repeat'(first|exact .nil|refine .k0 ?_|refine .k1 ?_|refine .k2 ?_|refine .k6 ?_|refine .r1 ?_ ?_|(refine .m1 ?_ ?_;intro b)|fail)
 all_goals(try simp only[BL]at *)
 refine aH (fun n rg af=>∃ i:Nat,i≤x.args.length∧n=x.args.length-i∧af=(2,b,aG.cells x.lay)::σ∧rg=[(1,iv m),(2,.lp 2 b 0),(5,iv (bK (x.args.take i) m 1)),(6,iv i)]) x.args.length rfl ⟨_,_,Zr,Zs,0,Z1 _,rfl,rfl,by rw[YB,bK];rfl⟩ ?_
 rintro n _ _ ⟨i,hi,hn,rfl,rfl⟩
 have hp:=Dy (x.args.take i) m 1 (by omega) (by omega)
 have hq:=Ak (x.args.getD i default) (m-bK (x.args.take i) m 1)
 have hA:=fun(h:i<x.args.length) (h2:bK (x.args.take i) m 1≤m)=>(show Pure prog 8 [.agg (x.args.getD i default).row,iv (IntKind.i64.wrap (m-bK (x.args.take i) m 1))] (iv (ka (x.args.getD i default) (m-bK (x.args.take i) m 1))) by rw[aM (by omega)];exact ih i h _ (by omega) (by omega))
 have hq:=Ak (x.args.getD i default) (m-bK (x.args.take i) m 1)
 repeat'(first|exact .nil|refine .k0 ?_|refine .k1 ?_|refine .k2 ?_|refine .k4 ?_|refine .k6 ?_|refine .k7 ?_|refine .k8 ?_|refine .k9 ?_|(refine .cd ?_ ?_<;>(intro hc;skip))|refine .r1 ?_ ?_|(refine .m2 ?_ ?_;intro hlen)|refine .t1 ?_ ?_ ?_|refine .an rfl (by intro aq;exact hA (by(simp only[BL]at *;omega)) (by(simp only[BL]at *;omega))) ?_ ?_|fail)
 try any_goals(exact Zo)
 all_goals(try simp only[BL]at *)
 ·refine⟨x.args.length-(i+1),by omega,_,_,Zr,Zs,i+1,by omega,rfl,rfl,?_⟩
  rw[QS (by omega) (by omega),aM (n:=bK (x.args.take i) m 1+_) (by omega),aO (n:=x.args.length) (by omega) (by assumption)]
 ·have e:bK x.args m 1=bK (x.args.take i) m 1:=by
   by_cases h:bK (x.args.take i) m 1≤m
   ·rw[ZU (l:=x.args) (by omega)]
   ·exact QR (l:=x.args) h
  rw[e]
  exact Zw
theorem Qy:∀ (n:Nat) (x:Ex),x.size≤n→A0 x
 |0,x,h=>by cases x;simp[Ex.size]at h
 |n+1,x,h=>aLz x fun k hk=>Qy n _ (by have:=Ex.Ah x hk;omega)
theorem aLw(x:Ex):A0 x:=Qy x.size x (ZR _)
def az.all(c:az):List aj:=c.features++c.bn++c.past
structure Small(c:az):Prop where
 t:c.tables.length≤40
 f:c.features.length≤40
 d:c.bn.length≤40
 p:c.past.length≤40
 n:bK (c.all.map aj.body) 2000 0≤2000
theorem QC(c:az):Small c↔(c.tables.length≤40∧c.features.length≤40∧c.bn.length≤40∧c.past.length≤40∧bK (c.all.map aj.body) 2000 0≤2000):=⟨fun h=>⟨h.t,h.f,h.d,h.p,h.n⟩,fun⟨a,b,c,d,e⟩=>⟨a,b,c,d,e⟩⟩
instance (c:az):Decidable (Small c):=decidable_of_iff _ (QC c).symm
theorem aL0{l:List aj}{i:Nat}(hi:i<l.length){m n:Int}(h:bK ((l.map aj.body).take i) m n≤m):bK ((l.map aj.body).take (i+1)) m n=bK ((l.map aj.body).take i) m n+ka (l.getD i default).body (m-bK ((l.map aj.body).take i) m n):=by
 have h0:i<(l.map aj.body).length:=by rw[Z7];exact hi
 rw[QS h0 h]
 congr 2
 rw[getD_eq hi,getD_eq h0,ZF]
theorem aLZ(l:List Ex):0≤bK l 2000 0∧bK l 2000 0≤2001:=by
 cases l with
 |nil=>rw[bK];omega
 |cons x l=>
  rw[bK,Z3 (by omega)]
  have h1:=Ak x (2000-0)
  have h2:=Dy l 2000 (0+ka x (2000-0)) (by omega) (by omega)
  omega
theorem abz(l:List aj):((l.map aj.cells).all fun r=>r.all AV.one)=true:=by
 rw[List.all_map,Zx];intro x _;rfl
theorem QD(C:az):Pure prog 4 [.agg C.cells] (.v (.bool (decide (Small C)))):=by
 refine k4.pc (fun d=>bif ([28]:List Nat).elem d then 3 else 0) fun σ=> ?_
 repeat'(first|exact .nil|refine .k0 ?_|refine .k1 ?_|refine .k2 ?_|refine .k3 ?_|refine .k4 ?_|refine .k6 ?_|refine .k7 ?_|refine .k9 ?_|(refine .cd ?_ ?_<;>(intro hc;skip))|refine .r1 ?_ ?_|(refine .m1 ?_ ?_;intro b)|(refine .m2 ?_ ?_;intro hlen)|refine .u2 ?_ ?_ ?_ (fun b u c=> ?_)|refine .u3 ?_ ?_ (fun hr0=> ?_) (fun yX b u c=> ?_)|refine .r8 ?_ ?_|fail)
 try any_goals(exact Zo)
 all_goals(try simp only[BL]at *)
 ·refine Sx.Fin.intro Zs (bf ?_)
  intro h;have h1:=h.t;have h2:=h.f;have h3:=h.d;have h4:=h.p;omega
 any_goals exact abz _
 any_goals(show _≤1000000;decide)
 any_goals(show _ * 248≤_;simp only[Z9,Z7,Z5];omega)
 all_goals
  refine aH (fun n rg af=>∃ i:Nat,i≤C.all.length∧n=C.all.length-i∧af=σ∧rg=[(3,iv (bK ((C.all.map aj.body).take i) 2000 0)),(4,.sl false 18 (C.all.map aj.cells)),(5,iv i)]) C.all.length rfl ?_ ?_
  ·refine⟨[(3,iv 0),(4,.sl false 18 (C.all.map aj.cells)),(5,iv (0:Nat))],σ,?_,Zs,0,Z1 _,rfl,rfl,by rw[YB,bK]⟩
   refine .cons (Wk.refl _) (.cons ?_ (.cons (Wk.refl _) .nil))
   first|exact .Fh (by simp[az.all, *])|exact .C9 (by simp[az.all, *])
  rintro n _ _ ⟨i,hi,hn,rfl,rfl⟩
  have hp:=aLZ ((C.all.map aj.body).take i)
  have hq:=Ak (C.all.getD i default).body (2000-bK ((C.all.map aj.body).take i) 2000 0)
  have hA:=fun(h:i<C.all.length) (h2:bK ((C.all.map aj.body).take i) 2000 0≤2000)=>(show Pure prog 8 [.agg (C.all.getD i default).body.row,iv (IntKind.i64.wrap (2000-bK ((C.all.map aj.body).take i) 2000 0))] (iv (ka (C.all.getD i default).body (2000-bK ((C.all.map aj.body).take i) 2000 0))) by rw[aM (by omega)];exact aLw _ _ (by omega) (by omega))
  repeat'(first|exact .nil|refine .k0 ?_|refine .k1 ?_|refine .k2 ?_|refine .k4 ?_|refine .k6 ?_|refine .k7 ?_|refine .k8 ?_|refine .k9 ?_|(refine .cd ?_ ?_<;>(intro hc;skip))|refine .r1 ?_ ?_|(refine .m2 ?_ ?_;intro hlen)|refine .t1 ?_ ?_ ?_|refine .an rfl (by intro aq;exact hA (by(simp only[BL]at *;omega)) (by(simp only[BL]at *;omega))) ?_ ?_|fail)
  try any_goals(exact Zo)
  all_goals(try simp only[BL]at *)
  all_goals first
   |(refine⟨C.all.length-(i+1),by omega,_,_,Zr,Zs,i+1,by omega,rfl,rfl,?_⟩
     rw[aL0 (by omega) (by omega),aM (n:=bK ((C.all.map aj.body).take i) 2000 0+_) (by omega),aO (n:=C.all.length) (by omega) (by assumption)])
   |(have e:bK (C.all.map aj.body) 2000 0=bK ((C.all.map aj.body).take i) 2000 0:=by
      by_cases h:bK ((C.all.map aj.body).take i) 2000 0≤2000
      ·rw[ZU (l:=C.all.map aj.body) (by rw[Z7];omega)]
      ·exact QR (l:=C.all.map aj.body) h
     have e2:decide (Small C)=decide (bK ((C.all.map aj.body).take i) 2000 0≤2000):=by
      rw[decide_eq_decide,QC,e]
      exact⟨fun h=>h.2.2.2.2,fun h=>⟨by omega,by omega,by omega,by omega,h⟩⟩
     rw[e2]
     exact Zw)
end Go.Proofs.YtomhopcnkicknaaGreatDoor
namespace Go.Sx
section
variable {P:Program}[Glob P]{cfg:Nat→Nat}{K:ah→Store→Prop}{E:List PanicEntry→Store→Prop}{σ:Store}{l:List CI}{d:Nat}{xr:XR}{ps:List Prop}{al cf:List Nat}{ix:Nat}{ld:List CD}{og:Option Bool}
theorem VX.u4{t:TypeId}{ag bytes:Nat}{z:List Value}{x y:Operand}{w:AV}{r:List AV}{rows rs:List (List AV)}(aw:OB ps)(hb:(rows.length+(r::rs).length) * bytes≤35184372088832)(k:∀ b u c,VX P cfg l K E ((d,.s (.own ag d b u c (rows++r::rs)))::xr) ((d,b,.tail u c)::σ))(h:aL xr none [x,y]=some (og,[.fl ag rows,w],ps):=by exact rfl)(hw:ew ag w=some (r::rs):=by exact rfl):VX P cfg (⟨some d,.append t ag bytes z x y,none⟩::l) K E xr σ:=J6 h hw aw hb (fun e=>nomatch e) fun _=>k
theorem VY.u4{t:TypeId}{ag bytes:Nat}{z:List Value}{x y:Operand}{w:AV}{r:List AV}{rows rs:List (List AV)}(aw:OB ps)(hb:(rows.length+(r::rs).length) * bytes≤35184372088832)(k:∀ b u c,VY P cfg al ld K ((d,.s (.own ag d b u c (rows++r::rs)))::xr) ((d,b,.tail u c)::σ))(h:aL xr none [x,y]=some (og,[.fl ag rows,w],ps):=by exact rfl)(hw:ew ag w=some (r::rs):=by exact rfl)(ha:al.elem d=true:=by exact rfl):VY P cfg al (⟨ix,⟨some d,.append t ag bytes z x y,none⟩,cf⟩::ld) K xr σ:=J9 h hw ha aw hb (fun e=>nomatch e) fun _=>k
theorem VY.u5{ag tg b u c:Nat}{x y:Operand}{hv:AV}{h:Int}{rows:List (List AV)}(aw:OB ps)(hb:0≤h∧h≤rows.length)(k:VY P cfg al ld K ((d,.s (.own ag tg b u c (rows.drop h.toNat)))::xr) σ)(ha:aL xr none [x,y]=some (og,[.own ag tg b u c rows,hv],ps):=by exact rfl)(hi:gT hv=some h:=by exact rfl):VY P cfg al (⟨ix,⟨some d,.slice ag x (some y) none,none⟩,cf⟩::ld) K xr σ:=by
 obtain⟨_,he⟩:=cE ha
 unfold aL gX at ha
 obtain⟨bJ,h',_,_⟩:=gE ha
 have cY:og=none:=by split at h'<;>cases h';rfl
 subst cY
 have:=he aw rfl
 simp only[bD,ZS,Zk]at this
 obtain⟨q,hq⟩:=qb hi
 constructor
 simp only[ef,dm,di,aB.cls,aK,ak,Option.map_none,Zc,this.1,this.2,nD,hq,XT,Zu]
 exact⟨trivial,hb.1,hb.2,Int.le_refl _,k.h⟩
end
end Go.Sx
namespace Go.Proofs.YtomhopcnkicknaaGreatDoor
open _root_.Go.Proofs.Tryz
open Go.Sx Go.Proofs Go.Tb
abbrev s0:ae:=⟨#[]⟩
abbrev sA:ae:=⟨#[97]⟩
abbrev sB:ae:=⟨#[98]⟩
abbrev sC:ae:=⟨#[99]⟩
abbrev sD:ae:=⟨#[100]⟩
abbrev sE:ae:=⟨#[101]⟩
abbrev sK:ae:=⟨#[107]⟩
abbrev sU:ae:=⟨#[117,115,101,114]⟩
abbrev sT:ae:=⟨#[99,108,105,99,107,115]⟩
abbrev sN:ae:=⟨#[99,111,117,110,116]⟩
abbrev de:AV:= .v (.slice none 0 0)
def xd(n:ae):Ex:=⟨3,s0,n,s0,⟨0,0,s0⟩,[],0,⟨0,0⟩,[]⟩
def eV(n:ae)(x:Ex):aj:=⟨n,sU,⟨2,[],s0⟩,x,1⟩
def R8:Ex:=⟨1,s0,s0,s0,⟨1,1,s0⟩,[],0,⟨0,0⟩,[]⟩
def Sg:Ex:=⟨1,s0,s0,s0,⟨2,0,s0⟩,[],0,⟨0,0⟩,[]⟩
def qY:Ex:=⟨5,sN,s0,sT,⟨0,0,s0⟩,[],0,⟨1,0⟩,[R8,R8]⟩
def bX:Ex:=⟨7,⟨#[43]⟩,s0,s0,⟨0,0,s0⟩,[],0,⟨0,0⟩,[xd sA,xd sC]⟩
def cX:Ex:=⟨9,s0,s0,s0,⟨0,0,s0⟩,[],0,⟨0,0⟩,[xd sA,Sg]⟩
def dX:Ex:=⟨4,s0,sE,s0,⟨0,0,s0⟩,[],0,⟨0,0⟩,[xd sK]⟩
def aX:Ex:=⟨7,⟨#[43]⟩,s0,s0,⟨0,0,s0⟩,[],0,⟨0,0⟩,[xd sC,Sg]⟩
def fg:List aj:=[eV sA qY,eV sB bX,eV sC cX,eV sD dX]
def gO:List aj:=[eV sA aX,eV sB bX,eV sC cX,eV sD dX]
def ib:az:=⟨[⟨sT,sU,[],0⟩],fg,[],[]⟩
def om:az:=⟨[⟨sT,sU,[],0⟩],gO,[],[]⟩
theorem aMB(n:ae):Pure prog 23 [sv n] (.agg (xd n).row):=by
 refine k23.p fun σ=> ?_
 repeat'(first|exact .nil|refine .k0 ?_|refine .k1 ?_|refine .k2 ?_|refine .k7 ?_|refine .r1 ?_ ?_|(refine .l1 ?_;intro b)|fail)
 all_goals(try simp only[BL]at *)
 exact Zw
theorem x6(n:ae)(x:Ex):Pure prog 22 [sv n,.agg x.row] (.agg (eV n x).cells):=by
 refine k22.p fun σ=> ?_
 repeat'(first|exact .nil|refine .k0 ?_|refine .k1 ?_|refine .k2 ?_|refine .k7 ?_|refine .r1 ?_ ?_|(refine .l1 ?_;intro b)|(refine .m1 ?_ ?_;intro b)|fail)
 all_goals(try simp only[BL]at *)
 exact Zw
theorem qm:ct sA sB=true∧ct sA sC=true∧ct sA sD=true∧ct sB sC=true∧ct sB sD=true∧ct sC sD=true∧ct sE sK=true∧ct sA sA=false∧ct sB sA=false∧ct sC sA=false∧ct sC sB=false∧ct sD sA=false∧ct sD sB=false∧ct sD sC=false:=by
 simp[ct,ByteArray.toList_eq,Op.bytesLess]
theorem Fc:findF fg sA=some (eV sA qY)∧findF fg sB=some (eV sB bX)∧findF fg sC=some (eV sC cX)∧findF fg sD=some (eV sD dX)∧findF fg sE=none∧findF fg sK=none:=by simp[findF,fg,eV]
theorem ab2:findF gO sA=some (eV sA aX)∧findF gO sB=some (eV sB bX)∧findF gO sC=some (eV sC cX)∧findF gO sD=some (eV sD dX)∧findF gO sE=none∧findF gO sK=none:=by simp[findF,gO,eV]
theorem O2:aQ fg=[sA,sB,sC,sD]:=mH (zR _) (by simp[bg,qm]) fun x=>by
 rw[oX,CB];simp[fg,eV,eq_comm]
theorem CZ:aQ gO=[sA,sB,sC,sD]:=mH (zR _) (by simp[bg,qm]) fun x=>by
 rw[oX,CB];simp[gO,eV,eq_comm]
theorem ot:qY.aR=[]∧bX.aR=[sA,sC]∧cX.aR=[sA]∧dX.aR=[sE,sK]∧aX.aR=[sC]∧qY.bO=[sT]∧bX.bO=[]∧cX.bO=[]∧dX.bO=[]∧aX.bO=[]:=⟨rfl,rfl,rfl,rfl,rfl,rfl,rfl,rfl,rfl,rfl⟩
theorem aaR{x:Ex}{l:List ae}(h:bg l)(e:x.aR=l):ml x=l:=mH (Lc x) h fun s=>by rw[Lb,e]
theorem qZ{fs:List aj}{n:ae}{f:aj}{l m:List ae}(hf:findF fs n=some f)(he:f.body.aR=l)(hs:bg l)(hm:l.filter (jt fs)=m):deps fs n=m:=by
 unfold deps;rw[hf];simp only[aaR hs he];exact hm
theorem K2:deps fg sA=[]∧deps fg sB=[sA,sC]∧deps fg sC=[sA]∧deps fg sD=[]:=by
 obtain⟨h1,h2,h3,h4,h5,h6⟩:=Fc
 refine⟨qZ h1 ot.1 (by simp[bg]) rfl,qZ h2 ot.2.1 (by simp[bg,qm]) ?_,qZ h3 ot.2.2.1 (by simp[bg]) ?_,qZ h4 ot.2.2.2.1 (by simp[bg,qm]) ?_⟩
 all_goals simp[jt,h1,h2,h3,h4,h5,h6]
theorem EV:deps gO sA=[sC]∧deps gO sB=[sA,sC]∧deps gO sC=[sA]∧deps gO sD=[]:=by
 obtain⟨h1,h2,h3,h4,h5,h6⟩:=ab2
 refine⟨qZ h1 ot.2.2.2.2.1 (by simp[bg]) ?_,qZ h2 ot.2.1 (by simp[bg,qm]) ?_,qZ h3 ot.2.2.1 (by simp[bg]) ?_,qZ h4 ot.2.2.2.1 (by simp[bg,qm]) ?_⟩
 all_goals simp[jt,h1,h2,h3,h4,h5,h6]
theorem ahc:nL (deps fg) (aQ fg)=[sA,sC,sB,sD]:=by
 obtain⟨h1,h2,h3,h4⟩:=K2
 rw[O2]
 simp[nL,ub,j8,ready,List.find?,h1,h2,h3,h4]
theorem ahd:nL (deps gO) (aQ gO)=[sD]:=by
 obtain⟨h1,h2,h3,h4⟩:=EV
 rw[CZ]
 simp[nL,ub,j8,ready,List.find?,h1,h2,h3,h4]
theorem PX{g:ae→List ae}{r:ae→Nat}(h:∀ a b,b∈g a→r b<r a):∀ (q:List ae) (a:ae),c6 g a q→r (bh a q)≤r a
 |[],a,_=>ZR _
 |b::q,a,hp=>by have h1:=PX h q b hp.2;have h2:=h a b hp.1;rw[bh];omega
theorem aat{fs:List aj}{N:List ae}(hN:aQ fs=N){a b:ae}(h:b∈deps fs a):a∈N:=by rw[← hN];exact aau h
def P7(s:ae):Nat:=if s=sB then 2 else if s=sC then 1 else 0
theorem Xx:gM (deps fg) (aQ fg)=[]:=u9 (.inl ⟨rfl,fun a _ q hc=>by
 have hr:∀ a b,b∈deps fg a→P7 b<P7 a:=fun a b hb=>by
  obtain⟨h1,h2,h3,h4⟩:=K2
  have ha:=aat O2 hb
  simp only[ZQ,Yt,or_false]at ha
  rcases ha with rfl|rfl|rfl|rfl
  ·rw[h1]at hb;cases hb
  ·rw[h2]at hb;simp at hb;rcases hb with rfl|rfl<;>decide
  ·rw[h3]at hb;simp at hb;subst hb;decide
  ·rw[h4]at hb;cases hb
 have h1:=PX hr q a hc.1
 have h2:=hr _ _ hc.2
 omega⟩)
theorem aab:gM (deps gO) (aQ gO)=[sA,sC]:=u9 (.inr ⟨sA,[sC],rfl,by rw[CZ];simp,by
  obtain⟨h1,h2,h3,h4⟩:=EV
  refine⟨⟨⟨by rw[h1];simp,trivial⟩,by show sA∈deps gO sC;rw[h3];simp⟩,fun m hm=> ?_,fun m hm hl=> ?_⟩
  ·cases m with
   |nil=>have:=hm.2;simp only[bh,h1,Zq]at this;exact absurd this (by decide)
   |cons b m=>simp
  ·match m,hl,hm with
   |[b],_,hm=>
    have:=hm.1.1
    rw[h1,Zq]at this
    subst this;exact .inl rfl,fun b hb ax=>by
  rw[CZ]at hb
  simp only[ZQ,Yt,or_false]at hb
  rcases hb with rfl|rfl|rfl|rfl<;>simp[qm]at ax,fun b hb m hm=>by
  obtain⟨h1,h2,h3,h4⟩:=EV
  cases m with
  |cons c m=>simp
  |nil=>
   exfalso
   have:=hm.2
   rw[CZ]at hb
   simp only[ZQ,Yt,or_false]at hb
   simp only[bh]at this
   rcases hb with rfl|rfl|rfl|rfl
   ·rw[h1]at this;exact absurd this (by decide)
   ·rw[h2]at this;exact absurd this (by decide)
   ·rw[h3]at this;exact absurd this (by decide)
   ·rw[h4]at this;cases this⟩)
theorem Rp:rY fg bX=[sA,sC]∧rZ fg bX=[sT]:=by
 obtain⟨h1,h2,h3,h4,h5,h6⟩:=Fc
 obtain⟨k1,k2,k3,k4,k5,k6,k7,k8,k9,Hh⟩:=ot
 have:=Dd (fs:=fg) (s:=bX.aR) (t:=bX.bO) (F:=[sA,sC]) (T:=[sT]) (by rw[k2];exact fun n h=>h) (by rw[k7];exact fun n h=>nomatch h) (by rw[k2];exact fun n h=> .base h)
  (fun x hx=> .inr ⟨sA,_,.base (by rw[k2];simp),h1,by rw[show(eV sA qY).body.bO=[sT]from k6];exact hx⟩) (fun n hn f hf=>by
   simp only[ZQ,Yt,or_false]at hn
   rcases hn with rfl|rfl
   ·rw[h1]at hf;cases hf
    rw[show(eV sA qY).body.aR=[]from k1,show(eV sA qY).body.bO=[sT]from k6]
    exact⟨fun m h=>(nomatch h),fun m h=>h⟩
   ·rw[h3]at hf;cases hf
    rw[show(eV sC cX).body.aR=[sA]from k3,show(eV sC cX).body.bO=[]from k8]
    exact⟨fun m h=>by simp at h;simp[h],fun m h=>(nomatch h)⟩)
 exact⟨rR (by simp[bg,qm]) this.1,rR (by simp[bg]) this.2⟩
theorem Rq:rY fg dX=[sE,sK]∧rZ fg dX=[]:=by
 obtain⟨h1,h2,h3,h4,h5,h6⟩:=Fc
 obtain⟨k1,k2,k3,k4,k5,k6,k7,k8,k9,Hh⟩:=ot
 have:=Dd (fs:=fg) (s:=dX.aR) (t:=dX.bO) (F:=[sE,sK]) (T:=[]) (by rw[k4];exact fun n h=>h) (by rw[k9];exact fun n h=>nomatch h) (by rw[k4];exact fun n h=> .base h)
  (fun x hx=>nomatch hx) (fun n hn f hf=>by
   simp only[ZQ,Yt,or_false]at hn
   rcases hn with rfl|rfl
   ·rw[h5]at hf;cases hf
   ·rw[h6]at hf;cases hf)
 exact⟨rR (by simp[bg,qm]) this.1,rR (by simp[bg]) this.2⟩
theorem RO:Pure prog 29 [.agg [de,de,de,de]] (iv 0):=by
 refine N8.p fun σ=> ?_
 repeat'(first|exact .nil|refine .k0 ?_|refine .k1 ?_|refine .k2 ?_|refine .k6 ?_|refine .r1 ?_ ?_|(refine .m1 ?_ ?_;intro b)|(refine .m3 ?_ ?_;intro hlen)|(refine .l3 ?_;intro b)|fail)
 all_goals(try simp only[BL]at *)
 ·decide
 refine aH (fun n rg af=>∃ i:Nat,i≤3∧n=3-i∧af=(11,b,aG.map [] 0)::σ∧rg=[(3,.dc 11 b),(18,.sl true 1 [[de],[de],[de]]),(19,iv 3),(20,iv i)]) 3 rfl ⟨_,_,Zr,Zs,0,by omega,rfl,rfl,rfl⟩ ?_
 rintro n _ _ ⟨i,hi,hn,rfl,rfl⟩
 rcases(show i=0∨i=1∨i=2∨i=3 by omega)with rfl|rfl|rfl|rfl
 ·repeat'(first|exact .nil|refine .k0 ?_|refine .k1 ?_|refine .k2 ?_|refine .k6 ?_|refine .k7 ?_|refine .k8 ?_|refine .k9 ?_|(refine .cd ?_ ?_<;>(intro hc;skip))|refine .r1 ?_ ?_|refine .r8 ?_ ?_|fail)
  all_goals(try simp only[BL]at *)
  any_goals(show True∧_;exact⟨trivial,by decide,by decide⟩)
  any_goals(show Sx.Fin _ _ _ _;exact Zw)
  all_goals
   refine aH (fun n rg af=>af=(11,b,aG.map [] 0)::σ∧rg=[(3,.dc 11 b),(4,iv (0:Nat)),(5,de),(18,.sl true 1 [[de],[de],[de]]),(19,iv 3),(20,iv (0:Nat)),(25,de),(26,iv (0:Nat)),(27,iv 0)]) 0 rfl ⟨_,_,Zr,Zs,rfl,rfl⟩ ?_
   rintro n2 _ _ ⟨rfl,rfl⟩
   repeat'(first|exact .nil|refine .k0 ?_|refine .k1 ?_|refine .k2 ?_|refine .k6 ?_|refine .k8 ?_|refine .k9 ?_|(refine .cd ?_ ?_<;>(intro hc;skip))|refine .r1 ?_ ?_|fail)
   all_goals(try simp only[BL]at *)
   all_goals first
    |(exfalso;revert hc;decide)
    |(refine⟨3-1,by omega,_,_,Zr,Zs,1,by omega,rfl,rfl,rfl⟩)
 ·repeat'(first|exact .nil|refine .k0 ?_|refine .k1 ?_|refine .k2 ?_|refine .k6 ?_|refine .k7 ?_|refine .k8 ?_|refine .k9 ?_|(refine .cd ?_ ?_<;>(intro hc;skip))|refine .r1 ?_ ?_|refine .r8 ?_ ?_|fail)
  all_goals(try simp only[BL]at *)
  any_goals(show True∧_;exact⟨trivial,by decide,by decide⟩)
  any_goals(show Sx.Fin _ _ _ _;exact Zw)
  all_goals
   refine aH (fun n rg af=>af=(11,b,aG.map [] 0)::σ∧rg=[(3,.dc 11 b),(4,iv (1:Nat)),(5,de),(18,.sl true 1 [[de],[de],[de]]),(19,iv 3),(20,iv (1:Nat)),(25,de),(26,iv (0:Nat)),(27,iv 0)]) 0 rfl ⟨_,_,Zr,Zs,rfl,rfl⟩ ?_
   rintro n2 _ _ ⟨rfl,rfl⟩
   repeat'(first|exact .nil|refine .k0 ?_|refine .k1 ?_|refine .k2 ?_|refine .k6 ?_|refine .k8 ?_|refine .k9 ?_|(refine .cd ?_ ?_<;>(intro hc;skip))|refine .r1 ?_ ?_|fail)
   all_goals(try simp only[BL]at *)
   all_goals first
    |(exfalso;revert hc;decide)
    |(refine⟨3-2,by omega,_,_,Zr,Zs,2,by omega,rfl,rfl,rfl⟩)
 ·repeat'(first|exact .nil|refine .k0 ?_|refine .k1 ?_|refine .k2 ?_|refine .k6 ?_|refine .k7 ?_|refine .k8 ?_|refine .k9 ?_|(refine .cd ?_ ?_<;>(intro hc;skip))|refine .r1 ?_ ?_|refine .r8 ?_ ?_|fail)
  all_goals(try simp only[BL]at *)
  any_goals(show True∧_;exact⟨trivial,by decide,by decide⟩)
  any_goals(show Sx.Fin _ _ _ _;exact Zw)
  all_goals
   refine aH (fun n rg af=>af=(11,b,aG.map [] 0)::σ∧rg=[(3,.dc 11 b),(4,iv (2:Nat)),(5,de),(18,.sl true 1 [[de],[de],[de]]),(19,iv 3),(20,iv (2:Nat)),(25,de),(26,iv (0:Nat)),(27,iv 0)]) 0 rfl ⟨_,_,Zr,Zs,rfl,rfl⟩ ?_
   rintro n2 _ _ ⟨rfl,rfl⟩
   repeat'(first|exact .nil|refine .k0 ?_|refine .k1 ?_|refine .k2 ?_|refine .k6 ?_|refine .k8 ?_|refine .k9 ?_|(refine .cd ?_ ?_<;>(intro hc;skip))|refine .r1 ?_ ?_|fail)
   all_goals(try simp only[BL]at *)
   all_goals first
    |(exfalso;revert hc;decide)
    |(refine⟨3-3,by omega,_,_,Zr,Zs,3,by omega,rfl,rfl,rfl⟩)
 ·repeat'(first|exact .nil|refine .k0 ?_|refine .k1 ?_|refine .k2 ?_|refine .k6 ?_|refine .k7 ?_|refine .k8 ?_|refine .k9 ?_|(refine .cd ?_ ?_<;>(intro hc;skip))|refine .r1 ?_ ?_|refine .r8 ?_ ?_|fail)
  all_goals(try simp only[BL]at *)
  all_goals first|(exfalso;revert hc;decide)|(show Sx.Fin _ _ _ _;(refine Sx.Fin.wk Zs ?_;repeat' first|exact .refl _|fail))
def EK:az:=⟨[],[],[],[]⟩
theorem Xw:gM (deps []) (aQ [])=[]:=u9 (.inl ⟨rfl,fun a h=>nomatch h⟩)
theorem aae:Pure prog 27 [.agg [de,de,de,de]] (jA []):=by
 have h:=Bn EK ⟨fun f h=>(nomatch h),fun f h=>(nomatch h),by show 0≤_;omega⟩
 rw[show gM (deps EK.features) (aQ EK.features)=[]from Xw]at h
 exact h.wk (.cons (.agg (.cons .nil (.cons .nil (.cons .nil (.cons .nil .nil))))) .nil)
theorem WY:Pure prog 9 [.agg [de,de,de,de]] (iv 0):=by
 refine k9.p fun σ=> ?_
 repeat'(first|exact .nil|refine .k0 ?_|refine .k1 ?_|refine .k2 ?_|refine .k6 ?_|refine .k7 ?_|refine .k9 ?_|(refine .cd ?_ ?_<;>(intro hc;skip))|refine .r1 ?_ ?_|(refine .m1 ?_ ?_;intro b)|refine .r8 ?_ ?_|fail)
 all_goals(try simp only[BL]at *)
 ·exfalso;revert hc;decide
 refine aH (fun n rg af=>af=(1,b,aG.cells [de,de,de,de])::σ∧rg=[(1,.lp 1 b 0),(33,de),(34,iv (0:Nat)),(35,iv 0)]) 0 rfl ⟨_,_,Zr,Zs,rfl,rfl⟩ ?_
 rintro n _ _ ⟨rfl,rfl⟩
 repeat'(first|exact .nil|refine .k0 ?_|refine .k1 ?_|refine .k2 ?_|refine .k6 ?_|refine .k8 ?_|refine .k9 ?_|(refine .cd ?_ ?_<;>(intro hc;first|exact kt hc (by assumption)|skip))|refine .r1 ?_ ?_|refine .an rfl (by intro aq;first|exact RO|fail) ?_ ?_|refine .r8 ?_ ?_|fail)
 all_goals(try simp only[BL]at *)
 ·exfalso;revert hc;decide
 refine aH (fun n rg af=>af=(1,b,aG.cells [de,de,de,de])::σ∧rg=[(1,.lp 1 b 0),(66,de),(67,iv (0:Nat)),(68,iv 0)]) 0 rfl ⟨_,_,Zr,Zs,rfl,rfl⟩ ?_
 rintro n _ _ ⟨rfl,rfl⟩
 repeat'(first|exact .nil|refine .k0 ?_|refine .k1 ?_|refine .k2 ?_|refine .k6 ?_|refine .k7 ?_|refine .k8 ?_|refine .k9 ?_|(refine .cd ?_ ?_<;>(intro hc;first|exact kt hc (by assumption)|skip))|refine .r1 ?_ ?_|(refine .m2 ?_ ?_;intro hlen)|refine .an rfl (by intro aq;first|exact RO|exact aae) ?_ ?_|fail)
 all_goals(try simp only[BL]at *)
 ·exfalso;revert hc;decide
 all_goals(show Sx.Fin _ _ _ _;(refine Sx.Fin.wk Zs ?_;repeat' first|exact .refl _|fail))
structure UR(fs:List aj)(x:Ex)(F T:List ae):Prop where
 sf:bg F
 st:bg T
 rf:∀ m∈F,Reach fs x.aR m
 rt:∀ m∈T,uN fs x.aR x.bO m
 bf:∀ m∈x.aR,m∈F
 bt:∀ m∈x.bO,m∈T
def UD(fs:List aj)(now F T:List ae):Prop:=∀ m∈now,∀ f,findF fs m=some f→(∀ s∈f.body.aR,s∈F)∧∀ s∈f.body.bO,s∈T
variable {fs:List aj}{x:Ex}{F T:List ae}
theorem UR.Hq(h:UR fs x F T):T.length≤(lY fs x).length:=gn (wR h.st) fun m hm=>P3 (h.rt m hm)
theorem UR.start(fs:List aj)(x:Ex):UR fs x (fI x ([],[])).1 (fI x ([],[])).2:=by
 have hm:=Bv x ([],[])
 have hs:=Bw x ([],[]) o5 o5
 exact⟨hs.1,hs.2,fun m h=> .base (by simpa using(hm.1 m).1 h),fun m h=> .inl (by simpa using(hm.2 m).1 h),fun m h=>(hm.1 m).2 (.inl h),fun m h=>(hm.2 m).2 (.inl h)⟩
theorem UR.step{n:ae}{f:aj}(h:UR fs x F T)(hn:n∈F)(hf:findF fs n=some f):UR fs x (fI f.body (F,T)).1 (fI f.body (F,T)).2:=by
 have hm:=Bv f.body (F,T)
 have hs:=Bw f.body (F,T) h.sf h.st
 refine⟨hs.1,hs.2,fun m k=> ?_,fun m k=> ?_,fun m k=>(hm.1 m).2 (.inr (h.bf m k)),fun m k=>(hm.2 m).2 (.inr (h.bt m k))⟩
 ·rcases(hm.1 m).1 k with k|k
  ·exact .step (h.rf n hn) hf k
  ·exact h.rf m k
 ·rcases(hm.2 m).1 k with k|k
  ·exact .inr ⟨n,f,h.rf n hn,hf,k⟩
  ·exact h.rt m k
structure UI(fs:List aj)(x:Ex)(now:List ae)(i:Nat)(F T:List ae):Prop where
 u:UR fs x F T
 s:∀ m∈now,m∈F
 d:UD fs (now.take i) F T
theorem UI.no{now:List ae}{i:Nat}(h:UI fs x now i F T)(hi:i<now.length)(hf:findF fs (now.getD i default)=none):UI fs x now (i+1) F T:=by
 refine⟨h.u,h.s,fun m hm f Gn=> ?_⟩
 rw[ZV hi,ZI,Zq]at hm
 rcases hm with hm|rfl
 ·exact h.d m hm f Gn
 ·rw[getD_eq hi]at hf;rw[hf]at Gn;cases Gn
def UO(fs:List aj)(x:Ex)(n:Int)(F T:List ae):Prop:=UR fs x F T∧(n= -1∨∃ now:List ae,bg now∧n=now.length∧(∀ m∈now,m∈F)∧UD fs now F T)
theorem UO.done{n:Int}(h:UO fs x n F T)(hn:n=F.length):rY fs x=F∧rZ fs x=T:=by
 obtain⟨hu,jQ⟩:=h
 obtain⟨now,h1,h2,h3,h4⟩:∃ now:List ae,bg now∧n=now.length∧(∀ m∈now,m∈F)∧UD fs now F T:=by
  rcases jQ with h|h
  ·omega
  ·exact h
 have he:now=F:=aLJ h1 hu.sf h3 (by omega)
 subst he
 obtain⟨k1,k2⟩:=Dd hu.bf hu.bt hu.rf hu.rt h4
 exact⟨rR hu.sf k1,rR hu.st k2⟩
theorem UO.lt{n:Int}(h:UO fs x n F T)(hn:n≠F.length):n<F.length:=by
 obtain⟨hu,rfl|⟨now,h1,h2,h3,h4⟩⟩:=h
 ·omega
 ·have:=gn (wR h1) h3;omega
theorem UI.out{now:List ae}(hs:bg now)(h:UI fs x now now.length F T):UO fs x now.length F T:=
 ⟨h.u,.inr ⟨now,hs,rfl,h.s,by have:=h.d;rwa [Yu]at this⟩⟩
abbrev dM:AV:= .v (.slice none 0 0)
theorem aaO(x:Ex)(h1:x.aR.length≤1000000)(h2:x.bO.length≤1000000):Pure prog 170 [.agg x.row,dM,dM] (.aE [cS (ml x),cS (Li x)]):=
 (aaP x [] [] (by simpa using h1) (by simpa using h2)).wk (.cons (Wk.refl _) (.cons .nil (.cons .nil .nil)))
theorem Dr:∀ (a b:List Ex),Ex.cB (a++b)=Ex.cB a+Ex.cB b
 |[],b=>by rw[Y0,Ex.cB];omega
 |x::a,b=>by rw[Ze,Ex.cB,Ex.cB,Dr a b];omega
theorem LZ:∀ fs:List aj,(fs.flatMap fun f=>f.body.aR).length≤Ex.cB (fs.map aj.body)∧(fs.flatMap fun f=>f.body.bO).length≤Ex.cB (fs.map aj.body)
 |[]=>by simp
 |f::fs=>by
  have h1:=LZ fs
  have h2:=sX f.body
  simp only[List.flatMap_cons,Z9,ZC,Ex.cB]
  omega
theorem agq{fs:List aj}{f:aj}(h:f∈fs):f.body.size≤Ex.cB (fs.map aj.body):=by
 obtain⟨a,b,rfl⟩:=X5 h
 rw[Zz,Dr,ZC,Ex.cB];omega
theorem Small.size{c:az}(h:Small c):Ex.cB (c.features.map aj.body)≤2000:=by
 have h1:=h.n
 have h2:=Dz _ _ _ h1
 rw[h2]at h1
 unfold az.all at h1
 rw[Zz,Zz,Dr,Dr]at h1
 omega
mutual
theorem uz:∀ (x:Ex) (s:ae),(s∈x.aR∨s∈x.bO)→s.size≤x.wt
 | .mk k o n t v _ _ _ ks,s,h=>by
  have ih:=R7 ks s
  rw[Ex.wt]
  rw[Ex.aR,Ex.bO,ZI,ZI]at h
  have e1:s∈(if k=3∨k=4 then[n]else[])→s=n:=fun h=>by split at h<;>simp_all
  have e2:s∈(if k=5 then[t]else[])→s=t:=fun h=>by split at h<;>simp_all
  rcases h with(h|h)|(h|h)
  ·obtain rfl:=e1 h;omega
  ·have:=ih (.inl h);omega
  ·obtain rfl:=e2 h;omega
  ·have:=ih (.inr h);omega
theorem R7:∀ (l:List Ex) (s:ae),(s∈Ex.cM l∨s∈Ex.bG l)→s.size≤Ex.xh l
 |[],s,h=>by simp[Ex.cM,Ex.bG]at h
 |x::l,s,h=>by
  have h1:=uz x s
  have h2:=R7 l s
  rw[Ex.cM,Ex.bG,ZI,ZI]at h
  rw[Ex.xh]
  rcases h with(h|h)|(h|h)
  ·have:=h1 (.inl h);omega
  ·have:=h2 (.inl h);omega
  ·have:=h1 (.inr h);omega
  ·have:=h2 (.inr h);omega
end
structure az.Fits(c:az):Prop where
 n:∀ f∈c.features,f.name.size≤2 ^ 60
 b:∀ f∈c.features,f.body.wt≤2 ^ 60
theorem Rn{c:az}{x:Ex}(hc:c.Fits)(hx:x.wt≤2 ^ 60):(∀ s∈univ c.features x.aR,s.size≤maxLen)∧∀ s∈lY c.features x,s.size≤maxLen:=by
 have hm:(2:Nat) ^ 60≤maxLen:=by unfold maxLen;decide
 refine⟨fun s h=> ?_,fun s h=> ?_⟩
 ·unfold univ at h
  rcases ZI.1 h with h|h
  ·have:=uz x s (.inl h);omega
  ·obtain⟨f,hf,h⟩:=XO.1 h
   have:=uz _ s (.inl h);have:=hc.b f hf;omega
 ·unfold lY at h
  rcases ZI.1 h with h|h
  ·have:=uz x s (.inr h);omega
  ·obtain⟨f,hf,h⟩:=XO.1 h
   have:=uz _ s (.inr h);have:=hc.b f hf;omega
theorem Rm{c:az}{x:Ex}(hs:Small c)(hx:x.size≤5000):(univ c.features x.aR).length≤7000∧(lY c.features x).length≤7000:=by
 have h1:=LZ c.features
 have h2:=hs.size
 have h3:=sX x
 unfold univ lY
 rw[Z9,Z9];omega
theorem Rs{c:az}{x:Ex}(hs:Small c)(hc:c.Fits)(hz:x.size≤5000)(hx:x.wt≤2 ^ 60):xJ c.features x:=
 ⟨ZJ (Rm hs hz).1 (by decide),ZJ (Rm hs hz).2 (by decide),(Rn hc hx).1,(Rn hc hx).2⟩
theorem Kt{c:az}(hs:Small c){f:aj}(hf:f∈c.features):f.body.size≤2000:=ZJ (agq hf) hs.size
theorem xU{c:az}(hs:Small c)(hc:c.Fits):sr c.features:=by
 have hm:(2:Nat) ^ 60≤maxLen:=by unfold maxLen;decide
 refine⟨fun f hf=> ?_,fun f hf=>ZJ (hc.n f hf) hm,by have:=hs.f;omega⟩
 have h1:=Kt hs hf
 have h2:=sX f.body
 have h3:=hc.b f hf
 exact⟨by omega,by omega,fun s h=>by have:=uz _ s (.inl h);omega,fun s h=>by have:=uz _ s (.inr h);omega⟩
theorem aLC{c:az}(h:Small c):Pure prog 4 [.agg c.cells] (.v (.bool true)):=by have:=QD c;rwa [Zd h]at this
theorem aLB{c:az}(h:¬Small c):Pure prog 4 [.agg c.cells] (.v (.bool false)):=by have:=QD c;rwa [ZA h]at this
theorem Ad(l:List ae):Pure prog 25 [cS l,cS l] (.v (.bool true)):=by have:=aLr l l;rwa [Zd rfl]at this
theorem mL:ib.Fits∧om.Fits∧Small ib∧Small om:=by
 refine⟨⟨?_,?_⟩,⟨?_,?_⟩,?_,?_⟩
 all_goals decide+kernel
theorem abd:Pure prog 24 [.agg ib.cells,.agg bX.cells] (.aE [jA [sA,sC],jA [sT]]):=by
 have h:=Rr ib bX (Rs mL.2.2.1 mL.1 (by decide+kernel) (by decide+kernel))
 rwa [show rY ib.features bX=[sA,sC]from Rp.1,show rZ ib.features bX=[sT]from Rp.2]at h
theorem abe:Pure prog 24 [.agg ib.cells,.agg dX.cells] (.aE [jA [sE,sK],jA []]):=by
 have h:=Rr ib dX (Rs mL.2.2.1 mL.1 (by decide+kernel) (by decide+kernel))
 rwa [show rY ib.features dX=[sE,sK]from Rq.1,show rZ ib.features dX=[]from Rq.2]at h
theorem aba:Pure prog 26 [.agg ib.cells] (jA [sA,sC,sB,sD]):=by
 have h:=Ps ib (xU mL.2.2.1 mL.1)
 rwa [show nL (deps ib.features) (aQ ib.features)=_ from ahc]at h
theorem abb:Pure prog 26 [.agg om.cells] (jA [sD]):=by
 have h:=Ps om (xU mL.2.2.2 mL.2.1)
 rwa [show nL (deps om.features) (aQ om.features)=_ from ahd]at h
theorem aa8:Pure prog 27 [.agg ib.cells] (jA []):=by
 have h:=Bn ib (xU mL.2.2.1 mL.1)
 rwa [show gM (deps ib.features) (aQ ib.features)=_ from Xx]at h
theorem aa9:Pure prog 27 [.agg om.cells] (jA [sA,sC]):=by
 have h:=Bn om (xU mL.2.2.2 mL.2.1)
 rwa [show gM (deps om.features) (aQ om.features)=_ from aab]at h
theorem abg:Pure prog 7 [] (.v (.bool true)):=by
 refine k7.pc (fun d=>bif ([33,106]:List Nat).elem d then 3 else 0) fun σ=> ?_
 repeat'(first|exact .nil|refine .k0 ?_|refine .k1 ?_|refine .k2 ?_|refine .k3 ?_|refine .k5 ?_|refine .k7 ?_|refine .k9 ?_|(refine .cd ?_ ?_<;>(intro hc;first|exact kt hc (by assumption)|skip))|refine .r1 ?_ ?_|(refine .l1 ?_;intro b)|(refine .m2 ?_ ?_;intro hlen)|refine .u4 ?_ ?_ (fun b u c=> ?_)|refine .u5 ?_ ?_ ?_|refine .an rfl (by intro aq;first|exact aMB _|(refine(x6 sA qY).wk ?_;(repeat' first|exact .refl _|exact .nil|refine .agg ?_|refine .cons ?_ ?_|refine .rows ?_);done)|(refine(x6 sB bX).wk ?_;(repeat' first|exact .refl _|exact .nil|refine .agg ?_|refine .cons ?_ ?_|refine .rows ?_);done)|(refine(x6 sC cX).wk ?_;(repeat' first|exact .refl _|exact .nil|refine .agg ?_|refine .cons ?_ ?_|refine .rows ?_);done)|(refine(x6 sD dX).wk ?_;(repeat' first|exact .refl _|exact .nil|refine .agg ?_|refine .cons ?_ ?_|refine .rows ?_);done)|(refine(x6 sA aX).wk ?_;(repeat' first|exact .refl _|exact .nil|refine .agg ?_|refine .cons ?_ ?_|refine .rows ?_);done)|(refine abd.wk ?_;(repeat' first|exact .refl _|exact .nil|exact .own _|refine .agg ?_|refine .cons ?_ ?_|refine .rows ?_);done)|(refine abe.wk ?_;(repeat' first|exact .refl _|exact .nil|exact .own _|refine .agg ?_|refine .cons ?_ ?_|refine .rows ?_);done)|(refine aba.wk ?_;(repeat' first|exact .refl _|exact .nil|exact .own _|refine .agg ?_|refine .cons ?_ ?_|refine .rows ?_);done)|(refine abb.wk ?_;(repeat' first|exact .refl _|exact .nil|exact .own _|refine .agg ?_|refine .cons ?_ ?_|refine .rows ?_);done)|(refine aa8.wk ?_;(repeat' first|exact .refl _|exact .nil|exact .own _|refine .agg ?_|refine .cons ?_ ?_|refine .rows ?_);done)|(refine aa9.wk ?_;(repeat' first|exact .refl _|exact .nil|exact .own _|refine .agg ?_|refine .cons ?_ ?_|refine .rows ?_);done)|exact WY|(refine(Ad [sA,sC]).wk ?_;(repeat' first|exact .refl _|exact .nil|refine .cons ?_ ?_|refine .rows ?_);done)|(refine(Ad [sT]).wk ?_;(repeat' first|exact .refl _|exact .nil|refine .cons ?_ ?_|refine .rows ?_);done)|(refine(Ad [sE,sK]).wk ?_;(repeat' first|exact .refl _|exact .nil|refine .cons ?_ ?_|refine .rows ?_);done)|(refine(Ad [sA,sC,sB,sD]).wk ?_;(repeat' first|exact .refl _|exact .nil|refine .cons ?_ ?_|refine .rows ?_);done)|(refine(Ad [sD]).wk ?_;(repeat' first|exact .refl _|exact .nil|refine .cons ?_ ?_|refine .rows ?_);done)) ?_ ?_|refine .r8 ?_ ?_|fail)
 try any_goals(exact Zo)
 all_goals(try simp only[BL]at *)
 any_goals(show List.length _≤1000000;exact ZW rfl)
 any_goals(show(List.length _+List.length _) * 248≤35184372088832;exact ZW rfl)
 any_goals(show True∧(0:Int)≤_∧_;exact⟨trivial,by decide,by show(_:Int)<((4:Nat):Int);decide⟩)
 any_goals exact absurd rfl hc
 any_goals(show(0:Int)≤1∧(1:Int)≤_;exact⟨by decide,by show(1:Int)≤((4:Nat):Int);decide⟩)
 all_goals(show Sx.Fin _ _ _ _;exact Zw)
end Go.Proofs.YtomhopcnkicknaaGreatDoor
