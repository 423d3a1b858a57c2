/- Lists of strings and of factors; units; types. -/
import Derived.Test.YtbihckigennlhaaGreatDoorPt
import Derived.Test.YtbihckigennlhaaGreatDoorCodeB
import Derived.Lib.ItoaLen
set_option linter.unusedSimpArgs false
set_option linter.unusedVariables false
set_option maxRecDepth 100000
namespace Go.Proofs.YtbihckigennlhaaGreatDoor
open Go.Sx Go.Proofs
def firstIdx{α:Type}(p:α→Bool):List α→Nat→Int
 |[],_=> -1
 |x::l,k=>if p x then k else firstIdx p l (k+1)
theorem yR{α:Type}(p:α→Bool):∀ (l:List α) (k:Nat),0≤firstIdx p l k↔∃ x∈l,p x=true
 |[],k=>by simp[firstIdx]
 |x::l,k=>by
  unfold firstIdx
  cases h:p x with
  |true=>simp[h]
  |false=>simp[h,yR p l (k+1)]
theorem yS{α:Type}{p:α→Bool}:∀ {l:List α} {k:Nat},(∀ x∈l,p x=false)→firstIdx p l k= -1
 |[],k,_=>rfl
 |x::l,k,h=>by unfold firstIdx;rw[h x (by simp)];exact yS fun y hy=>h y (by simp[hy])
theorem yQ{α:Type}[Inhabited α]{p:α→Bool}:∀ {l:List α} {k i:Nat},(∀ j,j<i→p (l.getD j default)=false)→i<l.length→p (l.getD i default)=true→firstIdx p l k=((k+i:Nat):Int)
 |[],k,i,_,h,_=>absurd h (by simp)
 |x::l,k,0,_,_,h=>by
  have h:p x=true:=h
  unfold firstIdx;rw[h];simp
 |x::l,k,i+1,ha,hi,h=>by
  have h0:p x=false:=ha 0 (by omega)
  unfold firstIdx
  rw[h0]
  simp only[ZT,ZA]
  rw[yQ (k:=k+1) (i:=i) (fun j hj=>ha (j+1) (by omega)) (by simpa using hi) h]
  congr 1;omega
theorem AX{α:Type}[Inhabited α]{p:α→Prop}{l:List α}(h:∀ j,j<l.length→p (l.getD j default)):∀ x∈l,p x:=fun x hx=>by
 obtain⟨i,hi,rfl⟩:=Zf.1 hx
 have:=h i hi
 rwa [getD_eq hi]at this
theorem WD(l:List ag)(x:ag):Pure Tryz.prog 129 [.sl false 1 (l.map ef),sv x] (iv (firstIdx (fun y=>decide (x=y)) l 0)):=by
 refine W6.p fun σ=> ?_
 repeat'(first|exact .nil|refine .k0 ?_|refine .k1 ?_|refine .k2 ?_|refine .k6 ?_|refine .r1 ?_ ?_|(refine .m2 ?_ ?_;intro hlen)|fail)
 all_goals(try simp only[BL]at *)
 refine dU (fun n rg σ'=>∃ i:Nat,i≤l.length∧n=l.length-i∧(∀ j,j<i→¬x=l.getD j default)∧σ'=σ∧rg=[(0,.sl false 1 (l.map ef)),(1,sv x),(7,iv l.length),(8,iv i)]) l.length rfl ⟨_,_,Zr,Zs,0,ZF _,rfl,fun j hj=>absurd hj (by omega),rfl,rfl⟩ ?_
 rintro n _ _ ⟨i,hi,hn,hp,rfl,rfl⟩
 repeat'(first|exact .nil|refine .k0 ?_|refine .k1 ?_|refine .k2 ?_|refine .k6 ?_|refine .k7 ?_|refine .k8 ?_|refine .k9 ?_|(refine .cd ?_ ?_<;>(intro hc;skip))|refine .r1 ?_ ?_|refine .t1 ?_ ?_ ?_|fail)
 try any_goals(exact Zo)
 all_goals(try simp only[BL]at *)
 ·rw[yQ (p:=fun y=>decide (x=y)) (l:=l) (k:=0) (i:=i) (fun j hj=>Zu (hp j hj)) (by omega) (Zn hc),Y8]
  exact Zw
 ·refine⟨l.length-(i+1),by omega,_,_,Zr,Zs,i+1,by omega,rfl,kh hp hc,rfl,by rw[fL (by omega) hlen]⟩
 ·rw[yS (fun y hy=>Zu (AX (p:=fun y=>¬x=y) (fun j hj=>hp j (by omega)) y hy))]
  exact Zw
theorem B8(l:List ag)(x:ag):Pure Tryz.prog 89 [.sl false 1 (l.map ef),sv x] (.v (.bool (decide (∃ y∈l,x=y)))):=by
 refine XT.p fun σ=> ?_
 repeat'(first|exact .nil|refine .k0 ?_|refine .k1 ?_|refine .k2 ?_|refine .k7 ?_|refine .r1 ?_ ?_|refine .an rfl (by intro aO;exact WD _ _) ?_ ?_|fail)
 all_goals(try simp only[BL]at *)
 ·(refine Sx.Fin.intro Zs (bd ?_);(try simp only[BL]at *);(try simp only[fP,fg,ia,and_assoc]at *))
  rw[yR]
  simp only[ZG]
theorem Tw(f:aq):Pure Tryz.prog 108 [.agg f.cells] (.v (.bool (decide (¬Name f.name)))):=by
 refine WX.p fun σ=> ?_
 repeat'(first|exact .nil|refine .k0 ?_|refine .k1 ?_|refine .k2 ?_|refine .k7 ?_|refine .r1 ?_ ?_|(refine .m1 ?_ ?_;intro b)|refine .an rfl (by intro aO;exact uN _) ?_ ?_|fail)
 all_goals(try simp only[BL]at *)
 ·refine Sx.Fin.intro Zs ?_
  rw[decide_not]
theorem WC(u:List aq):Pure Tryz.prog 149 [.sl false 2 (u.map aq.cells),.v (.func (.func 108) #[] #[])] (iv (firstIdx (fun f=>decide (¬Name f.name)) u 0)):=by
 refine Xb.p fun σ=> ?_
 repeat'(first|exact .nil|refine .k0 ?_|refine .k1 ?_|refine .k2 ?_|refine .k6 ?_|refine .r1 ?_ ?_|(refine .m2 ?_ ?_;intro hlen)|fail)
 all_goals(try simp only[BL]at *)
 refine dU (fun n rg σ'=>∃ i:Nat,i≤u.length∧n=u.length-i∧(∀ j,j<i→Name (u.getD j default).name)∧σ'=σ∧rg=[(0,.sl false 2 (u.map aq.cells)),(1,.v (.func (.func 108) #[] #[])),(7,iv u.length),(8,iv i)]) u.length rfl ⟨_,_,Zr,Zs,0,ZF _,rfl,fun j hj=>absurd hj (by omega),rfl,rfl⟩ ?_
 rintro n _ _ ⟨i,hi,hn,hp,rfl,rfl⟩
 repeat'(first|exact .nil|refine .k0 ?_|refine .k1 ?_|refine .k2 ?_|refine .k6 ?_|refine .k7 ?_|refine .k8 ?_|refine .k9 ?_|(refine .cd ?_ ?_<;>(intro hc;skip))|refine .r1 ?_ ?_|refine .t1 ?_ ?_ ?_|refine .an rfl (by intro aO;exact Tw _) ?_ ?_|fail)
 try any_goals(exact Zo)
 all_goals(try simp only[BL]at *)
 ·rw[yQ (p:=fun f:aq=>decide (¬Name f.name)) (l:=u) (k:=0) (i:=i) (fun j hj=>Zu (fun h=>h (hp j hj))) (by omega) (Zn hc),Y8]
  exact Zw
 ·refine⟨u.length-(i+1),by omega,_,_,Zr,Zs,i+1,by omega,rfl,kh hp (Zd.1 hc),rfl,by rw[fL (by omega) hlen]⟩
 ·rw[yS (fun y hy=>Zu (fun h=>h (AX (p:=fun y:aq=>Name y.name) (fun j hj=>hp j (by omega)) y hy)))]
  exact Zw
theorem Sc(u:List aq):Pure Tryz.prog 107 [.sl false 2 (u.map aq.cells),.v (.func (.func 108) #[] #[])] (.v (.bool (decide (∃ f∈u,¬Name f.name)))):=by
 refine WW.p fun σ=> ?_
 repeat'(first|exact .nil|refine .k0 ?_|refine .k1 ?_|refine .k2 ?_|refine .k7 ?_|refine .r1 ?_ ?_|refine .an rfl (by intro aO;exact WC _) ?_ ?_|fail)
 all_goals(try simp only[BL]at *)
 ·(refine Sx.Fin.intro Zs (bd ?_);(try simp only[BL]at *);(try simp only[fP,fg,ia,and_assoc]at *))
  rw[yR]
  simp only[ZG]
theorem Cg{α:Type}[Inhabited α]{a b:List α}(hl:a.length=b.length)(h:∀ j,j<a.length→a.getD j default=b.getD j default):a=b:=by
 apply List.ext_getElem hl
 intro i h1 h2
 have:=h i h1
 rwa [getD_eq h1,getD_eq h2]at this
theorem Iq{a b:aq}(h:a.name=b.name∧a.exp=b.exp):a=b:=by cases a;cases b;simp_all
theorem ar2(a b:List aq):Pure Tryz.prog 59 [.sl false 2 (a.map aq.cells),.sl false 2 (b.map aq.cells)] (.v (.bool (decide (a=b)))):=by
 refine XF.p fun σ=> ?_
 repeat'(first|exact .nil|refine .k0 ?_|refine .k1 ?_|refine .k2 ?_|refine .k6 ?_|refine .k7 ?_|refine .k9 ?_|(refine .cd ?_ ?_<;>(intro hc;skip))|refine .r1 ?_ ?_|(refine .m2 ?_ ?_;intro hlen)|fail)
 all_goals(try simp only[BL]at *)
 ·refine Sx.Fin.intro Zs (bf ?_)
  rintro rfl;exact hc rfl
 refine dU (fun n rg σ'=>∃ i:Nat,i≤a.length∧n=a.length-i∧(∀ j,j<i→a.getD j default=b.getD j default)∧σ'=σ∧rg=[(0,.sl false 2 (a.map aq.cells)),(1,.sl false 2 (b.map aq.cells)),(5,iv i)]) a.length rfl ⟨_,_,Zr,Zs,0,ZF _,rfl,fun j hj=>absurd hj (by omega),rfl,rfl⟩ ?_
 rintro n _ _ ⟨i,hi,hn,hp,rfl,rfl⟩
 repeat'(first|exact .nil|refine .k0 ?_|refine .k1 ?_|refine .k2 ?_|refine .k5 ?_|refine .k6 ?_|refine .k7 ?_|refine .k8 ?_|refine .k9 ?_|(refine .cd ?_ ?_<;>(intro hc;skip))|refine .r1 ?_ ?_|(refine .m2 ?_ ?_;intro hlen)|refine .t1 ?_ ?_ ?_|fail)
 try any_goals(exact Zo)
 all_goals(try simp only[BL]at *)
 ·refine Sx.Fin.intro Zs (bf ?_)
  rintro rfl
  rcases hc with hc|hc<;>exact hc rfl
 ·refine⟨a.length-(i+1),by omega,_,_,Zr,Zs,i+1,by omega,rfl,kh hp (Iq hc),rfl,by rw[fL (by omega) hlen]⟩
 ·refine Sx.Fin.intro Zs (bt ?_)
  exact Cg (by omega) (fun j hj=>hp j (by omega))
theorem SQ(a b:List aq):Pure Tryz.prog 130 [.sl false 2 (a.map aq.cells),.sl false 2 (b.map aq.cells)] (.v (.bool (decide (a=b)))):=by
 refine W7.p fun σ=> ?_
 repeat'(first|exact .nil|refine .k0 ?_|refine .k1 ?_|refine .k2 ?_|refine .k6 ?_|refine .k7 ?_|refine .k9 ?_|(refine .cd ?_ ?_<;>(intro hc;skip))|refine .r1 ?_ ?_|(refine .m2 ?_ ?_;intro hlen)|fail)
 all_goals(try simp only[BL]at *)
 ·refine Sx.Fin.intro Zs (bf ?_)
  rintro rfl;exact hc rfl
 refine dU (fun n rg σ'=>∃ i:Nat,i≤a.length∧n=a.length-i∧(∀ j,j<i→a.getD j default=b.getD j default)∧σ'=σ∧rg=[(0,.sl false 2 (a.map aq.cells)),(1,.sl false 2 (b.map aq.cells)),(12,iv a.length),(13,iv i)]) a.length rfl ⟨_,_,Zr,Zs,0,ZF _,rfl,fun j hj=>absurd hj (by omega),rfl,rfl⟩ ?_
 rintro n _ _ ⟨i,hi,hn,hp,rfl,rfl⟩
 repeat'(first|exact .nil|refine .k0 ?_|refine .k1 ?_|refine .k2 ?_|refine .k5 ?_|refine .k6 ?_|refine .k7 ?_|refine .k8 ?_|refine .k9 ?_|(refine .cd ?_ ?_<;>(intro hc;skip))|refine .r1 ?_ ?_|refine .t1 ?_ ?_ ?_|fail)
 try any_goals(exact Zo)
 all_goals(try simp only[BL]at *)
 ·refine Sx.Fin.intro Zs (bf ?_)
  rintro rfl
  rcases hc with hc|hc<;>exact hc rfl
 ·refine⟨a.length-(i+1),by omega,_,_,Zr,Zs,i+1,by omega,rfl,kh hp (Iq hc),rfl,by rw[fL (by omega) hlen]⟩
 ·refine Sx.Fin.intro Zs (bt ?_)
  exact Cg (by omega) (fun j hj=>hp j (by omega))
def zX(a b:ag):Bool:=Op.bytesLess a.toList b.toList || decide (a=b)
def mH(p:Option ag)(f:aq):Int:=if¬Word f.name then 1 else if f.exp=0∨f.exp>8∨f.exp< -8 then 70 else match p with
 |some p=>if zX f.name p=true then 3 else 0
 |none=>0
def jd:Option ag→List aq→Int
 |_,[]=>0
 |p,f::l=>if mH p f=0 then jd (some f.name) l else mH p f
def jc(u:List aq):Int:=if u.length>4 then 2 else jd none u
def oH(u:List aq)(i:Nat):Option ag:=if i=0 then none else some (u.getD (i-1) default).name
theorem as2{u:List aq}{i:Nat}(hi:i<u.length)(h:mH (oH u i) (u.getD i default)=0):jd (oH u i) (u.drop i)=jd (oH u (i+1)) (u.drop (i+1)):=by
 rw[yN hi,jd,if_pos h];rfl
theorem EY{u:List aq}{i:Nat}{e:Int}(hi:i<u.length)(h:mH (oH u i) (u.getD i default)=e)(he:e≠0):jd (oH u i) (u.drop i)=e:=by
 rw[yN hi,jd,if_neg (by rw[h];exact he),h]
theorem as1(u:List aq):Pure Tryz.prog 106 [.sl false 2 (u.map aq.cells)] (iv (jc u)):=by
 refine WV.p fun σ=> ?_
 repeat'(first|exact .nil|refine .k0 ?_|refine .k1 ?_|refine .k2 ?_|refine .k6 ?_|refine .k7 ?_|refine .k9 ?_|(refine .cd ?_ ?_<;>(intro hc;skip))|refine .r1 ?_ ?_|(refine .m2 ?_ ?_;intro hlen)|fail)
 all_goals(try simp only[BL]at *)
 ·rw[jc,if_pos (by omega)]
  exact Zw
 have hu:jc u=jd none u:=if_neg (by omega)
 refine dU (fun n rg σ'=>∃ i:Nat,i≤u.length∧n=u.length-i∧jc u=jd (oH u i) (u.drop i)∧σ'=σ∧rg=[(0,.sl false 2 (u.map aq.cells)),(8,.sl false 2 (u.map aq.cells)),(9,iv u.length),(10,iv i)]) u.length rfl ⟨_,_,Zr,Zs,0,ZF _,rfl,hu,rfl,rfl⟩ ?_
 rintro n _ _ ⟨i,hi,hn,hp,rfl,rfl⟩
 repeat'(first|exact .nil|refine .k0 ?_|refine .k1 ?_|refine .k2 ?_|refine .k3 ?_|refine .k4 ?_|refine .k5 ?_|refine .k6 ?_|refine .k7 ?_|refine .k8 ?_|refine .k9 ?_|(refine .cd ?_ ?_<;>(intro hc;skip))|refine .r1 ?_ ?_|(refine .l1 ?_;intro b)|refine .t1 ?_ ?_ ?_|refine .an rfl (by intro aO;first|exact NB _|exact Li _ 8 (by decide)|fail) ?_ ?_|fail)
 try any_goals(exact Zo)
 all_goals(try simp only[BL]at *)
 ·rw[hp,EY (e:=1) (by omega) (by unfold mH;rw[if_pos hc]) (by decide)]
  exact Zw
 ·rename_i hw
  rw[hp,EY (e:=70) (by omega) (by unfold mH;rw[if_neg (fun h=>h hw),if_pos (by omega)]) (by decide)]
  exact Zw
 ·rename_i hw he
  rw[Ek (by omega) (by omega),YS]at hc
  rw[hp,EY (e:=3) (by omega) (by
   unfold mH;rw[if_neg (fun h=>h hw),if_neg (by omega),oH,if_neg (by omega)]
   exact if_pos (by simp only[zX,Zk,ZG];exact hc.2)) (by decide)]
  exact Zw
 ·rename_i hw he
  refine⟨u.length-(i+1),by omega,_,_,Zr,Zs,i+1,by omega,rfl,?_,rfl,by rw[fL (n:=u.length) (by omega) (by assumption)]⟩
  rw[hp]
  refine as2 (by omega) ?_
  unfold mH;rw[if_neg (fun h=>h hw),if_neg (by omega)]
  by_cases h0:i=0
  ·rw[oH,if_pos h0]
  ·rw[Ek (by omega) (by omega),YS]at hc
   rw[oH,if_neg h0]
   refine if_neg ?_
   rcases hc with hc|hc
   ·omega
   ·simp only[zX,Zk,ZG]
    rintro(h|h)
    ·rw[h]at hc;exact Bool.noConfusion hc.1
    ·exact hc.2 h
 all_goals(try(intro h0;rw[Ek (by omega) (by omega)];omega))
 ·rw[hp,List.drop_eq_nil_of_le (by omega),jd]
  exact Zw
theorem bi{n m:Int}(h:n=m):AV.v (.int .i64 n)=iv m:=by rw[h]
def Num(t:Ty):Prop:=t.kind=2∨t.kind=3
instance (t:Ty):Decidable (Num t):=inferInstanceAs (Decidable (_∨_))
theorem WO(t:Ty):Pure Tryz.prog 105 [.agg t.cells] (.v (.bool (decide (Num t)))):=by
 refine WU.p fun σ=> ?_
 repeat'(first|exact .nil|refine .k0 ?_|refine .k1 ?_|refine .k2 ?_|refine .k4 ?_|refine .k7 ?_|refine .r1 ?_ ?_|(refine .m1 ?_ ?_;intro b)|fail)
 try any_goals(exact Zo)
 all_goals(try simp only[BL]at *)
 ·(((refine Sx.Fin.intro Zs (bd ?_);(try simp only[BL]at *);(try simp only[fP,fg,ia,and_assoc]at *)));try omega)
  unfold Num;omega
def gY(t:Ty):Int:=
 if t.kind<1∨t.kind>5∨(t.unit≠[]∧¬Num t)∨(t.kind=5∧¬Name t.of)∨(t.kind≠5∧t.of≠⟨#[]⟩)then 3
 else if jc t.unit≠0∨∃ f∈t.unit,¬Name f.name then 70 else 0
theorem aaL{s:ag}(h:Name s):s≠⟨#[]⟩:=fun e=>by have:=h.1.1;rw[AG.2 e]at this;omega
theorem M6{t:Ty}(h:t.kind<1∨t.kind>5∨(t.unit≠[]∧¬Num t)∨(t.kind=5∧¬Name t.of)∨(t.kind≠5∧t.of≠⟨#[]⟩)):gY t=3:=if_pos h
theorem asW{t:Ty}(h:¬(t.kind<1∨t.kind>5∨(t.unit≠[]∧¬Num t)∨(t.kind=5∧¬Name t.of)∨(t.kind≠5∧t.of≠⟨#[]⟩)))(h':jc t.unit≠0∨∃ f∈t.unit,¬Name f.name):gY t=70:=(if_neg h).trans (if_pos h')
theorem asV{t:Ty}(h:¬(t.kind<1∨t.kind>5∨(t.unit≠[]∧¬Num t)∨(t.kind=5∧¬Name t.of)∨(t.kind≠5∧t.of≠⟨#[]⟩)))(h':¬(jc t.unit≠0∨∃ f∈t.unit,¬Name f.name)):gY t=0:=(if_neg h).trans (if_neg h')
theorem aal{α:Type}{l:List α}:0<(l.length:Int)↔l≠[]:=by cases l<;>simp<;>omega
theorem M9(t:Ty):Pure Tryz.prog 55 [.agg t.cells] (iv (gY t)):=by
 have hl:= @aal aq t.unit
 have hn:= @aaL t.of
 refine XD.p fun σ=> ?_
 repeat'(first|exact .nil|refine .k0 ?_|refine .k1 ?_|refine .k2 ?_|refine .k4 ?_|refine .k7 ?_|refine .k9 ?_|(refine .cd ?_ ?_<;>(intro hc;skip))|refine .r1 ?_ ?_|(refine .m1 ?_ ?_;intro b)|(refine .m2 ?_ ?_;intro hlen)|refine .an rfl (by intro aO;first|exact uN _|exact as1 _|exact Sc _|exact WO _|fail) ?_ ?_|fail)
 try any_goals(exact Zo)
 all_goals(try simp only[BL]at *)
 ·rw[M6 (by grind)]
  exact Zw
 ·cases(decide (t.kind=5) == !decide (t.of=⟨#[]⟩))<;>simp
 ·rw[M6 (by grind)]
  exact Zw
 ·rename_i h1 h2
  rw[asW (by grind) hc]
  exact Zw
 ·rename_i h1 h2
  rw[asV (by grind) (by grind)]
  exact Zw
def pr(low:Nat)(c:UInt8):Prop:=low≤c.toNat∧c.toNat≤126∧c.toNat≠34∧c.toNat≠92
instance (low:Nat)(c:UInt8):Decidable (pr low c):=inferInstanceAs (Decidable (_∧_∧_∧_))
def lh(s:ag)(low:Nat):Prop:=∀ i,i<s.size→pr low (bH s i)
instance (s:ag)(low:Nat):Decidable (lh s low):=inferInstanceAs (Decidable (∀ i,i<s.size→_))
def pn(v:dQ):Prop:=0≤v.kind∧v.kind≤5∧(v.kind≤3→v.s=⟨#[]⟩)∧(v.kind=0→v.n=0)∧(v.kind=1→v.n=0∨v.n=1)∧(4≤v.kind→v.n=0)
instance (v:dQ):Decidable (pn v):=inferInstanceAs (Decidable (_∧_∧_∧_∧_∧_))
def mb(v:dQ):Int:=
 if¬pn v then 1
 else if v.n< -1152921504606846976∨v.n>1152921504606846976∨(v.kind=4∧v.s.size>64)∨(v.kind=5∧v.s.size>32)then 2
 else if(v.kind=4∧¬lh v.s 32)∨(v.kind=5∧(v.s=⟨#[]⟩∨¬lh v.s 33))then 3 else 0
theorem Nh(v:dQ):Pure Tryz.prog 88 [.agg v.cells] (iv (mb v)):=by
 refine XQ.p fun σ=> ?_
 repeat'(first|exact .nil|refine .k0 ?_|refine .k1 ?_|refine .k2 ?_|refine .k4 ?_|refine .k6 ?_|refine .k7 ?_|refine .k9 ?_|(refine .cd ?_ ?_<;>(intro hc;first|exact kf hc (by assumption)|skip))|refine .r1 ?_ ?_|(refine .m1 ?_ ?_;intro b)|fail)
 try any_goals(exact Zo)
 all_goals(try simp only[BL]at *)
 any_goals(refine Sx.Fin.intro Zs (bi ?_);unfold mb pn;grind)
 ·refine dU (fun n rg σ'=>∃ i:Nat,i≤v.s.size∧n=v.s.size-i∧(∀ j,j<i→pr 33 (bH v.s j))∧σ'=(1,b,cp.cells v.cells)::σ∧rg=[(1,.lp 1 b 0),(6,.v (.int .u8 33)),(88,iv v.s.size),(89,iv i)]) v.s.size rfl ⟨_,_,Zr,Zs,0,ZF _,rfl,fun j hj=>absurd hj (by omega),rfl,rfl⟩ ?_
  rintro n _ _ ⟨i,hi,hn,hp,rfl,rfl⟩
  repeat'(first|exact .nil|refine .k0 ?_|refine .k1 ?_|refine .k2 ?_|refine .k4 ?_|refine .k6 ?_|refine .k7 ?_|refine .k8 ?_|refine .k9 ?_|(refine .cd ?_ ?_<;>(intro hc;skip))|refine .r1 ?_ ?_|refine .t5 ?_ ?_ ?_|fail)
  try any_goals(exact Zo)
  all_goals(try simp only[BL]at *)
  ·refine Sx.Fin.intro Zs (bi ?_)
   have:¬lh v.s 33:=fun h=>by have:=h i (by omega);unfold pr at this;omega
   unfold mb pn;grind
  ·refine⟨v.s.size-(i+1),by omega,_,_,Zr,Zs,i+1,by omega,rfl,kh hp ?_,rfl,by rw[bw (by omega)];rfl⟩
   unfold pr;omega
  ·refine Sx.Fin.intro Zs (bi ?_)
   have:lh v.s 33:=fun j hj=>hp j (by omega)
   unfold mb pn;grind
 ·refine dU (fun n rg σ'=>∃ i:Nat,i≤v.s.size∧n=v.s.size-i∧(∀ j,j<i→pr 32 (bH v.s j))∧σ'=(1,b,cp.cells v.cells)::σ∧rg=[(1,.lp 1 b 0),(6,.v (.int .u8 32)),(88,iv v.s.size),(89,iv i)]) v.s.size rfl ⟨_,_,Zr,Zs,0,ZF _,rfl,fun j hj=>absurd hj (by omega),rfl,rfl⟩ ?_
  rintro n _ _ ⟨i,hi,hn,hp,rfl,rfl⟩
  repeat'(first|exact .nil|refine .k0 ?_|refine .k1 ?_|refine .k2 ?_|refine .k4 ?_|refine .k6 ?_|refine .k7 ?_|refine .k8 ?_|refine .k9 ?_|(refine .cd ?_ ?_<;>(intro hc;skip))|refine .r1 ?_ ?_|refine .t5 ?_ ?_ ?_|fail)
  try any_goals(exact Zo)
  all_goals(try simp only[BL]at *)
  ·refine Sx.Fin.intro Zs (bi ?_)
   have:¬lh v.s 32:=fun h=>by have:=h i (by omega);unfold pr at this;omega
   unfold mb pn;grind
  ·refine⟨v.s.size-(i+1),by omega,_,_,Zr,Zs,i+1,by omega,rfl,kh hp ?_,rfl,by rw[bw (by omega)];rfl⟩
   unfold pr;omega
  ·refine Sx.Fin.intro Zs (bi ?_)
   have:lh v.s 32:=fun j hj=>hp j (by omega)
   unfold mb pn;grind
def Ex.lay(x:Ex):List AV:=[iv x.kind,sv x.op,sv x.name,sv x.table,iv x.val.kind,iv x.val.n,sv x.val.s,.sl false 2 (x.unit.map aq.cells),iv x.param,iv x.win.kind,iv x.win.size,.sl false 12 (x.args.map Ex.row)]
theorem Ex.GV(x:Ex):x.args.length<x.size:=by
 have:∀ l:List Ex,l.length≤Ex.eI l:=fun l=>by
  induction l with
  |nil=>simp
  |cons y l ih=>have:=Ex.size_pos y;simp only[Z8,Ex.eI];omega
 have:=this x.args
 rw[Ex.l9];omega
theorem Ex.aso{x:Ex}{i:Nat}(h:i<x.args.length)(hs:x.size≤100000):IntKind.i64.wrap (((1+Ex.eI (x.args.take i):Nat):Int)+(x.args.getD i default).size)=((1+Ex.eI (x.args.take (i+1)):Nat):Int):=by
 have h1:=Ex.ar6 h
 have h2:=Ex.ar7 x.args (i+1)
 have h3:=Ex.l9 x
 rw[bw (by omega),h1];omega
theorem Ex.asn{x:Ex}{i:Nat}(h:i<x.args.length):(if false=true then(if((x.args.getD i default).depth:Int)<(Ex.ic (x.args.take i):Int)then((x.args.getD i default).depth:Int)else Ex.ic (x.args.take i))else(if((x.args.getD i default).depth:Int)>(Ex.ic (x.args.take i):Int)then((x.args.getD i default).depth:Int)else Ex.ic (x.args.take i)))=((Ex.ic (x.args.take (i+1)):Nat):Int):=by
 rw[if_neg Bool.false_ne_true,Ex.Sy h]
 split<;>omega
theorem Ex.SL{x:Ex}{i:Nat}(h:x.args.length≤i)(hs:x.size≤100000):IntKind.i64.wrap ((Ex.ic (x.args.take i):Int)+1)=(x.depth:Int):=by
 have:=Ex.HV x
 have h2:=Ex.Sz x
 rw[ZD h,bw (by omega)];omega
theorem ar9(x:Ex):x.size≤100000→Pure Tryz.prog 40 [.agg x.row] (iv x.size):=by
 induction x using Ex.ind with
 |h x ih=>
 intro hs
 have iU:∀ y∈x.args,Pure Tryz.prog 40 [.agg y.row] (iv y.size):=fun y hy=>ih y hy (by have:=Ex.xU hy;omega)
 have hl:=Ex.GV x
 rw[Ex.cY]
 refine Xz.p fun σ=> ?_
 repeat'(first|exact .nil|refine .k0 ?_|refine .k1 ?_|refine .k2 ?_|refine .k6 ?_|refine .r1 ?_ ?_|(refine .m1 ?_ ?_;intro b)|(refine .m2 ?_ ?_;intro hlen)|fail)
 all_goals(try simp only[BL]at *)
 refine dU (fun n rg σ'=>∃ i:Nat,i≤x.args.length∧n=x.args.length-i∧σ'=(1,b,cp.cells x.lay)::σ∧rg=[(2,iv (1+Ex.eI (x.args.take i):Nat)),(6,.sl false 12 (x.args.map Ex.row)),(7,iv x.args.length),(8,iv i)]) x.args.length rfl ⟨_,_,Zr,Zs,0,ZF _,rfl,rfl,rfl⟩ ?_
 rintro n _ _ ⟨i,hi,hn,rfl,rfl⟩
 repeat'(first|exact .nil|refine .k0 ?_|refine .k1 ?_|refine .k2 ?_|refine .k6 ?_|refine .k7 ?_|refine .k8 ?_|refine .k9 ?_|(refine .cd ?_ ?_<;>(intro hc;skip))|refine .r1 ?_ ?_|(refine .l1 ?_;intro b)|refine .t1 ?_ ?_ ?_|refine .an rfl (by intro aO;exact iU (x.args.getD i default) (ei (by(simp only[BL]at *;omega)))) ?_ ?_|fail)
 try any_goals(exact Zo)
 all_goals(try simp only[BL]at *)
 ·refine⟨x.args.length-(i+1),by omega,_,_,Zr,Zs,i+1,by omega,rfl,rfl,?_⟩
  rw[Ex.aso (by omega) hs,bw (by omega)];rfl
 ·rw[ZD (i:=i) (l:=x.args) (by omega),Ex.l9]
  exact Zw
theorem SA(x:Ex):x.size≤100000→Pure Tryz.prog 41 [.agg x.row] (iv x.depth):=by
 induction x using Ex.ind with
 |h x ih=>
 intro hs
 have iU:∀ y∈x.args,Pure Tryz.prog 41 [.agg y.row] (iv y.depth):=fun y hy=>ih y hy (by have:=Ex.xU hy;omega)
 have hl:=Ex.GV x
 rw[Ex.cY]
 refine XA.p fun σ=> ?_
 repeat'(first|exact .nil|refine .k0 ?_|refine .k1 ?_|refine .k2 ?_|refine .k6 ?_|refine .r1 ?_ ?_|(refine .m1 ?_ ?_;intro b)|(refine .m2 ?_ ?_;intro hlen)|fail)
 all_goals(try simp only[BL]at *)
 refine dU (fun n rg σ'=>∃ i:Nat,i≤x.args.length∧n=x.args.length-i∧σ'=(1,b,cp.cells x.lay)::σ∧rg=[(2,iv (Ex.ic (x.args.take i):Nat)),(6,.sl false 12 (x.args.map Ex.row)),(7,iv x.args.length),(8,iv i)]) x.args.length rfl ⟨_,_,Zr,Zs,0,ZF _,rfl,rfl,rfl⟩ ?_
 rintro n _ _ ⟨i,hi,hn,rfl,rfl⟩
 repeat'(first|exact .nil|refine .k0 ?_|refine .k1 ?_|refine .k2 ?_|refine .k6 ?_|refine .k7 ?_|refine .k8 ?_|refine .k9 ?_|(refine .cd ?_ ?_<;>(intro hc;skip))|refine .r1 ?_ ?_|(refine .l1 ?_;intro b)|refine .t1 ?_ ?_ ?_|refine .an rfl (by intro aO;exact iU (x.args.getD i default) (ei (by(simp only[BL]at *;omega)))) ?_ ?_|fail)
 try any_goals(exact Zo)
 all_goals(try simp only[BL]at *)
 ·refine⟨x.args.length-(i+1),by omega,_,_,Zr,Zs,i+1,by omega,rfl,rfl,?_⟩
  rw[Ex.asn (by omega),bw (by omega)];rfl
 ·refine Sx.Fin.intro Zs (bi ?_)
  exact Ex.SL (by omega) hs
def Ex.lens(x:Ex):Nat:=x.op.size+x.name.size+x.table.size+x.val.s.size
def Ex.mD(x:Ex)(n:Int):Prop:=n<1∨x.lens>300∨x.unit.length>10∨x.args.length>10∨∃ f∈x.unit,f.name.size>100
instance (x:Ex)(n:Int):Decidable (x.mD n):=inferInstanceAs (Decidable (_∨_∨_∨_∨_))
mutual
def Iy:Ex→Int→Int
 | .mk k o nm t v u p w ks,n=>if Ex.mD (.mk k o nm t v u p w ks) n then -1 else Iz ks (n-1)
def Iz:List Ex→Int→Int
 |[],n=>n
 |x::l,n=>if n<0 then n else Iz l (Iy x n)
end
def Br(t:Ty):Prop:=t.of.size≤300∧t.unit.length≤10∧∀ f∈t.unit,f.name.size≤100
instance (t:Ty):Decidable (Br t):=inferInstanceAs (Decidable (_∧_∧_))
end Go.Proofs.YtbihckigennlhaaGreatDoor
namespace Go.Sx
open Go.Proofs.YtbihckigennlhaaGreatDoor
theorem Wk.row{l:List Ex}{nn:Bool}:Wk (.sl nn 12 (l.map Ex.row)) (.sl nn 12 (l.map Ex.cells)):=by rw[Ex.nR];exact Wk.refl _
end Go.Sx
namespace Go.Proofs.YtbihckigennlhaaGreatDoor
open Go.Sx Go.Proofs
def Ex.Flat(a b:Ex):Prop:=a.kind=b.kind∧a.op=b.op∧a.name=b.name∧a.table=b.table∧a.val=b.val∧a.unit=b.unit∧a.param=b.param∧a.win=b.win
instance (a b:Ex):Decidable (a.Flat b):=inferInstanceAs (Decidable (_∧_∧_∧_∧_∧_∧_∧_))
theorem E3{a b:dQ}:a=b↔a.kind=b.kind∧a.n=b.n∧a.s=b.s:=by cases a;cases b;simp
theorem Nz{a b:eT}:a=b↔a.kind=b.kind∧a.size=b.size:=by cases a;cases b;simp
theorem TM(a b:Ex):Pure Tryz.prog 43 [.agg a.row,.agg b.row] (.v (.bool (decide (a.Flat b)))):=by
 rw[Ex.cY a,Ex.cY b]
 refine XC.p fun σ=> ?_
 repeat'(first|exact .nil|refine .k0 ?_|refine .k1 ?_|refine .k2 ?_|refine .k4 ?_|refine .k7 ?_|refine .r1 ?_ ?_|(refine .m1 ?_ ?_;intro b)|refine .an rfl (by intro aO;first|exact ar2 _ _|fail) ?_ ?_|fail)
 all_goals(try simp only[BL]at *)
 ·refine Sx.Fin.intro Zs (bd ?_)
  unfold Ex.Flat;rw[E3,Nz];grind
theorem tj(a b:Ex):Pure Tryz.prog 90 [.agg a.row,.agg b.row] (.v (.bool (decide (a.Flat b)))):=by
 rw[Ex.cY a,Ex.cY b]
 refine XU.p fun σ=> ?_
 repeat'(first|exact .nil|refine .k0 ?_|refine .k1 ?_|refine .k2 ?_|refine .k4 ?_|refine .k7 ?_|refine .r1 ?_ ?_|(refine .m1 ?_ ?_;intro b)|refine .an rfl (by intro aO;exact SQ _ _) ?_ ?_|fail)
 all_goals(try simp only[BL]at *)
 ·refine Sx.Fin.intro Zs (bd ?_)
  unfold Ex.Flat;rw[E3,Nz];grind
def du:Ex:=⟨1,⟨#[]⟩,⟨#[]⟩,⟨#[]⟩,⟨1,1,⟨#[]⟩⟩,[],0,⟨0,0⟩,[]⟩
theorem asU:Pure Tryz.prog 34 [] (.agg du.row):=by
 refine Xw.p fun σ=> ?_
 repeat'(first|exact .nil|refine .k0 ?_|refine .k1 ?_|refine .k2 ?_|refine .k7 ?_|refine .r1 ?_ ?_|(refine .l1 ?_;intro b)|fail)
 all_goals(try simp only[BL]at *)
 ·refine Sx.Fin.wk Zs (Wk.agg ?_)
  show bD _ du.lay
  unfold Ex.lay
  repeat' first|exact .refl _|exact .nil|refine .cons ?_ ?_|fail
def j4(w:eT):Prop:=(w.kind=1∧w.size=0)∨(1<w.kind∧w.kind≤4∧1≤w.size∧w.size≤1099511627776)
instance (w:eT):Decidable (j4 w):=inferInstanceAs (Decidable (_∨_∧_∧_∧_))
def xv(x:Ex):Ex:=⟨1,⟨#[]⟩,x.name,⟨#[]⟩,x.val,x.unit,0,⟨0,0⟩,[]⟩
def jS(x:Ex):Prop:=mb x.val=0∧0≤x.val.n∧gY ⟨x.val.kind,x.unit,x.name⟩=0∧x.Flat (xv x)
instance (x:Ex):Decidable (jS x):=inferInstanceAs (Decidable (_∧_∧_∧_))
def vR(x:Ex):Ex:=⟨5,x.op,⟨#[]⟩,x.table,⟨0,0,⟨#[]⟩⟩,[],x.param,x.win,[]⟩
def l7(x:Ex):Prop:=if x.op=⟨#[113,117,97,110,116,105,108,101]⟩then 1≤x.param∧x.param≤1000 else if x.op=⟨#[100,101,99,97,121]⟩then 1≤x.param∧x.param≤1073741824 else x.param=0
instance (x:Ex):Decidable (l7 x):=by unfold l7;infer_instance
def nO(x:Ex):Prop:=(∃ y∈jH,x.op=y)∧Name x.table∧j4 x.win∧l7 x∧x.Flat (vR x)
instance (x:Ex):Decidable (nO x):=inferInstanceAs (Decidable (_∧_∧_∧_∧_))
def Ab(x:Ex):Ex:=⟨x.kind,⟨#[]⟩,x.name,⟨#[]⟩,⟨0,0,⟨#[]⟩⟩,[],0,⟨0,0⟩,[]⟩
def jW(x:Ex):Ex:=⟨x.kind,x.op,⟨#[]⟩,⟨#[]⟩,⟨0,0,⟨#[]⟩⟩,[],0,⟨0,0⟩,[]⟩
def jT(x:Ex):Prop:=Name x.name∧x.Flat (Ab x)
instance (x:Ex):Decidable (jT x):=inferInstanceAs (Decidable (_∧_))
def jU(x:Ex):Int:=if x.kind=4∨x.kind=6 then 1 else if x.kind=5∨x.kind=7∨x.kind=9 then 2 else if x.kind=8 then 3 else 0
def eF(x:Ex)(ins:Bool):Prop:=
 if x.kind=1 then jS x else if x.kind=2 then ins=true∧jT x else if x.kind=3∨x.kind=4 then ins=false∧jT x
 else if x.kind=5 then ins=false∧nO x else if x.kind=6 then x.Flat (jW x)∧∃ y∈x8,x.op=y
 else if x.kind=7 then x.Flat (jW x)∧∃ y∈ke,x.op=y else if x.kind=8∨x.kind=9 then x.Flat (jW x)∧x.op=⟨#[]⟩else False
instance (x:Ex)(ins:Bool):Decidable (eF x ins):=by unfold eF;infer_instance
mutual
def Ex.Cf:Ex→Ex→Bool
 | .mk k o n t v u p w ks,.mk k' o' n' t' v' u' p' w' ks'=>decide (k=k'∧o=o'∧n=n'∧t=t'∧v=v'∧u=u'∧p=p'∧w=w') && Ex.qQ ks ks'
def Ex.qQ:List Ex→List Ex→Bool
 |[],[]=>true
 |x::l,y::m=>x.Cf y && Ex.qQ l m
 |[],_::_=>false
 |_::_,[]=>false
end
mutual
theorem Ex.H2:∀ a b:Ex,a.Cf b=true↔a=b
 | .mk k o n t v u p w ks,.mk k' o' n' t' v' u' p' w' ks'=>by
  rw[Ex.Cf,Z3,ZG,Ex.H3 ks ks',Ex.mk.injEq]
  simp only[and_assoc]
theorem Ex.H3:∀ a b:List Ex,Ex.qQ a b=true↔a=b
 |[],[]=>by simp[Ex.qQ]
 |x::l,y::m=>by rw[Ex.qQ,Z3,Ex.H2 x y,Ex.H3 l m,ZY]
 |[],_::_=>by simp[Ex.qQ]
 |_::_,[]=>by simp[Ex.qQ]
end
instance:DecidableEq Ex:=fun a b=>decidable_of_iff _ (Ex.H2 a b)
theorem Ex.eq_iff{a b:Ex}:a=b↔a.Flat b∧a.args=b.args:=by
 cases a;cases b
 simp only[Ex.mk.injEq,Ex.Flat,Ex.kind,Ex.op,Ex.name,Ex.table,Ex.val,Ex.unit,Ex.param,Ex.win,Ex.args,and_assoc]
theorem arZ(x:Ex):∀ e:Ex,Pure Tryz.prog 12 [.agg x.row,.agg e.row] (.v (.bool (decide (x=e)))):=by
 induction x using Ex.ind with
 |h x ih=>
 intro e
 have iU:=ih
 rw[Ex.cY x,Ex.cY e]
 refine W0.p fun σ=> ?_
 repeat'(first|exact .nil|refine .k0 ?_|refine .k1 ?_|refine .k2 ?_|refine .k4 ?_|refine .k6 ?_|refine .k7 ?_|refine .k9 ?_|(refine .cd ?_ ?_<;>(intro hc;skip))|refine .r1 ?_ ?_|(refine .m1 ?_ ?_;intro b)|(refine .m2 ?_ ?_;intro hlen)|refine .an rfl (by intro aO;first|(refine(TM x e).wk ?_;(repeat' first|exact .row|exact .refl _|refine .cons ?_ ?_|refine .agg ?_|fail);done)|fail) ?_ ?_|fail)
 try any_goals(exact Zo)
 all_goals(try simp only[BL]at *)
 ·refine Sx.Fin.intro Zs (bf ?_)
  intro h
  rw[h]at hc
  rcases hc with hc|hc
  ·exact hc (by unfold Ex.Flat;grind)
  ·exact hc rfl
 rename_i b0 jN
 refine dU (fun n rg σ'=>∃ i:Nat,i≤x.args.length∧n=x.args.length-i∧(∀ j,j<i→x.args.getD j default=e.args.getD j default)∧σ'=(3,b,cp.cells e.lay)::(2,b0,cp.cells x.lay)::σ∧rg=[(2,.lp 2 b0 0),(3,.lp 3 b 0),(5,iv i)]) x.args.length rfl ⟨_,_,Zr,Zs,0,ZF _,rfl,fun j hj=>absurd hj (by omega),rfl,rfl⟩ ?_
 rintro n _ _ ⟨i,hi,hn,hp,rfl,rfl⟩
 repeat'(first|exact .nil|refine .k0 ?_|refine .k1 ?_|refine .k2 ?_|refine .k5 ?_|refine .k6 ?_|refine .k7 ?_|refine .k8 ?_|refine .k9 ?_|(refine .cd ?_ ?_<;>(intro hc;skip))|refine .r1 ?_ ?_|(refine .m2 ?_ ?_;intro hlen)|refine .t1 ?_ ?_ ?_|refine .an rfl (by intro aO;exact iU (x.args.getD i default) (ei (by(simp only[BL]at *;omega))) (e.args.getD i default)) ?_ ?_|fail)
 try any_goals(exact Zo)
 all_goals(try simp only[BL]at *)
 ·refine Sx.Fin.intro Zs (bf ?_)
  rintro rfl;exact hc rfl
 ·refine⟨x.args.length-(i+1),by omega,_,_,Zr,Zs,i+1,by omega,rfl,kh hp hc,rfl,by rw[fL (by omega) hlen]⟩
 ·refine Sx.Fin.intro Zs (bt ?_)
  rename_i h1
  exact Ex.eq_iff.2 ⟨h1.1,Cg (by omega) (fun j hj=>hp j (by omega))⟩
theorem bq{b c:Bool}(h:b=true↔c=true):AV.v (.bool b)=AV.v (.bool c):=by rw[YH.2 h]
def db:ag:=⟨#[99,111,117,110,116]⟩
mutual
def form:Bool→Ex→Bool
 |ins,.mk k o n t v u p w ks=>decide (eF (.mk k o n t v u p w ks) ins) && decide ((ks.length:Int)=jU (.mk k o n t v u p w ks)) && wq (ins || decide (k=5)) ks && (decide (¬(k=5∧o=db)) || decide (ks.getD 0 default=du))
def wq:Bool→List Ex→Bool
 |_,[]=>true
 |ins,x::l=>form ins x && wq ins l
end
theorem IM(ins:Bool):∀ l:List Ex,wq ins l=true↔∀ x∈l,form ins x=true
 |[]=>by simp[wq]
 |x::l=>by simp[wq,IM ins l]
theorem yU(ins:Bool)(x:Ex):form ins x=true↔eF x ins∧(x.args.length:Int)=jU x∧(∀ y∈x.args,form (ins || decide (x.kind=5)) y=true)∧(x.kind=5→x.op=db→x.args.getD 0 default=du):=by
 cases x
 rw[form]
 simp only[Z3,Zk,ZG,IM,Ex.args,Ex.kind,Ex.op]
 constructor
 ·rintro⟨⟨⟨h1,h2⟩,h3⟩,h4⟩
  exact⟨h1,h2,h3,fun a b=>h4.resolve_left fun h=>h ⟨a,b⟩⟩
 ·rintro⟨h1,h2,h3,h4⟩
  refine⟨⟨⟨h1,h2⟩,h3⟩,Decidable.or_iff_not_imp_left.2 fun h=> ?_⟩
  have:=Zd.1 h
  exact h4 this.1 this.2
set_option maxHeartbeats 4000000
def H0(x:Ex):Ex:=⟨x.kind,⟨#[]⟩,⟨#[]⟩,⟨#[]⟩,⟨0,0,⟨#[]⟩⟩,[],0,⟨0,0⟩,[]⟩
def DX(x:Ex):Ex:=⟨x.kind,⟨#[]⟩,x.name,⟨#[]⟩,x.val,x.unit,0,⟨0,0⟩,[]⟩
def BN(x:Ex):Ex:=⟨x.kind,x.op,⟨#[]⟩,x.table,⟨0,0,⟨#[]⟩⟩,[],x.param,x.win,[]⟩
theorem flat_lit(x:Ex)(h:x.kind=1):x.Flat (xv x)↔x.Flat (DX x):=by unfold xv DX;rw[h]
theorem flat_agg(x:Ex)(h:x.kind=5):x.Flat (vR x)↔x.Flat (BN x):=by unfold vR BN;rw[h]
theorem II(x:Ex):x.Flat (H0 x)↔x.Flat (jW x)∧x.op=⟨#[]⟩:=by
 show _∧x.op=⟨#[]⟩∧_↔(_∧x.op=x.op∧_)∧_
 constructor
 ·rintro⟨h1,h2,h3⟩;exact⟨⟨h1,rfl,h3⟩,h2⟩
 ·rintro⟨⟨h1, -,h3⟩,h2⟩;exact⟨h1,h2,h3⟩
theorem LI:(⟨#[113,117,97,110,116,105,108,101]⟩:ag)≠⟨#[100,101,99,97,121]⟩:=by decide
def oZ(x:Ex)(ins:Bool):Prop:=form ins x=true↔(∀ y∈x.args,form (ins || decide (x.kind=5)) y=true)∧(x.kind=5→x.op=db→x.args.getD 0 default=du)
theorem TE{x:Ex}{ins q:Bool}{i:Nat}(hF:oZ x ins)(hq:q=(ins || decide (x.kind=5)))(hi:i<x.args.length)(hc:form q (x.args.getD i default)=false):false=true↔form ins x=true:=by
 unfold oZ at hF
 rw[hF,← hq]
 constructor
 ·intro h;exact Bool.noConfusion h
 ·rintro⟨h, -⟩
  have:=h _ (ei hi)
  rw[hc]at this
  exact this
theorem IP{q:Bool}{y:Ex}(h:form q y=true)(hf:y.Flat du):y=du:=by
 rw[yU]at h
 have hk:y.kind=1:=hf.1
 have hn:jU y=0:=by unfold jU;rw[if_neg (by omega),if_neg (by omega),if_neg (by omega)]
 have:y.args=[]:=ZO (by omega)
 exact Ex.eq_iff.2 ⟨hf,this⟩
theorem IA{x:Ex}{q:Bool}{i:Nat}(hi:x.args.length≤i)(hp:∀ j,j<i→form q (x.args.getD j default)=true):∀ y∈x.args,form q y=true:=AX (p:=fun y=>form q y=true) fun j hj=>hp j (by omega)
theorem TD{x:Ex}{ins q:Bool}(hF:oZ x ins)(hq:q=(ins || decide (x.kind=5)))(cw:∀ y∈x.args,form q y=true)(h0:0<x.args.length)(hc:x.op=⟨#[99,111,117,110,116]⟩∧x.kind=5):decide ((x.args.getD 0 default).Flat du)=true↔form ins x=true:=by
 unfold oZ at hF
 rw[hF,← hq,ZG]
 constructor
 ·intro h;exact⟨cw,fun _ _=>IP (cw _ (ei h0)) h⟩
 ·rintro⟨-,h⟩;rw[h hc.2 hc.1];decide
theorem TF{x:Ex}{ins q:Bool}(hF:oZ x ins)(hq:q=(ins || decide (x.kind=5)))(cw:∀ y∈x.args,form q y=true)(hc:¬x.op=⟨#[99,111,117,110,116]⟩∨¬x.kind=5):true=true↔form ins x=true:=by
 unfold oZ at hF
 rw[hF,← hq]
 refine⟨fun _=>⟨cw,fun h1 h2=> ?_⟩,fun _=>rfl⟩
 rcases hc with h|h
 ·exact absurd h2 h
 ·exact absurd h1 h
theorem abD(x:Ex):∀ ins,Pure Tryz.prog 42 [.agg x.row,.v (.bool ins)] (.v (.bool (form ins x))):=by
 induction x using Ex.ind with
 |h x ih=>
 intro ins
 have iU:=ih
 rw[Ex.cY x]
 refine XB.p fun σ=> ?_
 repeat'(first|exact .nil|refine .k0 ?_|refine .k1 ?_|refine .k2 ?_|refine .k3 ?_|refine .k4 ?_|refine .k6 ?_|refine .k7 ?_|refine .k9 ?_|(refine .cd ?_ ?_<;>(intro hc;first|exact kf hc (by assumption)|skip))|refine .r1 ?_ ?_|(refine .l1 ?_;intro b)|(refine .m1 ?_ ?_;intro b)|(refine .m2 ?_ ?_;intro hlen)|refine .an rfl (by intro aO;first|exact Nh x.val|exact M9 ⟨x.val.kind,x.unit,x.name⟩|exact uN _|exact B8 jH x.op|exact B8 x8 x.op|exact B8 ke x.op|(refine(tj x (DX x)).wk ?_;(repeat' first|exact .row|exact .refl _|exact .nil|refine .cons ?_ ?_|refine .agg ?_|fail);done)|(refine(tj x (Ab x)).wk ?_;(repeat' first|exact .row|exact .refl _|exact .nil|refine .cons ?_ ?_|refine .agg ?_|fail);done)|(refine(tj x (BN x)).wk ?_;(repeat' first|exact .row|exact .refl _|exact .nil|refine .cons ?_ ?_|refine .agg ?_|fail);done)|(refine(tj x (jW x)).wk ?_;(repeat' first|exact .row|exact .refl _|exact .nil|refine .cons ?_ ?_|refine .agg ?_|fail);done)|(refine(tj x (H0 x)).wk ?_;(repeat' first|exact .row|exact .refl _|exact .nil|refine .cons ?_ ?_|refine .agg ?_|fail);done)|fail) ?_ ?_|refine .r9 ?_ ?_|fail)
 try any_goals(exact Zo)
 all_goals(try simp only[BL]at *)
 all_goals first
  |(exfalso;omega)
  |(with_reducible refine Sx.Fin.intro ?_ (bq ?_)
    rotate_left
    rw[yU]
    have h1:=flat_lit x
    have h2:=flat_agg x
    have h3:=II x
    have VL:=LI
    clear ih iU
    focus grind [eF,jU,jS,nO,jT,l7,j4]
    repeat' first|exact .refl _|refine .cons ?_)
  |skip
 all_goals
  have hF:oZ x ins:=by
   unfold oZ
   rw[yU]
   have h1:=flat_lit x
   have h2:=flat_agg x
   have h3:=II x
   have VL:=LI
   clear ih iU
   grind [eF,jU,jS,nO,jT,l7,j4]
 all_goals have hN:x.kind=5→x.args.length=2:=by intro h;omega
 all_goals refine dU (fun n rg σ'=>∃ (i:Nat) (q:Bool) (b0 b:Nat) (c:List AV),q=(ins || decide (x.kind=5))∧i≤x.args.length∧n=x.args.length-i∧(∀ j,j<i→form q (x.args.getD j default)=true)∧σ'=(5,b,cp.cells c)::(2,b0,cp.cells x.lay)::σ∧rg=[(1,.v (.bool q)),(2,.lp 2 b0 0),(186,.sl false 12 (x.args.map Ex.row)),(187,iv x.args.length),(188,iv i)]) x.args.length rfl ⟨_,_,Zr,Zs,0,_,_,_,_,by simp[*],ZF _,rfl,fun j hj=>absurd hj (by omega),rfl,rfl⟩ ?_
 all_goals clear hlen
 all_goals rintro n _ _ ⟨i,q,b0,b,c,hq,hi,hn,hp,rfl,rfl⟩
 all_goals clear ih
 repeat'(first|exact .nil|refine .k0 ?_|refine .k1 ?_|refine .k2 ?_|refine .k4 ?_|refine .k6 ?_|refine .k7 ?_|refine .k8 ?_|refine .k9 ?_|(refine .cd ?_ ?_<;>(intro hc;skip))|refine .r1 ?_ ?_|(refine .l1 ?_;intro b)|refine .t1 ?_ ?_ ?_|refine .an rfl (by intro aO;first|(refine(tj (x.args.getD 0 default) du).wk ?_;(repeat' first|exact .refl _|exact .nil|refine .cons ?_ ?_|refine .agg ?_|fail);done)|exact iU (x.args.getD i default) (ei (by(simp only[BL]at *;omega))) _) ?_ ?_|fail)
 try any_goals(exact Zo)
 all_goals(try simp only[BL]at *)
 all_goals first
  |(with_reducible refine Sx.Fin.intro ?_ (bq ?_)
    rotate_left
    focus first
     |exact TE hF hq (by omega) hc
     |exact TD hF hq (IA (by omega) hp) (by omega) hc
     |exact TF hF hq (IA (by omega) hp) hc
    repeat' first|exact .refl _|refine .cons ?_)
  |(refine⟨x.args.length-(i+1),by omega,_,_,Zr,Zs,i+1,_,_,_,_,hq,by omega,rfl,kh hp hc,rfl,by rw[bw (by omega)];rfl⟩)
  |trace_state
set_option maxHeartbeats 4000000
def shape(x:Ex):Int:=if 64<x.size∨12<x.depth then 2 else if form false x=true then 0 else 3
theorem ED(x:Ex)(hs:x.size≤100000):Pure Tryz.prog 11 [.agg x.row] (iv (shape x)):=by
 rw[Ex.cY x]
 refine WZ.p fun σ=> ?_
 repeat'(first|exact .nil|refine .k0 ?_|refine .k1 ?_|refine .k2 ?_|refine .k4 ?_|refine .k7 ?_|refine .k9 ?_|(refine .cd ?_ ?_<;>(intro hc;skip))|refine .r1 ?_ ?_|(refine .m1 ?_ ?_;intro b)|refine .an rfl (by intro aO;first|(refine(ar9 x (by first|omega|fail)).wk ?_;(repeat' first|exact .row|exact .refl _|refine .cons ?_ ?_|refine .agg ?_|fail);done)|(refine(SA x (by first|omega|fail)).wk ?_;(repeat' first|exact .row|exact .refl _|refine .cons ?_ ?_|refine .agg ?_|fail);done)|(refine(abD x false).wk ?_;(repeat' first|exact .row|exact .refl _|refine .cons ?_ ?_|refine .agg ?_|fail);done)|fail) ?_ ?_|fail)
 try any_goals(exact Zo)
 all_goals(try simp only[BL]at *)
 all_goals(refine Sx.Fin.intro Zs (bi ?_);unfold shape;grind)
def strs:List (List AV)→Option (List ag)
 |[]=>some []
 |[.v (.string s)]::l=>(strs l).map (s::·)
 |_=>none
theorem MH:∀ {l:List (List AV)} {ws:List ag},strs l=some ws→l=ws.map ef
 |[],ws,h=>by simp only[strs,Z6]at h;subst h;rfl
 |[.v (.string s)]::l,ws,h=>by
  simp only[strs,ZS]at h
  obtain⟨w,h1,rfl⟩:=h
  rw[MH h1];rfl
def eg:List ag→ag
 |[]=>⟨#[]⟩
 |s::l=>s++eg l
def fH:List ag→Nat
 |[]=>0
 |s::l=>s.size+fH l
theorem dh(s:ag):s.data.toList.length=s.size:=rfl
theorem bz(a:Array UInt8):(⟨a⟩:ag).size=a.size:=rfl
theorem bN(a b:ag):(a++b).size=a.size+b.size:=by rw[x5,vg,Z7];rfl
theorem lr:∀ l:List ag,(eg l).size=fH l
 |[]=>rfl
 |s::l=>by rw[eg,bN,lr l,fH]
theorem Km:∀ l:List (List UInt8),([]:List UInt8).intercalate l=l.flatten
 |[]=>rfl
 |[a]=>by simp[List.intercalate]
 |a::b::l=>by
  have:=Km (b::l)
  simp only[List.intercalate,List.intersperse,Yt,Zh]at this ⊢
  rw[this]
theorem B1:∀ l:List ag,(eg l).data.toList=(l.map (·.data.toList)).flatten
 |[]=>rfl
 |s::l=>by rw[eg,vg,B1 l];rfl
theorem Kr(l:List ag):Lib.join (l.map (·.data.toList)) (⟨#[]⟩:ag).data.toList=(eg l).data.toList:=by
 rw[B1];exact Km _
theorem WS(l:List ag):rS l ⟨#[]⟩=eg l:=by
 apply qo
 unfold rS
 rw[Kr]
theorem WT(ws:List ag)(nn:Bool)(hN:ws.length≤1000)(hl:fH ws≤140737488355328):Pure Tryz.prog 69 [.sl nn 1 (ws.map ef)] (sv (eg ws)):=by
 refine XH.p fun σ=> ?_
 repeat'(first|exact .nil|refine .k0 ?_|refine .k1 ?_|refine .k2 ?_|refine .k7 ?_|refine .r1 ?_ ?_|refine .an rfl (by intro aO;(refine(xq ws ⟨#[]⟩ nn (by first|omega|fail) (by rw[Kr,← x5,lr];omega)).wk ?_;(repeat' first|exact .refl _|fail);done)) ?_ ?_|fail)
 all_goals(try simp only[BL]at *)
 ·rw[WS]
  exact Zw
theorem kE{nn:Bool}{l:List (List AV)}(ws:List ag)(h:strs l=some ws)(hN:ws.length≤1000)(hl:fH ws≤140737488355328):Pure Tryz.prog 69 [.sl nn 1 l] (sv (eg ws)):=by
 rw[MH h];exact WT ws nn hN hl
def gi(f:aq):ag:=if f.exp=1 then f.name else f.name++(⟨#[94]⟩++jR f.exp)
def sC(u:List aq):ag:=rS (u.map gi) ⟨#[42]⟩
theorem xp(n:Int)(h: -9223372036854775808≤n∧n≤9223372036854775807):(jR n).size≤21:=by
 have:=Lib.itoa_length_le n h.1 h.2
 rw[x5]
 simpa[jR]using this
theorem EP{α:Type}[Inhabited α]{l:List α}{i:Nat}(h:i<l.length):l.take (i+1)=l.take i++[l.getD i default]:=by
 rw[getD_eq h,Zt h]
theorem Kl(sep:List UInt8):∀ l:List (List UInt8),(sep.intercalate l).length≤l.flatten.length+l.length * sep.length
 |[]=>by simp[List.intercalate]
 |[a]=>by simp[List.intercalate]
 |a::b::l=>by
  have:=Kl sep (b::l)
  simp only[List.intercalate,List.intersperse,Yt,Z7,Z8,YQ,Nat.one_mul]at this ⊢
  omega
theorem Kq(ws:List ag)(sep:ag):(Lib.join (ws.map (·.data.toList)) sep.data.toList).length≤fH ws+ws.length * sep.size:=by
 have:=Kl sep.data.toList (ws.map (·.data.toList))
 rw[← B1,← x5,lr,Z5]at this
 exact this
theorem DU{α:Type}(g:α→ag)(c:Nat):∀ {l:List α},(∀ x∈l,(g x).size≤c)→fH (l.map g)≤l.length * c
 |[],_=>ZF _
 |x::l,h=>by
  have h1:=h x (by simp)
  have h2:=DU g c (l:=l) fun y hy=>h y (by simp[hy])
  simp only[ZL,fH,Z8,YQ,Nat.one_mul]
  omega
def gO(f:aq):Prop:=f.name.size≤24∧-8≤f.exp∧f.exp≤8∧1≤f.name.size
theorem Tx{f:aq}(h:gO f):(gi f).size≤46:=by
 unfold gi
 have:=xp f.exp (by have:=h.2;omega)
 have:=h.1
 split
 ·omega
 ·rw[bN,bN];show _+(1+_)≤_;omega
theorem Nc{u:List aq}(hu:∀ f∈u,gO f)(hl:u.length≤4):(Lib.join ((u.map gi).map (·.data.toList)) (⟨#[42]⟩:ag).data.toList).length≤200:=by
 have h1:=Kq (u.map gi) ⟨#[42]⟩
 have h2:=DU gi 46 fun f hf=>Tx (hu f hf)
 have h3:(⟨#[42]⟩:ag).size=1:=rfl
 rw[Z5,h3]at h1
 omega
theorem Nb{u:List aq}(hu:∀ f∈u,gO f)(hl:u.length≤4):(sC u).size≤200:=Nc hu hl
theorem ab4{fs:List aq}{i:Nat}(h:i<fs.length):((fs.take i).map gi).map ef++[[.v (.string (gi (fs.getD i default)))]]=((fs.take (i+1)).map gi).map ef:=by
 rw[EP h];simp[ef]
theorem Io{f:aq}(h:f.exp=1):gi f=f.name:=if_pos h
theorem Ip{f:aq}(h:¬f.exp=1):gi f=f.name++(⟨#[94]⟩++jR f.exp):=if_neg h
theorem as3(fs:List aq)(hu:∀ f∈fs,gO f)(hl:fs.length≤4):Pure Tryz.prog 150 [.sl false 2 (fs.map aq.cells)] (sv (sC fs)):=by
 refine Xc.p fun σ=> ?_
 repeat'(first|exact .nil|refine .k0 ?_|refine .k1 ?_|refine .k2 ?_|refine .k6 ?_|refine .r1 ?_ ?_|(refine .m2 ?_ ?_;intro hlen)|fail)
 all_goals(try simp only[BL]at *)
 refine dU (fun n rg σ'=>∃ i:Nat,i≤fs.length∧n=fs.length-i∧((i=0∧σ'=σ∧rg=[(3,.v (.slice none 0 0)),(7,.sl false 2 (fs.map aq.cells)),(8,iv fs.length),(9,iv i)])∨(0<i∧∃ b v c,σ'=(27,b,.tail v c)::σ∧rg=[(3,.own 1 27 b v c (((fs.take i).map gi).map ef)),(7,.sl false 2 (fs.map aq.cells)),(8,iv fs.length),(9,iv i)]))) fs.length rfl ⟨_,_,Zr,Zs,0,ZF _,rfl,.inl ⟨rfl,rfl,rfl⟩⟩ ?_
 rintro n _ _ ⟨i,hi,hn,⟨h0,rfl,rfl⟩|⟨h0,b0,v0,c0,rfl,rfl⟩⟩
 all_goals have hf:i<fs.length→gO (fs.getD i default):=fun h=>hu _ (ei h)
 all_goals have hz:i<fs.length→(jR (fs.getD i default).exp).size≤21:=fun h=>xp _ (by have:=(hf h).2;omega)
 all_goals unfold gO at hf
 repeat'(first|exact .nil|refine .k0 ?_|refine .k1 ?_|refine .k2 ?_|refine .k6 ?_|refine .k7 ?_|refine .k8 ?_|refine .k9 ?_|(refine .cd ?_ ?_<;>(intro hc;skip))|refine .r1 ?_ ?_|(refine .l1 ?_;intro b)|refine .t1 ?_ ?_ ?_|refine .u1 ?_ ?_ ?_ (fun b u c=> ?_)|refine .u2 ?_ ?_ ?_ (fun b u c=> ?_)|refine .an rfl (by intro aO;first|exact uC _ (by(simp only[BL]at *;omega))|(refine(xq [] ⟨#[42]⟩ false (by decide) (by decide)).wk ?_;(repeat' first|exact .refl _|exact .nil|refine .cons ?_ ?_|fail);done)|(refine(xq (fs.map gi) ⟨#[42]⟩ false (by rw[Z5];omega) (YJ (Nc hu hl) (by decide))).wk (bD.cons (Wk.Lj (by rw[ZD (by(simp only[BL]at *;omega))])) (bD.cons (Wk.refl _) bD.nil)))) ?_ ?_|(show List.all _ _=true;rfl)|fail)
 try any_goals(exact Zo)
 all_goals(try simp only[BL]at *)
 any_goals((simp only[Z8,Z2,Z7,Z5,ZW,bN,bz,dh,Z0];omega))
 all_goals have e:=fun h=>ab4 (fs:=fs) (i:=i) h
 ·subst h0
  rw[Ip hc]at e
  refine⟨fs.length-(0+1),by omega,_,_,Zr,Zs,0+1,by omega,rfl,.inr ⟨by omega,_,_,_,rfl,?_⟩⟩
  rw[← e (by omega),fL (n:=fs.length) (by omega) (by assumption)];rfl
 ·subst h0
  rw[Io hc]at e
  refine⟨fs.length-(0+1),by omega,_,_,Zr,Zs,0+1,by omega,rfl,.inr ⟨by omega,_,_,_,rfl,?_⟩⟩
  rw[← e (by omega),fL (n:=fs.length) (by omega) (by assumption)];rfl
 ·obtain rfl:fs=[]:=ZO (by omega)
  exact Sx.Fin.intro Zs rfl
 ·rw[Ip hc]at e
  refine⟨fs.length-(i+1),by omega,_,_,Zr,Zs,i+1,by omega,rfl,.inr ⟨by omega,_,_,_,rfl,?_⟩⟩
  rw[← e (by omega),fL (n:=fs.length) (by omega) (by assumption)]
 ·rw[Io hc]at e
  refine⟨fs.length-(i+1),by omega,_,_,Zr,Zs,i+1,by omega,rfl,.inr ⟨by omega,_,_,_,rfl,?_⟩⟩
  rw[← e (by omega),fL (n:=fs.length) (by omega) (by assumption)]
 ·exact Sx.Fin.intro Zs rfl
set_option maxHeartbeats 4000000
theorem nP(a b c:ag):a++b++c=a++(b++c):=qo (by simp)
theorem gQ(a:ag):a++(⟨#[]⟩:ag)=a:=qo (by simp)
theorem bs{a b:ag}(h:a=b):AV.v (.string a)=sv b:=by rw[h]
def j2(u:List aq):ag:=if u=[]then⟨#[]⟩else⟨#[32,91]⟩++(sC u++⟨#[93]⟩)
theorem x9{u:List aq}(hu:∀ f∈u,gO f)(hl:u.length≤4):(j2 u).size≤210:=by
 have:=Nb hu hl
 unfold j2
 split
 ·decide
 ·simp only[bN,bz,Z0,Z8,Z2];omega
theorem aam{α:Type}{l:List α}:(l.length:Int)=0↔l=[]:=by cases l<;>simp<;>omega
theorem Nd(fs:List aq)(hu:∀ f∈fs,gO f)(hl:fs.length≤4):Pure Tryz.prog 109 [.sl false 2 (fs.map aq.cells)] (sv (j2 fs)):=by
 have jN:= @aam aq fs
 refine WY.p fun σ=> ?_
 repeat'(first|exact .nil|refine .k0 ?_|refine .k1 ?_|refine .k2 ?_|refine .k7 ?_|refine .k9 ?_|(refine .cd ?_ ?_<;>(intro hc;skip))|refine .r1 ?_ ?_|(refine .m2 ?_ ?_;intro hlen)|refine .an rfl (by intro aO;first|exact as3 fs hu hl|exact kE _ rfl (Z9 rfl) (by have:=Nb hu hl;simp only[fH,bz,Z0,Z8,Z2];omega)) ?_ ?_|fail)
 all_goals(try simp only[BL]at *)
 any_goals((simp only[Z8,Z2,Z7,Z5,ZW,bN,bz,dh,Z0];omega))
 all_goals(simp only[jN]at hc;refine Sx.Fin.intro Zs (bs ?_);simp[j2,hc,eg,gQ,nP];done)
def sw(t:Ty):ag:=
 if t.kind=1 then⟨#[98,111,111,108]⟩else if t.kind=4 then⟨#[116,101,120,116]⟩else if t.kind=5 then⟨#[107,101,121,32]⟩++t.of
 else if t.kind=2 then⟨#[105,110,116]⟩++j2 t.unit else⟨#[100,101,99]⟩++j2 t.unit
theorem X0(t:Ty)(hu:∀ f∈t.unit,gO f)(hl:t.unit.length≤4)(ho:t.of.size≤100):Pure Tryz.prog 56 [.agg t.cells] (sv (sw t)):=by
 have hs:=x9 hu hl
 refine XE.p fun σ=> ?_
 repeat'(first|exact .nil|refine .k0 ?_|refine .k1 ?_|refine .k2 ?_|refine .k6 ?_|refine .k7 ?_|refine .k9 ?_|(refine .cd ?_ ?_<;>(intro hc;skip))|refine .r1 ?_ ?_|(refine .m1 ?_ ?_;intro b)|refine .an rfl (by intro aO;first|exact Nd t.unit hu hl|exact kE _ rfl (Z9 rfl) (by simp only[fH,bz,Z0,Z8,Z2];omega)) ?_ ?_|fail)
 all_goals(try simp only[BL]at *)
 any_goals((simp only[Z8,Z2,Z7,Z5,ZW,bN,bz,dh,Z0];omega))
 all_goals(refine Sx.Fin.intro Zs (bs ?_);simp[j2,sw,eg,gQ,nP, *];done)
theorem v7{u:Nat}(h:u<10):Lib.decDigits u=[UInt8.ofNat (48+u)]:=by rw[Lib.decDigits,dif_pos h]
theorem yJ{u:Nat}(h:¬u<10):Lib.decDigits u=Lib.decDigits (u / 10)++[UInt8.ofNat (48+u % 10)]:=by rw[Lib.decDigits,dif_neg h]
theorem tv{u:Nat}(h:u≤9223372036854775807):(Lib.decDigits u).length≤21:=by
 have:=Lib.itoa_length_le (u:Int) (by omega) (by omega)
 rwa [Lib.itoa_nonneg]at this
def dJ:Nat→Nat→List UInt8
 |0,_=>[]
 |k+1,x=>dJ k (x / 10)++[UInt8.ofNat (48+x % 10)]
theorem oC:∀ (k x:Nat),(dJ k x).length=k
 |0,_=>rfl
 |k+1,x=>by rw[dJ,Z7,oC k];rfl
def gy(x:Nat):ag:=⟨(Lib.decDigits (x / 10 ^ 6)++46::dJ 6 x).toArray⟩
theorem HL(n:Nat):1≤(Lib.decDigits n).length:=by
 by_cases h:n<10
 ·rw[v7 h];exact ZK _
 ·rw[yJ h,Z7];exact Nat.le_add_left _ _
theorem HM:∀ (k n:Nat),10 ^ k≤n→Lib.decDigits n=Lib.decDigits (n / 10 ^ k)++dJ k n
 |0,n,_=>by simp[dJ]
 |k+1,n,h=>by
  have IW:0<10 ^ k:=Nat.pow_pos (by omega)
  rw[Nat.pow_succ]at h
  rw[yJ (by omega),HM k (n / 10) (by omega),Nat.div_div_eq_div_mul,dJ,Nat.pow_succ,YG 10,Zv]
theorem HJ:∀ (k n:Nat),n<10 ^ (k+1)→(Lib.decDigits n).length≤k+1
 |0,n,h=>by rw[v7 (by omega)];exact ZK _
 |k+1,n,h=>by
  by_cases h1:n<10
  ·rw[v7 h1];simp
  ·rw[Nat.pow_succ]at h
   have:=HJ k (n / 10) (by omega)
   rw[yJ h1,Z7];simp only[Z8,Z2];omega
theorem KJ:∀ k:Nat,dJ k 0=List.replicate k 48
 |0=>rfl
 |k+1=>by rw[dJ,Nat.zero_div,KJ k,List.replicate_succ'];rfl
theorem HK:∀ (k z n:Nat),z+(Lib.decDigits n).length=k→List.replicate z 48++Lib.decDigits n=dJ k n
 |0,z,n,h=>by have:=HL n;omega
 |k+1,z,n,h=>by
  by_cases h1:n<10
  ·rw[v7 h1]at h ⊢
   simp only[Z8,Z2]at h
   obtain rfl:z=k:=by omega
   rw[dJ,Nat.div_eq_of_lt h1,KJ,Nat.mod_eq_of_lt h1]
  ·rw[yJ h1]at h ⊢
   rw[Z7]at h
   simp only[Z8,Z2]at h
   rw[← Zv,HK k z (n / 10) (by omega),dJ]
theorem Sq{n z:Nat}{L:List UInt8}(hL:L=List.replicate z 48++Lib.decDigits n)(h7:7≤L.length)(hz:z=0∨L.length≤7):L=Lib.decDigits (n / 10 ^ 6)++dJ 6 n:=by
 by_cases h:n<10 ^ 6
 ·have h1:=HJ 5 n h
  have hl:L.length=z+(Lib.decDigits n).length:=by rw[hL,Z7,Y6]
  obtain⟨y,rfl⟩:∃ y,z=y+1:=⟨z-1,by omega⟩
  rw[hL,List.replicate_succ,ZH,HK 6 y n (by omega),Nat.div_eq_of_lt h,v7 (by omega)];rfl
 ·have h1:=HM 6 n (by omega)
  have hl:L.length=z+(Lib.decDigits n).length:=by rw[hL,Z7,Y6]
  have h2:=HL (n / 10 ^ 6)
  have h3:=congrArg List.length h1
  rw[Z7,oC]at h3
  have:z=0:=by omega
  subst this
  rw[hL,← h1];rfl
theorem Sp(n:Nat)(h:n≤1152921504606846976):Pure Tryz.prog 197 [iv n] (sv (gy n)):=by
 have hq:(Lib.decDigits n).length≤21:=tv (by omega)
 refine Xm.p fun σ=> ?_
 repeat'(first|exact .nil|refine .k0 ?_|refine .k1 ?_|refine .k2 ?_|refine .k3 ?_|refine .k6 ?_|refine .k9 ?_|(refine .cd ?_ ?_<;>(intro hc;skip))|refine .r1 ?_ ?_|refine .an rfl (by intro aO;exact uC _ (by first|omega|(simp only[BL]at *;omega))) ?_ ?_|refine .t6 ?_ ?_ ?_|fail)
 try any_goals(exact Zo)
 all_goals(try simp only[BL]at *)
 all_goals try(exfalso;omega)
 refine dU (fun k rg σ'=>∃ (z:Nat) (s:ag),k=7-s.size∧s.data.toList=List.replicate z 48++Lib.decDigits n∧(z=0∨s.size≤7)∧σ'=σ∧rg=[(3,sv s),(4,sv ⟨#[]⟩)]) (7-(jR n).size) rfl ⟨_,_,Zr,Zs,0,jR n,rfl,by rw[jR,Lib.itoa_nonneg];rfl,.inl rfl,rfl,rfl⟩ ?_
 rintro k _ _ ⟨z,s,hk,hs,hz,rfl,rfl⟩
 have hl:s.size=z+(Lib.decDigits n).length:=by
  have:=congrArg List.length hs
  rwa [Z7,Y6]at this
 repeat'(first|exact .nil|refine .k0 ?_|refine .k1 ?_|refine .k2 ?_|refine .k5 ?_|refine .k6 ?_|refine .k7 ?_|refine .k8 ?_|refine .k9 ?_|(refine .cd ?_ ?_<;>(intro hc;skip))|refine .r1 ?_ ?_|refine .t6 ?_ ?_ ?_|fail)
 all_goals(try simp only[BL]at *)
 all_goals have aT:s.size≤28:=by omega
 any_goals((simp only[Z8,Z2,Z7,Z5,ZW,bN,bz,dh,Z0];omega))
 ·refine⟨7-(s.size+1),by omega,_,_,Zr,Zs,z+1,(⟨#[48]⟩:ag)++s,by rw[bN,bz,Nat.add_comm];rfl,by rw[vg,hs,List.replicate_succ];rfl,.inr ?_,rfl,rfl⟩
  rw[bN,bz];show 1+_≤_;omega
 all_goals have hcut:IntKind.i64.wrap ((s.size:Int)-6)=((s.size-6:Nat):Int):=by rw[bw (by omega)];omega
 all_goals simp only[hcut,YS]
 any_goals omega
 any_goals(simp only[bN,bz,ByteArray.size_extract,Z0,Z8,Z2];omega)
 refine Sx.Fin.intro Zs (bs (qo ?_))
 have hp:=Sq hs (by show 7≤s.size;omega) hz
 have oj:(Lib.decDigits (n / 10 ^ 6)).length=s.size-6:=by
  have:=congrArg List.length hp
  rw[Z7,oC]at this
  have h5:s.data.toList.length=s.size:=rfl
  omega
 have e1:(ByteArray.extract s 0 (s.size-6)).data.toList=Lib.decDigits (n / 10 ^ 6):=by
  rw[ByteArray.data_extract,Array.toList_extract,List.extract_eq_take_drop,hp]
  simp[oj]
 have e2:(ByteArray.extract s (s.size-6) s.size).data.toList=dJ 6 n:=by
  rw[ByteArray.data_extract,Array.toList_extract,List.extract_eq_take_drop,hp,← oj,List.drop_left,ZD (by rw[oC];omega)]
 simp only[vg,e1,e2]
 simp[gy]
set_option maxHeartbeats 4000000
def gb(n:Int):ag:=if n=1 then⟨#[116,114,117,101]⟩else⟨#[102,97,108,115,101]⟩
def iD(n:Int):ag:=⟨(Lib.decDigits n.toNat).toArray⟩
def sF(v:dQ):ag:=
 if v.kind=1 then gb v.n else if v.kind=2 then iD v.n else if v.kind=3 then gy v.n.toNat
 else if v.kind=4 then⟨#[34]⟩++(v.s++⟨#[34]⟩)else if v.kind=5 then⟨#[64]⟩++v.s else⟨#[110,117,108,108]⟩
theorem TR(n:Int):(⟨(Lib.formatBool (decide (n=1))).toArray⟩:ag)=gb n:=by
 unfold gb
 by_cases h:n=1
 ·rw[if_pos h,Zn h];decide
 ·rw[if_neg h,Zu h];decide
theorem xo{n:Int}(h:0≤n):jR n=iD n:=by
 obtain⟨m,rfl⟩:∃ m:Nat,n=m:=⟨n.toNat,by omega⟩
 unfold jR iD
 rw[Lib.itoa_nonneg];rfl
structure lj(v:dQ):Prop where
 e:mb v=0
 n:0≤v.n
theorem lj.kinds{v:dQ}(h:lj v):0≤v.kind∧v.kind≤5∧v.n≤1152921504606846976∧v.s.size≤64:=by
 have:=h.e
 have h0:=h.n
 unfold mb at this
 split at this
 ·omega
 ·rename_i hf
  have hf:=Zd.1 hf
  split at this
  ·omega
  ·rename_i hb
   have hs:v.kind≤3→v.s.size=0:=fun h=>by rw[hf.2.2.1 h];rfl
   refine⟨hf.1,hf.2.1,by omega,?_⟩
   have:=hf.2.1
   omega
theorem E2{v:dQ}(h:lj v):(sF v).size≤100:=by
 obtain⟨h1,h2,h3,h4⟩:=h.kinds
 have h0:=h.n
 have hd:(Lib.decDigits v.n.toNat).length≤21:=tv (by omega)
 have hq:(Lib.decDigits (v.n.toNat / 10 ^ 6)).length≤21:=tv (by omega)
 unfold sF
 repeat' split
 ·unfold gb;split<;>decide
 ·show(Lib.decDigits v.n.toNat).toArray.size≤100
  rw[Z0];omega
 ·show(Lib.decDigits (v.n.toNat / 10 ^ 6)++46::dJ 6 v.n.toNat).toArray.size≤100
  rw[Z0,Z7,Z8,oC];omega
 ·((simp only[Z8,Z2,Z7,Z5,ZW,bN,bz,dh,Z0];omega))
 ·((simp only[Z8,Z2,Z7,Z5,ZW,bN,bz,dh,Z0];omega))
 ·decide
theorem aaX(v:dQ):Pure Tryz.prog 167 [.agg v.cells] (sv ⟨#[110,117,108,108]⟩):=by
 refine Xe.p fun σ=> ?_
 repeat'(first|exact .nil|refine .k0 ?_|refine .k1 ?_|refine .k2 ?_|refine .k7 ?_|refine .r1 ?_ ?_|(refine .m1 ?_ ?_;intro b)|fail)
 all_goals(try simp only[BL]at *)
 ·exact Sx.Fin.intro Zs rfl
theorem Rh(v:dQ):Pure Tryz.prog 168 [.agg v.cells] (sv (gb v.n)):=by
 refine Xf.p fun σ=> ?_
 repeat'(first|exact .nil|refine .k0 ?_|refine .k1 ?_|refine .k2 ?_|refine .k7 ?_|refine .r1 ?_ ?_|(refine .m1 ?_ ?_;intro b)|refine .an rfl (by intro aO;first|exact TT _|fail) ?_ ?_|fail)
 all_goals(try simp only[BL]at *)
 ·exact Sx.Fin.intro Zs (bs (TR v.n))
theorem WJ(v:dQ)(h:lj v):Pure Tryz.prog 169 [.agg v.cells] (sv (iD v.n)):=by
 have hk:=h.kinds
 have h0:=h.n
 refine Xg.p fun σ=> ?_
 repeat'(first|exact .nil|refine .k0 ?_|refine .k1 ?_|refine .k2 ?_|refine .k7 ?_|refine .r1 ?_ ?_|(refine .m1 ?_ ?_;intro b)|refine .an rfl (by intro aO;first|exact uC _ (by first|omega|fail)|fail) ?_ ?_|fail)
 all_goals(try simp only[BL]at *)
 ·exact Sx.Fin.intro Zs (bs (xo h0))
theorem Sr(v:dQ)(h:lj v):Pure Tryz.prog 170 [.agg v.cells] (sv (gy v.n.toNat)):=by
 have hk:=h.kinds
 have h0:=h.n
 have hd:=Sp v.n.toNat (by omega)
 rw[show((v.n.toNat:Nat):Int)=v.n by omega]at hd
 refine Xh.p fun σ=> ?_
 repeat'(first|exact .nil|refine .k0 ?_|refine .k1 ?_|refine .k2 ?_|refine .k7 ?_|refine .r1 ?_ ?_|(refine .m1 ?_ ?_;intro b)|refine .an rfl (by intro aO;exact hd) ?_ ?_|fail)
 all_goals(try simp only[BL]at *)
 ·exact Sx.Fin.intro Zs rfl
theorem asE(v:dQ)(h:lj v):Pure Tryz.prog 171 [.agg v.cells] (sv (⟨#[34]⟩++(v.s++⟨#[34]⟩))):=by
 have hk:=h.kinds
 refine Xi.p fun σ=> ?_
 repeat'(first|exact .nil|refine .k0 ?_|refine .k1 ?_|refine .k2 ?_|refine .k7 ?_|refine .r1 ?_ ?_|(refine .m1 ?_ ?_;intro b)|fail)
 all_goals(try simp only[BL]at *)
 any_goals((simp only[Z8,Z2,Z7,Z5,ZW,bN,bz,dh,Z0];omega))
 ·exact Sx.Fin.intro Zs (bs (nP _ _ _))
theorem XZ(v:dQ)(h:lj v):Pure Tryz.prog 172 [.agg v.cells] (sv (⟨#[64]⟩++v.s)):=by
 have hk:=h.kinds
 refine Xj.p fun σ=> ?_
 repeat'(first|exact .nil|refine .k0 ?_|refine .k1 ?_|refine .k2 ?_|refine .k7 ?_|refine .r1 ?_ ?_|(refine .m1 ?_ ?_;intro b)|fail)
 all_goals(try simp only[BL]at *)
 any_goals((simp only[Z8,Z2,Z7,Z5,ZW,bN,bz,dh,Z0];omega))
 ·exact Sx.Fin.intro Zs rfl
theorem Wk.vo(vs:Array Value):Wk (.v (.agg vs)) (.agg (vs.toList.map .v)):=fun M x h=>by
 obtain rfl:=h.ax
 have:=R.agg (M:=M) (vs.toList.map .v) vs.toList (by simp) (fun i h1 h2=>by simp only[Zm];exact .v _)
 simpa using this
theorem TU(v:dQ)(h:lj v):Pure Tryz.prog 125 [.agg v.cells] (sv (sF v)):=by
 have hk:=h.kinds
 have he:=h.e
 obtain⟨k,n,s⟩:=v
 have bU:k=0∨k=1∨k=2∨k=3∨k=4∨k=5:=by
  have h1:=hk.1
  have h2:=hk.2.1
  simp only at h1 h2
  omega
 rcases bU with rfl|rfl|rfl|rfl|rfl|rfl
 all_goals refine W2.p fun σ=> ?_
 repeat'(first|exact .nil|refine .k0 ?_|refine .k1 ?_|refine .k2 ?_|refine .k7 ?_|refine .k9 ?_|(refine .cd ?_ ?_<;>(intro hc;skip))|refine .r1 ?_ ?_|(refine .l1 ?_;intro b)|(refine .m1 ?_ ?_;intro b)|refine .an rfl (by intro aO;first|exact Nh ⟨_,n,s⟩|exact(aaX ⟨_,n,s⟩).wk (bD.cons (Wk.vo _) bD.nil)|exact(Rh ⟨_,n,s⟩).wk (bD.cons (Wk.vo _) bD.nil)|exact(WJ _ h).wk (bD.cons (Wk.vo _) bD.nil)|exact(Sr _ h).wk (bD.cons (Wk.vo _) bD.nil)|exact(asE _ h).wk (bD.cons (Wk.vo _) bD.nil)|exact(XZ _ h).wk (bD.cons (Wk.vo _) bD.nil)) ?_ ?_|(refine .l3 ?_;intro b)|refine .r6 ?_ ?_|refine .r7 ?_ ?_|fail)
 all_goals(try simp only[BL]at *)
 all_goals try(exfalso;exact hc he)
 all_goals exact Sx.Fin.intro Zs rfl
set_option maxHeartbeats 4000000
def aF(x:Ex):Int:=
 if x.kind=8 then 0 else if x.kind=9 then 1
 else if x.kind=6 then(if x.op=⟨#[45]⟩then 8 else if x.op=⟨#[110,111,116]⟩then 4 else 9)
 else if x.kind=7 then(if x.op=⟨#[111,114]⟩then 2 else if x.op=⟨#[97,110,100]⟩then 3 else if x.op=⟨#[43]⟩∨x.op=⟨#[45]⟩then 6 else if x.op=⟨#[42]⟩∨x.op=⟨#[47]⟩then 7 else 5)
 else 9
theorem LM(x:Ex):0≤aF x∧aF x≤9:=by
 unfold aF
 repeat' split
 all_goals omega
def sJ(w:eT):ag:=
 if w.kind=2 then⟨#[115,108,105,100,105,110,103,32]⟩++iD w.size else if w.kind=3 then⟨#[116,117,109,98,108,105,110,103,32]⟩++iD w.size
 else if w.kind=4 then⟨#[115,101,115,115,105,111,110,32]⟩++iD w.size else⟨#[97,108,108]⟩
def oA(x:Ex):ag:=if x.val.kind=5 then⟨#[64]⟩++(x.name++(⟨#[32,34]⟩++(x.val.s++⟨#[34]⟩)))else sF x.val++j2 x.unit
def par(s:ag):ag:=⟨#[40]⟩++(s++⟨#[41]⟩)
def iN(x:Ex)(T:Nat→ag)(i:Nat)(r:Int):ag:=if aF (x.args.getD i default)<r then par (T i)else T i
def fR(x:Ex)(T:Nat→ag):ag:=
 x.op++(⟨#[40]⟩++(x.table++((if x.op=db then⟨#[]⟩else⟨#[44,32]⟩++T 0)++((if x.param=0 then⟨#[]⟩else⟨#[44,32]⟩++iD x.param)
  ++(⟨#[44,32]⟩++(sJ x.win++((if x.args.getD 1 default=du then⟨#[]⟩else⟨#[32,119,104,101,114,101,32]⟩++T 1)++⟨#[41]⟩)))))))
def sA(x:Ex)(T:Nat→ag):ag:=
 if x.op=⟨#[45]⟩then⟨#[45]⟩++iN x T 0 8 else if x.op=⟨#[110,111,116]⟩then⟨#[110,111,116,32]⟩++iN x T 0 4 else⟨#[110,117,108,108,40]⟩++(T 0++⟨#[41]⟩)
def iE(x:Ex):Int:=if aF x=5 then 6 else aF x
def qJ(x:Ex)(T:Nat→ag):ag:=iN x T 0 (iE x)++(⟨#[32]⟩++(x.op++(⟨#[32]⟩++iN x T 1 (aF x+1))))
def rR(x:Ex)(T:Nat→ag):ag:=⟨#[105,102,32]⟩++(T 0++(⟨#[32,116,104,101,110,32]⟩++(T 1++(⟨#[32,101,108,115,101,32]⟩++T 2))))
def qN(x:Ex)(T:Nat→ag):ag:=iN x T 0 1++(⟨#[32,100,101,102,97,117,108,116,32]⟩++iN x T 1 2)
def vk(x:Ex)(T:Nat→ag):ag:=
 if x.kind=1 then oA x else if x.kind=4 then x.name++(⟨#[32,111,102,32,40]⟩++(T 0++⟨#[41]⟩))else if x.kind=5 then fR x T
 else if x.kind=6 then sA x T else if x.kind=7 then qJ x T else if x.kind=8 then rR x T else if x.kind=9 then qN x T else x.name
mutual
def text:Ex→ag
 | .mk k o n t v u p w ks=>vk (.mk k o n t v u p w ks) (fun i=>(x6 ks).getD i ⟨#[]⟩)
def x6:List Ex→List ag
 |[]=>[]
 |x::l=>text x::x6 l
end
def tx(x:Ex)(i:Nat):ag:=(x6 x.args).getD i ⟨#[]⟩
theorem AY(x:Ex):text x=vk x (tx x):=by cases x;rfl
theorem MT:∀ (l:List Ex) (i:Nat),i<l.length→(x6 l).getD i ⟨#[]⟩=text (l.getD i default)
 |[],_,h=>absurd h (by simp)
 |x::l,0,_=>rfl
 |x::l,i+1,h=>by
  have:=MT l i (by simpa using h)
  simpa[x6]using this
theorem x7{x:Ex}{i:Nat}(h:i<x.args.length):tx x i=text (x.args.getD i default):=MT _ _ h
theorem AF{l:List Ex}(h:0<l.length):(l.getD 0 default).size≤Ex.eI l:=Ex.Ms (ei h)
theorem u9{l:List Ex}(h:1<l.length):(l.getD 0 default).size+(l.getD 1 default).size≤Ex.eI l:=by
 match l,h with
 |a::b::l,_=>simp only[Ex.eI,List.getD_cons_zero,Yc];omega
theorem Mr{l:List Ex}(h:2<l.length):(l.getD 0 default).size+(l.getD 1 default).size+(l.getD 2 default).size≤Ex.eI l:=by
 match l,h with
 |a::b::c::l,_=>simp only[Ex.eI,List.getD_cons_zero,Yc];omega
structure mr(x:Ex)(ins:Bool):Prop where
 nb:eF x ins
 nn:(x.args.length:Int)=jU x
 sub:∀ y∈x.args,form (ins || decide (x.kind=5)) y=true
 cn:x.kind=5→x.op=db→x.args.getD 0 default=du
theorem mr.of{x:Ex}{ins:Bool}(h:form ins x=true):mr x ins:=by
 obtain⟨h1,h2,h3,h4⟩:=(yU ins x).1 h
 exact⟨h1,h2,h3,h4⟩
theorem A6{u:List aq}(h:jc u=0):u.length≤4∧∀ f∈u,gO f:=by
 unfold jc at h
 split at h
 ·omega
 ·rename_i hl
  refine⟨by omega,?_⟩
  have:∀ (l:List aq) (p:Option ag),jd p l=0→∀ f∈l,gO f:=by
   intro l
   induction l with
   |nil=>intro p _ f hf;cases hf
   |cons g l ih=>
    intro p hp f hf
    rw[jd]at hp
    split at hp
    ·rename_i h0
     rcases ZU.1 hf with rfl|hf
     ·unfold mH at h0
      split at h0
      ·omega
      ·rename_i hw
       have hw:=Zd.1 hw
       split at h0
       ·omega
       ·exact⟨hw.2.1,by omega,by omega,hw.1⟩
     ·exact ih _ hp f hf
    ·rename_i h0;exact absurd hp h0
  exact this u none h
theorem A4{t:Ty}(h:gY t=0):t.unit.length≤4∧(∀ f∈t.unit,gO f)∧t.of.size≤24:=by
 unfold gY at h
 split at h
 ·omega
 ·rename_i h3
  split at h
  ·omega
  ·rename_i Ug
   have hu:jc t.unit=0:=Zd.1 fun h'=>Ug (.inl h')
   obtain⟨h1,h2⟩:=A6 hu
   refine⟨h1,h2,?_⟩
   by_cases hk:t.kind=5
   ·have:Name t.of:=Zd.1 fun h'=>h3 (.inr (.inr (.inr (.inl ⟨hk,h'⟩))))
    exact this.1.2.1
   ·have:t.of=⟨#[]⟩:=Zd.1 fun h'=>h3 (.inr (.inr (.inr (.inr ⟨hk,h'⟩))))
    rw[this];decide
theorem DM{n:Int}(h:n≤1152921504606846976):(iD n).size≤21:=by
 show(Lib.decDigits n.toNat).toArray.size≤21
 rw[Z0];exact tv (by omega)
theorem aar{x:Ex}(h:jS x):(oA x).size≤400:=by
 obtain⟨h1,h2,h3,h4⟩:=h
 have hv:lj x.val:=⟨h1,h2⟩
 have hk:=hv.kinds
 have hs:=E2 hv
 obtain⟨hl,hu,ho⟩:=A4 h3
 have hu:(j2 x.unit).size≤210:=x9 hu hl
 simp only at ho
 unfold oA
 split
 ·((simp only[Z8,Z2,Z7,Z5,ZW,bN,bz,dh,Z0];omega))
 ·simp only[bN];omega
theorem Ff{w:eT}(h:j4 w):(sJ w).size≤40:=by
 have:= @DM w.size (by unfold j4 at h;omega)
 unfold sJ
 repeat' split
 all_goals first|decide|((simp only[Z8,Z2,Z7,Z5,ZW,bN,bz,dh,Z0];omega))
theorem BO:∀ s∈jH,s.size≤8:=by decide
theorem BV:∀ s∈ke,s.size≤8:=by decide
theorem jI{x:Ex}{T:Nat→ag}{i:Nat}{r:Int}:(iN x T i r).size≤(T i).size+2:=by
 unfold iN par;split
 ·((simp only[Z8,Z2,Z7,Z5,ZW,bN,bz,dh,Z0];omega))
 ·omega
theorem asH(x:Ex):∀ ins,form ins x=true→(text x).size≤500 * x.size:=by
 induction x using Ex.ind with
 |h x ih=>
 intro ins hf
 have h:=mr.of hf
 have hT:∀ i,i<x.args.length→(tx x i).size≤500 * (x.args.getD i default).size:=fun i hi=>by
  rw[x7 hi];exact ih _ (ei hi) _ (h.sub _ (ei hi))
 have hs:=Ex.l9 x
 have hb:=h.nb
 have hn:=h.nn
 have VB:=hn
 rw[AY]
 unfold vk
 unfold jU at hn
 by_cases h1:x.kind=1
 ·rw[if_pos h1]
  have:=aar (x:=x) (by unfold eF at hb;rwa [if_pos h1]at hb)
  omega
 rw[if_neg h1]
 by_cases h4:x.kind=4
 ·rw[if_pos h4]
  rw[if_pos (.inl h4)]at hn
  have hN:jT x:=by unfold eF at hb;rw[if_neg (by omega),if_neg (by omega),if_pos (.inr h4)]at hb;exact hb.2
  have h5:=hN.1.1.2.1
  have h6:=hT 0 (by omega)
  have h7:=AF (l:=x.args) (by omega)
  ((simp only[Z8,Z2,Z7,Z5,ZW,bN,bz,dh,Z0];omega))
 rw[if_neg h4]
 by_cases h5:x.kind=5
 ·rw[if_pos h5]
  rw[if_neg (by omega),if_pos (.inl h5)]at hn
  have hA:nO x:=by unfold eF at hb;rw[if_neg (by omega),if_neg (by omega),if_neg (by omega),if_pos h5]at hb;exact hb.2
  obtain⟨⟨y,hy,ho⟩,ht,hw,hp, -⟩:=hA
  have e1:=BO y hy
  rw[← ho]at e1
  have e2:=ht.1.2.1
  have e3:=Ff hw
  have e4:(iD x.param).size≤21:=DM (by unfold l7 at hp;repeat' split at hp
                                       all_goals omega)
  have e6:=hT 0 (by omega)
  have e7:=hT 1 (by omega)
  have e8:=u9 (l:=x.args) (by omega)
  have a1:(if x.op=db then(⟨#[]⟩:ag)else⟨#[44,32]⟩++tx x 0).size≤2+(tx x 0).size:=by
   split
   ·rw[bz];exact ZF _
   ·rw[bN,bz];exact ZK _
  have a2:(if x.param=0 then(⟨#[]⟩:ag)else⟨#[44,32]⟩++iD x.param).size≤23:=by
   split
   ·decide
   ·rw[bN,bz];show 2+_≤_;omega
  have a3:(if x.args.getD 1 default=du then(⟨#[]⟩:ag)else⟨#[32,119,104,101,114,101,32]⟩++tx x 1).size≤7+(tx x 1).size:=by
   split
   ·rw[bz];exact ZF _
   ·rw[bN,bz];exact ZK _
  unfold fR
  ((simp only[Z8,Z2,Z7,Z5,ZW,bN,bz,dh,Z0];omega))
 rw[if_neg h5]
 by_cases h6:x.kind=6
 ·rw[if_pos h6]
  rw[if_pos (.inr h6)]at hn
  have e6:=hT 0 (by omega)
  have e7:=AF (l:=x.args) (by omega)
  have e8:= @jI x (tx x) 0 8
  have e9:= @jI x (tx x) 0 4
  unfold sA
  repeat' split
  all_goals((simp only[Z8,Z2,Z7,Z5,ZW,bN,bz,dh,Z0];omega))
 rw[if_neg h6]
 by_cases h7:x.kind=7
 ·rw[if_pos h7]
  rw[if_neg (by omega),if_pos (.inr (.inl h7))]at hn
  have hB:∃ y∈ke,x.op=y:=by unfold eF at hb;rw[if_neg (by omega),if_neg (by omega),if_neg (by omega),if_neg (by omega),if_neg (by omega),if_pos h7]at hb;exact hb.2
  obtain⟨y,hy,ho⟩:=hB
  have e1:=BV y hy
  rw[← ho]at e1
  have e6:=hT 0 (by omega)
  have e7:=hT 1 (by omega)
  have e8:=u9 (l:=x.args) (by omega)
  have e9:= @jI x (tx x) 0 (iE x)
  have wg:= @jI x (tx x) 1 (aF x+1)
  unfold qJ
  ((simp only[Z8,Z2,Z7,Z5,ZW,bN,bz,dh,Z0];omega))
 rw[if_neg h7]
 by_cases h8:x.kind=8
 ·rw[if_pos h8]
  rw[if_neg (by omega),if_neg (by omega),if_pos h8]at hn
  have e6:=hT 0 (by omega)
  have e7:=hT 1 (by omega)
  have e5:=hT 2 (by omega)
  have e8:=Mr (l:=x.args) (by omega)
  unfold rR
  ((simp only[Z8,Z2,Z7,Z5,ZW,bN,bz,dh,Z0];omega))
 rw[if_neg h8]
 by_cases h9:x.kind=9
 ·rw[if_pos h9]
  rw[if_neg (by omega),if_pos (.inr (.inr h9))]at hn
  have e6:=hT 0 (by omega)
  have e7:=hT 1 (by omega)
  have e8:=u9 (l:=x.args) (by omega)
  have e9:= @jI x (tx x) 0 1
  have wg:= @jI x (tx x) 1 2
  unfold qN
  ((simp only[Z8,Z2,Z7,Z5,ZW,bN,bz,dh,Z0];omega))
 rw[if_neg h9]
 have hN:jT x:=by
  unfold eF at hb
  rw[if_neg h1]at hb
  split at hb
  ·exact hb.2
  ·split at hb
   ·exact hb.2
   ·rw[if_neg (by omega)]at hb;exact hb.elim
 have h5:=hN.1.1.2.1
 omega
end Go.Proofs.YtbihckigennlhaaGreatDoor
