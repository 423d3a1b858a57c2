/- Lists of strings and of factors; units; types. -/
import Derived.Test.YtbihckigennlhaaGreatDoorPt
import Derived.Test.YtbihckigennlhaaGreatDoorCodeB
import Derived.Lib.ItoaLen
set_option linter.unusedSimpArgs false
set_option linter.unusedVariables false
set_option maxRecDepth 100000
namespace Go.Proofs.YtbihckigennlhaaGreatDoor
open Go.Sx Go.Proofs
def firstIdx{α:Type}(p:α→Bool):List α→Nat→Int
 |[],_=> -1
 |x::l,k=>if p x then k else firstIdx p l (k+1)
theorem AP{α:Type}(p:α→Bool):∀ (l:List α) (k:Nat),0≤firstIdx p l k↔∃ x∈l,p x=true
 |[],k=>by simp[firstIdx]
 |x::l,k=>by
  unfold firstIdx
  cases h:p x with
  |true=>simp[h]
  |false=>simp[h,AP p l (k+1)]
theorem AQ{α:Type}{p:α→Bool}:∀ {l:List α} {k:Nat},(∀ x∈l,p x=false)→firstIdx p l k= -1
 |[],k,_=>rfl
 |x::l,k,h=>by unfold firstIdx;rw[h x (by simp)];exact AQ fun y hy=>h y (by simp[hy])
theorem AO{α:Type}[Inhabited α]{p:α→Bool}:∀ {l:List α} {k i:Nat},(∀ j,j<i→p (l.getD j default)=false)→i<l.length→p (l.getD i default)=true→firstIdx p l k=((k+i:Nat):Int)
 |[],k,i,_,h,_=>absurd h (by simp)
 |x::l,k,0,_,_,h=>by
  have h:p x=true:=h
  unfold firstIdx;rw[h];simp
 |x::l,k,i+1,ha,hi,h=>by
  have h0:p x=false:=ha 0 (by omega)
  unfold firstIdx
  rw[h0]
  simp only[ZS,Zt]
  rw[AO (k:=k+1) (i:=i) (fun j hj=>ha (j+1) (by omega)) (by simpa using hi) h]
  congr 1;omega
theorem rG{α:Type}[Inhabited α]{p:α→Prop}{l:List α}(h:∀ j,j<l.length→p (l.getD j default)):∀ x∈l,p x:=fun x hx=>by
 obtain⟨i,hi,rfl⟩:=Zd.1 hx
 have:=h i hi
 rwa [getD_eq hi]at this
theorem aaV(l:List af)(x:af):Pure Tryz.prog 129 [.sl false 1 (l.map dL),sv x] (iv (firstIdx (fun y=>decide (x=y)) l 0)):=by
 refine abA.p fun σ=> ?_
 repeat'(first|exact .nil|refine .k0 ?_|refine .k1 ?_|refine .k2 ?_|refine .k6 ?_|refine .r1 ?_ ?_|(refine .m2 ?_ ?_;intro hlen)|fail)
 all_goals(try simp only[BL]at *)
 refine cQ (fun n rg σ'=>∃ i:Nat,i≤l.length∧n=l.length-i∧(∀ j,j<i→¬x=l.getD j default)∧σ'=σ∧rg=[(0,.sl false 1 (l.map dL)),(1,sv x),(7,iv l.length),(8,iv i)]) l.length rfl ⟨_,_,Zr,Zs,0,ZK _,rfl,fun j hj=>absurd hj (by omega),rfl,rfl⟩ ?_
 rintro n _ _ ⟨i,hi,hn,hp,rfl,rfl⟩
 repeat'(first|exact .nil|refine .k0 ?_|refine .k1 ?_|refine .k2 ?_|refine .k6 ?_|refine .k7 ?_|refine .k8 ?_|refine .k9 ?_|(refine .cd ?_ ?_<;>(intro hc;skip))|refine .r1 ?_ ?_|refine .t1 ?_ ?_ ?_|fail)
 try any_goals(exact Zo)
 all_goals(try simp only[BL]at *)
 ·rw[AO (p:=fun y=>decide (x=y)) (l:=l) (k:=0) (i:=i) (fun j hj=>Zp (hp j hj)) (by omega) (Zi hc),Zh]
  exact Zw
 ·refine⟨l.length-(i+1),by omega,_,_,Zr,Zs,i+1,by omega,rfl,gW hp hc,rfl,by rw[eD (by omega) hlen]⟩
 ·rw[AQ (fun y hy=>Zp (rG (p:=fun y=>¬x=y) (fun j hj=>hp j (by omega)) y hy))]
  exact Zw
theorem Dy(l:List af)(x:af):Pure Tryz.prog 89 [.sl false 1 (l.map dL),sv x] (.v (.bool (decide (∃ y∈l,x=y)))):=by
 refine k89.p fun σ=> ?_
 repeat'(first|exact .nil|refine .k0 ?_|refine .k1 ?_|refine .k2 ?_|refine .k7 ?_|refine .r1 ?_ ?_|refine .an rfl (by intro bx;exact aaV _ _) ?_ ?_|fail)
 all_goals(try simp only[BL]at *)
 ·(refine Sx.Fin.intro Zs (bd ?_);(try simp only[BL]at *);(try simp only[dp,dG,dz,Ya]at *))
  rw[AP]
  simp only[ZB]
theorem Wh(f:aq):Pure Tryz.prog 108 [.agg f.cells] (.v (.bool (decide (¬Name f.name)))):=by
 refine abt.p fun σ=> ?_
 repeat'(first|exact .nil|refine .k0 ?_|refine .k1 ?_|refine .k2 ?_|refine .k7 ?_|refine .r1 ?_ ?_|(refine .m1 ?_ ?_;intro b)|refine .an rfl (by intro bx;exact vR _) ?_ ?_|fail)
 all_goals(try simp only[BL]at *)
 ·refine Sx.Fin.intro Zs ?_
  rw[decide_not]
theorem aaU(u:List aq):Pure Tryz.prog 149 [.sl false 2 (u.map aq.cells),.v (.func (.func 108) #[] #[])] (iv (firstIdx (fun f=>decide (¬Name f.name)) u 0)):=by
 refine abL.p fun σ=> ?_
 repeat'(first|exact .nil|refine .k0 ?_|refine .k1 ?_|refine .k2 ?_|refine .k6 ?_|refine .r1 ?_ ?_|(refine .m2 ?_ ?_;intro hlen)|fail)
 all_goals(try simp only[BL]at *)
 refine cQ (fun n rg σ'=>∃ i:Nat,i≤u.length∧n=u.length-i∧(∀ j,j<i→Name (u.getD j default).name)∧σ'=σ∧rg=[(0,.sl false 2 (u.map aq.cells)),(1,.v (.func (.func 108) #[] #[])),(7,iv u.length),(8,iv i)]) u.length rfl ⟨_,_,Zr,Zs,0,ZK _,rfl,fun j hj=>absurd hj (by omega),rfl,rfl⟩ ?_
 rintro n _ _ ⟨i,hi,hn,hp,rfl,rfl⟩
 repeat'(first|exact .nil|refine .k0 ?_|refine .k1 ?_|refine .k2 ?_|refine .k6 ?_|refine .k7 ?_|refine .k8 ?_|refine .k9 ?_|(refine .cd ?_ ?_<;>(intro hc;skip))|refine .r1 ?_ ?_|refine .t1 ?_ ?_ ?_|refine .an rfl (by intro bx;exact Wh _) ?_ ?_|fail)
 try any_goals(exact Zo)
 all_goals(try simp only[BL]at *)
 ·rw[AO (p:=fun f:aq=>decide (¬Name f.name)) (l:=u) (k:=0) (i:=i) (fun j hj=>Zp (fun h=>h (hp j hj))) (by omega) (Zi hc),Zh]
  exact Zw
 ·refine⟨u.length-(i+1),by omega,_,_,Zr,Zs,i+1,by omega,rfl,gW hp (Y4.1 hc),rfl,by rw[eD (by omega) hlen]⟩
 ·rw[AQ (fun y hy=>Zp (fun h=>h (rG (p:=fun y:aq=>Name y.name) (fun j hj=>hp j (by omega)) y hy)))]
  exact Zw
theorem U1(u:List aq):Pure Tryz.prog 107 [.sl false 2 (u.map aq.cells),.v (.func (.func 108) #[] #[])] (.v (.bool (decide (∃ f∈u,¬Name f.name)))):=by
 refine abq.p fun σ=> ?_
 repeat'(first|exact .nil|refine .k0 ?_|refine .k1 ?_|refine .k2 ?_|refine .k7 ?_|refine .r1 ?_ ?_|refine .an rfl (by intro bx;exact aaU _) ?_ ?_|fail)
 all_goals(try simp only[BL]at *)
 ·(refine Sx.Fin.intro Zs (bd ?_);(try simp only[BL]at *);(try simp only[dp,dG,dz,Ya]at *))
  rw[AP]
  simp only[ZB]
theorem DH{α:Type}[Inhabited α]{a b:List α}(hl:a.length=b.length)(h:∀ j,j<a.length→a.getD j default=b.getD j default):a=b:=by
 apply List.ext_getElem hl
 intro i h1 h2
 have:=h i h1
 rwa [getD_eq h1,getD_eq h2]at this
theorem J9{a b:aq}(h:a.name=b.name∧a.exp=b.exp):a=b:=by cases a;cases b;simp_all
theorem axR(a b:List aq):Pure Tryz.prog 59 [.sl false 2 (a.map aq.cells),.sl false 2 (b.map aq.cells)] (.v (.bool (decide (a=b)))):=by
 refine k59.p fun σ=> ?_
 repeat'(first|exact .nil|refine .k0 ?_|refine .k1 ?_|refine .k2 ?_|refine .k6 ?_|refine .k7 ?_|refine .k9 ?_|(refine .cd ?_ ?_<;>(intro hc;skip))|refine .r1 ?_ ?_|(refine .m2 ?_ ?_;intro hlen)|fail)
 all_goals(try simp only[BL]at *)
 ·refine Sx.Fin.intro Zs (bf ?_)
  rintro rfl;exact hc rfl
 refine cQ (fun n rg σ'=>∃ i:Nat,i≤a.length∧n=a.length-i∧(∀ j,j<i→a.getD j default=b.getD j default)∧σ'=σ∧rg=[(0,.sl false 2 (a.map aq.cells)),(1,.sl false 2 (b.map aq.cells)),(5,iv i)]) a.length rfl ⟨_,_,Zr,Zs,0,ZK _,rfl,fun j hj=>absurd hj (by omega),rfl,rfl⟩ ?_
 rintro n _ _ ⟨i,hi,hn,hp,rfl,rfl⟩
 repeat'(first|exact .nil|refine .k0 ?_|refine .k1 ?_|refine .k2 ?_|refine .k5 ?_|refine .k6 ?_|refine .k7 ?_|refine .k8 ?_|refine .k9 ?_|(refine .cd ?_ ?_<;>(intro hc;skip))|refine .r1 ?_ ?_|(refine .m2 ?_ ?_;intro hlen)|refine .t1 ?_ ?_ ?_|fail)
 try any_goals(exact Zo)
 all_goals(try simp only[BL]at *)
 ·refine Sx.Fin.intro Zs (bf ?_)
  rintro rfl
  rcases hc with hc|hc<;>exact hc rfl
 ·refine⟨a.length-(i+1),by omega,_,_,Zr,Zs,i+1,by omega,rfl,gW hp (J9 hc),rfl,by rw[eD (by omega) hlen]⟩
 ·refine Sx.Fin.intro Zs (bt ?_)
  exact DH (by omega) (fun j hj=>hp j (by omega))
theorem VB(a b:List aq):Pure Tryz.prog 130 [.sl false 2 (a.map aq.cells),.sl false 2 (b.map aq.cells)] (.v (.bool (decide (a=b)))):=by
 refine abC.p fun σ=> ?_
 repeat'(first|exact .nil|refine .k0 ?_|refine .k1 ?_|refine .k2 ?_|refine .k6 ?_|refine .k7 ?_|refine .k9 ?_|(refine .cd ?_ ?_<;>(intro hc;skip))|refine .r1 ?_ ?_|(refine .m2 ?_ ?_;intro hlen)|fail)
 all_goals(try simp only[BL]at *)
 ·refine Sx.Fin.intro Zs (bf ?_)
  rintro rfl;exact hc rfl
 refine cQ (fun n rg σ'=>∃ i:Nat,i≤a.length∧n=a.length-i∧(∀ j,j<i→a.getD j default=b.getD j default)∧σ'=σ∧rg=[(0,.sl false 2 (a.map aq.cells)),(1,.sl false 2 (b.map aq.cells)),(12,iv a.length),(13,iv i)]) a.length rfl ⟨_,_,Zr,Zs,0,ZK _,rfl,fun j hj=>absurd hj (by omega),rfl,rfl⟩ ?_
 rintro n _ _ ⟨i,hi,hn,hp,rfl,rfl⟩
 repeat'(first|exact .nil|refine .k0 ?_|refine .k1 ?_|refine .k2 ?_|refine .k5 ?_|refine .k6 ?_|refine .k7 ?_|refine .k8 ?_|refine .k9 ?_|(refine .cd ?_ ?_<;>(intro hc;skip))|refine .r1 ?_ ?_|refine .t1 ?_ ?_ ?_|fail)
 try any_goals(exact Zo)
 all_goals(try simp only[BL]at *)
 ·refine Sx.Fin.intro Zs (bf ?_)
  rintro rfl
  rcases hc with hc|hc<;>exact hc rfl
 ·refine⟨a.length-(i+1),by omega,_,_,Zr,Zs,i+1,by omega,rfl,gW hp (J9 hc),rfl,by rw[eD (by omega) hlen]⟩
 ·refine Sx.Fin.intro Zs (bt ?_)
  exact DH (by omega) (fun j hj=>hp j (by omega))
def vH(a b:af):Bool:=Op.bytesLess a.toList b.toList || decide (a=b)
def jW(p:Option af)(f:aq):Int:=if¬Word f.name then 1 else if f.exp=0∨f.exp>8∨f.exp< -8 then 70 else match p with
 |some p=>if vH f.name p=true then 3 else 0
 |none=>0
def im:Option af→List aq→Int
 |_,[]=>0
 |p,f::l=>if jW p f=0 then im (some f.name) l else jW p f
def gS(u:List aq):Int:=if u.length>4 then 2 else im none u
def kP(u:List aq)(i:Nat):Option af:=if i=0 then none else some (u.getD (i-1) default).name
theorem Py{u:List aq}{i:Nat}(hi:i<u.length)(h:jW (kP u i) (u.getD i default)=0):im (kP u i) (u.drop i)=im (kP u (i+1)) (u.drop (i+1)):=by
 rw[qp hi,im,if_pos h];rfl
theorem wJ{u:List aq}{i:Nat}{e:Int}(hi:i<u.length)(h:jW (kP u i) (u.getD i default)=e)(he:e≠0):im (kP u i) (u.drop i)=e:=by
 rw[qp hi,im,if_neg (by rw[h];exact he),h]
theorem ayW(u:List aq):Pure Tryz.prog 106 [.sl false 2 (u.map aq.cells)] (iv (gS u)):=by
 refine abp.p fun σ=> ?_
 repeat'(first|exact .nil|refine .k0 ?_|refine .k1 ?_|refine .k2 ?_|refine .k6 ?_|refine .k7 ?_|refine .k9 ?_|(refine .cd ?_ ?_<;>(intro hc;skip))|refine .r1 ?_ ?_|(refine .m2 ?_ ?_;intro hlen)|fail)
 all_goals(try simp only[BL]at *)
 ·rw[gS,if_pos (by omega)]
  exact Zw
 have hu:gS u=im none u:=if_neg (by omega)
 refine cQ (fun n rg σ'=>∃ i:Nat,i≤u.length∧n=u.length-i∧gS u=im (kP u i) (u.drop i)∧σ'=σ∧rg=[(0,.sl false 2 (u.map aq.cells)),(8,.sl false 2 (u.map aq.cells)),(9,iv u.length),(10,iv i)]) u.length rfl ⟨_,_,Zr,Zs,0,ZK _,rfl,hu,rfl,rfl⟩ ?_
 rintro n _ _ ⟨i,hi,hn,hp,rfl,rfl⟩
 repeat'(first|exact .nil|refine .k0 ?_|refine .k1 ?_|refine .k2 ?_|refine .k3 ?_|refine .k4 ?_|refine .k5 ?_|refine .k6 ?_|refine .k7 ?_|refine .k8 ?_|refine .k9 ?_|(refine .cd ?_ ?_<;>(intro hc;skip))|refine .r1 ?_ ?_|(refine .l1 ?_;intro b)|refine .t1 ?_ ?_ ?_|refine .an rfl (by intro bx;first|exact P2 _|exact Ny _ 8 (by decide)|fail) ?_ ?_|fail)
 try any_goals(exact Zo)
 all_goals(try simp only[BL]at *)
 ·rw[hp,wJ (e:=1) (by omega) (by unfold jW;rw[if_pos hc]) (by decide)]
  exact Zw
 ·rename_i hw
  rw[hp,wJ (e:=70) (by omega) (by unfold jW;rw[if_neg (fun h=>h hw),if_pos (by omega)]) (by decide)]
  exact Zw
 ·rename_i hw he
  rw[vZ (by omega) (by omega),Y8]at hc
  rw[hp,wJ (e:=3) (by omega) (by
   unfold jW;rw[if_neg (fun h=>h hw),if_neg (by omega),kP,if_neg (by omega)]
   exact if_pos (by simp only[vH,Zl,ZB];exact hc.2)) (by decide)]
  exact Zw
 ·rename_i hw he
  refine⟨u.length-(i+1),by omega,_,_,Zr,Zs,i+1,by omega,rfl,?_,rfl,by rw[eD (n:=u.length) (by omega) (by assumption)]⟩
  rw[hp]
  refine Py (by omega) ?_
  unfold jW;rw[if_neg (fun h=>h hw),if_neg (by omega)]
  by_cases h0:i=0
  ·rw[kP,if_pos h0]
  ·rw[vZ (by omega) (by omega),Y8]at hc
   rw[kP,if_neg h0]
   refine if_neg ?_
   rcases hc with hc|hc
   ·omega
   ·simp only[vH,Zl,ZB]
    rintro(h|h)
    ·rw[h]at hc;exact Bool.noConfusion hc.1
    ·exact hc.2 h
 all_goals(try(intro h0;rw[vZ (by omega) (by omega)];omega))
 ·rw[hp,Yb (by omega),im]
  exact Zw
theorem bi{n m:Int}(h:n=m):AV.v (.int .i64 n)=iv m:=by rw[h]
def Num(t:Ty):Prop:=t.kind=2∨t.kind=3
instance (t:Ty):Decidable (Num t):=inferInstanceAs (Decidable (_∨_))
theorem aa4(t:Ty):Pure Tryz.prog 105 [.agg t.cells] (.v (.bool (decide (Num t)))):=by
 refine abo.p fun σ=> ?_
 repeat'(first|exact .nil|refine .k0 ?_|refine .k1 ?_|refine .k2 ?_|refine .k4 ?_|refine .k7 ?_|refine .r1 ?_ ?_|(refine .m1 ?_ ?_;intro b)|fail)
 try any_goals(exact Zo)
 all_goals(try simp only[BL]at *)
 ·(((refine Sx.Fin.intro Zs (bd ?_);(try simp only[BL]at *);(try simp only[dp,dG,dz,Ya]at *)));try omega)
  unfold Num;omega
def il(t:Ty):Int:=
 if t.kind<1∨t.kind>5∨(t.unit≠[]∧¬Num t)∨(t.kind=5∧¬Name t.of)∨(t.kind≠5∧t.of≠⟨#[]⟩)then 3
 else if gS t.unit≠0∨∃ f∈t.unit,¬Name f.name then 70 else 0
theorem acR{s:af}(h:Name s):s≠⟨#[]⟩:=fun e=>by have:=h.1.1;rw[tR.2 e]at this;omega
theorem Cp{t:Ty}(h:t.kind<1∨t.kind>5∨(t.unit≠[]∧¬Num t)∨(t.kind=5∧¬Name t.of)∨(t.kind≠5∧t.of≠⟨#[]⟩)):il t=3:=if_pos h
theorem GQ{t:Ty}(h:¬(t.kind<1∨t.kind>5∨(t.unit≠[]∧¬Num t)∨(t.kind=5∧¬Name t.of)∨(t.kind≠5∧t.of≠⟨#[]⟩)))(h':gS t.unit≠0∨∃ f∈t.unit,¬Name f.name):il t=70:=(if_neg h).trans (if_pos h')
theorem Pt{t:Ty}(h:¬(t.kind<1∨t.kind>5∨(t.unit≠[]∧¬Num t)∨(t.kind=5∧¬Name t.of)∨(t.kind≠5∧t.of≠⟨#[]⟩)))(h':¬(gS t.unit≠0∨∃ f∈t.unit,¬Name f.name)):il t=0:=(if_neg h).trans (if_neg h')
theorem MG{α:Type}{l:List α}:0<(l.length:Int)↔l≠[]:=by cases l<;>simp<;>omega
theorem Pw(t:Ty):Pure Tryz.prog 55 [.agg t.cells] (iv (il t)):=by
 have hl:= @MG aq t.unit
 have hn:= @acR t.of
 refine k55.p fun σ=> ?_
 repeat'(first|exact .nil|refine .k0 ?_|refine .k1 ?_|refine .k2 ?_|refine .k4 ?_|refine .k7 ?_|refine .k9 ?_|(refine .cd ?_ ?_<;>(intro hc;skip))|refine .r1 ?_ ?_|(refine .m1 ?_ ?_;intro b)|(refine .m2 ?_ ?_;intro hlen)|refine .an rfl (by intro bx;first|exact vR _|exact ayW _|exact U1 _|exact aa4 _|fail) ?_ ?_|fail)
 try any_goals(exact Zo)
 all_goals(try simp only[BL]at *)
 ·rw[Cp (by grind)]
  exact Zw
 ·cases(decide (t.kind=5) == !decide (t.of=⟨#[]⟩))<;>simp
 ·rw[Cp (by grind)]
  exact Zw
 ·rename_i h1 h2
  rw[GQ (by grind) hc]
  exact Zw
 ·rename_i h1 h2
  rw[Pt (by grind) (by grind)]
  exact Zw
def pr(low:Nat)(c:UInt8):Prop:=low≤c.toNat∧c.toNat≤126∧c.toNat≠34∧c.toNat≠92
instance (low:Nat)(c:UInt8):Decidable (pr low c):=inferInstanceAs (Decidable (_∧_∧_∧_))
def jP(s:af)(low:Nat):Prop:=∀ i,i<s.size→pr low (bB s i)
instance (s:af)(low:Nat):Decidable (jP s low):=inferInstanceAs (Decidable (∀ i,i<s.size→_))
def mq(v:ek):Prop:=0≤v.kind∧v.kind≤5∧(v.kind≤3→v.s=⟨#[]⟩)∧(v.kind=0→v.n=0)∧(v.kind=1→v.n=0∨v.n=1)∧(4≤v.kind→v.n=0)
instance (v:ek):Decidable (mq v):=inferInstanceAs (Decidable (_∧_∧_∧_∧_∧_))
def kW(v:ek):Int:=
 if¬mq v then 1
 else if v.n< -1152921504606846976∨v.n>1152921504606846976∨(v.kind=4∧v.s.size>64)∨(v.kind=5∧v.s.size>32)then 2
 else if(v.kind=4∧¬jP v.s 32)∨(v.kind=5∧(v.s=⟨#[]⟩∨¬jP v.s 33))then 3 else 0
theorem PE(v:ek):Pure Tryz.prog 88 [.agg v.cells] (iv (kW v)):=by
 refine k88.p fun σ=> ?_
 repeat'(first|exact .nil|refine .k0 ?_|refine .k1 ?_|refine .k2 ?_|refine .k4 ?_|refine .k6 ?_|refine .k7 ?_|refine .k9 ?_|(refine .cd ?_ ?_<;>(intro hc;first|exact kf hc (by assumption)|skip))|refine .r1 ?_ ?_|(refine .m1 ?_ ?_;intro b)|fail)
 try any_goals(exact Zo)
 all_goals(try simp only[BL]at *)
 any_goals(refine Sx.Fin.intro Zs (bi ?_);unfold kW mq;grind)
 ·refine cQ (fun n rg σ'=>∃ i:Nat,i≤v.s.size∧n=v.s.size-i∧(∀ j,j<i→pr 33 (bB v.s j))∧σ'=(1,b,bN.cells v.cells)::σ∧rg=[(1,.lp 1 b 0),(6,.v (.int .u8 33)),(88,iv v.s.size),(89,iv i)]) v.s.size rfl ⟨_,_,Zr,Zs,0,ZK _,rfl,fun j hj=>absurd hj (by omega),rfl,rfl⟩ ?_
  rintro n _ _ ⟨i,hi,hn,hp,rfl,rfl⟩
  repeat'(first|exact .nil|refine .k0 ?_|refine .k1 ?_|refine .k2 ?_|refine .k4 ?_|refine .k6 ?_|refine .k7 ?_|refine .k8 ?_|refine .k9 ?_|(refine .cd ?_ ?_<;>(intro hc;skip))|refine .r1 ?_ ?_|refine .t5 ?_ ?_ ?_|fail)
  try any_goals(exact Zo)
  all_goals(try simp only[BL]at *)
  ·refine Sx.Fin.intro Zs (bi ?_)
   have:¬jP v.s 33:=fun h=>by have:=h i (by omega);unfold pr at this;omega
   unfold kW mq;grind
  ·refine⟨v.s.size-(i+1),by omega,_,_,Zr,Zs,i+1,by omega,rfl,gW hp ?_,rfl,by rw[aW (by omega)];rfl⟩
   unfold pr;omega
  ·refine Sx.Fin.intro Zs (bi ?_)
   have:jP v.s 33:=fun j hj=>hp j (by omega)
   unfold kW mq;grind
 ·refine cQ (fun n rg σ'=>∃ i:Nat,i≤v.s.size∧n=v.s.size-i∧(∀ j,j<i→pr 32 (bB v.s j))∧σ'=(1,b,bN.cells v.cells)::σ∧rg=[(1,.lp 1 b 0),(6,.v (.int .u8 32)),(88,iv v.s.size),(89,iv i)]) v.s.size rfl ⟨_,_,Zr,Zs,0,ZK _,rfl,fun j hj=>absurd hj (by omega),rfl,rfl⟩ ?_
  rintro n _ _ ⟨i,hi,hn,hp,rfl,rfl⟩
  repeat'(first|exact .nil|refine .k0 ?_|refine .k1 ?_|refine .k2 ?_|refine .k4 ?_|refine .k6 ?_|refine .k7 ?_|refine .k8 ?_|refine .k9 ?_|(refine .cd ?_ ?_<;>(intro hc;skip))|refine .r1 ?_ ?_|refine .t5 ?_ ?_ ?_|fail)
  try any_goals(exact Zo)
  all_goals(try simp only[BL]at *)
  ·refine Sx.Fin.intro Zs (bi ?_)
   have:¬jP v.s 32:=fun h=>by have:=h i (by omega);unfold pr at this;omega
   unfold kW mq;grind
  ·refine⟨v.s.size-(i+1),by omega,_,_,Zr,Zs,i+1,by omega,rfl,gW hp ?_,rfl,by rw[aW (by omega)];rfl⟩
   unfold pr;omega
  ·refine Sx.Fin.intro Zs (bi ?_)
   have:jP v.s 32:=fun j hj=>hp j (by omega)
   unfold kW mq;grind
def Ex.lay(x:Ex):List AV:=[iv x.kind,sv x.op,sv x.name,sv x.table,iv x.val.kind,iv x.val.n,sv x.val.s,.sl false 2 (x.unit.map aq.cells),iv x.param,iv x.win.kind,iv x.win.size,.sl false 12 (x.args.map Ex.row)]
theorem Ex.An(x:Ex):x.args.length<x.size:=by
 have:∀ l:List Ex,l.length≤Ex.er l:=fun l=>by
  induction l with
  |nil=>simp
  |cons y l ih=>have:=Ex.size_pos y;simp only[Z9,Ex.er];omega
 have:=this x.args
 rw[Ex.pN];omega
theorem Ex.O0{x:Ex}{i:Nat}(h:i<x.args.length)(hs:x.size≤100000):IntKind.i64.wrap (((1+Ex.er (x.args.take i):Nat):Int)+(x.args.getD i default).size)=((1+Ex.er (x.args.take (i+1)):Nat):Int):=by
 have h1:=Ex.axX h
 have h2:=Ex.axY x.args (i+1)
 have h3:=Ex.pN x
 rw[aW (by omega),h1];omega
theorem Ex.OZ{x:Ex}{i:Nat}(h:i<x.args.length):(if false=true then(if((x.args.getD i default).depth:Int)<(Ex.iD (x.args.take i):Int)then((x.args.getD i default).depth:Int)else Ex.iD (x.args.take i))else(if((x.args.getD i default).depth:Int)>(Ex.iD (x.args.take i):Int)then((x.args.getD i default).depth:Int)else Ex.iD (x.args.take i)))=((Ex.iD (x.args.take (i+1)):Nat):Int):=by
 rw[if_neg Bool.false_ne_true,Ex.Vl h]
 split<;>omega
theorem Ex.JP{x:Ex}{i:Nat}(h:x.args.length≤i)(hs:x.size≤100000):IntKind.i64.wrap ((Ex.iD (x.args.take i):Int)+1)=(x.depth:Int):=by
 have:=Ex.JK x
 have h2:=Ex.Vn x
 rw[ZC h,aW (by omega)];omega
theorem ax1(x:Ex):x.size≤100000→Pure Tryz.prog 40 [.agg x.row] (iv x.size):=by
 induction x using Ex.ind with
 |h x ih=>
 intro hs
 have fC:∀ y∈x.args,Pure Tryz.prog 40 [.agg y.row] (iv y.size):=fun y hy=>ih y hy (by have:=Ex.tQ hy;omega)
 have hl:=Ex.An x
 rw[Ex.bX]
 refine k40.p fun σ=> ?_
 repeat'(first|exact .nil|refine .k0 ?_|refine .k1 ?_|refine .k2 ?_|refine .k6 ?_|refine .r1 ?_ ?_|(refine .m1 ?_ ?_;intro b)|(refine .m2 ?_ ?_;intro hlen)|fail)
 all_goals(try simp only[BL]at *)
 refine cQ (fun n rg σ'=>∃ i:Nat,i≤x.args.length∧n=x.args.length-i∧σ'=(1,b,bN.cells x.lay)::σ∧rg=[(2,iv (1+Ex.er (x.args.take i):Nat)),(6,.sl false 12 (x.args.map Ex.row)),(7,iv x.args.length),(8,iv i)]) x.args.length rfl ⟨_,_,Zr,Zs,0,ZK _,rfl,rfl,rfl⟩ ?_
 rintro n _ _ ⟨i,hi,hn,rfl,rfl⟩
 repeat'(first|exact .nil|refine .k0 ?_|refine .k1 ?_|refine .k2 ?_|refine .k6 ?_|refine .k7 ?_|refine .k8 ?_|refine .k9 ?_|(refine .cd ?_ ?_<;>(intro hc;skip))|refine .r1 ?_ ?_|(refine .l1 ?_;intro b)|refine .t1 ?_ ?_ ?_|refine .an rfl (by intro bx;exact fC (x.args.getD i default) (cW (by(simp only[BL]at *;omega)))) ?_ ?_|fail)
 try any_goals(exact Zo)
 all_goals(try simp only[BL]at *)
 ·refine⟨x.args.length-(i+1),by omega,_,_,Zr,Zs,i+1,by omega,rfl,rfl,?_⟩
  rw[Ex.O0 (by omega) hs,aW (by omega)];rfl
 ·rw[ZC (i:=i) (l:=x.args) (by omega),Ex.pN]
  exact Zw
theorem Vo(x:Ex):x.size≤100000→Pure Tryz.prog 41 [.agg x.row] (iv x.depth):=by
 induction x using Ex.ind with
 |h x ih=>
 intro hs
 have fC:∀ y∈x.args,Pure Tryz.prog 41 [.agg y.row] (iv y.depth):=fun y hy=>ih y hy (by have:=Ex.tQ hy;omega)
 have hl:=Ex.An x
 rw[Ex.bX]
 refine k41.p fun σ=> ?_
 repeat'(first|exact .nil|refine .k0 ?_|refine .k1 ?_|refine .k2 ?_|refine .k6 ?_|refine .r1 ?_ ?_|(refine .m1 ?_ ?_;intro b)|(refine .m2 ?_ ?_;intro hlen)|fail)
 all_goals(try simp only[BL]at *)
 refine cQ (fun n rg σ'=>∃ i:Nat,i≤x.args.length∧n=x.args.length-i∧σ'=(1,b,bN.cells x.lay)::σ∧rg=[(2,iv (Ex.iD (x.args.take i):Nat)),(6,.sl false 12 (x.args.map Ex.row)),(7,iv x.args.length),(8,iv i)]) x.args.length rfl ⟨_,_,Zr,Zs,0,ZK _,rfl,rfl,rfl⟩ ?_
 rintro n _ _ ⟨i,hi,hn,rfl,rfl⟩
 repeat'(first|exact .nil|refine .k0 ?_|refine .k1 ?_|refine .k2 ?_|refine .k6 ?_|refine .k7 ?_|refine .k8 ?_|refine .k9 ?_|(refine .cd ?_ ?_<;>(intro hc;skip))|refine .r1 ?_ ?_|(refine .l1 ?_;intro b)|refine .t1 ?_ ?_ ?_|refine .an rfl (by intro bx;exact fC (x.args.getD i default) (cW (by(simp only[BL]at *;omega)))) ?_ ?_|fail)
 try any_goals(exact Zo)
 all_goals(try simp only[BL]at *)
 ·refine⟨x.args.length-(i+1),by omega,_,_,Zr,Zs,i+1,by omega,rfl,rfl,?_⟩
  rw[Ex.OZ (by omega),aW (by omega)];rfl
 ·refine Sx.Fin.intro Zs (bi ?_)
  exact Ex.JP (by omega) hs
def Ex.lens(x:Ex):Nat:=x.op.size+x.name.size+x.table.size+x.val.s.size
mutual
def Ex.wt:Ex→Nat
 | .mk _ o n t v _ _ _ ks=>max (o.size+n.size+t.size+v.s.size) (Ex.uh ks)
def Ex.uh:List Ex→Nat
 |[]=>0
 |x::l=>max x.wt (Ex.uh l)
end
theorem Ex.P4(x:Ex):x.wt=max x.lens (Ex.uh x.args):=by cases x;rfl
theorem Ex.azE{l:List Ex}{y:Ex}(h:y∈l):y.wt≤Ex.uh l:=by
 induction l with
 |nil=>cases h
 |cons x l ih=>
  rw[Ex.uh]
  rcases ZV.1 h with rfl|h
  ·omega
  ·have:=ih h;omega
theorem Ex.azF{x y:Ex}(h:y∈x.args):y.wt≤x.wt:=by
 have:=Ex.azE h
 rw[Ex.P4 x];omega
def Ex.ko(x:Ex)(n:Int):Prop:=n<1∨x.lens>300∨x.unit.length>10∨x.args.length>10∨∃ f∈x.unit,f.name.size>100
instance (x:Ex)(n:Int):Decidable (x.ko n):=inferInstanceAs (Decidable (_∨_∨_∨_∨_))
mutual
def jA:Ex→Int→Int
 | .mk k o nm t v u p w ks,n=>if Ex.ko (.mk k o nm t v u p w ks) n then -1 else iE ks (n-1)
def iE:List Ex→Int→Int
 |[],n=>n
 |x::l,n=>if n<0 then n else iE l (jA x n)
end
theorem AL(x:Ex)(n:Int):jA x n=if x.ko n then -1 else iE x.args (n-1):=by cases x;rfl
mutual
theorem DP:∀ (x:Ex) (n:Int), -1≤n→-1≤jA x n∧jA x n≤n∧(0≤jA x n→jA x n+x.size≤n)
 | .mk k o nm t v u p w ks,n,hn=>by
  rw[AL]
  split
  ·omega
  ·rename_i h
   have h1:¬n<1:=fun h'=>h (.inl h')
   have:=Ki ks (n-1) (by omega)
   rw[Ex.size]
   simp only[Ex.args]
   omega
theorem Ki:∀ (l:List Ex) (n:Int), -1≤n→-1≤iE l n∧iE l n≤n∧(0≤iE l n→iE l n+Ex.er l≤n)
 |[],n,hn=>by rw[iE,Ex.er];omega
 |x::l,n,hn=>by
  rw[iE,Ex.er]
  split
  ·omega
  ·have h1:=DP x n hn
   have h2:=Ki l (jA x n) h1.1
   omega
end
theorem Wq{l:List Ex}{n:Int}(h:n<0):iE l n=n:=by
 cases l with
 |nil=>rfl
 |cons x l=>rw[iE,if_pos h]
theorem Wp{x:Ex}{i:Nat}{n:Int}(hi:i<x.args.length)(h:¬n<0):iE (x.args.drop i) n=iE (x.args.drop (i+1)) (jA (x.args.getD i default) n):=by
 rw[qp hi,iE,if_neg h]
theorem Wr(x:Ex):x.wt≤2 ^ 60→∀ n:Int, -1≤n∧n≤1000→Pure Tryz.prog 13 [.agg x.row,iv n] (iv (jA x n)):=by
 induction x using Ex.ind with
 |h x ih=>
 intro hs n0 kB
 have fC:∀ y∈x.args,∀ n:Int, -1≤n∧n≤1000→Pure Tryz.prog 13 [.agg y.row,iv n] (iv (jA y n)):=fun y hy=>ih y hy (by have:=Ex.azF hy;omega)
 have hw:=Ex.P4 x
 have hw':x.lens=x.op.size+x.name.size+x.table.size+x.val.s.size:=rfl
 have azW:x.op.size+x.name.size+x.table.size+x.val.s.size≤1152921504606846976:=by omega
 rw[Ex.bX]
 refine k13.p fun σ=> ?_
 repeat'(first|exact .nil|refine .k0 ?_|refine .k1 ?_|refine .k2 ?_|refine .k3 ?_|refine .k4 ?_|refine .k6 ?_|refine .k7 ?_|refine .k9 ?_|(refine .cd ?_ ?_<;>(intro hc;skip))|refine .r1 ?_ ?_|(refine .m1 ?_ ?_;intro b)|(refine .m2 ?_ ?_;intro hlen)|fail)
 try any_goals(exact Zo)
 all_goals(try simp only[BL]at *)
 all_goals have aaH:IntKind.i64.wrap (IntKind.i64.wrap (IntKind.i64.wrap ((x.op.size:Int)+x.name.size)+x.table.size)+x.val.s.size)=(x.lens:Int):=by rw[aW (n:=(x.op.size:Int)+x.name.size) (by omega),aW (n:=(x.op.size:Int)+x.name.size+x.table.size) (by omega),aW (by omega)];omega
 all_goals rw[aaH]at hc
 ·refine Sx.Fin.intro Zs (bi ?_)
  rw[AL,if_pos (by unfold Ex.ko;omega)]
 refine cQ (fun n rg σ'=>∃ i:Nat,i≤x.unit.length∧n=x.unit.length-i∧(∀ j,j<i→¬(x.unit.getD j default).name.size>100)∧σ'=(2,b,bN.cells x.lay)::σ∧rg=[(1,iv n0),(2,.lp 2 b 0),(5,iv i)]) x.unit.length rfl ⟨_,_,Zr,Zs,0,ZK _,rfl,fun j hj=>absurd hj (by omega),rfl,rfl⟩ ?_
 rintro n _ _ ⟨i,hi,hn,hp,rfl,rfl⟩
 repeat'(first|exact .nil|refine .k0 ?_|refine .k1 ?_|refine .k2 ?_|refine .k6 ?_|refine .k7 ?_|refine .k8 ?_|refine .k9 ?_|(refine .cd ?_ ?_<;>(intro hc;skip))|refine .r1 ?_ ?_|(refine .m2 ?_ ?_;intro hlen)|refine .t1 ?_ ?_ ?_|fail)
 try any_goals(exact Zo)
 all_goals(try simp only[BL]at *)
 ·refine Sx.Fin.intro Zs (bi ?_)
  rw[AL,if_pos (.inr (.inr (.inr (.inr ⟨_,cW (i:=i) (by omega),by omega⟩))))]
 ·refine⟨x.unit.length-(i+1),by omega,_,_,Zr,Zs,i+1,by omega,rfl,gW hp (by omega),rfl,by rw[eD (n:=x.unit.length) (by omega) (by assumption)]⟩
 have aJb:=rG (p:=fun f:aq=>¬f.name.size>100) (l:=x.unit) (fun j hj=>hp j (by omega))
 have nH:¬x.ko n0:=by rintro(h|h|h|h|⟨f,h1,h2⟩);all_goals first|omega|exact aJb f h1 h2
 have aaf:jA x n0=iE x.args (n0-1):=by rw[AL,if_neg nH]
 have nR:IntKind.i64.wrap (n0-1)=n0-1:=aW (by omega)
 rw[nR]
 refine cQ (fun n rg σ'=>∃ (i:Nat) (m:Int),i≤x.args.length∧n=x.args.length-i∧jA x n0=iE (x.args.drop i) m∧(-1≤m∧m≤1000)∧σ'=(2,b,bN.cells x.lay)::σ∧rg=[(1,iv m),(2,.lp 2 b 0),(6,iv i)]) x.args.length rfl ⟨_,_,Zr,Zs,0,n0-1,ZK _,rfl,aaf,by omega,rfl,rfl⟩ ?_
 rintro n _ _ ⟨i,m,hi,hn,hp,hm,rfl,rfl⟩
 repeat'(first|exact .nil|refine .k0 ?_|refine .k1 ?_|refine .k2 ?_|refine .k4 ?_|refine .k6 ?_|refine .k7 ?_|refine .k8 ?_|refine .k9 ?_|(refine .cd ?_ ?_<;>(intro hc;skip))|refine .r1 ?_ ?_|(refine .m2 ?_ ?_;intro hlen)|refine .t1 ?_ ?_ ?_|refine .an rfl (by intro bx;exact fC (x.args.getD i default) (cW (by(simp only[BL]at *;omega))) _ (by first|omega|fail)) ?_ ?_|fail)
 try any_goals(exact Zo)
 all_goals(try simp only[BL]at *)
 ·have:=DP (x.args.getD i default) m hm.1
  refine⟨x.args.length-(i+1),by omega,_,_,Zr,Zs,i+1,_,by omega,rfl,by rw[hp,Wp (by omega) (by omega)],by omega,rfl,by rw[eD (n:=x.args.length) (by omega) (by omega)]⟩
 ·refine Sx.Fin.intro Zs (bi ?_)
  rw[hp]
  by_cases h:m<0
  ·rw[Wq h]
  ·rw[Yb (by omega),iE]
def aBL(t:Ty):Ex:=⟨0,⟨#[]⟩,t.of,⟨#[]⟩,⟨0,0,⟨#[]⟩⟩,t.unit,0,⟨0,0⟩,[]⟩
theorem aI4(t:Ty):(aBL t).lens=t.of.size:=by show 0+t.of.size+0+0=_;omega
theorem aI5(t:Ty):(aBL t).wt=t.of.size:=by show max (0+t.of.size+0+0) 0=_;omega
def CW(t:Ty):Prop:=t.of.size≤300∧t.unit.length≤10∧∀ f∈t.unit,f.name.size≤100
instance (t:Ty):Decidable (CW t):=inferInstanceAs (Decidable (_∧_∧_))
theorem aCR(t:Ty):(aBL t).ko 1↔¬CW t:=by
 show((1:Int)<1∨(aBL t).lens>300∨t.unit.length>10∨0>10∨∃ f∈t.unit,f.name.size>100)↔_
 rw[aI4]
 unfold CW
 grind
theorem aER(t:Ty):0≤jA (aBL t) 1↔CW t:=by
 rw[AL]
 by_cases h:(aBL t).ko 1
 ·rw[if_pos h]
  have:=(aCR t).1 h
  grind
 ·rw[if_neg h]
  have:CW t:=Y4.1 fun h'=>h ((aCR t).2 h')
  show 0≤iE [] (1-1)↔_
  rw[iE]
  grind
theorem aC7(t:Ty)(h:t.of.size≤2 ^ 59):Pure Tryz.prog 19 [.agg t.cells] (.v (.bool (decide (CW t)))):=by
 refine k19.p fun σ=> ?_
 repeat'(first|exact .nil|refine .k0 ?_|refine .k1 ?_|refine .k2 ?_|refine .k7 ?_|refine .r1 ?_ ?_|(refine .m1 ?_ ?_;intro b)|refine .an rfl (by intro bx;exact(Wr (aBL t) (by rw[aI5];omega) 1 (by omega)).wk (by repeat' first|exact .refl _|exact .nil|refine .cons ?_ ?_|refine .agg ?_|fail)) ?_ ?_|fail)
 all_goals(try simp only[BL]at *)
 ·refine Sx.Fin.intro Zs (bd ?_)
  rw[← aER];simp
end Go.Proofs.YtbihckigennlhaaGreatDoor
namespace Go.Sx
open Go.Proofs.YtbihckigennlhaaGreatDoor
theorem Wk.row{l:List Ex}{nn:Bool}:Wk (.sl nn 12 (l.map Ex.row)) (.sl nn 12 (l.map Ex.cells)):=by rw[Ex.oR];exact Wk.refl _
end Go.Sx
namespace Go.Proofs.YtbihckigennlhaaGreatDoor
open Go.Sx Go.Proofs
def Ex.Flat(a b:Ex):Prop:=a.kind=b.kind∧a.op=b.op∧a.name=b.name∧a.table=b.table∧a.val=b.val∧a.unit=b.unit∧a.param=b.param∧a.win=b.win
instance (a b:Ex):Decidable (a.Flat b):=inferInstanceAs (Decidable (_∧_∧_∧_∧_∧_∧_∧_))
theorem GZ{a b:ek}:a=b↔a.kind=b.kind∧a.n=b.n∧a.s=b.s:=by cases a;cases b;simp
theorem PX{a b:fq}:a=b↔a.kind=b.kind∧a.size=b.size:=by cases a;cases b;simp
theorem xI(a b:Ex):Pure Tryz.prog 43 [.agg a.row,.agg b.row] (.v (.bool (decide (a.Flat b)))):=by
 rw[Ex.bX a,Ex.bX b]
 refine k43.p fun σ=> ?_
 repeat'(first|exact .nil|refine .k0 ?_|refine .k1 ?_|refine .k2 ?_|refine .k4 ?_|refine .k7 ?_|refine .r1 ?_ ?_|(refine .m1 ?_ ?_;intro b)|refine .an rfl (by intro bx;first|exact axR _ _|fail) ?_ ?_|fail)
 all_goals(try simp only[BL]at *)
 ·refine Sx.Fin.intro Zs (bd ?_)
  unfold Ex.Flat;rw[GZ,PX];grind
theorem uL(a b:Ex):Pure Tryz.prog 90 [.agg a.row,.agg b.row] (.v (.bool (decide (a.Flat b)))):=by
 rw[Ex.bX a,Ex.bX b]
 refine k90.p fun σ=> ?_
 repeat'(first|exact .nil|refine .k0 ?_|refine .k1 ?_|refine .k2 ?_|refine .k4 ?_|refine .k7 ?_|refine .r1 ?_ ?_|(refine .m1 ?_ ?_;intro b)|refine .an rfl (by intro bx;exact VB _ _) ?_ ?_|fail)
 all_goals(try simp only[BL]at *)
 ·refine Sx.Fin.intro Zs (bd ?_)
  unfold Ex.Flat;rw[GZ,PX];grind
def dD:Ex:=⟨1,⟨#[]⟩,⟨#[]⟩,⟨#[]⟩,⟨1,1,⟨#[]⟩⟩,[],0,⟨0,0⟩,[]⟩
theorem Po:Pure Tryz.prog 34 [] (.agg dD.row):=by
 refine k34.p fun σ=> ?_
 repeat'(first|exact .nil|refine .k0 ?_|refine .k1 ?_|refine .k2 ?_|refine .k7 ?_|refine .r1 ?_ ?_|(refine .l1 ?_;intro b)|fail)
 all_goals(try simp only[BL]at *)
 ·refine Sx.Fin.wk Zs (Wk.agg ?_)
  show bH _ dD.lay
  unfold Ex.lay
  repeat' first|exact .refl _|exact .nil|refine .cons ?_ ?_|fail
def iN(w:fq):Prop:=(w.kind=1∧w.size=0)∨(1<w.kind∧w.kind≤4∧1≤w.size∧w.size≤1099511627776)
instance (w:fq):Decidable (iN w):=inferInstanceAs (Decidable (_∨_∧_∧_∧_))
def vK(x:Ex):Ex:=⟨1,⟨#[]⟩,x.name,⟨#[]⟩,x.val,x.unit,0,⟨0,0⟩,[]⟩
def ji(x:Ex):Prop:=kW x.val=0∧0≤x.val.n∧il ⟨x.val.kind,x.unit,x.name⟩=0∧x.Flat (vK x)
instance (x:Ex):Decidable (ji x):=inferInstanceAs (Decidable (_∧_∧_∧_))
def uH(x:Ex):Ex:=⟨5,x.op,⟨#[]⟩,x.table,⟨0,0,⟨#[]⟩⟩,[],x.param,x.win,[]⟩
def kM(x:Ex):Prop:=if x.op=⟨#[113,117,97,110,116,105,108,101]⟩then 1≤x.param∧x.param≤1000 else if x.op=⟨#[100,101,99,97,121]⟩then 1≤x.param∧x.param≤1073741824 else x.param=0
instance (x:Ex):Decidable (kM x):=by unfold kM;infer_instance
def az6(x:Ex):Prop:=(∃ y∈jv,x.op=y)∧Name x.table∧iN x.win∧kM x∧x.Flat (uH x)
instance (x:Ex):Decidable (az6 x):=inferInstanceAs (Decidable (_∧_∧_∧_∧_))
def yF(x:Ex):Ex:=⟨x.kind,⟨#[]⟩,x.name,⟨#[]⟩,⟨0,0,⟨#[]⟩⟩,[],0,⟨0,0⟩,[]⟩
def j7(x:Ex):Ex:=⟨x.kind,x.op,⟨#[]⟩,⟨#[]⟩,⟨0,0,⟨#[]⟩⟩,[],0,⟨0,0⟩,[]⟩
def jj(x:Ex):Prop:=Name x.name∧x.Flat (yF x)
instance (x:Ex):Decidable (jj x):=inferInstanceAs (Decidable (_∧_))
def fS(x:Ex):Int:=if x.kind=4∨x.kind=6 then 1 else if x.kind=5∨x.kind=7∨x.kind=9 then 2 else if x.kind=8 then 3 else 0
def dC(x:Ex)(ins:Bool):Prop:=
 if x.kind=1 then ji x else if x.kind=2 then ins=true∧jj x else if x.kind=3∨x.kind=4 then ins=false∧jj x
 else if x.kind=5 then ins=false∧az6 x else if x.kind=6 then x.Flat (j7 x)∧∃ y∈wI,x.op=y
 else if x.kind=7 then x.Flat (j7 x)∧∃ y∈iC,x.op=y else if x.kind=8∨x.kind=9 then x.Flat (j7 x)∧x.op=⟨#[]⟩else False
instance (x:Ex)(ins:Bool):Decidable (dC x ins):=by unfold dC;infer_instance
mutual
def Ex.DG:Ex→Ex→Bool
 | .mk k o n t v u p w ks,.mk k' o' n' t' v' u' p' w' ks'=>decide (k=k'∧o=o'∧n=n'∧t=t'∧v=v'∧u=u'∧p=p'∧w=w') && Ex.su ks ks'
def Ex.su:List Ex→List Ex→Bool
 |[],[]=>true
 |x::l,y::m=>x.DG y && Ex.su l m
 |[],_::_=>false
 |_::_,[]=>false
end
mutual
theorem Ex.JQ:∀ a b:Ex,a.DG b=true↔a=b
 | .mk k o n t v u p w ks,.mk k' o' n' t' v' u' p' w' ks'=>by
  rw[Ex.DG,Z0,ZB,Ex.JR ks ks',Ex.mk.injEq]
  simp only[Ya]
theorem Ex.JR:∀ a b:List Ex,Ex.su a b=true↔a=b
 |[],[]=>by simp[Ex.su]
 |x::l,y::m=>by rw[Ex.su,Z0,Ex.JQ x y,Ex.JR l m,ZW]
 |[],_::_=>by simp[Ex.su]
 |_::_,[]=>by simp[Ex.su]
end
instance:DecidableEq Ex:=fun a b=>decidable_of_iff _ (Ex.JQ a b)
theorem Ex.eq_iff{a b:Ex}:a=b↔a.Flat b∧a.args=b.args:=by
 cases a;cases b
 simp only[Ex.mk.injEq,Ex.Flat,Ex.kind,Ex.op,Ex.name,Ex.table,Ex.val,Ex.unit,Ex.param,Ex.win,Ex.args,Ya]
theorem OH(x:Ex):∀ e:Ex,Pure Tryz.prog 12 [.agg x.row,.agg e.row] (.v (.bool (decide (x=e)))):=by
 induction x using Ex.ind with
 |h x ih=>
 intro e
 have fC:=ih
 rw[Ex.bX x,Ex.bX e]
 refine k12.p fun σ=> ?_
 repeat'(first|exact .nil|refine .k0 ?_|refine .k1 ?_|refine .k2 ?_|refine .k4 ?_|refine .k6 ?_|refine .k7 ?_|refine .k9 ?_|(refine .cd ?_ ?_<;>(intro hc;skip))|refine .r1 ?_ ?_|(refine .m1 ?_ ?_;intro b)|(refine .m2 ?_ ?_;intro hlen)|refine .an rfl (by intro bx;first|(refine(xI x e).wk ?_;(repeat' first|exact .row|exact .refl _|refine .cons ?_ ?_|refine .agg ?_|fail);done)|fail) ?_ ?_|fail)
 try any_goals(exact Zo)
 all_goals(try simp only[BL]at *)
 ·refine Sx.Fin.intro Zs (bf ?_)
  intro h
  rw[h]at hc
  rcases hc with hc|hc
  ·exact hc (by unfold Ex.Flat;grind)
  ·exact hc rfl
 rename_i b0 kA
 refine cQ (fun n rg σ'=>∃ i:Nat,i≤x.args.length∧n=x.args.length-i∧(∀ j,j<i→x.args.getD j default=e.args.getD j default)∧σ'=(3,b,bN.cells e.lay)::(2,b0,bN.cells x.lay)::σ∧rg=[(2,.lp 2 b0 0),(3,.lp 3 b 0),(5,iv i)]) x.args.length rfl ⟨_,_,Zr,Zs,0,ZK _,rfl,fun j hj=>absurd hj (by omega),rfl,rfl⟩ ?_
 rintro n _ _ ⟨i,hi,hn,hp,rfl,rfl⟩
 repeat'(first|exact .nil|refine .k0 ?_|refine .k1 ?_|refine .k2 ?_|refine .k5 ?_|refine .k6 ?_|refine .k7 ?_|refine .k8 ?_|refine .k9 ?_|(refine .cd ?_ ?_<;>(intro hc;skip))|refine .r1 ?_ ?_|(refine .m2 ?_ ?_;intro hlen)|refine .t1 ?_ ?_ ?_|refine .an rfl (by intro bx;exact fC (x.args.getD i default) (cW (by(simp only[BL]at *;omega))) (e.args.getD i default)) ?_ ?_|fail)
 try any_goals(exact Zo)
 all_goals(try simp only[BL]at *)
 ·refine Sx.Fin.intro Zs (bf ?_)
  rintro rfl;exact hc rfl
 ·refine⟨x.args.length-(i+1),by omega,_,_,Zr,Zs,i+1,by omega,rfl,gW hp hc,rfl,by rw[eD (by omega) hlen]⟩
 ·refine Sx.Fin.intro Zs (bt ?_)
  rename_i h1
  exact Ex.eq_iff.2 ⟨h1.1,DH (by omega) (fun j hj=>hp j (by omega))⟩
theorem bq{b c:Bool}(h:b=true↔c=true):AV.v (.bool b)=AV.v (.bool c):=by rw[YD.2 h]
def cZ:af:=⟨#[99,111,117,110,116]⟩
mutual
def form:Bool→Ex→Bool
 |ins,.mk k o n t v u p w ks=>decide (dC (.mk k o n t v u p w ks) ins) && decide ((ks.length:Int)=fS (.mk k o n t v u p w ks)) && xK (ins || decide (k=5)) ks && (decide (¬(k=5∧o=cZ)) || decide (ks.getD 0 default=dD))
def xK:Bool→List Ex→Bool
 |_,[]=>true
 |ins,x::l=>form ins x && xK ins l
end
theorem Kw(ins:Bool):∀ l:List Ex,xK ins l=true↔∀ x∈l,form ins x=true
 |[]=>by simp[xK]
 |x::l=>by simp[xK,Kw ins l]
theorem sC(ins:Bool)(x:Ex):form ins x=true↔dC x ins∧(x.args.length:Int)=fS x∧(∀ y∈x.args,form (ins || decide (x.kind=5)) y=true)∧(x.kind=5→x.op=cZ→x.args.getD 0 default=dD):=by
 cases x
 rw[form]
 simp only[Z0,Zl,ZB,Kw,Ex.args,Ex.kind,Ex.op]
 constructor
 ·rintro⟨⟨⟨h1,h2⟩,h3⟩,h4⟩
  exact⟨h1,h2,h3,fun a b=>h4.resolve_left fun h=>h ⟨a,b⟩⟩
 ·rintro⟨h1,h2,h3,h4⟩
  refine⟨⟨⟨h1,h2⟩,h3⟩,Decidable.or_iff_not_imp_left.2 fun h=> ?_⟩
  have:=Y4.1 h
  exact h4 this.1 this.2
set_option maxHeartbeats 4000000
def JO(x:Ex):Ex:=⟨x.kind,⟨#[]⟩,⟨#[]⟩,⟨#[]⟩,⟨0,0,⟨#[]⟩⟩,[],0,⟨0,0⟩,[]⟩
def FA(x:Ex):Ex:=⟨x.kind,⟨#[]⟩,x.name,⟨#[]⟩,x.val,x.unit,0,⟨0,0⟩,[]⟩
def De(x:Ex):Ex:=⟨x.kind,x.op,⟨#[]⟩,x.table,⟨0,0,⟨#[]⟩⟩,[],x.param,x.win,[]⟩
theorem flat_lit(x:Ex)(h:x.kind=1):x.Flat (vK x)↔x.Flat (FA x):=by unfold vK FA;rw[h]
theorem flat_agg(x:Ex)(h:x.kind=5):x.Flat (uH x)↔x.Flat (De x):=by unfold uH De;rw[h]
theorem Ks(x:Ex):x.Flat (JO x)↔x.Flat (j7 x)∧x.op=⟨#[]⟩:=by
 show _∧x.op=⟨#[]⟩∧_↔(_∧x.op=x.op∧_)∧_
 constructor
 ·rintro⟨h1,h2,h3⟩;exact⟨⟨h1,rfl,h3⟩,h2⟩
 ·rintro⟨⟨h1, -,h3⟩,h2⟩;exact⟨h1,h2,h3⟩
theorem N2:(⟨#[113,117,97,110,116,105,108,101]⟩:af)≠⟨#[100,101,99,97,121]⟩:=by decide
def qf(x:Ex)(ins:Bool):Prop:=form ins x=true↔(∀ y∈x.args,form (ins || decide (x.kind=5)) y=true)∧(x.kind=5→x.op=cZ→x.args.getD 0 default=dD)
theorem Wt{x:Ex}{ins q:Bool}{i:Nat}(hF:qf x ins)(hq:q=(ins || decide (x.kind=5)))(hi:i<x.args.length)(hc:form q (x.args.getD i default)=false):false=true↔form ins x=true:=by
 unfold qf at hF
 rw[hF,← hq]
 constructor
 ·intro h;exact Bool.noConfusion h
 ·rintro⟨h, -⟩
  have:=h _ (cW hi)
  rw[hc]at this
  exact this
theorem Kx{q:Bool}{y:Ex}(h:form q y=true)(hf:y.Flat dD):y=dD:=by
 rw[sC]at h
 have hk:y.kind=1:=hf.1
 have hn:fS y=0:=by unfold fS;rw[if_neg (by omega),if_neg (by omega),if_neg (by omega)]
 have:y.args=[]:=ZO (by omega)
 exact Ex.eq_iff.2 ⟨hf,this⟩
theorem Kl{x:Ex}{q:Bool}{i:Nat}(hi:x.args.length≤i)(hp:∀ j,j<i→form q (x.args.getD j default)=true):∀ y∈x.args,form q y=true:=rG (p:=fun y=>form q y=true) fun j hj=>hp j (by omega)
theorem Ws{x:Ex}{ins q:Bool}(hF:qf x ins)(hq:q=(ins || decide (x.kind=5)))(aJb:∀ y∈x.args,form q y=true)(h0:0<x.args.length)(hc:x.op=⟨#[99,111,117,110,116]⟩∧x.kind=5):decide ((x.args.getD 0 default).Flat dD)=true↔form ins x=true:=by
 unfold qf at hF
 rw[hF,← hq,ZB]
 constructor
 ·intro h;exact⟨aJb,fun _ _=>Kx (aJb _ (cW h0)) h⟩
 ·rintro⟨-,h⟩;rw[h hc.2 hc.1];decide
theorem Wu{x:Ex}{ins q:Bool}(hF:qf x ins)(hq:q=(ins || decide (x.kind=5)))(aJb:∀ y∈x.args,form q y=true)(hc:¬x.op=⟨#[99,111,117,110,116]⟩∨¬x.kind=5):true=true↔form ins x=true:=by
 unfold qf at hF
 rw[hF,← hq]
 refine⟨fun _=>⟨aJb,fun h1 h2=> ?_⟩,fun _=>rfl⟩
 rcases hc with h|h
 ·exact absurd h2 h
 ·exact absurd h1 h
theorem adJ(x:Ex):∀ ins,Pure Tryz.prog 42 [.agg x.row,.v (.bool ins)] (.v (.bool (form ins x))):=by
 induction x using Ex.ind with
 |h x ih=>
 intro ins
 have fC:=ih
 rw[Ex.bX x]
 refine k42.p fun σ=> ?_
 repeat'(first|exact .nil|refine .k0 ?_|refine .k1 ?_|refine .k2 ?_|refine .k3 ?_|refine .k4 ?_|refine .k6 ?_|refine .k7 ?_|refine .k9 ?_|(refine .cd ?_ ?_<;>(intro hc;first|exact kf hc (by assumption)|skip))|refine .r1 ?_ ?_|(refine .l1 ?_;intro b)|(refine .m1 ?_ ?_;intro b)|(refine .m2 ?_ ?_;intro hlen)|refine .an rfl (by intro bx;first|exact PE x.val|exact Pw ⟨x.val.kind,x.unit,x.name⟩|exact vR _|exact Dy jv x.op|exact Dy wI x.op|exact Dy iC x.op|(refine(uL x (FA x)).wk ?_;(repeat' first|exact .row|exact .refl _|exact .nil|refine .cons ?_ ?_|refine .agg ?_|fail);done)|(refine(uL x (yF x)).wk ?_;(repeat' first|exact .row|exact .refl _|exact .nil|refine .cons ?_ ?_|refine .agg ?_|fail);done)|(refine(uL x (De x)).wk ?_;(repeat' first|exact .row|exact .refl _|exact .nil|refine .cons ?_ ?_|refine .agg ?_|fail);done)|(refine(uL x (j7 x)).wk ?_;(repeat' first|exact .row|exact .refl _|exact .nil|refine .cons ?_ ?_|refine .agg ?_|fail);done)|(refine(uL x (JO x)).wk ?_;(repeat' first|exact .row|exact .refl _|exact .nil|refine .cons ?_ ?_|refine .agg ?_|fail);done)|fail) ?_ ?_|refine .r9 ?_ ?_|fail)
 try any_goals(exact Zo)
 all_goals(try simp only[BL]at *)
 all_goals first
  |(exfalso;omega)
  |(with_reducible refine Sx.Fin.intro ?_ (bq ?_)
    rotate_left
    rw[sC]
    have h1:=flat_lit x
    have h2:=flat_agg x
    have h3:=Ks x
    have LF:=N2
    clear ih fC
    focus grind [dC,fS,ji,az6,jj,kM,iN]
    repeat' first|exact .refl _|refine .cons ?_)
  |skip
 all_goals
  have hF:qf x ins:=by
   unfold qf
   rw[sC]
   have h1:=flat_lit x
   have h2:=flat_agg x
   have h3:=Ks x
   have LF:=N2
   clear ih fC
   grind [dC,fS,ji,az6,jj,kM,iN]
 all_goals have hN:x.kind=5→x.args.length=2:=by intro h;omega
 all_goals refine cQ (fun n rg σ'=>∃ (i:Nat) (q:Bool) (b0 b:Nat) (c:List AV),q=(ins || decide (x.kind=5))∧i≤x.args.length∧n=x.args.length-i∧(∀ j,j<i→form q (x.args.getD j default)=true)∧σ'=(5,b,bN.cells c)::(2,b0,bN.cells x.lay)::σ∧rg=[(1,.v (.bool q)),(2,.lp 2 b0 0),(186,.sl false 12 (x.args.map Ex.row)),(187,iv x.args.length),(188,iv i)]) x.args.length rfl ⟨_,_,Zr,Zs,0,_,_,_,_,by simp[*],ZK _,rfl,fun j hj=>absurd hj (by omega),rfl,rfl⟩ ?_
 all_goals clear hlen
 all_goals rintro n _ _ ⟨i,q,b0,b,c,hq,hi,hn,hp,rfl,rfl⟩
 all_goals clear ih
 repeat'(first|exact .nil|refine .k0 ?_|refine .k1 ?_|refine .k2 ?_|refine .k4 ?_|refine .k6 ?_|refine .k7 ?_|refine .k8 ?_|refine .k9 ?_|(refine .cd ?_ ?_<;>(intro hc;skip))|refine .r1 ?_ ?_|(refine .l1 ?_;intro b)|refine .t1 ?_ ?_ ?_|refine .an rfl (by intro bx;first|(refine(uL (x.args.getD 0 default) dD).wk ?_;(repeat' first|exact .refl _|exact .nil|refine .cons ?_ ?_|refine .agg ?_|fail);done)|exact fC (x.args.getD i default) (cW (by(simp only[BL]at *;omega))) _) ?_ ?_|fail)
 try any_goals(exact Zo)
 all_goals(try simp only[BL]at *)
 all_goals first
  |(with_reducible refine Sx.Fin.intro ?_ (bq ?_)
    rotate_left
    focus first
     |exact Wt hF hq (by omega) hc
     |exact Ws hF hq (Kl (by omega) hp) (by omega) hc
     |exact Wu hF hq (Kl (by omega) hp) hc
    repeat' first|exact .refl _|refine .cons ?_)
  |(refine⟨x.args.length-(i+1),by omega,_,_,Zr,Zs,i+1,_,_,_,_,hq,by omega,rfl,gW hp hc,rfl,by rw[aW (by omega)];rfl⟩)
  |trace_state
set_option maxHeartbeats 4000000
def shape(x:Ex):Int:=if 64<x.size∨12<x.depth then 2 else if form false x=true then 0 else 3
theorem axV(x:Ex)(hs:x.size≤100000):Pure Tryz.prog 11 [.agg x.row] (iv (shape x)):=by
 rw[Ex.bX x]
 refine k11.p fun σ=> ?_
 repeat'(first|exact .nil|refine .k0 ?_|refine .k1 ?_|refine .k2 ?_|refine .k4 ?_|refine .k7 ?_|refine .k9 ?_|(refine .cd ?_ ?_<;>(intro hc;skip))|refine .r1 ?_ ?_|(refine .m1 ?_ ?_;intro b)|refine .an rfl (by intro bx;first|(refine(ax1 x (by first|omega|fail)).wk ?_;(repeat' first|exact .row|exact .refl _|refine .cons ?_ ?_|refine .agg ?_|fail);done)|(refine(Vo x (by first|omega|fail)).wk ?_;(repeat' first|exact .row|exact .refl _|refine .cons ?_ ?_|refine .agg ?_|fail);done)|(refine(adJ x false).wk ?_;(repeat' first|exact .row|exact .refl _|refine .cons ?_ ?_|refine .agg ?_|fail);done)|fail) ?_ ?_|fail)
 try any_goals(exact Zo)
 all_goals(try simp only[BL]at *)
 all_goals(refine Sx.Fin.intro Zs (bi ?_);unfold shape;grind)
def strs:List (List AV)→Option (List af)
 |[]=>some []
 |[.v (.string s)]::l=>(strs l).map (s::·)
 |_=>none
theorem O2:∀ {l:List (List AV)} {ws:List af},strs l=some ws→l=ws.map dL
 |[],ws,h=>by simp only[strs,Z5]at h;subst h;rfl
 |[.v (.string s)]::l,ws,h=>by
  simp only[strs,ZR]at h
  obtain⟨w,h1,rfl⟩:=h
  rw[O2 h1];rfl
def eG:List af→af
 |[]=>⟨#[]⟩
 |s::l=>s++eG l
def gh:List af→Nat
 |[]=>0
 |s::l=>s.size+gh l
theorem du(s:af):s.data.toList.length=s.size:=rfl
theorem bC(a:Array UInt8):(⟨a⟩:af).size=a.size:=rfl
theorem bK(a b:af):(a++b).size=a.size+b.size:=by rw[pR,aBD,Z7];rfl
theorem mn:∀ l:List af,(eG l).size=gh l
 |[]=>rfl
 |s::l=>by rw[eG,bK,mn l,gh]
theorem Mi:∀ l:List (List UInt8),([]:List UInt8).intercalate l=l.flatten
 |[]=>rfl
 |[a]=>by simp[List.intercalate]
 |a::b::l=>by
  have:=Mi (b::l)
  simp only[List.intercalate,List.intersperse,Yn,Ze]at this ⊢
  rw[this]
theorem Dt:∀ l:List af,(eG l).data.toList=(l.map (·.data.toList)).flatten
 |[]=>rfl
 |s::l=>by rw[eG,aBD,Dt l];rfl
theorem Mu(l:List af):Lib.join (l.map (·.data.toList)) (⟨#[]⟩:af).data.toList=(eG l).data.toList:=by
 rw[Dt];exact Mi _
theorem abe(l:List af):tj l ⟨#[]⟩=eG l:=by
 apply pQ
 unfold tj
 rw[Mu]
theorem abg(ws:List af)(nn:Bool)(hN:ws.length≤1000)(hl:gh ws≤140737488355328):Pure Tryz.prog 69 [.sl nn 1 (ws.map dL)] (sv (eG ws)):=by
 refine k69.p fun σ=> ?_
 repeat'(first|exact .nil|refine .k0 ?_|refine .k1 ?_|refine .k2 ?_|refine .k7 ?_|refine .r1 ?_ ?_|refine .an rfl (by intro bx;(refine(yB ws ⟨#[]⟩ nn (by first|omega|fail) (by rw[Mu,← pR,mn];omega)).wk ?_;(repeat' first|exact .refl _|fail);done)) ?_ ?_|fail)
 all_goals(try simp only[BL]at *)
 ·rw[abe]
  exact Zw
theorem lM{nn:Bool}{l:List (List AV)}(ws:List af)(h:strs l=some ws)(hN:ws.length≤1000)(hl:gh ws≤140737488355328):Pure Tryz.prog 69 [.sl nn 1 l] (sv (eG ws)):=by
 rw[O2 h];exact abg ws nn hN hl
def gH(f:aq):af:=if f.exp=1 then f.name else f.name++(⟨#[94]⟩++kJ f.exp)
def ua(u:List aq):af:=tj (u.map gH) ⟨#[42]⟩
theorem yA(n:Int)(h: -9223372036854775808≤n∧n≤9223372036854775807):(kJ n).size≤21:=by
 have:=Lib.itoa_length_le n h.1 h.2
 rw[pR]
 simpa[kJ]using this
theorem GD{α:Type}[Inhabited α]{l:List α}{i:Nat}(h:i<l.length):l.take (i+1)=l.take i++[l.getD i default]:=by
 rw[getD_eq h,Zv h]
theorem Mh(sep:List UInt8):∀ l:List (List UInt8),(sep.intercalate l).length≤l.flatten.length+l.length * sep.length
 |[]=>by simp[List.intercalate]
 |[a]=>by simp[List.intercalate]
 |a::b::l=>by
  have:=Mh sep (b::l)
  simp only[List.intercalate,List.intersperse,Yn,Z7,Z9,YL,Nat.one_mul]at this ⊢
  omega
theorem Mt(ws:List af)(sep:af):(Lib.join (ws.map (·.data.toList)) sep.data.toList).length≤gh ws+ws.length * sep.size:=by
 have:=Mh sep.data.toList (ws.map (·.data.toList))
 rw[← Dt,← pR,mn,Z3]at this
 exact this
theorem Fy{α:Type}(g:α→af)(c:Nat):∀ {l:List α},(∀ x∈l,(g x).size≤c)→gh (l.map g)≤l.length * c
 |[],_=>ZK _
 |x::l,h=>by
  have h1:=h x (by simp)
  have h2:=Fy g c (l:=l) fun y hy=>h y (by simp[hy])
  simp only[ZH,gh,Z9,YL,Nat.one_mul]
  omega
def gn(f:aq):Prop:=f.name.size≤24∧-8≤f.exp∧f.exp≤8∧1≤f.name.size
theorem Wi{f:aq}(h:gn f):(gH f).size≤46:=by
 unfold gH
 have:=yA f.exp (by have:=h.2;omega)
 have:=h.1
 split
 ·omega
 ·rw[bK,bK];show _+(1+_)≤_;omega
theorem PA{u:List aq}(hu:∀ f∈u,gn f)(hl:u.length≤4):(Lib.join ((u.map gH).map (·.data.toList)) (⟨#[42]⟩:af).data.toList).length≤200:=by
 have h1:=Mt (u.map gH) ⟨#[42]⟩
 have h2:=Fy gH 46 fun f hf=>Wi (hu f hf)
 have h3:(⟨#[42]⟩:af).size=1:=rfl
 rw[Z3,h3]at h1
 omega
theorem Pz{u:List aq}(hu:∀ f∈u,gn f)(hl:u.length≤4):(ua u).size≤200:=PA hu hl
theorem aee{fs:List aq}{i:Nat}(h:i<fs.length):((fs.take i).map gH).map dL++[[.v (.string (gH (fs.getD i default)))]]=((fs.take (i+1)).map gH).map dL:=by
 rw[GD h];simp[dL]
theorem J7{f:aq}(h:f.exp=1):gH f=f.name:=if_pos h
theorem J8{f:aq}(h:¬f.exp=1):gH f=f.name++(⟨#[94]⟩++kJ f.exp):=if_neg h
theorem ayX(fs:List aq)(hu:∀ f∈fs,gn f)(hl:fs.length≤4):Pure Tryz.prog 150 [.sl false 2 (fs.map aq.cells)] (sv (ua fs)):=by
 refine abM.p fun σ=> ?_
 repeat'(first|exact .nil|refine .k0 ?_|refine .k1 ?_|refine .k2 ?_|refine .k6 ?_|refine .r1 ?_ ?_|(refine .m2 ?_ ?_;intro hlen)|fail)
 all_goals(try simp only[BL]at *)
 refine cQ (fun n rg σ'=>∃ i:Nat,i≤fs.length∧n=fs.length-i∧((i=0∧σ'=σ∧rg=[(3,.v (.slice none 0 0)),(7,.sl false 2 (fs.map aq.cells)),(8,iv fs.length),(9,iv i)])∨(0<i∧∃ b v c,σ'=(27,b,.tail v c)::σ∧rg=[(3,.own 1 27 b v c (((fs.take i).map gH).map dL)),(7,.sl false 2 (fs.map aq.cells)),(8,iv fs.length),(9,iv i)]))) fs.length rfl ⟨_,_,Zr,Zs,0,ZK _,rfl,.inl ⟨rfl,rfl,rfl⟩⟩ ?_
 rintro n _ _ ⟨i,hi,hn,⟨h0,rfl,rfl⟩|⟨h0,b0,v0,c0,rfl,rfl⟩⟩
 all_goals have hf:i<fs.length→gn (fs.getD i default):=fun h=>hu _ (cW h)
 all_goals have hz:i<fs.length→(kJ (fs.getD i default).exp).size≤21:=fun h=>yA _ (by have:=(hf h).2;omega)
 all_goals unfold gn at hf
 repeat'(first|exact .nil|refine .k0 ?_|refine .k1 ?_|refine .k2 ?_|refine .k6 ?_|refine .k7 ?_|refine .k8 ?_|refine .k9 ?_|(refine .cd ?_ ?_<;>(intro hc;skip))|refine .r1 ?_ ?_|(refine .l1 ?_;intro b)|refine .t1 ?_ ?_ ?_|refine .u1 ?_ ?_ ?_ (fun b u c=> ?_)|refine .u2 ?_ ?_ ?_ (fun b u c=> ?_)|refine .an rfl (by intro bx;first|exact vD _ (by(simp only[BL]at *;omega))|(refine(yB [] ⟨#[42]⟩ false (by decide) (by decide)).wk ?_;(repeat' first|exact .refl _|exact .nil|refine .cons ?_ ?_|fail);done)|(refine(yB (fs.map gH) ⟨#[42]⟩ false (by rw[Z3];omega) (YG (PA hu hl) (by decide))).wk (bH.cons (Wk.Nz (by rw[ZC (by(simp only[BL]at *;omega))])) (bH.cons (Wk.refl _) bH.nil)))) ?_ ?_|(show List.all _ _=true;rfl)|fail)
 try any_goals(exact Zo)
 all_goals(try simp only[BL]at *)
 any_goals((simp only[Z9,Z4,Z7,Z3,ZT,bK,bC,du,ZY];omega))
 all_goals have e:=fun h=>aee (fs:=fs) (i:=i) h
 ·subst h0
  rw[J8 hc]at e
  refine⟨fs.length-(0+1),by omega,_,_,Zr,Zs,0+1,by omega,rfl,.inr ⟨by omega,_,_,_,rfl,?_⟩⟩
  rw[← e (by omega),eD (n:=fs.length) (by omega) (by assumption)];rfl
 ·subst h0
  rw[J7 hc]at e
  refine⟨fs.length-(0+1),by omega,_,_,Zr,Zs,0+1,by omega,rfl,.inr ⟨by omega,_,_,_,rfl,?_⟩⟩
  rw[← e (by omega),eD (n:=fs.length) (by omega) (by assumption)];rfl
 ·obtain rfl:fs=[]:=ZO (by omega)
  exact Sx.Fin.intro Zs rfl
 ·rw[J8 hc]at e
  refine⟨fs.length-(i+1),by omega,_,_,Zr,Zs,i+1,by omega,rfl,.inr ⟨by omega,_,_,_,rfl,?_⟩⟩
  rw[← e (by omega),eD (n:=fs.length) (by omega) (by assumption)]
 ·rw[J7 hc]at e
  refine⟨fs.length-(i+1),by omega,_,_,Zr,Zs,i+1,by omega,rfl,.inr ⟨by omega,_,_,_,rfl,?_⟩⟩
  rw[← e (by omega),eD (n:=fs.length) (by omega) (by assumption)]
 ·exact Sx.Fin.intro Zs rfl
set_option maxHeartbeats 4000000
theorem oO(a b c:af):a++b++c=a++(b++c):=pQ (by simp)
theorem iA(a:af):a++(⟨#[]⟩:af)=a:=pQ (by simp)
theorem bs{a b:af}(h:a=b):AV.v (.string a)=sv b:=by rw[h]
def kU(u:List aq):af:=if u=[]then⟨#[]⟩else⟨#[32,91]⟩++(ua u++⟨#[93]⟩)
theorem zL{u:List aq}(hu:∀ f∈u,gn f)(hl:u.length≤4):(kU u).size≤210:=by
 have:=Pz hu hl
 unfold kU
 split
 ·decide
 ·simp only[bK,bC,ZY,Z9,Z4];omega
theorem acq{α:Type}{l:List α}:(l.length:Int)=0↔l=[]:=by cases l<;>simp<;>omega
theorem PB(fs:List aq)(hu:∀ f∈fs,gn f)(hl:fs.length≤4):Pure Tryz.prog 109 [.sl false 2 (fs.map aq.cells)] (sv (kU fs)):=by
 have kA:= @acq aq fs
 refine abu.p fun σ=> ?_
 repeat'(first|exact .nil|refine .k0 ?_|refine .k1 ?_|refine .k2 ?_|refine .k7 ?_|refine .k9 ?_|(refine .cd ?_ ?_<;>(intro hc;skip))|refine .r1 ?_ ?_|(refine .m2 ?_ ?_;intro hlen)|refine .an rfl (by intro bx;first|exact ayX fs hu hl|exact lM _ rfl (Z8 rfl) (by have:=Pz hu hl;simp only[gh,bC,ZY,Z9,Z4];omega)) ?_ ?_|fail)
 all_goals(try simp only[BL]at *)
 any_goals((simp only[Z9,Z4,Z7,Z3,ZT,bK,bC,du,ZY];omega))
 all_goals(simp only[kA]at hc;refine Sx.Fin.intro Zs (bs ?_);simp[kU,hc,eG,iA,oO];done)
def tX(t:Ty):af:=
 if t.kind=1 then⟨#[98,111,111,108]⟩else if t.kind=4 then⟨#[116,101,120,116]⟩else if t.kind=5 then⟨#[107,101,121,32]⟩++t.of
 else if t.kind=2 then⟨#[105,110,116]⟩++kU t.unit else⟨#[100,101,99]⟩++kU t.unit
theorem acd(t:Ty)(hu:∀ f∈t.unit,gn f)(hl:t.unit.length≤4)(ho:t.of.size≤100):Pure Tryz.prog 56 [.agg t.cells] (sv (tX t)):=by
 have hs:=zL hu hl
 refine k56.p fun σ=> ?_
 repeat'(first|exact .nil|refine .k0 ?_|refine .k1 ?_|refine .k2 ?_|refine .k6 ?_|refine .k7 ?_|refine .k9 ?_|(refine .cd ?_ ?_<;>(intro hc;skip))|refine .r1 ?_ ?_|(refine .m1 ?_ ?_;intro b)|refine .an rfl (by intro bx;first|exact PB t.unit hu hl|exact lM _ rfl (Z8 rfl) (by simp only[gh,bC,ZY,Z9,Z4];omega)) ?_ ?_|fail)
 all_goals(try simp only[BL]at *)
 any_goals((simp only[Z9,Z4,Z7,Z3,ZT,bK,bC,du,ZY];omega))
 all_goals(refine Sx.Fin.intro Zs (bs ?_);simp[kU,tX,eG,iA,oO, *];done)
theorem uR{u:Nat}(h:u<10):Lib.decDigits u=[UInt8.ofNat (48+u)]:=by rw[Lib.decDigits,dif_pos h]
theorem AB{u:Nat}(h:¬u<10):Lib.decDigits u=Lib.decDigits (u / 10)++[UInt8.ofNat (48+u % 10)]:=by rw[Lib.decDigits,dif_neg h]
theorem nD{u:Nat}(h:u≤9223372036854775807):(Lib.decDigits u).length≤21:=by
 have:=Lib.itoa_length_le (u:Int) (by omega) (by omega)
 rwa [Lib.itoa_nonneg]at this
def dS:Nat→Nat→List UInt8
 |0,_=>[]
 |k+1,x=>dS k (x / 10)++[UInt8.ofNat (48+x % 10)]
theorem oo:∀ (k x:Nat),(dS k x).length=k
 |0,_=>rfl
 |k+1,x=>by rw[dS,Z7,oo k];rfl
def gY(x:Nat):af:=⟨(Lib.decDigits (x / 10 ^ 6)++46::dS 6 x).toArray⟩
theorem JC(n:Nat):1≤(Lib.decDigits n).length:=by
 by_cases h:n<10
 ·rw[uR h];exact ZI _
 ·rw[AB h,Z7];exact Nat.le_add_left _ _
theorem JD:∀ (k n:Nat),10 ^ k≤n→Lib.decDigits n=Lib.decDigits (n / 10 ^ k)++dS k n
 |0,n,_=>by simp[dS]
 |k+1,n,h=>by
  have KB:0<10 ^ k:=Nat.pow_pos (by omega)
  rw[Nat.pow_succ]at h
  rw[AB (by omega),JD k (n / 10) (by omega),Nat.div_div_eq_div_mul,dS,Nat.pow_succ,YC 10,ZA]
theorem JA:∀ (k n:Nat),n<10 ^ (k+1)→(Lib.decDigits n).length≤k+1
 |0,n,h=>by rw[uR (by omega)];exact ZI _
 |k+1,n,h=>by
  by_cases h1:n<10
  ·rw[uR h1];simp
  ·rw[Nat.pow_succ]at h
   have:=JA k (n / 10) (by omega)
   rw[AB h1,Z7];simp only[Z9,Z4];omega
theorem MT:∀ k:Nat,dS k 0=List.replicate k 48
 |0=>rfl
 |k+1=>by rw[dS,Nat.zero_div,MT k,List.replicate_succ'];rfl
theorem JB:∀ (k z n:Nat),z+(Lib.decDigits n).length=k→List.replicate z 48++Lib.decDigits n=dS k n
 |0,z,n,h=>by have:=JC n;omega
 |k+1,z,n,h=>by
  by_cases h1:n<10
  ·rw[uR h1]at h ⊢
   simp only[Z9,Z4]at h
   obtain rfl:z=k:=by omega
   rw[dS,Nat.div_eq_of_lt h1,MT,Nat.mod_eq_of_lt h1]
  ·rw[AB h1]at h ⊢
   rw[Z7]at h
   simp only[Z9,Z4]at h
   rw[← ZA,JB k z (n / 10) (by omega),dS]
theorem Ve{n z:Nat}{L:List UInt8}(hL:L=List.replicate z 48++Lib.decDigits n)(h7:7≤L.length)(hz:z=0∨L.length≤7):L=Lib.decDigits (n / 10 ^ 6)++dS 6 n:=by
 by_cases h:n<10 ^ 6
 ·have h1:=JA 5 n h
  have hl:L.length=z+(Lib.decDigits n).length:=by rw[hL,Z7,YW]
  obtain⟨y,rfl⟩:∃ y,z=y+1:=⟨z-1,by omega⟩
  rw[hL,List.replicate_succ,ZD,JB 6 y n (by omega),Nat.div_eq_of_lt h,uR (by omega)];rfl
 ·have h1:=JD 6 n (by omega)
  have hl:L.length=z+(Lib.decDigits n).length:=by rw[hL,Z7,YW]
  have h2:=JC (n / 10 ^ 6)
  have h3:=congrArg List.length h1
  rw[Z7,oo]at h3
  have:z=0:=by omega
  subst this
  rw[hL,← h1];rfl
theorem Vd(n:Nat)(h:n≤1152921504606846976):Pure Tryz.prog 197 [iv n] (sv (gY n)):=by
 have hq:(Lib.decDigits n).length≤21:=nD (by omega)
 refine abZ.p fun σ=> ?_
 repeat'(first|exact .nil|refine .k0 ?_|refine .k1 ?_|refine .k2 ?_|refine .k3 ?_|refine .k6 ?_|refine .k9 ?_|(refine .cd ?_ ?_<;>(intro hc;skip))|refine .r1 ?_ ?_|refine .an rfl (by intro bx;exact vD _ (by first|omega|(simp only[BL]at *;omega))) ?_ ?_|refine .t6 ?_ ?_ ?_|fail)
 try any_goals(exact Zo)
 all_goals(try simp only[BL]at *)
 all_goals try(exfalso;omega)
 refine cQ (fun k rg σ'=>∃ (z:Nat) (s:af),k=7-s.size∧s.data.toList=List.replicate z 48++Lib.decDigits n∧(z=0∨s.size≤7)∧σ'=σ∧rg=[(3,sv s),(4,sv ⟨#[]⟩)]) (7-(kJ n).size) rfl ⟨_,_,Zr,Zs,0,kJ n,rfl,by rw[kJ,Lib.itoa_nonneg];rfl,.inl rfl,rfl,rfl⟩ ?_
 rintro k _ _ ⟨z,s,hk,hs,hz,rfl,rfl⟩
 have hl:s.size=z+(Lib.decDigits n).length:=by
  have:=congrArg List.length hs
  rwa [Z7,YW]at this
 repeat'(first|exact .nil|refine .k0 ?_|refine .k1 ?_|refine .k2 ?_|refine .k5 ?_|refine .k6 ?_|refine .k7 ?_|refine .k8 ?_|refine .k9 ?_|(refine .cd ?_ ?_<;>(intro hc;skip))|refine .r1 ?_ ?_|refine .t6 ?_ ?_ ?_|fail)
 all_goals(try simp only[BL]at *)
 all_goals have hsz:s.size≤28:=by omega
 any_goals((simp only[Z9,Z4,Z7,Z3,ZT,bK,bC,du,ZY];omega))
 ·refine⟨7-(s.size+1),by omega,_,_,Zr,Zs,z+1,(⟨#[48]⟩:af)++s,by rw[bK,bC,Nat.add_comm];rfl,by rw[aBD,hs,List.replicate_succ];rfl,.inr ?_,rfl,rfl⟩
  rw[bK,bC];show 1+_≤_;omega
 all_goals have hcut:IntKind.i64.wrap ((s.size:Int)-6)=((s.size-6:Nat):Int):=by rw[aW (by omega)];omega
 all_goals simp only[hcut,Y8]
 any_goals omega
 any_goals(simp only[bK,bC,ByteArray.size_extract,ZY,Z9,Z4];omega)
 refine Sx.Fin.intro Zs (bs (pQ ?_))
 have hp:=Ve hs (by show 7≤s.size;omega) hz
 have pd:(Lib.decDigits (n / 10 ^ 6)).length=s.size-6:=by
  have:=congrArg List.length hp
  rw[Z7,oo]at this
  have h5:s.data.toList.length=s.size:=rfl
  omega
 have e1:(ByteArray.extract s 0 (s.size-6)).data.toList=Lib.decDigits (n / 10 ^ 6):=by
  rw[ByteArray.data_extract,Array.toList_extract,List.extract_eq_take_drop,hp]
  simp[pd]
 have e2:(ByteArray.extract s (s.size-6) s.size).data.toList=dS 6 n:=by
  rw[ByteArray.data_extract,Array.toList_extract,List.extract_eq_take_drop,hp,← pd,List.drop_left,ZC (by rw[oo];omega)]
 simp only[aBD,e1,e2]
 simp[gY]
set_option maxHeartbeats 4000000
def ga(n:Int):af:=if n=1 then⟨#[116,114,117,101]⟩else⟨#[102,97,108,115,101]⟩
def jg(n:Int):af:=⟨(Lib.decDigits n.toNat).toArray⟩
def ud(v:ek):af:=
 if v.kind=1 then ga v.n else if v.kind=2 then jg v.n else if v.kind=3 then gY v.n.toNat
 else if v.kind=4 then⟨#[34]⟩++(v.s++⟨#[34]⟩)else if v.kind=5 then⟨#[64]⟩++v.s else⟨#[110,117,108,108]⟩
theorem WD(n:Int):(⟨(Lib.formatBool (decide (n=1))).toArray⟩:af)=ga n:=by
 unfold ga
 by_cases h:n=1
 ·rw[if_pos h,Zi h];decide
 ·rw[if_neg h,Zp h];decide
theorem yz{n:Int}(h:0≤n):kJ n=jg n:=by
 obtain⟨m,rfl⟩:∃ m:Nat,n=m:=⟨n.toNat,by omega⟩
 unfold kJ jg
 rw[Lib.itoa_nonneg];rfl
structure mj(v:ek):Prop where
 e:kW v=0
 n:0≤v.n
theorem mj.kinds{v:ek}(h:mj v):0≤v.kind∧v.kind≤5∧v.n≤1152921504606846976∧v.s.size≤64:=by
 have:=h.e
 have h0:=h.n
 unfold kW at this
 split at this
 ·omega
 ·rename_i hf
  have hf:=Y4.1 hf
  split at this
  ·omega
  ·rename_i hb
   have hs:v.kind≤3→v.s.size=0:=fun h=>by rw[hf.2.2.1 h];rfl
   refine⟨hf.1,hf.2.1,by omega,?_⟩
   have:=hf.2.1
   omega
theorem GY{v:ek}(h:mj v):(ud v).size≤100:=by
 obtain⟨h1,h2,h3,h4⟩:=h.kinds
 have h0:=h.n
 have hd:(Lib.decDigits v.n.toNat).length≤21:=nD (by omega)
 have hq:(Lib.decDigits (v.n.toNat / 10 ^ 6)).length≤21:=nD (by omega)
 unfold ud
 repeat' split
 ·unfold ga;split<;>decide
 ·show(Lib.decDigits v.n.toNat).toArray.size≤100
  rw[ZY];omega
 ·show(Lib.decDigits (v.n.toNat / 10 ^ 6)++46::dS 6 v.n.toNat).toArray.size≤100
  rw[ZY,Z7,Z9,oo];omega
 ·((simp only[Z9,Z4,Z7,Z3,ZT,bK,bC,du,ZY];omega))
 ·((simp only[Z9,Z4,Z7,Z3,ZT,bK,bC,du,ZY];omega))
 ·decide
theorem ac5(v:ek):Pure Tryz.prog 167 [.agg v.cells] (sv ⟨#[110,117,108,108]⟩):=by
 refine abP.p fun σ=> ?_
 repeat'(first|exact .nil|refine .k0 ?_|refine .k1 ?_|refine .k2 ?_|refine .k7 ?_|refine .r1 ?_ ?_|(refine .m1 ?_ ?_;intro b)|fail)
 all_goals(try simp only[BL]at *)
 ·exact Sx.Fin.intro Zs rfl
theorem T5(v:ek):Pure Tryz.prog 168 [.agg v.cells] (sv (ga v.n)):=by
 refine abQ.p fun σ=> ?_
 repeat'(first|exact .nil|refine .k0 ?_|refine .k1 ?_|refine .k2 ?_|refine .k7 ?_|refine .r1 ?_ ?_|(refine .m1 ?_ ?_;intro b)|refine .an rfl (by intro bx;first|exact WH _|fail) ?_ ?_|fail)
 all_goals(try simp only[BL]at *)
 ·exact Sx.Fin.intro Zs (bs (WD v.n))
theorem aa0(v:ek)(h:mj v):Pure Tryz.prog 169 [.agg v.cells] (sv (jg v.n)):=by
 have hk:=h.kinds
 have h0:=h.n
 refine abR.p fun σ=> ?_
 repeat'(first|exact .nil|refine .k0 ?_|refine .k1 ?_|refine .k2 ?_|refine .k7 ?_|refine .r1 ?_ ?_|(refine .m1 ?_ ?_;intro b)|refine .an rfl (by intro bx;first|exact vD _ (by first|omega|fail)|fail) ?_ ?_|fail)
 all_goals(try simp only[BL]at *)
 ·exact Sx.Fin.intro Zs (bs (yz h0))
theorem Vf(v:ek)(h:mj v):Pure Tryz.prog 170 [.agg v.cells] (sv (gY v.n.toNat)):=by
 have hk:=h.kinds
 have h0:=h.n
 have hd:=Vd v.n.toNat (by omega)
 rw[show((v.n.toNat:Nat):Int)=v.n by omega]at hd
 refine abS.p fun σ=> ?_
 repeat'(first|exact .nil|refine .k0 ?_|refine .k1 ?_|refine .k2 ?_|refine .k7 ?_|refine .r1 ?_ ?_|(refine .m1 ?_ ?_;intro b)|refine .an rfl (by intro bx;exact hd) ?_ ?_|fail)
 all_goals(try simp only[BL]at *)
 ·exact Sx.Fin.intro Zs rfl
theorem ayx(v:ek)(h:mj v):Pure Tryz.prog 171 [.agg v.cells] (sv (⟨#[34]⟩++(v.s++⟨#[34]⟩))):=by
 have hk:=h.kinds
 refine abT.p fun σ=> ?_
 repeat'(first|exact .nil|refine .k0 ?_|refine .k1 ?_|refine .k2 ?_|refine .k7 ?_|refine .r1 ?_ ?_|(refine .m1 ?_ ?_;intro b)|fail)
 all_goals(try simp only[BL]at *)
 any_goals((simp only[Z9,Z4,Z7,Z3,ZT,bK,bC,du,ZY];omega))
 ·exact Sx.Fin.intro Zs (bs (oO _ _ _))
theorem ab9(v:ek)(h:mj v):Pure Tryz.prog 172 [.agg v.cells] (sv (⟨#[64]⟩++v.s)):=by
 have hk:=h.kinds
 refine abU.p fun σ=> ?_
 repeat'(first|exact .nil|refine .k0 ?_|refine .k1 ?_|refine .k2 ?_|refine .k7 ?_|refine .r1 ?_ ?_|(refine .m1 ?_ ?_;intro b)|fail)
 all_goals(try simp only[BL]at *)
 any_goals((simp only[Z9,Z4,Z7,Z3,ZT,bK,bC,du,ZY];omega))
 ·exact Sx.Fin.intro Zs rfl
theorem Wk.wL(vs:Array Value):Wk (.v (.agg vs)) (.agg (vs.toList.map .v)):=fun M x h=>by
 obtain rfl:=h.az
 have:=R.agg (M:=M) (vs.toList.map .v) vs.toList (by simp) (fun i h1 h2=>by simp only[Zg];exact .v _)
 simpa using this
theorem WI(v:ek)(h:mj v):Pure Tryz.prog 125 [.agg v.cells] (sv (ud v)):=by
 have hk:=h.kinds
 have he:=h.e
 obtain⟨k,n,s⟩:=v
 have bY:k=0∨k=1∨k=2∨k=3∨k=4∨k=5:=by
  have h1:=hk.1
  have h2:=hk.2.1
  simp only at h1 h2
  omega
 rcases bY with rfl|rfl|rfl|rfl|rfl|rfl
 all_goals refine abw.p fun σ=> ?_
 repeat'(first|exact .nil|refine .k0 ?_|refine .k1 ?_|refine .k2 ?_|refine .k7 ?_|refine .k9 ?_|(refine .cd ?_ ?_<;>(intro hc;skip))|refine .r1 ?_ ?_|(refine .l1 ?_;intro b)|(refine .m1 ?_ ?_;intro b)|refine .an rfl (by intro bx;first|exact PE ⟨_,n,s⟩|exact(ac5 ⟨_,n,s⟩).wk (bH.cons (Wk.wL _) bH.nil)|exact(T5 ⟨_,n,s⟩).wk (bH.cons (Wk.wL _) bH.nil)|exact(aa0 _ h).wk (bH.cons (Wk.wL _) bH.nil)|exact(Vf _ h).wk (bH.cons (Wk.wL _) bH.nil)|exact(ayx _ h).wk (bH.cons (Wk.wL _) bH.nil)|exact(ab9 _ h).wk (bH.cons (Wk.wL _) bH.nil)) ?_ ?_|(refine .l3 ?_;intro b)|refine .r6 ?_ ?_|refine .r7 ?_ ?_|fail)
 all_goals(try simp only[BL]at *)
 all_goals try(exfalso;exact hc he)
 all_goals exact Sx.Fin.intro Zs rfl
set_option maxHeartbeats 4000000
def aK(x:Ex):Int:=
 if x.kind=8 then 0 else if x.kind=9 then 1
 else if x.kind=6 then(if x.op=⟨#[45]⟩then 8 else if x.op=⟨#[110,111,116]⟩then 4 else 9)
 else if x.kind=7 then(if x.op=⟨#[111,114]⟩then 2 else if x.op=⟨#[97,110,100]⟩then 3 else if x.op=⟨#[43]⟩∨x.op=⟨#[45]⟩then 6 else if x.op=⟨#[42]⟩∨x.op=⟨#[47]⟩then 7 else 5)
 else 9
theorem N6(x:Ex):0≤aK x∧aK x≤9:=by
 unfold aK
 repeat' split
 all_goals omega
def ug(w:fq):af:=
 if w.kind=2 then⟨#[115,108,105,100,105,110,103,32]⟩++jg w.size else if w.kind=3 then⟨#[116,117,109,98,108,105,110,103,32]⟩++jg w.size
 else if w.kind=4 then⟨#[115,101,115,115,105,111,110,32]⟩++jg w.size else⟨#[97,108,108]⟩
def pA(x:Ex):af:=if x.val.kind=5 then⟨#[64]⟩++(x.name++(⟨#[32,34]⟩++(x.val.s++⟨#[34]⟩)))else ud x.val++kU x.unit
def par(s:af):af:=⟨#[40]⟩++(s++⟨#[41]⟩)
def jx(x:Ex)(T:Nat→af)(i:Nat)(r:Int):af:=if aK (x.args.getD i default)<r then par (T i)else T i
def gq(x:Ex)(T:Nat→af):af:=
 x.op++(⟨#[40]⟩++(x.table++((if x.op=cZ then⟨#[]⟩else⟨#[44,32]⟩++T 0)++((if x.param=0 then⟨#[]⟩else⟨#[44,32]⟩++jg x.param)
  ++(⟨#[44,32]⟩++(ug x.win++((if x.args.getD 1 default=dD then⟨#[]⟩else⟨#[32,119,104,101,114,101,32]⟩++T 1)++⟨#[41]⟩)))))))
def tY(x:Ex)(T:Nat→af):af:=
 if x.op=⟨#[45]⟩then⟨#[45]⟩++jx x T 0 8 else if x.op=⟨#[110,111,116]⟩then⟨#[110,111,116,32]⟩++jx x T 0 4 else⟨#[110,117,108,108,40]⟩++(T 0++⟨#[41]⟩)
def iI(x:Ex):Int:=if aK x=5 then 6 else aK x
def si(x:Ex)(T:Nat→af):af:=jx x T 0 (iI x)++(⟨#[32]⟩++(x.op++(⟨#[32]⟩++jx x T 1 (aK x+1))))
def td(x:Ex)(T:Nat→af):af:=⟨#[105,102,32]⟩++(T 0++(⟨#[32,116,104,101,110,32]⟩++(T 1++(⟨#[32,101,108,115,101,32]⟩++T 2))))
def sn(x:Ex)(T:Nat→af):af:=jx x T 0 1++(⟨#[32,100,101,102,97,117,108,116,32]⟩++jx x T 1 2)
def wF(x:Ex)(T:Nat→af):af:=
 if x.kind=1 then pA x else if x.kind=4 then x.name++(⟨#[32,111,102,32,40]⟩++(T 0++⟨#[41]⟩))else if x.kind=5 then gq x T
 else if x.kind=6 then tY x T else if x.kind=7 then si x T else if x.kind=8 then td x T else if x.kind=9 then sn x T else x.name
mutual
def text:Ex→af
 | .mk k o n t v u p w ks=>wF (.mk k o n t v u p w ks) (fun i=>(zH ks).getD i ⟨#[]⟩)
def zH:List Ex→List af
 |[]=>[]
 |x::l=>text x::zH l
end
def tx(x:Ex)(i:Nat):af:=(zH x.args).getD i ⟨#[]⟩
theorem Ch(x:Ex):text x=wF x (tx x):=by cases x;rfl
theorem Pg:∀ (l:List Ex) (i:Nat),i<l.length→(zH l).getD i ⟨#[]⟩=text (l.getD i default)
 |[],_,h=>absurd h (by simp)
 |x::l,0,_=>rfl
 |x::l,i+1,h=>by
  have:=Pg l i (by simpa using h)
  simpa[zH]using this
theorem zJ{x:Ex}{i:Nat}(h:i<x.args.length):tx x i=text (x.args.getD i default):=Pg _ _ h
theorem wq{l:List Ex}(h:0<l.length):(l.getD 0 default).size≤Ex.er l:=Ex.OL (cW h)
theorem pL{l:List Ex}(h:1<l.length):(l.getD 0 default).size+(l.getD 1 default).size≤Ex.er l:=by
 match l,h with
 |a::b::l,_=>simp only[Ex.er,List.getD_cons_zero,X2];omega
theorem Gs{l:List Ex}(h:2<l.length):(l.getD 0 default).size+(l.getD 1 default).size+(l.getD 2 default).size≤Ex.er l:=by
 match l,h with
 |a::b::c::l,_=>simp only[Ex.er,List.getD_cons_zero,X2];omega
structure lj(x:Ex)(ins:Bool):Prop where
 nb:dC x ins
 nn:(x.args.length:Int)=fS x
 sub:∀ y∈x.args,form (ins || decide (x.kind=5)) y=true
 cn:x.kind=5→x.op=cZ→x.args.getD 0 default=dD
theorem lj.of{x:Ex}{ins:Bool}(h:form ins x=true):lj x ins:=by
 obtain⟨h1,h2,h3,h4⟩:=(sC ins x).1 h
 exact⟨h1,h2,h3,h4⟩
theorem Cr{u:List aq}(h:gS u=0):u.length≤4∧∀ f∈u,gn f:=by
 unfold gS at h
 split at h
 ·omega
 ·rename_i hl
  refine⟨by omega,?_⟩
  have:∀ (l:List aq) (p:Option af),im p l=0→∀ f∈l,gn f:=by
   intro l
   induction l with
   |nil=>intro p _ f hf;cases hf
   |cons g l ih=>
    intro p hp f hf
    rw[im]at hp
    split at hp
    ·rename_i h0
     rcases ZV.1 hf with rfl|hf
     ·unfold jW at h0
      split at h0
      ·omega
      ·rename_i hw
       have hw:=Y4.1 hw
       split at h0
       ·omega
       ·exact⟨hw.2.1,by omega,by omega,hw.1⟩
     ·exact ih _ hp f hf
    ·rename_i h0;exact absurd hp h0
  exact this u none h
theorem zK{t:Ty}(h:il t=0):t.unit.length≤4∧(∀ f∈t.unit,gn f)∧t.of.size≤24:=by
 unfold il at h
 split at h
 ·omega
 ·rename_i h3
  split at h
  ·omega
  ·rename_i W5
   have hu:gS t.unit=0:=Y4.1 fun h'=>W5 (.inl h')
   obtain⟨h1,h2⟩:=Cr hu
   refine⟨h1,h2,?_⟩
   by_cases hk:t.kind=5
   ·have:Name t.of:=Y4.1 fun h'=>h3 (.inr (.inr (.inr (.inl ⟨hk,h'⟩))))
    exact this.1.2.1
   ·have:t.of=⟨#[]⟩:=Y4.1 fun h'=>h3 (.inr (.inr (.inr (.inr ⟨hk,h'⟩))))
    rw[this];decide
theorem Fi{n:Int}(h:n≤1152921504606846976):(jg n).size≤21:=by
 show(Lib.decDigits n.toNat).toArray.size≤21
 rw[ZY];exact nD (by omega)
theorem acw{x:Ex}(h:ji x):(pA x).size≤400:=by
 obtain⟨h1,h2,h3,h4⟩:=h
 have hv:mj x.val:=⟨h1,h2⟩
 have hk:=hv.kinds
 have hs:=GY hv
 obtain⟨hl,hu,ho⟩:=zK h3
 have hu:(kU x.unit).size≤210:=zL hu hl
 simp only at ho
 unfold pA
 split
 ·((simp only[Z9,Z4,Z7,Z3,ZT,bK,bC,du,ZY];omega))
 ·simp only[bK];omega
theorem Ha{w:fq}(h:iN w):(ug w).size≤40:=by
 have:= @Fi w.size (by unfold iN at h;omega)
 unfold ug
 repeat' split
 all_goals first|decide|((simp only[Z9,Z4,Z7,Z3,ZT,bK,bC,du,ZY];omega))
theorem Al:∀ s∈jv,s.size≤8:=by decide
theorem Aw:∀ s∈iC,s.size≤8:=by decide
theorem kn{x:Ex}{T:Nat→af}{i:Nat}{r:Int}:(jx x T i r).size≤(T i).size+2:=by
 unfold jx par;split
 ·((simp only[Z9,Z4,Z7,Z3,ZT,bK,bC,du,ZY];omega))
 ·omega
theorem ayB(x:Ex):∀ ins,form ins x=true→(text x).size≤500 * x.size:=by
 induction x using Ex.ind with
 |h x ih=>
 intro ins hf
 have h:=lj.of hf
 have hT:∀ i,i<x.args.length→(tx x i).size≤500 * (x.args.getD i default).size:=fun i hi=>by
  rw[zJ hi];exact ih _ (cW hi) _ (h.sub _ (cW hi))
 have hs:=Ex.pN x
 have hb:=h.nb
 have hn:=h.nn
 have hn3:=hn
 rw[Ch]
 unfold wF
 unfold fS at hn
 by_cases h1:x.kind=1
 ·rw[if_pos h1]
  have:=acw (x:=x) (by unfold dC at hb;rwa [if_pos h1]at hb)
  omega
 rw[if_neg h1]
 by_cases h4:x.kind=4
 ·rw[if_pos h4]
  rw[if_pos (.inl h4)]at hn
  have hN:jj x:=by unfold dC at hb;rw[if_neg (by omega),if_neg (by omega),if_pos (.inr h4)]at hb;exact hb.2
  have h5:=hN.1.1.2.1
  have h6:=hT 0 (by omega)
  have h7:=wq (l:=x.args) (by omega)
  ((simp only[Z9,Z4,Z7,Z3,ZT,bK,bC,du,ZY];omega))
 rw[if_neg h4]
 by_cases h5:x.kind=5
 ·rw[if_pos h5]
  rw[if_neg (by omega),if_pos (.inl h5)]at hn
  have hA:az6 x:=by unfold dC at hb;rw[if_neg (by omega),if_neg (by omega),if_neg (by omega),if_pos h5]at hb;exact hb.2
  obtain⟨⟨y,hy,ho⟩,ht,hw,hp, -⟩:=hA
  have e1:=Al y hy
  rw[← ho]at e1
  have e2:=ht.1.2.1
  have e3:=Ha hw
  have e4:(jg x.param).size≤21:=Fi (by unfold kM at hp;repeat' split at hp
                                       all_goals omega)
  have e6:=hT 0 (by omega)
  have e7:=hT 1 (by omega)
  have e8:=pL (l:=x.args) (by omega)
  have a1:(if x.op=cZ then(⟨#[]⟩:af)else⟨#[44,32]⟩++tx x 0).size≤2+(tx x 0).size:=by
   split
   ·rw[bC];exact ZK _
   ·rw[bK,bC];exact ZI _
  have a2:(if x.param=0 then(⟨#[]⟩:af)else⟨#[44,32]⟩++jg x.param).size≤23:=by
   split
   ·decide
   ·rw[bK,bC];show 2+_≤_;omega
  have a3:(if x.args.getD 1 default=dD then(⟨#[]⟩:af)else⟨#[32,119,104,101,114,101,32]⟩++tx x 1).size≤7+(tx x 1).size:=by
   split
   ·rw[bC];exact ZK _
   ·rw[bK,bC];exact ZI _
  unfold gq
  ((simp only[Z9,Z4,Z7,Z3,ZT,bK,bC,du,ZY];omega))
 rw[if_neg h5]
 by_cases h6:x.kind=6
 ·rw[if_pos h6]
  rw[if_pos (.inr h6)]at hn
  have e6:=hT 0 (by omega)
  have e7:=wq (l:=x.args) (by omega)
  have e8:= @kn x (tx x) 0 8
  have e9:= @kn x (tx x) 0 4
  unfold tY
  repeat' split
  all_goals((simp only[Z9,Z4,Z7,Z3,ZT,bK,bC,du,ZY];omega))
 rw[if_neg h6]
 by_cases h7:x.kind=7
 ·rw[if_pos h7]
  rw[if_neg (by omega),if_pos (.inr (.inl h7))]at hn
  have hB:∃ y∈iC,x.op=y:=by unfold dC at hb;rw[if_neg (by omega),if_neg (by omega),if_neg (by omega),if_neg (by omega),if_neg (by omega),if_pos h7]at hb;exact hb.2
  obtain⟨y,hy,ho⟩:=hB
  have e1:=Aw y hy
  rw[← ho]at e1
  have e6:=hT 0 (by omega)
  have e7:=hT 1 (by omega)
  have e8:=pL (l:=x.args) (by omega)
  have e9:= @kn x (tx x) 0 (iI x)
  have xD:= @kn x (tx x) 1 (aK x+1)
  unfold si
  ((simp only[Z9,Z4,Z7,Z3,ZT,bK,bC,du,ZY];omega))
 rw[if_neg h7]
 by_cases h8:x.kind=8
 ·rw[if_pos h8]
  rw[if_neg (by omega),if_neg (by omega),if_pos h8]at hn
  have e6:=hT 0 (by omega)
  have e7:=hT 1 (by omega)
  have e5:=hT 2 (by omega)
  have e8:=Gs (l:=x.args) (by omega)
  unfold td
  ((simp only[Z9,Z4,Z7,Z3,ZT,bK,bC,du,ZY];omega))
 rw[if_neg h8]
 by_cases h9:x.kind=9
 ·rw[if_pos h9]
  rw[if_neg (by omega),if_pos (.inr (.inr h9))]at hn
  have e6:=hT 0 (by omega)
  have e7:=hT 1 (by omega)
  have e8:=pL (l:=x.args) (by omega)
  have e9:= @kn x (tx x) 0 1
  have xD:= @kn x (tx x) 1 2
  unfold sn
  ((simp only[Z9,Z4,Z7,Z3,ZT,bK,bC,du,ZY];omega))
 rw[if_neg h9]
 have hN:jj x:=by
  unfold dC at hb
  rw[if_neg h1]at hb
  split at hb
  ·exact hb.2
  ·split at hb
   ·exact hb.2
   ·rw[if_neg (by omega)]at hb;exact hb.elim
 have h5:=hN.1.1.2.1
 omega
end Go.Proofs.YtbihckigennlhaaGreatDoor
