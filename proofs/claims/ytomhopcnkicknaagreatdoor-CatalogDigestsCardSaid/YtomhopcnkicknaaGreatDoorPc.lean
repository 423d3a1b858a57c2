/- Lists of strings and of factors; units; types. -/
import Derived.Test.YtomhopcnkicknaaGreatDoorPt
import Derived.Test.YtomhopcnkicknaaGreatDoorCodeB
import Derived.Lib.ItoaLen
set_option linter.unusedSimpArgs false
set_option linter.unusedVariables false
set_option maxRecDepth 100000
namespace Go.Proofs.YtomhopcnkicknaaGreatDoor
open _root_.Go.Proofs.Tryz
open Go.Sx Go.Proofs
def firstIdx{α:Type}(p:α→Bool):List α→Nat→Int
 |[],_=> -1
 |x::l,k=>if p x then k else firstIdx p l (k+1)
theorem BH{α:Type}(p:α→Bool):∀ (l:List α) (k:Nat),0≤firstIdx p l k↔∃ x∈l,p x=true
 |[],k=>by simp[firstIdx]
 |x::l,k=>by
  unfold firstIdx
  cases h:p x with
  |true=>simp[h]
  |false=>simp[h,BH p l (k+1)]
theorem q8{α:Type}{p:α→Bool}:∀ {l:List α} {k:Nat},(∀ x∈l,p x=false)→firstIdx p l k= -1
 |[],k,_=>rfl
 |x::l,k,h=>by unfold firstIdx;rw[h x (by simp)];exact q8 fun y hy=>h y (by simp[hy])
theorem q7{α:Type}[Inhabited α]{p:α→Bool}:∀ {l:List α} {k i:Nat},(∀ j,j<i→p (l.getD j default)=false)→i<l.length→p (l.getD i default)=true→firstIdx p l k=((k+i:Nat):Int)
 |[],k,i,_,h,_=>absurd h (by simp)
 |x::l,k,0,_,_,h=>by
  unfold firstIdx;grind
 |x::l,k,i+1,ha,hi,h=>by
  have h0:p x=false:=ha 0 (by omega)
  unfold firstIdx
  rw[q7 (k:=k+1) (i:=i) (fun j hj=>ha (j+1) (by omega)) (by grind) h]
  grind
theorem nQ{α:Type}[Inhabited α]{p:α→Prop}{l:List α}(h:∀ j,j<l.length→p (l.getD j default)):∀ x∈l,p x:=fun x hx=>by
 obtain⟨i,hi,rfl⟩:=Y3.1 hx
 grind
theorem adu(l:List ae)(x:ae):Pure prog 185 [.sl false 1 (l.map cq),sv x] (iv (firstIdx (fun y=>decide (x=y)) l 0)):=by
 refine aeP.p fun σ=> ?_
 repeat'(first|exact .nil|refine .k0 ?_|refine .k1 ?_|refine .k2 ?_|refine .k6 ?_|refine .r1 ?_ ?_|(refine .m2 ?_ ?_;intro hlen)|fail)
 all_goals(try simp only[BL]at *)
 refine aH (fun n rg af=>∃ i:Nat,i≤l.length∧n=l.length-i∧(∀ j,j<i→¬x=l.getD j default)∧af=σ∧rg=[(0,.sl false 1 (l.map cq)),(1,sv x),(7,iv l.length),(8,iv i)]) l.length rfl ⟨_,_,Zr,Zs,0,Z1 _,rfl,fun j hj=>absurd hj (by omega),rfl,rfl⟩ ?_
 rintro n _ _ ⟨i,hi,hn,hp,rfl,rfl⟩
 repeat'(first|exact .nil|refine .k0 ?_|refine .k1 ?_|refine .k2 ?_|refine .k6 ?_|refine .k7 ?_|refine .k8 ?_|refine .k9 ?_|(refine .cd ?_ ?_<;>(intro hc;skip))|refine .r1 ?_ ?_|refine .t1 ?_ ?_ ?_|fail)
 try any_goals(exact Zo)
 all_goals(try simp only[BL]at *)
 ·rw[q7 (p:=fun y=>decide (x=y)) (l:=l) (k:=0) (i:=i) (fun j hj=>ZA (hp j hj)) (by omega) (Zd hc),Zl]
  exact Zw
 ·refine⟨l.length-(i+1),by omega,_,_,Zr,Zs,i+1,by omega,rfl,dp hp hc,rfl,by rw[aO (by omega) hlen]⟩
 ·rw[q8 (fun y hy=>ZA (nQ (p:=fun y=>¬x=y) (fun j hj=>hp j (by omega)) y hy))]
  exact Zw
theorem EO(l:List ae)(x:ae):Pure prog 142 [.sl false 1 (l.map cq),sv x] (.v (.bool (decide (∃ y∈l,x=y)))):=by
 refine aep.p fun σ=> ?_
 repeat'(first|exact .nil|refine .k0 ?_|refine .k1 ?_|refine .k2 ?_|refine .k7 ?_|refine .r1 ?_ ?_|refine .an rfl (by intro aq;exact adu _ _) ?_ ?_|fail)
 all_goals(try simp only[BL]at *)
 ·(refine Sx.Fin.intro Zs (bd ?_);(try simp only[BL]at *);(try simp only[dD,fH,dS,X2]at *))
  rw[BH]
  simp only[Zn]
theorem zV(l:List ae)(x:ae):Pure prog 207 [sv x,.sl false 1 (l.map cq)] (.v (.bool (decide (∃ y∈l,x=y)))):=by
 refine ae8.p fun σ=> ?_
 repeat'(first|exact .nil|refine .k0 ?_|refine .k1 ?_|refine .k2 ?_|refine .k6 ?_|refine .r1 ?_ ?_|fail)
 all_goals(try simp only[BL]at *)
 refine aH (fun n rg af=>∃ i:Nat,i≤l.length∧n=l.length-i∧(∀ j,j<i→¬l.getD j default=x)∧af=σ∧rg=[(0,sv x),(1,.sl false 1 (l.map cq)),(5,iv i)]) l.length rfl ⟨_,_,Zr,Zs,0,Z1 _,rfl,fun j hj=>absurd hj (by omega),rfl,rfl⟩ ?_
 rintro n _ _ ⟨i,hi,hn,hp,rfl,rfl⟩
 repeat'(first|exact .nil|refine .k0 ?_|refine .k1 ?_|refine .k2 ?_|refine .k6 ?_|refine .k7 ?_|refine .k8 ?_|refine .k9 ?_|(refine .cd ?_ ?_<;>(intro hc;skip))|refine .r1 ?_ ?_|(refine .m2 ?_ ?_;intro hlen)|refine .t1 ?_ ?_ ?_|fail)
 try any_goals(exact Zo)
 all_goals(try simp only[BL]at *)
 ·refine Sx.Fin.intro Zs (bt ?_)
  exact⟨_,bu (by omega),hc.symm⟩
 ·refine⟨l.length-(i+1),by omega,_,_,Zr,Zs,i+1,by omega,rfl,dp hp hc,rfl,by rw[aO (by omega) hlen]⟩
 ·refine Sx.Fin.intro Zs (bf ?_)
  rintro⟨y,hy,rfl⟩
  exact nQ (p:=fun y=>¬y=x) (fun j hj=>hp j (by omega)) x hy rfl
theorem abt(f:ar):Pure prog 93 [.agg f.cells] (.v (.bool (decide (¬Name f.name)))):=by
 refine k93.p fun σ=> ?_
 repeat'(first|exact .nil|refine .k0 ?_|refine .k1 ?_|refine .k2 ?_|refine .k7 ?_|refine .r1 ?_ ?_|(refine .m1 ?_ ?_;intro b)|refine .an rfl (by intro aq;exact oW _) ?_ ?_|fail)
 all_goals(try simp only[BL]at *)
 ·refine Sx.Fin.intro Zs ?_
  rw[decide_not]
theorem adr(u:List ar):Pure prog 140 [.sl false 2 (u.map ar.cells),.v (.func (.func 93) #[] #[])] (iv (firstIdx (fun f=>decide (¬Name f.name)) u 0)):=by
 refine aen.p fun σ=> ?_
 repeat'(first|exact .nil|refine .k0 ?_|refine .k1 ?_|refine .k2 ?_|refine .k6 ?_|refine .r1 ?_ ?_|(refine .m2 ?_ ?_;intro hlen)|fail)
 all_goals(try simp only[BL]at *)
 refine aH (fun n rg af=>∃ i:Nat,i≤u.length∧n=u.length-i∧(∀ j,j<i→Name (u.getD j default).name)∧af=σ∧rg=[(0,.sl false 2 (u.map ar.cells)),(1,.v (.func (.func 93) #[] #[])),(7,iv u.length),(8,iv i)]) u.length rfl ⟨_,_,Zr,Zs,0,Z1 _,rfl,fun j hj=>absurd hj (by omega),rfl,rfl⟩ ?_
 rintro n _ _ ⟨i,hi,hn,hp,rfl,rfl⟩
 repeat'(first|exact .nil|refine .k0 ?_|refine .k1 ?_|refine .k2 ?_|refine .k6 ?_|refine .k7 ?_|refine .k8 ?_|refine .k9 ?_|(refine .cd ?_ ?_<;>(intro hc;skip))|refine .r1 ?_ ?_|refine .t1 ?_ ?_ ?_|refine .an rfl (by intro aq;exact abt _) ?_ ?_|fail)
 try any_goals(exact Zo)
 all_goals(try simp only[BL]at *)
 ·rw[q7 (p:=fun f:ar=>decide (¬Name f.name)) (l:=u) (k:=0) (i:=i) (fun j hj=>ZA (fun h=>h (hp j hj))) (by omega) (Zd hc),Zl]
  exact Zw
 ·refine⟨u.length-(i+1),by omega,_,_,Zr,Zs,i+1,by omega,rfl,dp hp (Y1.1 hc),rfl,by rw[aO (by omega) hlen]⟩
 ·rw[q8 (fun y hy=>ZA (fun h=>h (nQ (p:=fun y:ar=>Name y.name) (fun j hj=>hp j (by omega)) y hy)))]
  exact Zw
theorem Xm(u:List ar):Pure prog 92 [.sl false 2 (u.map ar.cells),.v (.func (.func 93) #[] #[])] (.v (.bool (decide (∃ f∈u,¬Name f.name)))):=by
 refine k92.p fun σ=> ?_
 repeat'(first|exact .nil|refine .k0 ?_|refine .k1 ?_|refine .k2 ?_|refine .k7 ?_|refine .r1 ?_ ?_|refine .an rfl (by intro aq;exact adr _) ?_ ?_|fail)
 all_goals(try simp only[BL]at *)
 ·(refine Sx.Fin.intro Zs (bd ?_);(try simp only[BL]at *);(try simp only[dD,fH,dS,X2]at *))
  rw[BH]
  simp only[Zn]
theorem E1{α:Type}[Inhabited α]{a b:List α}(hl:a.length=b.length)(h:∀ j,j<a.length→a.getD j default=b.getD j default):a=b:=by
 apply Ys hl
 grind
theorem LG{a b:ar}(h:a.name=b.name∧a.exp=b.exp):a=b:=by cases a;cases b;simp_all
theorem Dq(a b:List ar):Pure prog 121 [.sl false 2 (a.map ar.cells),.sl false 2 (b.map ar.cells)] (.v (.bool (decide (a=b)))):=by
 refine ad8.p fun σ=> ?_
 repeat'(first|exact .nil|refine .k0 ?_|refine .k1 ?_|refine .k2 ?_|refine .k6 ?_|refine .k7 ?_|refine .k9 ?_|(refine .cd ?_ ?_<;>(intro hc;skip))|refine .r1 ?_ ?_|(refine .m2 ?_ ?_;intro hlen)|fail)
 all_goals(try simp only[BL]at *)
 ·refine Sx.Fin.intro Zs (bf ?_)
  rintro rfl;exact hc rfl
 refine aH (fun n rg af=>∃ i:Nat,i≤a.length∧n=a.length-i∧(∀ j,j<i→a.getD j default=b.getD j default)∧af=σ∧rg=[(0,.sl false 2 (a.map ar.cells)),(1,.sl false 2 (b.map ar.cells)),(5,iv i)]) a.length rfl ⟨_,_,Zr,Zs,0,Z1 _,rfl,fun j hj=>absurd hj (by omega),rfl,rfl⟩ ?_
 rintro n _ _ ⟨i,hi,hn,hp,rfl,rfl⟩
 repeat'(first|exact .nil|refine .k0 ?_|refine .k1 ?_|refine .k2 ?_|refine .k5 ?_|refine .k6 ?_|refine .k7 ?_|refine .k8 ?_|refine .k9 ?_|(refine .cd ?_ ?_<;>(intro hc;skip))|refine .r1 ?_ ?_|(refine .m2 ?_ ?_;intro hlen)|refine .t1 ?_ ?_ ?_|fail)
 try any_goals(exact Zo)
 all_goals(try simp only[BL]at *)
 ·refine Sx.Fin.intro Zs (bf ?_)
  rintro rfl
  rcases hc with hc|hc<;>exact hc rfl
 ·refine⟨a.length-(i+1),by omega,_,_,Zr,Zs,i+1,by omega,rfl,dp hp (LG hc),rfl,by rw[aO (by omega) hlen]⟩
 ·refine Sx.Fin.intro Zs (bt ?_)
  exact E1 (by omega) (fun j hj=>hp j (by omega))
theorem Ls(a b:List ar):Pure prog 149 [.sl false 2 (a.map ar.cells),.sl false 2 (b.map ar.cells)] (.v (.bool (decide (a=b)))):=by
 refine aew.p fun σ=> ?_
 repeat'(first|exact .nil|refine .k0 ?_|refine .k1 ?_|refine .k2 ?_|refine .k6 ?_|refine .k7 ?_|refine .k9 ?_|(refine .cd ?_ ?_<;>(intro hc;skip))|refine .r1 ?_ ?_|(refine .m2 ?_ ?_;intro hlen)|fail)
 all_goals(try simp only[BL]at *)
 ·refine Sx.Fin.intro Zs (bf ?_)
  rintro rfl;exact hc rfl
 refine aH (fun n rg af=>∃ i:Nat,i≤a.length∧n=a.length-i∧(∀ j,j<i→a.getD j default=b.getD j default)∧af=σ∧rg=[(0,.sl false 2 (a.map ar.cells)),(1,.sl false 2 (b.map ar.cells)),(12,iv a.length),(13,iv i)]) a.length rfl ⟨_,_,Zr,Zs,0,Z1 _,rfl,fun j hj=>absurd hj (by omega),rfl,rfl⟩ ?_
 rintro n _ _ ⟨i,hi,hn,hp,rfl,rfl⟩
 repeat'(first|exact .nil|refine .k0 ?_|refine .k1 ?_|refine .k2 ?_|refine .k5 ?_|refine .k6 ?_|refine .k7 ?_|refine .k8 ?_|refine .k9 ?_|(refine .cd ?_ ?_<;>(intro hc;skip))|refine .r1 ?_ ?_|refine .t1 ?_ ?_ ?_|fail)
 try any_goals(exact Zo)
 all_goals(try simp only[BL]at *)
 ·refine Sx.Fin.intro Zs (bf ?_)
  rintro rfl
  rcases hc with hc|hc<;>exact hc rfl
 ·refine⟨a.length-(i+1),by omega,_,_,Zr,Zs,i+1,by omega,rfl,dp hp (LG hc),rfl,by rw[aO (by omega) hlen]⟩
 ·refine Sx.Fin.intro Zs (bt ?_)
  exact E1 (by omega) (fun j hj=>hp j (by omega))
def zK(a b:ae):Bool:=Op.bytesLess a.toList b.toList || decide (a=b)
def ie(p:Option ae)(f:ar):Int:=if¬Word f.name then 1 else if f.exp=0∨f.exp>8∨f.exp< -8 then 70 else match p with
 |some p=>if zK f.name p=true then 3 else 0
 |none=>0
def gq:Option ae→List ar→Int
 |_,[]=>0
 |p,f::l=>if ie p f=0 then gq (some f.name) l else ie p f
def dk(u:List ar):Int:=if u.length>4 then 2 else gq none u
def lR(u:List ar)(i:Nat):Option ae:=if i=0 then none else some (u.getD (i-1) default).name
theorem Rh{u:List ar}{i:Nat}(hi:i<u.length)(h:ie (lR u i) (u.getD i default)=0):gq (lR u i) (u.drop i)=gq (lR u (i+1)) (u.drop (i+1)):=by
 rw[sV hi,gq,Z3 h];rfl
theorem wZ{u:List ar}{i:Nat}{e:Int}(hi:i<u.length)(h:ie (lR u i) (u.getD i default)=e)(he:e≠0):gq (lR u i) (u.drop i)=e:=by
 rw[sV hi,gq,Z6 (by grind),h]
theorem Rf(u:List ar):Pure prog 91 [.sl false 2 (u.map ar.cells)] (iv (dk u)):=by
 refine k91.p fun σ=> ?_
 repeat'(first|exact .nil|refine .k0 ?_|refine .k1 ?_|refine .k2 ?_|refine .k6 ?_|refine .k7 ?_|refine .k9 ?_|(refine .cd ?_ ?_<;>(intro hc;skip))|refine .r1 ?_ ?_|(refine .m2 ?_ ?_;intro hlen)|fail)
 all_goals(try simp only[BL]at *)
 ·rw[dk,Z3 (by omega)]
  exact Zw
 have hu:dk u=gq none u:=Z6 (by omega)
 refine aH (fun n rg af=>∃ i:Nat,i≤u.length∧n=u.length-i∧dk u=gq (lR u i) (u.drop i)∧af=σ∧rg=[(0,.sl false 2 (u.map ar.cells)),(8,.sl false 2 (u.map ar.cells)),(9,iv u.length),(10,iv i)]) u.length rfl ⟨_,_,Zr,Zs,0,Z1 _,rfl,hu,rfl,rfl⟩ ?_
 rintro n _ _ ⟨i,hi,hn,hp,rfl,rfl⟩
 repeat'(first|exact .nil|refine .k0 ?_|refine .k1 ?_|refine .k2 ?_|refine .k3 ?_|refine .k4 ?_|refine .k5 ?_|refine .k6 ?_|refine .k7 ?_|refine .k8 ?_|refine .k9 ?_|(refine .cd ?_ ?_<;>(intro hc;skip))|refine .r1 ?_ ?_|(refine .l1 ?_;intro b)|refine .t1 ?_ ?_ ?_|refine .an rfl (by intro aq;first|exact R2 _|exact Pv _ 8 (by decide)|fail) ?_ ?_|fail)
 try any_goals(exact Zo)
 all_goals(try simp only[BL]at *)
 ·rw[hp,wZ (e:=1) (by omega) (by unfold ie;rw[Z3 hc]) (by decide)]
  exact Zw
 ·rename_i hw
  rw[hp,wZ (e:=70) (by omega) (by unfold ie;rw[Z6 (fun h=>h hw),Z3 (by omega)]) (by decide)]
  exact Zw
 ·rename_i hw he
  rw[wF (by omega) (by omega),YJ]at hc
  rw[hp,wZ (e:=3) (by omega) (by
   unfold ie;rw[Z6 (fun h=>h hw),Z6 (by omega),lR,Z6 (by omega)]
   exact Z3 (by simp only[zK,YU,Zn];exact hc.2)) (by decide)]
  exact Zw
 ·rename_i hw he
  refine⟨u.length-(i+1),by omega,_,_,Zr,Zs,i+1,by omega,rfl,?_,rfl,by rw[aO (n:=u.length) (by omega) (by assumption)]⟩
  rw[hp]
  refine Rh (by omega) ?_
  unfold ie;rw[Z6 (fun h=>h hw),Z6 (by omega)]
  by_cases h0:i=0
  ·rw[lR,Z3 h0]
  ·rw[wF (by omega) (by omega),YJ]at hc
   rw[lR,Z6 h0]
   refine Z6 ?_
   rcases hc with hc|hc
   ·omega
   ·simp only[zK,YU,Zn]
    rintro(h|h)
    ·rw[h]at hc;exact Bool.noConfusion hc.1
    ·exact hc.2 h
 all_goals(try(intro h0;rw[wF (by omega) (by omega)];omega))
 ·rw[hp,YQ (by omega),gq]
  exact Zw
theorem I6(u:List ar):Pure prog 116 [.sl false 2 (u.map ar.cells)] (iv (dk u)):=by
 refine ad4.p fun σ=> ?_
 repeat'(first|exact .nil|refine .k0 ?_|refine .k1 ?_|refine .k2 ?_|refine .k6 ?_|refine .k7 ?_|refine .k9 ?_|(refine .cd ?_ ?_<;>(intro hc;skip))|refine .r1 ?_ ?_|(refine .m2 ?_ ?_;intro hlen)|fail)
 all_goals(try simp only[BL]at *)
 ·rw[dk,Z3 (by omega)]
  exact Zw
 have hu:dk u=gq none u:=Z6 (by omega)
 refine aH (fun n rg af=>∃ i:Nat,i≤u.length∧n=u.length-i∧dk u=gq (lR u i) (u.drop i)∧af=σ∧rg=[(0,.sl false 2 (u.map ar.cells)),(3,iv i)]) u.length rfl ⟨_,_,Zr,Zs,0,Z1 _,rfl,hu,rfl,rfl⟩ ?_
 rintro n _ _ ⟨i,hi,hn,hp,rfl,rfl⟩
 repeat'(first|exact .nil|refine .k0 ?_|refine .k1 ?_|refine .k2 ?_|refine .k3 ?_|refine .k4 ?_|refine .k5 ?_|refine .k6 ?_|refine .k7 ?_|refine .k8 ?_|refine .k9 ?_|(refine .cd ?_ ?_<;>(intro hc;skip))|refine .r1 ?_ ?_|(refine .m2 ?_ ?_;intro hlen)|refine .t1 ?_ ?_ ?_|refine .an rfl (by intro aq;first|exact R1 _|exact LH _) ?_ ?_|fail)
 try any_goals(exact Zo)
 all_goals(try simp only[BL]at *)
 ·rw[hp,wZ (e:=1) (by omega) (by unfold ie;rw[Z3 hc]) (by decide)]
  exact Zw
 ·rename_i hw
  rw[hp,wZ (e:=70) (by omega) (by unfold ie;rw[Z6 (fun h=>h hw),Z3 (by omega)]) (by decide)]
  exact Zw
 ·rename_i hw he
  rw[wF (by omega) (by omega),YJ]at hc
  rw[hp,wZ (e:=3) (by omega) (by
   unfold ie;rw[Z6 (fun h=>h hw),Z6 (by omega),lR,Z6 (by omega)]
   exact Z3 (by simp only[zK,YU,Zn];exact hc.2)) (by decide)]
  exact Zw
 ·rename_i hw he
  refine⟨u.length-(i+1),by omega,_,_,Zr,Zs,i+1,by omega,rfl,?_,rfl,by rw[aO (n:=u.length) (by omega) (by assumption)]⟩
  rw[hp]
  refine Rh (by omega) ?_
  unfold ie;rw[Z6 (fun h=>h hw),Z6 (by omega)]
  by_cases h0:i=0
  ·rw[lR,Z3 h0]
  ·rw[wF (by omega) (by omega),YJ]at hc
   rw[lR,Z6 h0]
   refine Z6 ?_
   rcases hc with hc|hc
   ·omega
   ·simp only[zK,YU,Zn]
    rintro(h|h)
    ·rw[h]at hc;exact Bool.noConfusion hc.1
    ·exact hc.2 h
 all_goals(try(intro h0;rw[wF (by omega) (by omega)];omega))
 ·rw[hp,YQ (by omega),gq]
  exact Zw
theorem bi{n m:Int}(h:n=m):AV.v (.int .i64 n)=iv m:=by rw[h]
def Num(t:Ty):Prop:=t.kind=2∨t.kind=3
instance (t:Ty):Decidable (Num t):=inferInstanceAs (Decidable (_∨_))
theorem CG(t:Ty):Pure prog 90 [.agg t.cells] (.v (.bool (decide (Num t)))):=by
 refine k90.p fun σ=> ?_
 repeat'(first|exact .nil|refine .k0 ?_|refine .k1 ?_|refine .k2 ?_|refine .k4 ?_|refine .k7 ?_|refine .r1 ?_ ?_|(refine .m1 ?_ ?_;intro b)|fail)
 try any_goals(exact Zo)
 all_goals(try simp only[BL]at *)
 ·(((refine Sx.Fin.intro Zs (bd ?_);(try simp only[BL]at *);(try simp only[dD,fH,dS,X2]at *)));try omega)
  unfold Num;omega
theorem C2(t:Ty):Pure prog 115 [.agg t.cells] (.v (.bool (decide (Num t)))):=by
 refine ad3.p fun σ=> ?_
 repeat'(first|exact .nil|refine .k0 ?_|refine .k1 ?_|refine .k2 ?_|refine .k4 ?_|refine .k7 ?_|refine .r1 ?_ ?_|(refine .m1 ?_ ?_;intro b)|fail)
 try any_goals(exact Zo)
 all_goals(try simp only[BL]at *)
 ·(((refine Sx.Fin.intro Zs (bd ?_);(try simp only[BL]at *);(try simp only[dD,fH,dS,X2]at *)));try omega)
  unfold Num;omega
def dO(t:Ty):Int:=
 if t.kind<1∨t.kind>5∨(t.unit≠[]∧¬Num t)∨(t.kind=5∧¬Name t.of)∨(t.kind≠5∧t.of≠⟨#[]⟩)then 3
 else if dk t.unit≠0∨∃ f∈t.unit,¬Name f.name then 70 else 0
theorem agE{s:ae}(h:Name s):s≠⟨#[]⟩:=fun e=>by have:=h.1.1;rw[wM.2 e]at this;omega
theorem DG{t:Ty}(h:t.kind<1∨t.kind>5∨(t.unit≠[]∧¬Num t)∨(t.kind=5∧¬Name t.of)∨(t.kind≠5∧t.of≠⟨#[]⟩)):dO t=3:=Z3 h
theorem I3{t:Ty}(h:¬(t.kind<1∨t.kind>5∨(t.unit≠[]∧¬Num t)∨(t.kind=5∧¬Name t.of)∨(t.kind≠5∧t.of≠⟨#[]⟩)))(h':dk t.unit≠0∨∃ f∈t.unit,¬Name f.name):dO t=70:=(Z6 h).trans (Z3 h')
theorem Rb{t:Ty}(h:¬(t.kind<1∨t.kind>5∨(t.unit≠[]∧¬Num t)∨(t.kind=5∧¬Name t.of)∨(t.kind≠5∧t.of≠⟨#[]⟩)))(h':¬(dk t.unit≠0∨∃ f∈t.unit,¬Name f.name)):dO t=0:=(Z6 h).trans (Z6 h')
theorem Oy{α:Type}{l:List α}:0<(l.length:Int)↔l≠[]:=by cases l<;>simp<;>omega
theorem wX(t:Ty):Pure prog 71 [.agg t.cells] (iv (dO t)):=by
 have hl:= @Oy ar t.unit
 refine k71.p fun σ=> ?_
 repeat'(first|exact .nil|refine .k0 ?_|refine .k1 ?_|refine .k2 ?_|refine .k4 ?_|refine .k6 ?_|refine .k7 ?_|refine .k9 ?_|(refine .cd ?_ ?_<;>(intro hc;skip))|refine .r1 ?_ ?_|(refine .m1 ?_ ?_;intro b)|(refine .m2 ?_ ?_;intro hlen)|refine .an rfl (by intro aq;first|exact nH _|exact I6 _|exact C2 _) ?_ ?_|fail)
 try any_goals(exact Zo)
 all_goals(try simp only[BL]at *)
 ·rw[DG (by omega)]
  exact Zw
 ·rw[DG (by grind)]
  exact Zw
 ·rw[I3 (by grind) (.inl hc)]
  exact Zw
 rename_i h1 h2
 refine aH (fun n rg af=>∃ i:Nat,i≤t.unit.length∧n=t.unit.length-i∧(∀ j,j<i→Name (t.unit.getD j default).name)∧af=(1,b,aG.cells t.cells)::σ∧rg=[(1,.lp 1 b 0),(3,iv i)]) t.unit.length rfl ⟨_,_,Zr,Zs,0,Z1 _,rfl,fun j hj=>absurd hj (by omega),rfl,rfl⟩ ?_
 rintro n _ _ ⟨i,hi,hn,hp,rfl,rfl⟩
 repeat'(first|exact .nil|refine .k0 ?_|refine .k1 ?_|refine .k2 ?_|refine .k6 ?_|refine .k7 ?_|refine .k8 ?_|refine .k9 ?_|(refine .cd ?_ ?_<;>(intro hc;skip))|refine .r1 ?_ ?_|(refine .m2 ?_ ?_;intro hlen)|refine .t1 ?_ ?_ ?_|refine .an rfl (by intro aq;first|exact nH _|fail) ?_ ?_|fail)
 try any_goals(exact Zo)
 all_goals(try simp only[BL]at *)
 ·rw[I3 (by grind) (.inr ⟨_,bu (i:=i) (by omega),hc⟩)]
  exact Zw
 ·refine⟨t.unit.length-(i+1),by omega,_,_,Zr,Zs,i+1,by omega,rfl,dp hp hc,rfl,by rw[aO (by omega) hlen]⟩
 ·have cH:=nQ (p:=fun f:ar=>Name f.name) (fun j hj=>hp j (by omega))
  rw[Rb (by grind) (by grind)]
  exact Zw
theorem uo(t:Ty):Pure prog 61 [.agg t.cells] (iv (dO t)):=by
 have hl:= @Oy ar t.unit
 have hn:= @agE t.of
 refine k61.p fun σ=> ?_
 repeat'(first|exact .nil|refine .k0 ?_|refine .k1 ?_|refine .k2 ?_|refine .k4 ?_|refine .k7 ?_|refine .k9 ?_|(refine .cd ?_ ?_<;>(intro hc;skip))|refine .r1 ?_ ?_|(refine .m1 ?_ ?_;intro b)|(refine .m2 ?_ ?_;intro hlen)|refine .an rfl (by intro aq;first|exact oW _|exact Rf _|exact Xm _|exact CG _|fail) ?_ ?_|fail)
 try any_goals(exact Zo)
 all_goals(try simp only[BL]at *)
 ·rw[DG (by grind)]
  exact Zw
 ·cases(decide (t.kind=5) == !decide (t.of=⟨#[]⟩))<;>simp
 ·rw[DG (by grind)]
  exact Zw
 ·rename_i h1 h2
  rw[I3 (by grind) hc]
  exact Zw
 ·rename_i h1 h2
  rw[Rb (by grind) (by grind)]
  exact Zw
def pr(low:Nat)(c:UInt8):Prop:=low≤c.toNat∧c.toNat≤126∧c.toNat≠34∧c.toNat≠92
instance (low:Nat)(c:UInt8):Decidable (pr low c):=inferInstanceAs (Decidable (_∧_∧_∧_))
def n0(s:ae)(low:Nat):Prop:=∀ i,i<s.size→pr low (eU s i)
instance (s:ae)(low:Nat):Decidable (n0 s low):=inferInstanceAs (Decidable (∀ i,i<s.size→_))
def ou(v:fe):Prop:=0≤v.kind∧v.kind≤5∧(v.kind≤3→v.s=⟨#[]⟩)∧(v.kind=0→v.n=0)∧(v.kind=1→v.n=0∨v.n=1)∧(4≤v.kind→v.n=0)
instance (v:fe):Decidable (ou v):=inferInstanceAs (Decidable (_∧_∧_∧_∧_∧_))
def mK(v:fe):Int:=
 if¬ou v then 1
 else if v.n< -1152921504606846976∨v.n>1152921504606846976∨(v.kind=4∧v.s.size>64)∨(v.kind=5∧v.s.size>32)then 2
 else if(v.kind=4∧¬n0 v.s 32)∨(v.kind=5∧(v.s=⟨#[]⟩∨¬n0 v.s 33))then 3 else 0
theorem PG(s:ae)(low:UInt8)(hs:s.size≤1000):Pure prog 252 [sv s,.v (.int .u8 low.toNat)] (.v (.bool (decide (n0 s low.toNat)))):=by
 refine afB.p fun σ=> ?_
 repeat'(first|exact .nil|refine .k0 ?_|refine .k1 ?_|refine .k2 ?_|refine .k6 ?_|refine .r1 ?_ ?_|fail)
 all_goals(try simp only[BL]at *)
 refine aH (fun n rg af=>∃ i:Nat,i≤s.size∧n=s.size-i∧(∀ j,j<i→pr low.toNat (eU s j))∧af=σ∧rg=[(0,sv s),(1,.v (.int .u8 low.toNat)),(5,iv i)]) s.size rfl ⟨_,_,Zr,Zs,0,Z1 _,rfl,fun j hj=>absurd hj (by omega),rfl,rfl⟩ ?_
 rintro n _ _ ⟨i,hi,hn,hp,rfl,rfl⟩
 repeat'(first|exact .nil|refine .k0 ?_|refine .k1 ?_|refine .k2 ?_|refine .k4 ?_|refine .k6 ?_|refine .k7 ?_|refine .k8 ?_|refine .k9 ?_|(refine .cd ?_ ?_<;>(intro hc;skip))|refine .r1 ?_ ?_|refine .t5 ?_ ?_ ?_|fail)
 try any_goals(exact Zo)
 all_goals(try simp only[BL]at *)
 ·refine Sx.Fin.intro Zs (bf ?_)
  intro h
  have:=h i (by omega)
  unfold pr at this
  omega
 ·refine⟨s.size-(i+1),by omega,_,_,Zr,Zs,i+1,by omega,rfl,dp hp ?_,rfl,by rw[aM (by omega)];rfl⟩
  unfold pr;omega
 ·refine Sx.Fin.intro Zs (bt ?_)
  exact fun j hj=>hp j (by omega)
theorem abU(v:fe):Pure prog 244 [.agg v.cells] (.v (.bool (decide (ou v)))):=by
 refine afu.p fun σ=> ?_
 repeat'(first|exact .nil|refine .k0 ?_|refine .k1 ?_|refine .k2 ?_|refine .k4 ?_|refine .k6 ?_|refine .k7 ?_|refine .k9 ?_|(refine .cd ?_ ?_<;>(intro hc;first|exact kf hc (by assumption)|skip))|refine .r1 ?_ ?_|(refine .m1 ?_ ?_;intro b)|fail)
 try any_goals(exact Zo)
 all_goals(try simp only[BL]at *)
 all_goals(refine Sx.Fin.intro Zs (bd ?_);unfold ou;grind)
theorem aMl(s:ae):Pure prog 246 [sv s] (.v (.bool (decide (s.size≤64∧n0 s 32)))):=by
 refine afw.p fun σ=> ?_
 repeat'(first|exact .nil|refine .k0 ?_|refine .k1 ?_|refine .k2 ?_|refine .k4 ?_|refine .k7 ?_|refine .r1 ?_ ?_|refine .an rfl (by intro aq;first|exact PG _ 32 (by(simp only[BL]at *;omega))|fail) ?_ ?_|fail)
 all_goals(try simp only[BL]at *)
 ·refine Sx.Fin.intro Zs (bd ?_)
  have:UInt8.toNat 32=32:=rfl
  grind
theorem afS(s:ae):Pure prog 247 [sv s] (.v (.bool (decide (s≠⟨#[]⟩∧s.size≤32∧n0 s 33)))):=by
 refine afx.p fun σ=> ?_
 repeat'(first|exact .nil|refine .k0 ?_|refine .k1 ?_|refine .k2 ?_|refine .k4 ?_|refine .k7 ?_|refine .r1 ?_ ?_|refine .an rfl (by intro aq;first|exact PG _ 33 (by(simp only[BL]at *;omega))|fail) ?_ ?_|fail)
 all_goals(try simp only[BL]at *)
 ·refine Sx.Fin.intro Zs (bd ?_)
  have:UInt8.toNat 33=33:=rfl
  grind
theorem ado(n:Int):Pure prog 245 [iv n] (.v (.bool (decide (-1152921504606846976≤n∧n≤1152921504606846976)))):=by
 refine afv.p fun σ=> ?_
 repeat'(first|exact .nil|refine .k0 ?_|refine .k1 ?_|refine .k2 ?_|refine .k4 ?_|refine .k7 ?_|refine .r1 ?_ ?_|fail)
 all_goals(try simp only[BL]at *)
 ·(((refine Sx.Fin.intro Zs (bd ?_);(try simp only[BL]at *);(try simp only[pr,ou,X2]at *)));try omega)
theorem Ru(v:fe):Pure prog 232 [.agg v.cells] (iv (mK v)):=by
 refine afm.p fun σ=> ?_
 repeat'(first|exact .nil|refine .k0 ?_|refine .k1 ?_|refine .k2 ?_|refine .k4 ?_|refine .k7 ?_|refine .k9 ?_|(refine .cd ?_ ?_<;>(intro hc;skip))|refine .r1 ?_ ?_|(refine .m1 ?_ ?_;intro b)|refine .an rfl (by intro aq;first|exact abU _|exact aMl _|exact afS _|exact ado _) ?_ ?_|fail)
 try any_goals(exact Zo)
 all_goals(try simp only[BL]at *)
 all_goals(refine Sx.Fin.intro Zs (bi ?_);unfold mK;grind)
theorem Rv(v:fe):Pure prog 141 [.agg v.cells] (iv (mK v)):=by
 refine aeo.p fun σ=> ?_
 repeat'(first|exact .nil|refine .k0 ?_|refine .k1 ?_|refine .k2 ?_|refine .k4 ?_|refine .k6 ?_|refine .k7 ?_|refine .k9 ?_|(refine .cd ?_ ?_<;>(intro hc;first|exact kf hc (by assumption)|skip))|refine .r1 ?_ ?_|(refine .m1 ?_ ?_;intro b)|fail)
 try any_goals(exact Zo)
 all_goals(try simp only[BL]at *)
 any_goals(refine Sx.Fin.intro Zs (bi ?_);unfold mK ou;grind)
 ·refine aH (fun n rg af=>∃ i:Nat,i≤v.s.size∧n=v.s.size-i∧(∀ j,j<i→pr 33 (eU v.s j))∧af=(1,b,aG.cells v.cells)::σ∧rg=[(1,.lp 1 b 0),(6,.v (.int .u8 33)),(88,iv v.s.size),(89,iv i)]) v.s.size rfl ⟨_,_,Zr,Zs,0,Z1 _,rfl,fun j hj=>absurd hj (by omega),rfl,rfl⟩ ?_
  rintro n _ _ ⟨i,hi,hn,hp,rfl,rfl⟩
  repeat'(first|exact .nil|refine .k0 ?_|refine .k1 ?_|refine .k2 ?_|refine .k4 ?_|refine .k6 ?_|refine .k7 ?_|refine .k8 ?_|refine .k9 ?_|(refine .cd ?_ ?_<;>(intro hc;skip))|refine .r1 ?_ ?_|refine .t5 ?_ ?_ ?_|fail)
  try any_goals(exact Zo)
  all_goals(try simp only[BL]at *)
  ·refine Sx.Fin.intro Zs (bi ?_)
   have:¬n0 v.s 33:=fun h=>by have:=h i (by omega);unfold pr at this;omega
   unfold mK ou;grind
  ·refine⟨v.s.size-(i+1),by omega,_,_,Zr,Zs,i+1,by omega,rfl,dp hp ?_,rfl,by rw[aM (by omega)];rfl⟩
   unfold pr;omega
  ·refine Sx.Fin.intro Zs (bi ?_)
   have:n0 v.s 33:=fun j hj=>hp j (by omega)
   unfold mK ou;grind
 ·refine aH (fun n rg af=>∃ i:Nat,i≤v.s.size∧n=v.s.size-i∧(∀ j,j<i→pr 32 (eU v.s j))∧af=(1,b,aG.cells v.cells)::σ∧rg=[(1,.lp 1 b 0),(6,.v (.int .u8 32)),(88,iv v.s.size),(89,iv i)]) v.s.size rfl ⟨_,_,Zr,Zs,0,Z1 _,rfl,fun j hj=>absurd hj (by omega),rfl,rfl⟩ ?_
  rintro n _ _ ⟨i,hi,hn,hp,rfl,rfl⟩
  repeat'(first|exact .nil|refine .k0 ?_|refine .k1 ?_|refine .k2 ?_|refine .k4 ?_|refine .k6 ?_|refine .k7 ?_|refine .k8 ?_|refine .k9 ?_|(refine .cd ?_ ?_<;>(intro hc;skip))|refine .r1 ?_ ?_|refine .t5 ?_ ?_ ?_|fail)
  try any_goals(exact Zo)
  all_goals(try simp only[BL]at *)
  ·refine Sx.Fin.intro Zs (bi ?_)
   have:¬n0 v.s 32:=fun h=>by have:=h i (by omega);unfold pr at this;omega
   unfold mK ou;grind
  ·refine⟨v.s.size-(i+1),by omega,_,_,Zr,Zs,i+1,by omega,rfl,dp hp ?_,rfl,by rw[aM (by omega)];rfl⟩
   unfold pr;omega
  ·refine Sx.Fin.intro Zs (bi ?_)
   have:n0 v.s 32:=fun j hj=>hp j (by omega)
   unfold mK ou;grind
theorem aMH(v:fe):Pure prog 214 [.agg v.cells] (.v (.bool (decide (mK v=0)))):=by
 refine aff.p fun σ=> ?_
 repeat'(first|exact .nil|refine .k0 ?_|refine .k1 ?_|refine .k2 ?_|refine .k7 ?_|refine .r1 ?_ ?_|(refine .m1 ?_ ?_;intro b)|refine .an rfl (by intro aq;exact Ru _) ?_ ?_|fail)
 all_goals(try simp only[BL]at *)
 ·refine Sx.Fin.intro Zs (bd ?_)
  simp
def Ex.lay(x:Ex):List AV:=[iv x.kind,sv x.op,sv x.name,sv x.table,iv x.val.kind,iv x.val.n,sv x.val.s,.sl false 2 (x.unit.map ar.cells),iv x.param,iv x.win.kind,iv x.win.size,.sl false 12 (x.args.map Ex.row)]
theorem Ex.Bc(x:Ex):x.args.length<x.size:=by
 have:∀ l:List Ex,l.length≤Ex.cB l:=fun l=>by
  induction l with
  |nil=>simp
  |cons y l ih=>have:=Ex.size_pos y;simp only[Z8,Ex.cB];omega
 have:=this x.args
 rw[Ex.uj];omega
theorem Ex.QJ{x:Ex}{i:Nat}(h:i<x.args.length)(hs:x.size≤100000):IntKind.i64.wrap (((1+Ex.cB (x.args.take i):Nat):Int)+(x.args.getD i default).size)=((1+Ex.cB (x.args.take (i+1)):Nat):Int):=by
 have h1:=Ex.Qv h
 have h2:=Ex.Qw x.args (i+1)
 have h3:=Ex.uj x
 rw[aM (by omega),h1];omega
theorem Ex.QI{x:Ex}{i:Nat}(h:i<x.args.length):(if false=true then(if((x.args.getD i default).depth:Int)<(Ex.iO (x.args.take i):Int)then((x.args.getD i default).depth:Int)else Ex.iO (x.args.take i))else(if((x.args.getD i default).depth:Int)>(Ex.iO (x.args.take i):Int)then((x.args.getD i default).depth:Int)else Ex.iO (x.args.take i)))=((Ex.iO (x.args.take (i+1)):Nat):Int):=by
 rw[Z6 Bool.false_ne_true,Ex.aav h]
 grind
theorem Ex.Ln{x:Ex}{i:Nat}(h:x.args.length≤i)(hs:x.size≤100000):IntKind.i64.wrap ((Ex.iO (x.args.take i):Int)+1)=(x.depth:Int):=by
 have:=Ex.K5 x
 have h2:=Ex.aax x
 rw[ZU h,aM (by omega)];omega
theorem aLv(x:Ex):x.size≤100000→Pure prog 117 [.agg x.row] (iv x.size):=by
 induction x using Ex.ind with
 |h x ih=>
 intro hs
 have iX:∀ y∈x.args,Pure prog 117 [.agg y.row] (iv y.size):=fun y hy=>ih y hy (by have:=Ex.qq hy;omega)
 have hl:=Ex.Bc x
 rw[Ex.bP]
 refine ad5.p fun σ=> ?_
 repeat'(first|exact .nil|refine .k0 ?_|refine .k1 ?_|refine .k2 ?_|refine .k6 ?_|refine .r1 ?_ ?_|(refine .m1 ?_ ?_;intro b)|fail)
 all_goals(try simp only[BL]at *)
 refine aH (fun n rg af=>∃ i:Nat,i≤x.args.length∧n=x.args.length-i∧af=(1,b,aG.cells x.lay)::σ∧rg=[(1,.lp 1 b 0),(3,iv (1+Ex.cB (x.args.take i):Nat)),(4,iv i)]) x.args.length rfl ⟨_,_,Zr,Zs,0,Z1 _,rfl,rfl,rfl⟩ ?_
 rintro n _ _ ⟨i,hi,hn,rfl,rfl⟩
 repeat'(first|exact .nil|refine .k0 ?_|refine .k1 ?_|refine .k2 ?_|refine .k6 ?_|refine .k7 ?_|refine .k8 ?_|refine .k9 ?_|(refine .cd ?_ ?_<;>(intro hc;skip))|refine .r1 ?_ ?_|(refine .m2 ?_ ?_;intro hlen)|refine .t1 ?_ ?_ ?_|refine .an rfl (by intro aq;exact iX (x.args.getD i default) (bu (by(simp only[BL]at *;omega)))) ?_ ?_|fail)
 try any_goals(exact Zo)
 all_goals(try simp only[BL]at *)
 ·refine⟨x.args.length-(i+1),by omega,_,_,Zr,Zs,i+1,by omega,rfl,rfl,?_⟩
  rw[Ex.QJ (by omega) hs,aM (by omega)];rfl
 ·rw[ZU (i:=i) (l:=x.args) (by omega),Ex.uj]
  exact Zw
theorem aaw(x:Ex):x.size≤100000→Pure prog 118 [.agg x.row] (iv x.depth):=by
 induction x using Ex.ind with
 |h x ih=>
 intro hs
 have iX:∀ y∈x.args,Pure prog 118 [.agg y.row] (iv y.depth):=fun y hy=>ih y hy (by have:=Ex.qq hy;omega)
 have hl:=Ex.Bc x
 rw[Ex.bP]
 refine ad6.p fun σ=> ?_
 repeat'(first|exact .nil|refine .k0 ?_|refine .k1 ?_|refine .k2 ?_|refine .k6 ?_|refine .r1 ?_ ?_|(refine .m1 ?_ ?_;intro b)|fail)
 all_goals(try simp only[BL]at *)
 refine aH (fun n rg af=>∃ i:Nat,i≤x.args.length∧n=x.args.length-i∧af=(1,b,aG.cells x.lay)::σ∧rg=[(1,.lp 1 b 0),(3,iv (Ex.iO (x.args.take i):Nat)),(4,iv i)]) x.args.length rfl ⟨_,_,Zr,Zs,0,Z1 _,rfl,rfl,rfl⟩ ?_
 rintro n _ _ ⟨i,hi,hn,rfl,rfl⟩
 repeat'(first|exact .nil|refine .k0 ?_|refine .k1 ?_|refine .k2 ?_|refine .k6 ?_|refine .k7 ?_|refine .k8 ?_|refine .k9 ?_|(refine .cd ?_ ?_<;>(intro hc;skip))|refine .r1 ?_ ?_|(refine .m2 ?_ ?_;intro hlen)|refine .t1 ?_ ?_ ?_|refine .an rfl (by intro aq;exact iX (x.args.getD i default) (bu (by(simp only[BL]at *;omega)))) ?_ ?_|fail)
 try any_goals(exact Zo)
 all_goals(try simp only[BL]at *)
 ·refine⟨x.args.length-(i+1),by omega,_,_,Zr,Zs,i+1,by omega,rfl,rfl,?_⟩
  rw[Ex.QI (by omega),aM (by omega)];rfl
 ·refine Sx.Fin.intro Zs (bi ?_)
  exact Ex.Ln (by omega) hs
theorem aLy(x:Ex):x.size≤100000→Pure prog 94 [.agg x.row] (iv x.size):=by
 induction x using Ex.ind with
 |h x ih=>
 intro hs
 have iX:∀ y∈x.args,Pure prog 94 [.agg y.row] (iv y.size):=fun y hy=>ih y hy (by have:=Ex.qq hy;omega)
 have hl:=Ex.Bc x
 rw[Ex.bP]
 refine k94.p fun σ=> ?_
 repeat'(first|exact .nil|refine .k0 ?_|refine .k1 ?_|refine .k2 ?_|refine .k6 ?_|refine .r1 ?_ ?_|(refine .m1 ?_ ?_;intro b)|(refine .m2 ?_ ?_;intro hlen)|fail)
 all_goals(try simp only[BL]at *)
 refine aH (fun n rg af=>∃ i:Nat,i≤x.args.length∧n=x.args.length-i∧af=(1,b,aG.cells x.lay)::σ∧rg=[(2,iv (1+Ex.cB (x.args.take i):Nat)),(6,.sl false 12 (x.args.map Ex.row)),(7,iv x.args.length),(8,iv i)]) x.args.length rfl ⟨_,_,Zr,Zs,0,Z1 _,rfl,rfl,rfl⟩ ?_
 rintro n _ _ ⟨i,hi,hn,rfl,rfl⟩
 repeat'(first|exact .nil|refine .k0 ?_|refine .k1 ?_|refine .k2 ?_|refine .k6 ?_|refine .k7 ?_|refine .k8 ?_|refine .k9 ?_|(refine .cd ?_ ?_<;>(intro hc;skip))|refine .r1 ?_ ?_|(refine .l1 ?_;intro b)|refine .t1 ?_ ?_ ?_|refine .an rfl (by intro aq;exact iX (x.args.getD i default) (bu (by(simp only[BL]at *;omega)))) ?_ ?_|fail)
 try any_goals(exact Zo)
 all_goals(try simp only[BL]at *)
 ·refine⟨x.args.length-(i+1),by omega,_,_,Zr,Zs,i+1,by omega,rfl,rfl,?_⟩
  rw[Ex.QJ (by omega) hs,aM (by omega)];rfl
 ·rw[ZU (i:=i) (l:=x.args) (by omega),Ex.uj]
  exact Zw
theorem aay(x:Ex):x.size≤100000→Pure prog 95 [.agg x.row] (iv x.depth):=by
 induction x using Ex.ind with
 |h x ih=>
 intro hs
 have iX:∀ y∈x.args,Pure prog 95 [.agg y.row] (iv y.depth):=fun y hy=>ih y hy (by have:=Ex.qq hy;omega)
 have hl:=Ex.Bc x
 rw[Ex.bP]
 refine k95.p fun σ=> ?_
 repeat'(first|exact .nil|refine .k0 ?_|refine .k1 ?_|refine .k2 ?_|refine .k6 ?_|refine .r1 ?_ ?_|(refine .m1 ?_ ?_;intro b)|(refine .m2 ?_ ?_;intro hlen)|fail)
 all_goals(try simp only[BL]at *)
 refine aH (fun n rg af=>∃ i:Nat,i≤x.args.length∧n=x.args.length-i∧af=(1,b,aG.cells x.lay)::σ∧rg=[(2,iv (Ex.iO (x.args.take i):Nat)),(6,.sl false 12 (x.args.map Ex.row)),(7,iv x.args.length),(8,iv i)]) x.args.length rfl ⟨_,_,Zr,Zs,0,Z1 _,rfl,rfl,rfl⟩ ?_
 rintro n _ _ ⟨i,hi,hn,rfl,rfl⟩
 repeat'(first|exact .nil|refine .k0 ?_|refine .k1 ?_|refine .k2 ?_|refine .k6 ?_|refine .k7 ?_|refine .k8 ?_|refine .k9 ?_|(refine .cd ?_ ?_<;>(intro hc;skip))|refine .r1 ?_ ?_|(refine .l1 ?_;intro b)|refine .t1 ?_ ?_ ?_|refine .an rfl (by intro aq;exact iX (x.args.getD i default) (bu (by(simp only[BL]at *;omega)))) ?_ ?_|fail)
 try any_goals(exact Zo)
 all_goals(try simp only[BL]at *)
 ·refine⟨x.args.length-(i+1),by omega,_,_,Zr,Zs,i+1,by omega,rfl,rfl,?_⟩
  rw[Ex.QI (by omega),aM (by omega)];rfl
 ·refine Sx.Fin.intro Zs (bi ?_)
  exact Ex.Ln (by omega) hs
def Ex.lens(x:Ex):Nat:=x.op.size+x.name.size+x.table.size+x.val.s.size
mutual
def Ex.wt:Ex→Nat
 | .mk _ o n t v _ _ _ ks=>max (o.size+n.size+t.size+v.s.size) (Ex.xh ks)
def Ex.xh:List Ex→Nat
 |[]=>0
 |x::l=>max x.wt (Ex.xh l)
end
def Ex.Kp(x:Ex)(n:Int):Prop:=n<1∨x.lens>300∨x.unit.length>10∨x.args.length>10∨∃ f∈x.unit,f.name.size>100
instance (x:Ex)(n:Int):Decidable (x.Kp n):=inferInstanceAs (Decidable (_∨_∨_∨_∨_))
mutual
def LM:Ex→Int→Int
 | .mk k o nm t v u p w ks,n=>if Ex.Kp (.mk k o nm t v u p w ks) n then -1 else LN ks (n-1)
def LN:List Ex→Int→Int
 |[],n=>n
 |x::l,n=>if n<0 then n else LN l (LM x n)
end
def Ed(t:Ty):Prop:=t.of.size≤300∧t.unit.length≤10∧∀ f∈t.unit,f.name.size≤100
instance (t:Ty):Decidable (Ed t):=inferInstanceAs (Decidable (_∧_∧_))
end Go.Proofs.YtomhopcnkicknaaGreatDoor
namespace Go.Sx
open Go.Proofs.YtomhopcnkicknaaGreatDoor
theorem Wk.row{l:List Ex}{nn:Bool}:Wk (.sl nn 12 (l.map Ex.row)) (.sl nn 12 (l.map Ex.cells)):=by rw[Ex.lj];exact Wk.refl _
end Go.Sx
namespace Go.Proofs.YtomhopcnkicknaaGreatDoor
open _root_.Go.Proofs.Tryz
open Go.Sx Go.Proofs
def Ex.Flat(a b:Ex):Prop:=a.kind=b.kind∧a.op=b.op∧a.name=b.name∧a.table=b.table∧a.val=b.val∧a.unit=b.unit∧a.param=b.param∧a.win=b.win
instance (a b:Ex):Decidable (a.Flat b):=inferInstanceAs (Decidable (_∧_∧_∧_∧_∧_∧_∧_))
theorem Jc{a b:fe}:a=b↔a.kind=b.kind∧a.n=b.n∧a.s=b.s:=by cases a;cases b;simp
theorem RX{a b:mh}:a=b↔a.kind=b.kind∧a.size=b.size:=by cases a;cases b;simp
theorem ya(a b:Ex):Pure prog 204 [.agg a.row,.agg b.row] (.v (.bool (decide (a.Flat b)))):=by
 rw[Ex.bP a,Ex.bP b]
 refine ae5.p fun σ=> ?_
 repeat'(first|exact .nil|refine .k0 ?_|refine .k1 ?_|refine .k2 ?_|refine .k4 ?_|refine .k7 ?_|refine .r1 ?_ ?_|(refine .m1 ?_ ?_;intro b)|refine .an rfl (by intro aq;first|exact Dq _ _|fail) ?_ ?_|fail)
 all_goals(try simp only[BL]at *)
 ·refine Sx.Fin.intro Zs (bd ?_)
  unfold Ex.Flat;rw[Jc,RX];grind
theorem uS(a b:Ex):Pure prog 143 [.agg a.row,.agg b.row] (.v (.bool (decide (a.Flat b)))):=by
 rw[Ex.bP a,Ex.bP b]
 refine aeq.p fun σ=> ?_
 repeat'(first|exact .nil|refine .k0 ?_|refine .k1 ?_|refine .k2 ?_|refine .k4 ?_|refine .k7 ?_|refine .r1 ?_ ?_|(refine .m1 ?_ ?_;intro b)|refine .an rfl (by intro aq;exact Ls _ _) ?_ ?_|fail)
 all_goals(try simp only[BL]at *)
 ·refine Sx.Fin.intro Zs (bd ?_)
  unfold Ex.Flat;rw[Jc,RX];grind
def kV:Ex:=⟨1,⟨#[]⟩,⟨#[]⟩,⟨#[]⟩,⟨1,1,⟨#[]⟩⟩,[],0,⟨0,0⟩,[]⟩
theorem Q8:Pure prog 165 [] (.agg kV.row):=by
 refine aeF.p fun σ=> ?_
 repeat'(first|exact .nil|refine .k0 ?_|refine .k1 ?_|refine .k2 ?_|refine .k7 ?_|refine .r1 ?_ ?_|(refine .l1 ?_;intro b)|fail)
 all_goals(try simp only[BL]at *)
 ·refine Sx.Fin.wk Zs (Wk.agg ?_)
  show cD _ kV.lay
  unfold Ex.lay
  repeat' first|exact .refl _|exact .nil|refine .cons ?_ ?_|fail
theorem Wq:Pure prog 233 [] (.sl false 1 (oe.map cq)):=by
 refine afn.p fun σ=> ?_
 repeat'(first|exact .nil|refine .k0 ?_|refine .k1 ?_|refine .k2 ?_|refine .k7 ?_|refine .r1 ?_ ?_|fail)
 all_goals(try simp only[BL]at *)
 ·decide
 ·refine Sx.Fin.wk Zs ?_
  exact Wk.sl
theorem ag8:Pure prog 208 [] (.sl false 1 (lg.map cq)):=by
 refine ae9.p fun σ=> ?_
 repeat'(first|exact .nil|refine .k0 ?_|refine .k1 ?_|refine .k2 ?_|refine .k7 ?_|refine .r1 ?_ ?_|fail)
 all_goals(try simp only[BL]at *)
 ·decide
 ·refine Sx.Fin.wk Zs ?_
  exact Wk.sl
def kj(w:mh):Prop:=(w.kind=1∧w.size=0)∨(1<w.kind∧w.kind≤4∧1≤w.size∧w.size≤1099511627776)
instance (w:mh):Decidable (kj w):=inferInstanceAs (Decidable (_∨_∧_∧_∧_))
theorem aM0(w:mh):Pure prog 234 [.agg w.cells] (.v (.bool (decide (kj w)))):=by
 refine afo.p fun σ=> ?_
 repeat'(first|exact .nil|refine .k0 ?_|refine .k1 ?_|refine .k2 ?_|refine .k4 ?_|refine .k7 ?_|refine .k9 ?_|(refine .cd ?_ ?_<;>(intro hc;skip))|refine .r1 ?_ ?_|(refine .m1 ?_ ?_;intro b)|fail)
 all_goals(try simp only[BL]at *)
 all_goals(refine Sx.Fin.intro Zs (bd ?_);unfold kj;grind)
def CP(x:Ex):Ex:=⟨1,⟨#[]⟩,x.name,⟨#[]⟩,x.val,x.unit,0,⟨0,0⟩,[]⟩
def oT(x:Ex):Prop:=mK x.val=0∧0≤x.val.n∧dO ⟨x.val.kind,x.unit,x.name⟩=0∧x.Flat (CP x)
instance (x:Ex):Decidable (oT x):=inferInstanceAs (Decidable (_∧_∧_∧_))
theorem age(x:Ex):Pure prog 205 [.agg x.row] (.v (.bool (decide (oT x)))):=by
 rw[Ex.bP x]
 refine ae6.p fun σ=> ?_
 repeat'(first|exact .nil|refine .k0 ?_|refine .k1 ?_|refine .k2 ?_|refine .k4 ?_|refine .k7 ?_|refine .k9 ?_|(refine .cd ?_ ?_<;>(intro hc;skip))|refine .r1 ?_ ?_|(refine .l1 ?_;intro b)|(refine .m1 ?_ ?_;intro b)|refine .an rfl (by intro aq;first|exact Ru _|exact wX ⟨x.val.kind,x.unit,x.name⟩|(refine(ya x (CP x)).wk ?_;(repeat' first|exact .row|exact .refl _|exact .nil|refine .cons ?_ ?_|refine .agg ?_|fail);done)) ?_ ?_|fail)
 try any_goals(exact Zo)
 all_goals(try simp only[BL]at *)
 all_goals(refine Sx.Fin.intro Zs (bd ?_);unfold oT;grind)
def Ba(x:Ex):Ex:=⟨5,x.op,⟨#[]⟩,x.table,⟨0,0,⟨#[]⟩⟩,[],x.param,x.win,[]⟩
def lQ(x:Ex):Prop:=if x.op=⟨#[113,117,97,110,116,105,108,101]⟩then 1≤x.param∧x.param≤1000 else if x.op=⟨#[100,101,99,97,121]⟩then 1≤x.param∧x.param≤1073741824 else x.param=0
instance (x:Ex):Decidable (lQ x):=by unfold lQ;infer_instance
def qS(x:Ex):Prop:=(∃ y∈oe,x.op=y)∧Name x.table∧kj x.win∧lQ x∧x.Flat (Ba x)
instance (x:Ex):Decidable (qS x):=inferInstanceAs (Decidable (_∧_∧_∧_∧_))
theorem Wn(x:Ex):Pure prog 206 [.agg x.row] (.v (.bool (decide (qS x)))):=by
 rw[Ex.bP x]
 refine ae7.p fun σ=> ?_
 repeat'(first|exact .nil|refine .k0 ?_|refine .k1 ?_|refine .k2 ?_|refine .k4 ?_|refine .k5 ?_|refine .k7 ?_|refine .k9 ?_|(refine .cd ?_ ?_<;>(intro hc;skip))|refine .r1 ?_ ?_|(refine .m1 ?_ ?_;intro b)|refine .an rfl (by intro aq;first|exact nH _|exact aM0 x.win|exact Wq|exact zV oe x.op|(refine(ya x (Ba x)).wk ?_;(repeat' first|exact .row|exact .refl _|exact .nil|refine .cons ?_ ?_|refine .agg ?_|fail);done)) ?_ ?_|fail)
 try any_goals(exact Zo)
 all_goals(try simp only[BL]at *)
 all_goals(refine Sx.Fin.intro Zs (bd ?_);unfold qS lQ;have Ns:(⟨#[113,117,97,110,116,105,108,101]⟩:ae)≠⟨#[100,101,99,97,121]⟩:=by decide
           first|grind|fail)
def HT(x:Ex):Ex:=⟨x.kind,⟨#[]⟩,x.name,⟨#[]⟩,⟨0,0,⟨#[]⟩⟩,[],0,⟨0,0⟩,[]⟩
def wB(x:Ex):Ex:=⟨x.kind,x.op,⟨#[]⟩,⟨#[]⟩,⟨0,0,⟨#[]⟩⟩,[],0,⟨0,0⟩,[]⟩
def oV(x:Ex):Prop:=Name x.name∧x.Flat (HT x)
instance (x:Ex):Decidable (oV x):=inferInstanceAs (Decidable (_∧_))
def iY(x:Ex):Int:=if x.kind=4∨x.kind=6 then 1 else if x.kind=5∨x.kind=7∨x.kind=9 then 2 else if x.kind=8 then 3 else 0
def gm(x:Ex)(ins:Bool):Prop:=
 if x.kind=1 then oT x else if x.kind=2 then ins=true∧oV x else if x.kind=3∨x.kind=4 then ins=false∧oV x
 else if x.kind=5 then ins=false∧qS x else if x.kind=6 then x.Flat (wB x)∧∃ y∈qz,x.op=y
 else if x.kind=7 then x.Flat (wB x)∧∃ y∈lg,x.op=y else if x.kind=8∨x.kind=9 then x.Flat (wB x)∧x.op=⟨#[]⟩else False
instance (x:Ex)(ins:Bool):Decidable (gm x ins):=by unfold gm;infer_instance
theorem WO{n m:Int}{b:Bool}{p:Prop}[Decidable p](h1:n=m)(h2:b=true↔p):AV.aE [.v (.int .i64 n),.v (.bool b)]= .aE [iv m,.v (.bool (decide p))]:=by rw[h1,bd h2]
theorem agP(x:Ex)(ins:Bool):Pure prog 163 [.agg x.row,.v (.bool ins)] (.aE [iv (iY x),.v (.bool (decide (gm x ins)))]):=by
 rw[Ex.bP x]
 refine aeD.p fun σ=> ?_
 repeat'(first|exact .nil|refine .k0 ?_|refine .k1 ?_|refine .k2 ?_|refine .k4 ?_|refine .k5 ?_|refine .k6 ?_|refine .k7 ?_|refine .k9 ?_|(refine .cd ?_ ?_<;>(intro hc;skip))|refine .r1 ?_ ?_|(refine .m1 ?_ ?_;intro b)|refine .an rfl (by intro aq;first|exact nH _|(refine(age x).wk ?_;(repeat' first|exact .row|exact .refl _|refine .cons ?_ ?_|refine .agg ?_|fail);done)|(refine(Wn x).wk ?_;(repeat' first|exact .row|exact .refl _|refine .cons ?_ ?_|refine .agg ?_|fail);done)|exact ag8|exact zV lg x.op|(refine(zV qz x.op).wk ?_;(repeat' first|exact .refl _|refine .cons ?_ ?_|exact .sl|fail);done)|(refine(ya x (HT x)).wk ?_;(repeat' first|exact .row|exact .refl _|exact .nil|refine .cons ?_ ?_|refine .agg ?_|fail);done)|(refine(ya x (wB x)).wk ?_;(repeat' first|exact .row|exact .refl _|exact .nil|refine .cons ?_ ?_|refine .agg ?_|fail);done)) ?_ ?_|fail)
 try any_goals(exact Zo)
 all_goals(try simp only[BL]at *)
 all_goals(refine Sx.Fin.intro Zs (WO ?_ ?_)<;>grind [iY,gm,oV])
mutual
def Ex.E0:Ex→Ex→Bool
 | .mk k o n t v u p w ks,.mk k' o' n' t' v' u' p' w' nE=>decide (k=k'∧o=o'∧n=n'∧t=t'∧v=v'∧u=u'∧p=p'∧w=w') && Ex.sW ks nE
def Ex.sW:List Ex→List Ex→Bool
 |[],[]=>true
 |x::l,y::m=>x.E0 y && Ex.sW l m
 |[],_::_=>false
 |_::_,[]=>false
end
mutual
theorem Ex.Lp:∀ a b:Ex,a.E0 b=true↔a=b
 | .mk k o n t v u p w ks,.mk k' o' n' t' v' u' p' w' nE=>by
  rw[Ex.E0,ZP,Zn,Ex.Lq ks nE,Ex.mk.injEq]
  simp only[X2]
theorem Ex.Lq:∀ a b:List Ex,Ex.sW a b=true↔a=b
 |[],[]=>by simp[Ex.sW]
 |x::l,y::m=>by rw[Ex.sW,ZP,Ex.Lp x y,Ex.Lq l m,ZS]
 |[],_::_=>by simp[Ex.sW]
 |_::_,[]=>by simp[Ex.sW]
end
instance:DecidableEq Ex:=fun a b=>decidable_of_iff _ (Ex.Lp a b)
theorem Ex.eq_iff{a b:Ex}:a=b↔a.Flat b∧a.args=b.args:=by
 cases a;cases b
 simp only[Ex.mk.injEq,Ex.Flat,Ex.kind,Ex.op,Ex.name,Ex.table,Ex.val,Ex.unit,Ex.param,Ex.win,Ex.args,X2]
theorem Qp(x:Ex):∀ e:Ex,Pure prog 164 [.agg x.row,.agg e.row] (.v (.bool (decide (x=e)))):=by
 induction x using Ex.ind with
 |h x ih=>
 intro e
 have iX:=ih
 rw[Ex.bP x,Ex.bP e]
 refine aeE.p fun σ=> ?_
 repeat'(first|exact .nil|refine .k0 ?_|refine .k1 ?_|refine .k2 ?_|refine .k4 ?_|refine .k6 ?_|refine .k7 ?_|refine .k9 ?_|(refine .cd ?_ ?_<;>(intro hc;skip))|refine .r1 ?_ ?_|(refine .m1 ?_ ?_;intro b)|(refine .m2 ?_ ?_;intro hlen)|refine .an rfl (by intro aq;first|(refine(ya x e).wk ?_;(repeat' first|exact .row|exact .refl _|refine .cons ?_ ?_|refine .agg ?_|fail);done)|fail) ?_ ?_|fail)
 try any_goals(exact Zo)
 all_goals(try simp only[BL]at *)
 ·refine Sx.Fin.intro Zs (bf ?_)
  intro h
  rw[h]at hc
  rcases hc with hc|hc
  ·exact hc (by unfold Ex.Flat;grind)
  ·exact hc rfl
 rename_i b0 jq
 refine aH (fun n rg af=>∃ i:Nat,i≤x.args.length∧n=x.args.length-i∧(∀ j,j<i→x.args.getD j default=e.args.getD j default)∧af=(3,b,aG.cells e.lay)::(2,b0,aG.cells x.lay)::σ∧rg=[(2,.lp 2 b0 0),(3,.lp 3 b 0),(5,iv i)]) x.args.length rfl ⟨_,_,Zr,Zs,0,Z1 _,rfl,fun j hj=>absurd hj (by omega),rfl,rfl⟩ ?_
 rintro n _ _ ⟨i,hi,hn,hp,rfl,rfl⟩
 repeat'(first|exact .nil|refine .k0 ?_|refine .k1 ?_|refine .k2 ?_|refine .k5 ?_|refine .k6 ?_|refine .k7 ?_|refine .k8 ?_|refine .k9 ?_|(refine .cd ?_ ?_<;>(intro hc;skip))|refine .r1 ?_ ?_|(refine .m2 ?_ ?_;intro hlen)|refine .t1 ?_ ?_ ?_|refine .an rfl (by intro aq;exact iX (x.args.getD i default) (bu (by(simp only[BL]at *;omega))) (e.args.getD i default)) ?_ ?_|fail)
 try any_goals(exact Zo)
 all_goals(try simp only[BL]at *)
 ·refine Sx.Fin.intro Zs (bf ?_)
  rintro rfl;exact hc rfl
 ·refine⟨x.args.length-(i+1),by omega,_,_,Zr,Zs,i+1,by omega,rfl,dp hp hc,rfl,by rw[aO (by omega) hlen]⟩
 ·refine Sx.Fin.intro Zs (bt ?_)
  rename_i h1
  exact Ex.eq_iff.2 ⟨h1.1,E1 (by omega) (fun j hj=>hp j (by omega))⟩
theorem bq{b c:Bool}(h:b=true↔c=true):AV.v (.bool b)=AV.v (.bool c):=by rw[Yy.2 h]
def aY:ae:=⟨#[99,111,117,110,116]⟩
mutual
def form:Bool→Ex→Bool
 |ins,.mk k o n t v u p w ks=>decide (gm (.mk k o n t v u p w ks) ins) && decide ((ks.length:Int)=iY (.mk k o n t v u p w ks)) && ye (ins || decide (k=5)) ks && (decide (¬(k=5∧o=aY)) || decide (ks.getD 0 default=kV))
def ye:Bool→List Ex→Bool
 |_,[]=>true
 |ins,x::l=>form ins x && ye ins l
end
theorem L5(ins:Bool):∀ l:List Ex,ye ins l=true↔∀ x∈l,form ins x=true
 |[]=>by simp[ye]
 |x::l=>by simp[ye,L5 ins l]
theorem lD(ins:Bool)(x:Ex):form ins x=true↔gm x ins∧(x.args.length:Int)=iY x∧(∀ y∈x.args,form (ins || decide (x.kind=5)) y=true)∧(x.kind=5→x.op=aY→x.args.getD 0 default=kV):=by
 cases x
 rw[form]
 simp only[ZP,YU,Zn,L5,Ex.args,Ex.kind,Ex.op]
 constructor
 ·rintro⟨⟨⟨h1,h2⟩,h3⟩,h4⟩
  exact⟨h1,h2,h3,fun a b=>h4.resolve_left fun h=>h ⟨a,b⟩⟩
 ·rintro⟨h1,h2,h3,h4⟩
  refine⟨⟨⟨h1,h2⟩,h3⟩,Decidable.or_iff_not_imp_left.2 fun h=> ?_⟩
  have:=Y1.1 h
  exact h4 this.1 this.2
theorem ach(x:Ex):∀ ins,Pure prog 119 [.agg x.row,.v (.bool ins)] (.v (.bool (form ins x))):=by
 induction x using Ex.ind with
 |h x ih=>
 intro ins
 have iX:=ih
 rw[Ex.bP x]
 refine ad7.p fun σ=> ?_
 repeat'(first|exact .nil|refine .k0 ?_|refine .k1 ?_|refine .k2 ?_|refine .k4 ?_|refine .k6 ?_|refine .k7 ?_|refine .k9 ?_|(refine .cd ?_ ?_<;>(intro hc;skip))|refine .r1 ?_ ?_|(refine .m1 ?_ ?_;intro b)|(refine .m2 ?_ ?_;intro hlen)|refine .an rfl (by intro aq;first|(refine(agP x ins).wk ?_;(repeat' first|exact .row|exact .refl _|refine .cons ?_ ?_|refine .agg ?_|fail);done)|fail) ?_ ?_|fail)
 try any_goals(exact Zo)
 all_goals(try simp only[BL]at *)
 ·refine Sx.Fin.intro Zs (bq ?_)
  rw[lD]
  grind
 refine aH (fun n rg af=>∃ i:Nat,i≤x.args.length∧n=x.args.length-i∧(∀ j,j<i→form (ins || decide (x.kind=5)) (x.args.getD j default)=true)∧af=(2,b,aG.cells x.lay)::σ∧rg=[(1,.v (.bool ins)),(2,.lp 2 b 0),(5,iv (iY x)),(7,iv i)]) x.args.length rfl ⟨_,_,Zr,Zs,0,Z1 _,rfl,fun j hj=>absurd hj (by omega),rfl,rfl⟩ ?_
 rintro n _ _ ⟨i,hi,hn,hp,rfl,rfl⟩
 repeat'(first|exact .nil|refine .k0 ?_|refine .k1 ?_|refine .k2 ?_|refine .k3 ?_|refine .k4 ?_|refine .k5 ?_|refine .k6 ?_|refine .k7 ?_|refine .k8 ?_|refine .k9 ?_|(refine .cd ?_ ?_<;>(intro hc;skip))|refine .r1 ?_ ?_|refine .t1 ?_ ?_ ?_|refine .an rfl (by intro aq;first|exact Qp _ _|exact Q8|exact iX (x.args.getD i default) (bu (by(simp only[BL]at *;omega))) _|fail) ?_ ?_|fail)
 try any_goals(exact Zo)
 all_goals(try simp only[BL]at *)
 ·refine Sx.Fin.intro Zs (bq ?_)
  rw[lD]
  constructor
  ·intro h;exact Bool.noConfusion h
  ·rintro⟨h1,h2,h3,h4⟩
   have:=h3 _ (bu (i:=i) (by omega))
   rw[hc]at this
   exact this
 ·rename_i h1 h2
  refine⟨x.args.length-(i+1),by omega,_,_,Zr,Zs,i+1,by omega,rfl,dp hp hc,rfl,?_⟩
  have:iY x≤3:=by unfold iY;repeat' split
                  all_goals omega
  rw[aM (by omega)];rfl
 ·refine Sx.Fin.intro Zs (bq ?_)
  rw[lD]
  have cH:=nQ (p:=fun y=>form (ins || decide (x.kind=5)) y=true) (l:=x.args) (fun j hj=>hp j (by omega))
  show _↔_∧_∧_∧(_→x.op=(⟨#[99,111,117,110,116]⟩:ae)→_)
  grind
 ·rename_i h1
  intro h
  have h2:iY x=2:=by unfold iY;rw[Z6 (by omega),Z3 (by omega)]
  omega
set_option maxHeartbeats 4000000
def Lm(x:Ex):Ex:=⟨x.kind,⟨#[]⟩,⟨#[]⟩,⟨#[]⟩,⟨0,0,⟨#[]⟩⟩,[],0,⟨0,0⟩,[]⟩
def Hu(x:Ex):Ex:=⟨x.kind,⟨#[]⟩,x.name,⟨#[]⟩,x.val,x.unit,0,⟨0,0⟩,[]⟩
def Ez(x:Ex):Ex:=⟨x.kind,x.op,⟨#[]⟩,x.table,⟨0,0,⟨#[]⟩⟩,[],x.param,x.win,[]⟩
theorem flat_lit(x:Ex)(h:x.kind=1):x.Flat (CP x)↔x.Flat (Hu x):=by unfold CP Hu;rw[h]
theorem flat_agg(x:Ex)(h:x.kind=5):x.Flat (Ba x)↔x.Flat (Ez x):=by unfold Ba Ez;rw[h]
theorem LY(x:Ex):x.Flat (Lm x)↔x.Flat (wB x)∧x.op=⟨#[]⟩:=by
 show _∧x.op=⟨#[]⟩∧_↔(_∧x.op=x.op∧_)∧_
 constructor
 ·rintro⟨h1,h2,h3⟩;exact⟨⟨h1,rfl,h3⟩,h2⟩
 ·rintro⟨⟨h1, -,h3⟩,h2⟩;exact⟨h1,h2,h3⟩
theorem PU:(⟨#[113,117,97,110,116,105,108,101]⟩:ae)≠⟨#[100,101,99,97,121]⟩:=by decide
def qM(x:Ex)(ins:Bool):Prop:=form ins x=true↔(∀ y∈x.args,form (ins || decide (x.kind=5)) y=true)∧(x.kind=5→x.op=aY→x.args.getD 0 default=kV)
theorem abP{x:Ex}{ins q:Bool}{i:Nat}(hF:qM x ins)(hq:q=(ins || decide (x.kind=5)))(hi:i<x.args.length)(hc:form q (x.args.getD i default)=false):false=true↔form ins x=true:=by
 unfold qM at hF
 rw[hF,← hq]
 constructor
 ·intro h;exact Bool.noConfusion h
 ·rintro⟨h, -⟩
  have:=h _ (bu hi)
  rw[hc]at this
  exact this
theorem L6{q:Bool}{y:Ex}(h:form q y=true)(hf:y.Flat kV):y=kV:=by
 rw[lD]at h
 have hk:y.kind=1:=hf.1
 have hn:iY y=0:=by unfold iY;rw[Z6 (by omega),Z6 (by omega),Z6 (by omega)]
 have:y.args=[]:=ZM (by omega)
 exact Ex.eq_iff.2 ⟨hf,this⟩
theorem LO{x:Ex}{q:Bool}{i:Nat}(hi:x.args.length≤i)(hp:∀ j,j<i→form q (x.args.getD j default)=true):∀ y∈x.args,form q y=true:=nQ (p:=fun y=>form q y=true) fun j hj=>hp j (by omega)
theorem abO{x:Ex}{ins q:Bool}(hF:qM x ins)(hq:q=(ins || decide (x.kind=5)))(cH:∀ y∈x.args,form q y=true)(h0:0<x.args.length)(hc:x.op=⟨#[99,111,117,110,116]⟩∧x.kind=5):decide ((x.args.getD 0 default).Flat kV)=true↔form ins x=true:=by
 unfold qM at hF
 rw[hF,← hq,Zn]
 constructor
 ·intro h;exact⟨cH,fun _ _=>L6 (cH _ (bu h0)) h⟩
 ·rintro⟨-,h⟩;rw[h hc.2 hc.1];decide
theorem abQ{x:Ex}{ins q:Bool}(hF:qM x ins)(hq:q=(ins || decide (x.kind=5)))(cH:∀ y∈x.args,form q y=true)(hc:¬x.op=⟨#[99,111,117,110,116]⟩∨¬x.kind=5):true=true↔form ins x=true:=by
 unfold qM at hF
 rw[hF,← hq]
 refine⟨fun _=>⟨cH,fun h1 h2=> ?_⟩,fun _=>rfl⟩
 rcases hc with h|h
 ·exact absurd h2 h
 ·exact absurd h1 h
theorem ahr(x:Ex):∀ ins,Pure prog 96 [.agg x.row,.v (.bool ins)] (.v (.bool (form ins x))):=by
 induction x using Ex.ind with
 |h x ih=>
 intro ins
 have iX:=ih
 rw[Ex.bP x]
 refine k96.p fun σ=> ?_
 repeat'(first|exact .nil|refine .k0 ?_|refine .k1 ?_|refine .k2 ?_|refine .k3 ?_|refine .k4 ?_|refine .k6 ?_|refine .k7 ?_|refine .k9 ?_|(refine .cd ?_ ?_<;>(intro hc;first|exact kf hc (by assumption)|skip))|refine .r1 ?_ ?_|(refine .l1 ?_;intro b)|(refine .m1 ?_ ?_;intro b)|(refine .m2 ?_ ?_;intro hlen)|refine .an rfl (by intro aq;first|exact Rv x.val|exact uo ⟨x.val.kind,x.unit,x.name⟩|exact oW _|exact EO oe x.op|exact EO qz x.op|exact EO lg x.op|(refine(uS x (Hu x)).wk ?_;(repeat' first|exact .row|exact .refl _|exact .nil|refine .cons ?_ ?_|refine .agg ?_|fail);done)|(refine(uS x (HT x)).wk ?_;(repeat' first|exact .row|exact .refl _|exact .nil|refine .cons ?_ ?_|refine .agg ?_|fail);done)|(refine(uS x (Ez x)).wk ?_;(repeat' first|exact .row|exact .refl _|exact .nil|refine .cons ?_ ?_|refine .agg ?_|fail);done)|(refine(uS x (wB x)).wk ?_;(repeat' first|exact .row|exact .refl _|exact .nil|refine .cons ?_ ?_|refine .agg ?_|fail);done)|(refine(uS x (Lm x)).wk ?_;(repeat' first|exact .row|exact .refl _|exact .nil|refine .cons ?_ ?_|refine .agg ?_|fail);done)|fail) ?_ ?_|refine .r9 ?_ ?_|fail)
 try any_goals(exact Zo)
 all_goals(try simp only[BL]at *)
 all_goals first
  |(exfalso;omega)
  |(with_reducible refine Sx.Fin.intro ?_ (bq ?_)
    rotate_left
    rw[lD]
    have h1:=flat_lit x
    have h2:=flat_agg x
    have h3:=LY x
    have Ns:=PU
    clear ih iX
    focus grind [gm,iY,oT,qS,oV,lQ,kj]
    repeat' first|exact .refl _|refine .cons ?_)
  |skip
 all_goals
  have hF:qM x ins:=by
   unfold qM
   rw[lD]
   have h1:=flat_lit x
   have h2:=flat_agg x
   have h3:=LY x
   have Ns:=PU
   clear ih iX
   grind [gm,iY,oT,qS,oV,lQ,kj]
 all_goals have hN:x.kind=5→x.args.length=2:=by intro h;omega
 all_goals refine aH (fun n rg af=>∃ (i:Nat) (q:Bool) (b0 b:Nat) (c:List AV),q=(ins || decide (x.kind=5))∧i≤x.args.length∧n=x.args.length-i∧(∀ j,j<i→form q (x.args.getD j default)=true)∧af=(5,b,aG.cells c)::(2,b0,aG.cells x.lay)::σ∧rg=[(1,.v (.bool q)),(2,.lp 2 b0 0),(186,.sl false 12 (x.args.map Ex.row)),(187,iv x.args.length),(188,iv i)]) x.args.length rfl ⟨_,_,Zr,Zs,0,_,_,_,_,by simp[*],Z1 _,rfl,fun j hj=>absurd hj (by omega),rfl,rfl⟩ ?_
 all_goals clear hlen
 all_goals rintro n _ _ ⟨i,q,b0,b,c,hq,hi,hn,hp,rfl,rfl⟩
 all_goals clear ih
 repeat'(first|exact .nil|refine .k0 ?_|refine .k1 ?_|refine .k2 ?_|refine .k4 ?_|refine .k6 ?_|refine .k7 ?_|refine .k8 ?_|refine .k9 ?_|(refine .cd ?_ ?_<;>(intro hc;skip))|refine .r1 ?_ ?_|(refine .l1 ?_;intro b)|refine .t1 ?_ ?_ ?_|refine .an rfl (by intro aq;first|(refine(uS (x.args.getD 0 default) kV).wk ?_;(repeat' first|exact .refl _|exact .nil|refine .cons ?_ ?_|refine .agg ?_|fail);done)|exact iX (x.args.getD i default) (bu (by(simp only[BL]at *;omega))) _) ?_ ?_|fail)
 try any_goals(exact Zo)
 all_goals(try simp only[BL]at *)
 all_goals first
  |(with_reducible refine Sx.Fin.intro ?_ (bq ?_)
    rotate_left
    focus first
     |exact abP hF hq (by omega) hc
     |exact abO hF hq (LO (by omega) hp) (by omega) hc
     |exact abQ hF hq (LO (by omega) hp) hc
    repeat' first|exact .refl _|refine .cons ?_)
  |(refine⟨x.args.length-(i+1),by omega,_,_,Zr,Zs,i+1,_,_,_,_,hq,by omega,rfl,dp hp hc,rfl,by rw[aM (by omega)];rfl⟩)
  |trace_state
set_option maxHeartbeats 4000000
def shape(x:Ex):Int:=if 64<x.size∨12<x.depth then 2 else if form false x=true then 0 else 3
theorem Ae(x:Ex)(hs:x.size≤100000):Pure prog 62 [.agg x.row] (iv (shape x)):=by
 rw[Ex.bP x]
 refine k62.p fun σ=> ?_
 repeat'(first|exact .nil|refine .k0 ?_|refine .k1 ?_|refine .k2 ?_|refine .k4 ?_|refine .k7 ?_|refine .k9 ?_|(refine .cd ?_ ?_<;>(intro hc;skip))|refine .r1 ?_ ?_|(refine .m1 ?_ ?_;intro b)|refine .an rfl (by intro aq;first|(refine(aLy x (by first|omega|fail)).wk ?_;(repeat' first|exact .row|exact .refl _|refine .cons ?_ ?_|refine .agg ?_|fail);done)|(refine(aay x (by first|omega|fail)).wk ?_;(repeat' first|exact .row|exact .refl _|refine .cons ?_ ?_|refine .agg ?_|fail);done)|(refine(ahr x false).wk ?_;(repeat' first|exact .row|exact .refl _|refine .cons ?_ ?_|refine .agg ?_|fail);done)|fail) ?_ ?_|fail)
 try any_goals(exact Zo)
 all_goals(try simp only[BL]at *)
 all_goals(refine Sx.Fin.intro Zs (bi ?_);unfold shape;grind)
theorem IB(x:Ex)(hs:x.size≤100000):Pure prog 72 [.agg x.row] (iv (shape x)):=by
 rw[Ex.bP x]
 refine k72.p fun σ=> ?_
 repeat'(first|exact .nil|refine .k0 ?_|refine .k1 ?_|refine .k2 ?_|refine .k4 ?_|refine .k7 ?_|refine .k9 ?_|(refine .cd ?_ ?_<;>(intro hc;skip))|refine .r1 ?_ ?_|(refine .m1 ?_ ?_;intro b)|refine .an rfl (by intro aq;first|(refine(aLv x (by first|omega|fail)).wk ?_;(repeat' first|exact .row|exact .refl _|refine .cons ?_ ?_|refine .agg ?_|fail);done)|(refine(aaw x (by first|omega|fail)).wk ?_;(repeat' first|exact .row|exact .refl _|refine .cons ?_ ?_|refine .agg ?_|fail);done)|(refine(ach x false).wk ?_;(repeat' first|exact .row|exact .refl _|refine .cons ?_ ?_|refine .agg ?_|fail);done)) ?_ ?_|fail)
 try any_goals(exact Zo)
 all_goals(try simp only[BL]at *)
 all_goals(refine Sx.Fin.intro Zs (bi ?_);unfold shape;grind)
def strs:List (List AV)→Option (List ae)
 |[]=>some []
 |[.v (.string s)]::l=>(strs l).map (s::·)
 |_=>none
theorem QL:∀ {l:List (List AV)} {ws:List ae},strs l=some ws→l=ws.map cq
 |[],ws,h=>by simp only[strs,ZN]at h;subst h;rfl
 |[.v (.string s)]::l,ws,h=>by
  simp only[strs,ZO]at h
  obtain⟨w,h1,rfl⟩:=h
  rw[QL h1];rfl
def dT:List ae→ae
 |[]=>⟨#[]⟩
 |s::l=>s++dT l
def fY:List ae→Nat
 |[]=>0
 |s::l=>s.size+fY l
theorem bU(s:ae):s.data.toList.length=s.size:=rfl
theorem aV(a:Array UInt8):(⟨a⟩:ae).size=a.size:=rfl
theorem bz(a b:ae):(a++b).size=a.size+b.size:=by rw[qt,jz,Z9];rfl
theorem mj:∀ l:List ae,(dT l).size=fY l
 |[]=>rfl
 |s::l=>by rw[dT,bz,mj l,fY]
theorem N2:∀ l:List (List UInt8),([]:List UInt8).intercalate l=l.flatten
 |[]=>rfl
 |[a]=>by simp[List.intercalate]
 |a::b::l=>by
  have:=N2 (b::l)
  simp only[List.intercalate,List.intersperse,List.flatten_cons,Y0]at this ⊢
  rw[this]
theorem EL:∀ l:List ae,(dT l).data.toList=(l.map (·.data.toList)).flatten
 |[]=>rfl
 |s::l=>by rw[dT,jz,EL l];rfl
theorem N7(l:List ae):Lib.join (l.map (·.data.toList)) (⟨#[]⟩:ae).data.toList=(dT l).data.toList:=by
 rw[EL];exact N2 _
theorem adQ(l:List ae):kR l ⟨#[]⟩=dT l:=by
 apply j9
 unfold kR
 rw[N7]
theorem adT(ws:List ae)(nn:Bool)(hN:ws.length≤1000)(hl:fY ws≤140737488355328):Pure prog 31 [.sl nn 1 (ws.map cq)] (sv (dT ws)):=by
 refine k31.p fun σ=> ?_
 repeat'(first|exact .nil|refine .k0 ?_|refine .k1 ?_|refine .k2 ?_|refine .k7 ?_|refine .r1 ?_ ?_|refine .an rfl (by intro aq;(refine(zJ ws ⟨#[]⟩ nn (by first|omega|fail) (by rw[N7,← qt,mj];omega)).wk ?_;(repeat' first|exact .refl _|fail);done)) ?_ ?_|fail)
 all_goals(try simp only[BL]at *)
 ·rw[adQ]
  exact Zw
theorem lM{nn:Bool}{l:List (List AV)}(ws:List ae)(h:strs l=some ws)(hN:ws.length≤1000)(hl:fY ws≤140737488355328):Pure prog 31 [.sl nn 1 l] (sv (dT ws)):=by
 rw[QL h];exact adT ws nn hN hl
def gA(f:ar):ae:=if f.exp=1 then f.name else f.name++(⟨#[94]⟩++dH f.exp)
def jC(u:List ar):ae:=kR (u.map gA) ⟨#[42]⟩
theorem adO{d:Nat}(h:d<10):dH d=⟨#[UInt8.ofNat (48+d)]⟩:=by
 unfold dH
 rw[Lib.itoa_nonneg,Lib.decDigits,dif_pos h]
theorem adP{d:Nat}(h:d<10)(h0:1≤d):dH (-(d:Int))=⟨#[45]⟩++⟨#[UInt8.ofNat (48+d)]⟩:=by
 unfold dH
 rw[Lib.itoa_neg d h0,Lib.decDigits,dif_pos h]
 rfl
theorem vY(n:Int)(h: -9223372036854775808≤n∧n≤9223372036854775807):(dH n).size≤21:=by
 have:=Lib.itoa_length_le n h.1 h.2
 rw[qt]
 simpa[dH]using this
theorem aaJ(n:Int)(h: -9≤n∧n≤9):Pure prog 171 [iv n] (sv (dH n)):=by
 refine aeL.p fun σ=> ?_
 repeat'(first|exact .nil|refine .k0 ?_|refine .k1 ?_|refine .k2 ?_|refine .k4 ?_|refine .k5 ?_|refine .k7 ?_|refine .k9 ?_|(refine .cd ?_ ?_<;>(intro hc;skip))|refine .r1 ?_ ?_|refine .r4 ?_ ?_|fail)
 try any_goals(exact Zo)
 all_goals(try simp only[BL]at *)
 ·exact ZW rfl
 ·exact ZW rfl
 ·obtain⟨d,rfl⟩:∃ d:Nat,n= -(d:Int):=⟨n.natAbs,by omega⟩
  rw[aM (by omega),adP (by omega) (by omega)]
  refine Sx.Fin.intro Zs ?_
  have:IntKind.u8.wrap (48 - -(d:Int))=((48+d:Nat):Int):=by
   rw[Go.IntWalk.u8_in _ (by omega)];omega
  rw[this];rfl
 ·exact ZW rfl
 ·obtain⟨d,rfl⟩:∃ d:Nat,n=(d:Int):=⟨n.toNat,by omega⟩
  rw[aM (by omega),adO (by omega)]
  refine Sx.Fin.intro Zs ?_
  have:IntKind.u8.wrap (48+(d:Int))=((48+d:Nat):Int):=by
   rw[Go.IntWalk.u8_in _ (by omega)];omega
  rw[this];rfl
 ·omega
 ·omega
theorem qv{α:Type}[Inhabited α]{l:List α}{i:Nat}(h:i<l.length):l.take (i+1)=l.take i++[l.getD i default]:=by
 rw[getD_eq h,ZV h]
theorem N1(sep:List UInt8):∀ l:List (List UInt8),(sep.intercalate l).length≤l.flatten.length+l.length * sep.length
 |[]=>by simp[List.intercalate]
 |[a]=>by simp[List.intercalate]
 |a::b::l=>by
  have:=N1 sep (b::l)
  simp only[List.intercalate,List.intersperse,List.flatten_cons,Z9,Z8,YT,Nat.one_mul]at this ⊢
  omega
theorem Hg(ws:List ae)(sep:ae):(Lib.join (ws.map (·.data.toList)) sep.data.toList).length≤fY ws+ws.length * sep.size:=by
 have:=N1 sep.data.toList (ws.map (·.data.toList))
 rw[← EL,← qt,mj,Z7]at this
 exact this
theorem CN{α:Type}(g:α→ae)(c:Nat):∀ {l:List α},(∀ x∈l,(g x).size≤c)→fY (l.map g)≤l.length * c
 |[],_=>Z1 _
 |x::l,h=>by
  have h1:=h x (by simp)
  have h2:=CN g c (l:=l) fun y hy=>h y (by simp[hy])
  simp only[ZC,fY,Z8,YT,Nat.one_mul]
  omega
def gb(f:ar):Prop:=f.name.size≤24∧-8≤f.exp∧f.exp≤8∧1≤f.name.size
theorem abu{f:ar}(h:gb f):(gA f).size≤46:=by
 unfold gA
 have:=vY f.exp (by have:=h.2;omega)
 have:=h.1
 split
 ·omega
 ·rw[bz,bz];show _+(1+_)≤_;omega
theorem Rj{u:List ar}(hu:∀ f∈u,gb f)(hl:u.length≤4):(Lib.join ((u.map gA).map (·.data.toList)) (⟨#[42]⟩:ae).data.toList).length≤200:=by
 have h1:=Hg (u.map gA) ⟨#[42]⟩
 have h2:=CN gA 46 fun f hf=>abu (hu f hf)
 have h3:(⟨#[42]⟩:ae).size=1:=rfl
 rw[Z7,h3]at h1
 omega
theorem DJ{u:List ar}(hu:∀ f∈u,gb f)(hl:u.length≤4):(jC u).size≤200:=Rj hu hl
theorem ahS{fs:List ar}{i:Nat}(h:i<fs.length):((fs.take i).map gA).map cq++[[.v (.string (gA (fs.getD i default)))]]=((fs.take (i+1)).map gA).map cq:=by
 rw[qv h];simp[cq]
theorem BA{f:ar}(h:f.exp=1):gA f=f.name:=Z3 h
theorem E7{f:ar}(h:¬f.exp=1):gA f=f.name++(⟨#[94]⟩++dH f.exp):=Z6 h
theorem aMv(fs:List ar)(hu:∀ f∈fs,gb f)(hl:fs.length≤4):Pure prog 100 [.sl false 2 (fs.map ar.cells)] (sv (jC fs)):=by
 refine adU.p fun σ=> ?_
 repeat'(first|exact .nil|refine .k0 ?_|refine .k1 ?_|refine .k2 ?_|refine .k6 ?_|refine .r1 ?_ ?_|(refine .m2 ?_ ?_;intro hlen)|fail)
 all_goals(try simp only[BL]at *)
 refine aH (fun n rg af=>∃ i:Nat,i≤fs.length∧n=fs.length-i∧((i=0∧af=σ∧rg=[(3,.v (.slice none 0 0)),(7,.sl false 2 (fs.map ar.cells)),(8,iv fs.length),(9,iv i)])∨(0<i∧∃ b v c,af=(27,b,.tail v c)::σ∧rg=[(3,.own 1 27 b v c (((fs.take i).map gA).map cq)),(7,.sl false 2 (fs.map ar.cells)),(8,iv fs.length),(9,iv i)]))) fs.length rfl ⟨_,_,Zr,Zs,0,Z1 _,rfl,.inl ⟨rfl,rfl,rfl⟩⟩ ?_
 rintro n _ _ ⟨i,hi,hn,⟨h0,rfl,rfl⟩|⟨h0,b0,v0,c0,rfl,rfl⟩⟩
 all_goals have hf:i<fs.length→gb (fs.getD i default):=fun h=>hu _ (bu h)
 all_goals have hz:i<fs.length→(dH (fs.getD i default).exp).size≤21:=fun h=>vY _ (by have:=(hf h).2;omega)
 all_goals unfold gb at hf
 repeat'(first|exact .nil|refine .k0 ?_|refine .k1 ?_|refine .k2 ?_|refine .k6 ?_|refine .k7 ?_|refine .k8 ?_|refine .k9 ?_|(refine .cd ?_ ?_<;>(intro hc;skip))|refine .r1 ?_ ?_|(refine .l1 ?_;intro b)|refine .t1 ?_ ?_ ?_|refine .u1 ?_ ?_ ?_ (fun b u c=> ?_)|refine .u2 ?_ ?_ ?_ (fun b u c=> ?_)|refine .an rfl (by intro aq;first|exact tQ _ (by(simp only[BL]at *;omega))|(refine(zJ [] ⟨#[42]⟩ false (by decide) (by decide)).wk ?_;(repeat' first|exact .refl _|exact .nil|refine .cons ?_ ?_|fail);done)|(refine(zJ (fs.map gA) ⟨#[42]⟩ false (by rw[Z7];omega) (ZJ (Rj hu hl) (by decide))).wk (cD.cons (Wk.C9 (by rw[ZU (by(simp only[BL]at *;omega))])) (cD.cons (Wk.refl _) cD.nil)))) ?_ ?_|(show List.all _ _=true;rfl)|fail)
 try any_goals(exact Zo)
 all_goals(try simp only[BL]at *)
 any_goals((simp only[Z8,Z5,Z9,Z7,Z4,bz,aV,bU,Z2];omega))
 all_goals have e:=fun h=>ahS (fs:=fs) (i:=i) h
 ·subst h0
  rw[E7 hc]at e
  refine⟨fs.length-(0+1),by omega,_,_,Zr,Zs,0+1,by omega,rfl,.inr ⟨by omega,_,_,_,rfl,?_⟩⟩
  rw[← e (by omega),aO (n:=fs.length) (by omega) (by assumption)];rfl
 ·subst h0
  rw[BA hc]at e
  refine⟨fs.length-(0+1),by omega,_,_,Zr,Zs,0+1,by omega,rfl,.inr ⟨by omega,_,_,_,rfl,?_⟩⟩
  rw[← e (by omega),aO (n:=fs.length) (by omega) (by assumption)];rfl
 ·obtain rfl:fs=[]:=ZM (by omega)
  exact Sx.Fin.intro Zs rfl
 ·rw[E7 hc]at e
  refine⟨fs.length-(i+1),by omega,_,_,Zr,Zs,i+1,by omega,rfl,.inr ⟨by omega,_,_,_,rfl,?_⟩⟩
  rw[← e (by omega),aO (n:=fs.length) (by omega) (by assumption)]
 ·rw[BA hc]at e
  refine⟨fs.length-(i+1),by omega,_,_,Zr,Zs,i+1,by omega,rfl,.inr ⟨by omega,_,_,_,rfl,?_⟩⟩
  rw[← e (by omega),aO (n:=fs.length) (by omega) (by assumption)]
 ·exact Sx.Fin.intro Zs rfl
theorem G9(sep a:List UInt8):∀ l:List (List UInt8),l≠[]→sep.intercalate (l++[a])=sep.intercalate l++(sep++a)
 |[],h=>absurd rfl h
 |[b],_=>by simp[List.intercalate]
 |b::c::l,_=>by
  have:=G9 sep a (c::l) (by simp)
  simp only[List.intercalate,List.intersperse,List.flatten_cons,Ze,ZB]at this ⊢
  rw[this]
theorem I7(fs:List ar):(jC fs).data.toList=[42].intercalate (fs.map fun f=>(gA f).data.toList):=by
 show Lib.join ((fs.map gA).map (·.data.toList)) [42]=_
 rw[Yk];rfl
theorem aMx{fs:List ar}{i:Nat}(h:i<fs.length)(h0:0<i):(jC (fs.take (i+1))).data.toList=(jC (fs.take i)).data.toList++([42]++(gA (fs.getD i default)).data.toList):=by
 rw[I7,I7,qv h,Zz,ZC,Y5]
 refine G9 _ _ _ fun e=> ?_
 have:=Zy List.length e
 simp only[Z7,Z4,Z5]at this
 omega
theorem aMw{fs:List ar}(h:0<fs.length):(jC (fs.take (0+1))).data.toList=(gA (fs.getD 0 default)).data.toList:=by
 rw[I7,qv h]
 simp[List.intercalate]
def bR(s:ae):List (List AV):=s.data.toList.map dn
theorem Kl(a b:ae):bR (a++b)=bR a++bR b:=by unfold bR;rw[jz,Zz]
theorem Ko{fs:List ar}{i:Nat}(h:i<fs.length)(h0:0<i):bR (jC (fs.take (i+1)))=bR (jC (fs.take i))++[[.v (.int .u8 42)]]++bR (gA (fs.getD i default)):=by
 show List.map _ _=_
 rw[aMx h h0,Zz,Zz,ZB];rfl
theorem Kn{fs:List ar}(h:0<fs.length):bR (jC (fs.take (0+1)))=bR (gA (fs.getD 0 default)):=Zy (List.map dn) (aMw h)
theorem Km{f:ar}(h:¬f.exp=1):bR (gA f)=bR f.name++[[.v (.int .u8 94)]]++bR (dH f.exp):=by
 rw[E7 h,Kl,Kl,ZB];rfl
theorem agZ(l:List UInt8):((l.map dn).all fun r=>r.all AV.one)=true:=by
 rw[List.all_map];exact Zx.2 fun _ _=>rfl
theorem Wv{s:ae}(h:1≤s.size):s.data.toList.map dn≠[]:=fun e=>by
 have:=Zy List.length e
 rw[Z7]at this
 have h2:s.size=0:=this
 omega
theorem aMu(fs:List ar)(hu:∀ f∈fs,gb f)(hl:fs.length≤4):Pure prog 125 [.sl false 2 (fs.map ar.cells)] (sv (jC fs)):=by
 refine aec.p fun σ=> ?_
 repeat'(first|exact .nil|refine .k0 ?_|refine .k1 ?_|refine .k2 ?_|refine .k6 ?_|refine .r1 ?_ ?_|fail)
 all_goals(try simp only[BL]at *)
 refine aH (fun n rg af=>∃ i:Nat,i≤fs.length∧n=fs.length-i∧((i=0∧af=σ∧rg=[(0,.sl false 2 (fs.map ar.cells)),(3,.v (.slice none 0 0)),(4,iv i)])∨(0<i∧∃ b v c,af=(22,b,.tail v c)::σ∧rg=[(0,.sl false 2 (fs.map ar.cells)),(3,.own 1 22 b v c ((jC (fs.take i)).data.toList.map dn)),(4,iv i)]))) fs.length rfl ⟨_,_,Zr,Zs,0,Z1 _,rfl,.inl ⟨rfl,rfl,rfl⟩⟩ ?_
 rintro n _ _ ⟨i,hi,hn,⟨h0,rfl,rfl⟩|⟨h0,b0,v0,c0,rfl,rfl⟩⟩
 all_goals have hf:i<fs.length→gb (fs.getD i default):=fun h=>hu _ (bu h)
 all_goals have hz:i<fs.length→(dH (fs.getD i default).exp).size≤21:=fun h=>vY _ (by have:=(hf h).2;omega)
 all_goals have hs:=DJ (u:=fs.take i) (fun f hf=>hu f (YZ hf)) (by rw[Z4];omega)
 all_goals unfold gb at hf
 repeat'(first|exact .nil|refine .k0 ?_|refine .k1 ?_|refine .k2 ?_|refine .k6 ?_|refine .k7 ?_|refine .k8 ?_|refine .k9 ?_|(refine .cd ?_ ?_<;>(intro hc;skip))|refine .r1 ?_ ?_|(refine .m2 ?_ ?_;intro hlen)|refine .t1 ?_ ?_ ?_|refine .u1 ?_ ?_ ?_ (fun b u c=> ?_)|refine .u2 ?_ ?_ ?_ (fun b u c=> ?_)|refine .an rfl (by intro aq;exact aaJ _ (by(simp only[BL]at *;omega))) ?_ ?_|refine .r4 ?_ ?_|refine .r5 ?_ ?_|(show List.all _ _=true;rfl)|fail)
 try any_goals(exact Zo)
 all_goals(try simp only[BL]at *)
 all_goals try(exfalso;omega)
 any_goals((simp only[Z8,Z5,Z9,Z7,Z4,bz,aV,bU,Z2];omega))
 any_goals exact agZ _
 any_goals exact Wv (by have:=hf (by omega);omega)
 ·subst h0
  refine⟨fs.length-(0+1),by omega,_,_,Zr,Zs,0+1,by omega,rfl,.inr ⟨by omega,_,_,_,rfl,?_⟩⟩
  show _=[_,(3,AV.own 1 22 _ _ _ (bR (jC (fs.take (0+1))))),_]
  rw[Kn (by omega),Km hc,aO (n:=fs.length) (by omega) (by assumption)];rfl
 ·subst h0
  refine⟨fs.length-(0+1),by omega,_,_,Zr,Zs,0+1,by omega,rfl,.inr ⟨by omega,_,_,_,rfl,?_⟩⟩
  show _=[_,(3,AV.own 1 22 _ _ _ (bR (jC (fs.take (0+1))))),_]
  rw[Kn (by omega),BA hc,aO (n:=fs.length) (by omega) (by assumption)];rfl
 ·obtain rfl:fs=[]:=ZM (by omega)
  exact Sx.Fin.intro Zs rfl
 ·refine⟨fs.length-(i+1),by omega,_,_,Zr,Zs,i+1,by omega,rfl,.inr ⟨by omega,_,_,_,rfl,?_⟩⟩
  show _=[_,(3,AV.own 1 22 _ _ _ (bR (jC (fs.take (i+1))))),_]
  rw[Ko (by omega) (by assumption),Km hc,aO (n:=fs.length) (by omega) (by assumption)]
  simp only[bR,ZB]
 ·refine⟨fs.length-(i+1),by omega,_,_,Zr,Zs,i+1,by omega,rfl,.inr ⟨by omega,_,_,_,rfl,?_⟩⟩
  show _=[_,(3,AV.own 1 22 _ _ _ (bR (jC (fs.take (i+1))))),_]
  rw[Ko (by omega) (by assumption),BA hc,aO (n:=fs.length) (by omega) (by assumption)]
  rfl
 ·rw[ZU (by omega)]
  exact Sx.Fin.intro Zs rfl
set_option maxHeartbeats 4000000
theorem eH(a b c:ae):a++b++c=a++(b++c):=j9 (by simp)
theorem eS(a:ae):a++(⟨#[]⟩:ae)=a:=j9 (by simp)
theorem bs{a b:ae}(h:a=b):AV.v (.string a)=sv b:=by rw[h]
def mJ(u:List ar):ae:=if u=[]then⟨#[]⟩else⟨#[32,91]⟩++(jC u++⟨#[93]⟩)
theorem xb{u:List ar}(hu:∀ f∈u,gb f)(hl:u.length≤4):(mJ u).size≤210:=by
 have:=DJ hu hl
 unfold mJ
 split
 ·decide
 ·simp only[bz,aV,Z2,Z8,Z5];omega
theorem Oz{α:Type}{l:List α}:(l.length:Int)=0↔l=[]:=by cases l<;>simp<;>omega
theorem Rl(fs:List ar)(hu:∀ f∈fs,gb f)(hl:fs.length≤4):Pure prog 65 [.sl false 2 (fs.map ar.cells)] (sv (mJ fs)):=by
 have jq:= @Oz ar fs
 refine k65.p fun σ=> ?_
 repeat'(first|exact .nil|refine .k0 ?_|refine .k1 ?_|refine .k2 ?_|refine .k7 ?_|refine .k9 ?_|(refine .cd ?_ ?_<;>(intro hc;skip))|refine .r1 ?_ ?_|(refine .m2 ?_ ?_;intro hlen)|refine .an rfl (by intro aq;first|exact aMv fs hu hl|exact lM _ rfl (ZW rfl) (by have:=DJ hu hl;simp only[fY,aV,Z2,Z8,Z5];omega)) ?_ ?_|fail)
 all_goals(try simp only[BL]at *)
 any_goals((simp only[Z8,Z5,Z9,Z7,Z4,bz,aV,bU,Z2];omega))
 all_goals(simp only[jq]at hc;refine Sx.Fin.intro Zs (bs ?_);simp[mJ,hc,dT,eS,eH];done)
theorem Ri(fs:List ar)(hu:∀ f∈fs,gb f)(hl:fs.length≤4):Pure prog 77 [.sl false 2 (fs.map ar.cells)] (sv (mJ fs)):=by
 have hs:=DJ hu hl
 have jq:= @Oz ar fs
 refine k77.p fun σ=> ?_
 repeat'(first|exact .nil|refine .k0 ?_|refine .k1 ?_|refine .k2 ?_|refine .k7 ?_|refine .k9 ?_|(refine .cd ?_ ?_<;>(intro hc;skip))|refine .r1 ?_ ?_|(refine .m2 ?_ ?_;intro hlen)|refine .an rfl (by intro aq;first|exact aMu fs hu hl|fail) ?_ ?_|fail)
 all_goals(try simp only[BL]at *)
 any_goals((simp only[Z8,Z5,Z9,Z7,Z4,bz,aV,bU,Z2];omega))
 all_goals(simp only[jq]at hc;refine Sx.Fin.intro Zs (bs ?_);simp[mJ,hc,dT,eS,eH];done)
def lU(t:Ty):ae:=
 if t.kind=1 then⟨#[98,111,111,108]⟩else if t.kind=4 then⟨#[116,101,120,116]⟩else if t.kind=5 then⟨#[107,101,121,32]⟩++t.of
 else if t.kind=2 then⟨#[105,110,116]⟩++mJ t.unit else⟨#[100,101,99]⟩++mJ t.unit
theorem Om(t:Ty)(hu:∀ f∈t.unit,gb f)(hl:t.unit.length≤4)(ho:t.of.size≤100):Pure prog 32 [.agg t.cells] (sv (lU t)):=by
 have hs:=xb hu hl
 refine k32.p fun σ=> ?_
 repeat'(first|exact .nil|refine .k0 ?_|refine .k1 ?_|refine .k2 ?_|refine .k6 ?_|refine .k7 ?_|refine .k9 ?_|(refine .cd ?_ ?_<;>(intro hc;skip))|refine .r1 ?_ ?_|(refine .m1 ?_ ?_;intro b)|refine .an rfl (by intro aq;first|exact Rl t.unit hu hl|exact lM _ rfl (ZW rfl) (by simp only[fY,aV,Z2,Z8,Z5];omega)) ?_ ?_|fail)
 all_goals(try simp only[BL]at *)
 any_goals((simp only[Z8,Z5,Z9,Z7,Z4,bz,aV,bU,Z2];omega))
 all_goals(refine Sx.Fin.intro Zs (bs ?_);simp[mJ,lU,dT,eS,eH, *];done)
theorem Ol(t:Ty)(hu:∀ f∈t.unit,gb f)(hl:t.unit.length≤4)(ho:t.of.size≤100):Pure prog 45 [.agg t.cells] (sv (lU t)):=by
 have hs:=xb hu hl
 refine k45.p fun σ=> ?_
 repeat'(first|exact .nil|refine .k0 ?_|refine .k1 ?_|refine .k2 ?_|refine .k6 ?_|refine .k7 ?_|refine .k9 ?_|(refine .cd ?_ ?_<;>(intro hc;skip))|refine .r1 ?_ ?_|(refine .m1 ?_ ?_;intro b)|refine .an rfl (by intro aq;first|exact Ri t.unit hu hl|fail) ?_ ?_|fail)
 all_goals(try simp only[BL]at *)
 any_goals((simp only[Z8,Z5,Z9,Z7,Z4,bz,aV,bU,Z2];omega))
 all_goals(refine Sx.Fin.intro Zs (bs ?_);simp[mJ,lU,dT,eS,eH, *];done)
theorem sQ{u:Nat}(h:u<10):Lib.decDigits u=[UInt8.ofNat (48+u)]:=by rw[Lib.decDigits,dif_pos h]
theorem xY{u:Nat}(h:¬u<10):Lib.decDigits u=Lib.decDigits (u / 10)++[UInt8.ofNat (48+u % 10)]:=by rw[Lib.decDigits,dif_neg h]
def kD(m:Nat)(l:List UInt8):List UInt8:=if m=0 then l else Lib.decDigits m++l
theorem Bo(m:Nat)(l:List UInt8):kD (m / 10) (UInt8.ofNat (48+m % 10)::l)=Lib.decDigits m++l:=by
 unfold kD
 by_cases h:m<10
 ·rw[Z3 (by omega),sQ h,XP h];rfl
 ·rw[Z6 (by omega),xY h,ZB];rfl
theorem pH{u:Nat}(h:u≤9223372036854775807):(Lib.decDigits u).length≤21:=by
 have:=Lib.itoa_length_le (u:Int) (by omega) (by omega)
 rwa [Lib.itoa_nonneg]at this
theorem ET(m:Nat)(l:List UInt8):l.length≤(kD m l).length:=by
 unfold kD;split
 ·exact ZR _
 ·rw[Z9];omega
theorem DD(m:Nat):(m:Int).tmod 10=((m % 10:Nat):Int):=rfl
theorem DB(m:Nat):(m:Int).tdiv 10=((m / 10:Nat):Int):=rfl
theorem dB(m:Nat):kB [IntKind.u8.wrap (IntKind.i64.wrap (48+(m:Int).tmod 10))]=⟨#[UInt8.ofNat (48+m % 10)]⟩:=by
 have h:m % 10<10:=Nat.mod_lt _ (by omega)
 have e:IntKind.u8.wrap (IntKind.i64.wrap (48+(m:Int).tmod 10))=((48+m % 10:Nat):Int):=by
  rw[DD,aM (by omega),Go.IntWalk.u8_in _ (by omega)];omega
 rw[e];rfl
theorem Bd(n:Int):(kB [n]).size=1:=rfl
theorem Bt(n:Nat)(h:n≤1152921504606846976):Pure prog 46 [iv n] (sv ⟨(Lib.decDigits n).toArray⟩):=by
 refine k46.p fun σ=> ?_
 repeat'(first|exact .nil|refine .k0 ?_|refine .k1 ?_|refine .k2 ?_|refine .k6 ?_|refine .r1 ?_ ?_|fail)
 all_goals(try simp only[BL]at *)
 refine aH (fun k rg af=>∃ (i m:Nat) (s:ae),k=m+(if i=0 then 1 else 0)∧i≤s.size∧m≤n∧(if i=0 then m=n∧s=⟨#[]⟩else kD m s.data.toList=Lib.decDigits n)∧af=σ∧rg=[(0,iv n),(3,sv s),(4,iv m),(5,iv i)]) (n+1) rfl ⟨_,_,Zr,Zs,0,n,⟨#[]⟩,rfl,Z1 _,ZR _,⟨rfl,rfl⟩,rfl,rfl⟩ ?_
 rintro k _ _ ⟨i,m,s,hk,hi,hm,hp,rfl,rfl⟩
 have bC:s.size≤21:=by
  split at hp
  ·rw[hp.2];decide
  ·have:=ET m s.data.toList
   have h2:=pH (u:=n) (by omega)
   rw[hp]at this
   exact ZJ this h2
 repeat'(first|exact .nil|refine .k0 ?_|refine .k1 ?_|refine .k2 ?_|refine .k4 ?_|refine .k6 ?_|refine .k7 ?_|refine .k8 ?_|refine .k9 ?_|(refine .cd ?_ ?_<;>(intro hc;skip))|refine .r1 ?_ ?_|refine .r4 ?_ ?_|fail)
 try any_goals(exact Zo)
 all_goals(try simp only[BL]at *)
 all_goals try(exfalso;first|omega|(rw[DD]at hc;omega))
 any_goals(rw[Bd];omega)
 any_goals((simp only[Z8,Z5,Z9,Z7,Z4,bz,aV,bU,Z2];omega))
 ·have h0:m % 10<10:=Nat.mod_lt _ (by omega)
  refine⟨m / 10+0,by split at hk<;>omega,_,_,Zr,Zs,i+1,m / 10,(⟨#[UInt8.ofNat (48+m % 10)]⟩:ae)++s,by rw[Z6 (by omega)],?_,by omega,?_,rfl,?_⟩
  ·rw[bz,aV];show _≤1+_;omega
  ·rw[Z6 (by omega),jz]
   show kD (m / 10) (UInt8.ofNat (48+m % 10)::_)=_
   rw[Bo]
   split at hp
   ·rw[hp.1,hp.2];simp
   ·rw[← hp,kD,Z6 (by omega)];rfl
  ·rw[dB,DB,aM (by omega),aM (by omega)];rfl
 ·refine Sx.Fin.intro Zs (bs (j9 ?_))
  rw[Z6 (by omega)]at hp
  obtain rfl:m=0:=by omega
  rw[← hp];rfl
def fZ:Nat→Nat→List UInt8
 |0,_=>[]
 |k+1,x=>fZ k (x / 10)++[UInt8.ofNat (48+x % 10)]
theorem OL:∀ (k x:Nat),fZ (k+1) x=UInt8.ofNat (48+x / 10 ^ k % 10)::fZ k x
 |0,x=>by simp[fZ]
 |k+1,x=>by
  rw[fZ,OL k (x / 10),fZ,XD,Nat.pow_succ,XQ 10];rfl
theorem tW:∀ (k x:Nat),(fZ k x).length=k
 |0,_=>rfl
 |k+1,x=>by rw[fZ,Z9,tW k];rfl
def vb(x:Nat):ae:=⟨(Lib.decDigits (x / 10 ^ 6)++46::fZ 6 x).toArray⟩
theorem KZ(n:Nat):1≤(Lib.decDigits n).length:=by
 by_cases h:n<10
 ·rw[sQ h];exact ZR _
 ·rw[xY h,Z9];exact Nat.le_add_left _ _
theorem K0:∀ (k n:Nat),10 ^ k≤n→Lib.decDigits n=Lib.decDigits (n / 10 ^ k)++fZ k n
 |0,n,_=>by simp[fZ]
 |k+1,n,h=>by
  have Fz:0<10 ^ k:=Nat.pow_pos (by omega)
  rw[Nat.pow_succ]at h
  rw[xY (by omega),K0 k (n / 10) (by omega),XD,fZ,Nat.pow_succ,XQ 10,ZB]
theorem KX:∀ (k n:Nat),n<10 ^ (k+1)→(Lib.decDigits n).length≤k+1
 |0,n,h=>by rw[sQ (by omega)];exact ZR _
 |k+1,n,h=>by
  by_cases h1:n<10
  ·rw[sQ h1];simp
  ·rw[Nat.pow_succ]at h
   have:=KX k (n / 10) (by omega)
   rw[xY h1,Z9];simp only[Z8,Z5];omega
theorem OM:∀ k:Nat,fZ k 0=List.replicate k 48
 |0=>rfl
 |k+1=>by rw[fZ,Nat.zero_div,OM k,List.replicate_succ'];rfl
theorem KY:∀ (k z n:Nat),z+(Lib.decDigits n).length=k→List.replicate z 48++Lib.decDigits n=fZ k n
 |0,z,n,h=>by have:=KZ n;omega
 |k+1,z,n,h=>by
  by_cases h1:n<10
  ·rw[sQ h1]at h ⊢
   simp only[Z8,Z5]at h
   obtain rfl:z=k:=by omega
   rw[fZ,Nat.div_eq_of_lt h1,OM,XP h1]
  ·rw[xY h1]at h ⊢
   rw[Z9]at h
   simp only[Z8,Z5]at h
   rw[← ZB,KY k z (n / 10) (by omega),fZ]
theorem aap{n z:Nat}{L:List UInt8}(hL:L=List.replicate z 48++Lib.decDigits n)(h7:7≤L.length)(hz:z=0∨L.length≤7):L=Lib.decDigits (n / 10 ^ 6)++fZ 6 n:=by
 by_cases h:n<10 ^ 6
 ·have h1:=KX 5 n h
  have hl:L.length=z+(Lib.decDigits n).length:=by rw[hL,Z9,Yx]
  obtain⟨y,rfl⟩:∃ y,z=y+1:=⟨z-1,by omega⟩
  rw[hL,List.replicate_succ,Ze,KY 6 y n (by omega),Nat.div_eq_of_lt h,sQ (by omega)];rfl
 ·have h1:=K0 6 n (by omega)
  have hl:L.length=z+(Lib.decDigits n).length:=by rw[hL,Z9,Yx]
  have h2:=KZ (n / 10 ^ 6)
  have h3:=Zy List.length h1
  rw[Z9,tW]at h3
  have:z=0:=by omega
  subst this
  rw[hL,← h1];rfl
def sR(n i m:Nat)(s:ae):Prop:=(i≤6∧m=n / 10 ^ i∧s.data.toList=fZ i n)∨(7≤i∧∃ hi,s.data.toList=hi++46::fZ 6 n∧kD m hi=Lib.decDigits (n / 10 ^ 6))
theorem aan{n i m:Nat}{s:ae}(hq:(Lib.decDigits (n / 10 ^ 6)).length≤21)(hp:sR n i m s):s.size≤30:=by
 rcases hp with⟨h1,h2,h3⟩|⟨h1,l,h3,h4⟩
 ·have:=Zy List.length h3
  rw[tW]at this
  have h5:s.data.toList.length=s.size:=rfl
  omega
 ·have:=Zy List.length h3
  rw[Z9,Z8,tW]at this
  have h5:s.data.toList.length=s.size:=rfl
  have h6:=ET m l
  rw[h4]at h6
  omega
theorem aak{n i m:Nat}{s:ae}(hp:sR n i m s)(hi:i=6):sR n (i+1) (m / 10) (⟨#[UInt8.ofNat (48+m % 10)]⟩++(⟨#[46]⟩++s)):=by
 subst hi
 rcases hp with⟨h1,h2,h3⟩|⟨h1,_⟩
 ·refine .inr ⟨ZR _,[UInt8.ofNat (48+m % 10)],?_,?_⟩
  ·rw[jz,jz,h3];rfl
  ·rw[Bo,h2,Zb]
 ·omega
theorem aam{n i m:Nat}{s:ae}(hp:sR n i m s)(hi:¬i=6)(hc:i<7∨m≠0):sR n (i+1) (m / 10) (⟨#[UInt8.ofNat (48+m % 10)]⟩++s):=by
 rcases hp with⟨h1,h2,h3⟩|⟨h1,l,h3,h4⟩
 ·refine .inl ⟨by omega,by rw[h2,XD,Nat.pow_succ],?_⟩
  rw[jz,h3,OL,h2];rfl
 ·refine .inr ⟨by omega,UInt8.ofNat (48+m % 10)::l,?_,?_⟩
  ·rw[jz,h3];rfl
  ·rw[Bo,← h4,kD,Z6 (by omega)]
theorem aal{n i m:Nat}{s:ae}(hp:sR n i m s)(hi:¬i<7)(hm:m=0):s=vb n:=by
 rcases hp with⟨h1,h2,h3⟩|⟨h1,l,h3,h4⟩
 ·omega
 ·subst hm
  apply j9
  rw[h3]
  have:l=Lib.decDigits (n / 10 ^ 6):=h4
  rw[this];rfl
theorem aah(n:Nat)(h:n≤1152921504606846976):Pure prog 215 [iv n] (sv (vb n)):=by
 have hq:(Lib.decDigits (n / 10 ^ 6)).length≤21:=pH (by omega)
 refine afg.p fun σ=> ?_
 repeat'(first|exact .nil|refine .k0 ?_|refine .k1 ?_|refine .k2 ?_|refine .k6 ?_|refine .r1 ?_ ?_|fail)
 all_goals(try simp only[BL]at *)
 refine aH (fun k rg af=>∃ (i m:Nat) (s:ae),k=m+(7-i)∧i≤s.size∧m≤n∧sR n i m s∧af=σ∧rg=[(0,iv n),(3,sv s),(4,iv m),(5,iv i)]) (n+7) rfl ⟨_,_,Zr,Zs,0,n,⟨#[]⟩,rfl,Z1 _,ZR _,.inl ⟨by omega,by simp,rfl⟩,rfl,rfl⟩ ?_
 rintro k _ _ ⟨i,m,s,hk,hi,hm,hp,rfl,rfl⟩
 have bC:=aan hq hp
 have aNr:¬(m:Int).tmod 10<0:=by rw[DD];omega
 repeat'(first|exact .nil|refine .k0 ?_|refine .k1 ?_|refine .k2 ?_|refine .k4 ?_|refine .k6 ?_|refine .k7 ?_|refine .k8 ?_|refine .k9 ?_|(refine .cd ?_ ?_<;>(intro hc;skip))|refine .r1 ?_ ?_|refine .r4 ?_ ?_|fail)
 try any_goals(exact Zo)
 all_goals(try simp only[BL]at *)
 all_goals try(exfalso;first|omega|fail)
 any_goals(rw[Bd];omega)
 any_goals(rw[Bd];((simp only[Z8,Z5,Z9,Z7,Z4,bz,aV,bU,Z2];omega)))
 any_goals((simp only[Z8,Z5,Z9,Z7,Z4,bz,aV,bU,Z2];omega))
 ·refine⟨m / 10+(7-(i+1)),by omega,_,_,Zr,Zs,i+1,m / 10,_,rfl,?_,by omega,aak hp (by omega),rfl,?_⟩
  ·rw[bz,bz,aV];show _≤1+_;omega
  ·rw[dB,DB,aM (by omega),aM (by omega)];rfl
 ·refine⟨m / 10+(7-(i+1)),by omega,_,_,Zr,Zs,i+1,m / 10,_,rfl,?_,by omega,aam hp (by omega) (by omega),rfl,?_⟩
  ·rw[bz,aV];show _≤1+_;omega
  ·rw[dB,DB,aM (by omega),aM (by omega)];rfl
 ·refine Sx.Fin.intro Zs (bs (aal hp (by omega) (by omega)))
theorem aao(n:Nat)(h:n≤1152921504606846976):Pure prog 231 [iv n] (sv (vb n)):=by
 have hq:(Lib.decDigits n).length≤21:=pH (by omega)
 refine afl.p fun σ=> ?_
 repeat'(first|exact .nil|refine .k0 ?_|refine .k1 ?_|refine .k2 ?_|refine .k3 ?_|refine .k6 ?_|refine .k9 ?_|(refine .cd ?_ ?_<;>(intro hc;skip))|refine .r1 ?_ ?_|refine .an rfl (by intro aq;exact tQ _ (by first|omega|(simp only[BL]at *;omega))) ?_ ?_|refine .t6 ?_ ?_ ?_|fail)
 try any_goals(exact Zo)
 all_goals(try simp only[BL]at *)
 all_goals try(exfalso;omega)
 refine aH (fun k rg af=>∃ (z:Nat) (s:ae),k=7-s.size∧s.data.toList=List.replicate z 48++Lib.decDigits n∧(z=0∨s.size≤7)∧af=σ∧rg=[(3,sv s),(4,sv ⟨#[]⟩)]) (7-(dH n).size) rfl ⟨_,_,Zr,Zs,0,dH n,rfl,by rw[dH,Lib.itoa_nonneg];rfl,.inl rfl,rfl,rfl⟩ ?_
 rintro k _ _ ⟨z,s,hk,hs,hz,rfl,rfl⟩
 have hl:s.size=z+(Lib.decDigits n).length:=by
  have:=Zy List.length hs
  rwa [Z9,Yx]at this
 repeat'(first|exact .nil|refine .k0 ?_|refine .k1 ?_|refine .k2 ?_|refine .k5 ?_|refine .k6 ?_|refine .k7 ?_|refine .k8 ?_|refine .k9 ?_|(refine .cd ?_ ?_<;>(intro hc;skip))|refine .r1 ?_ ?_|refine .t6 ?_ ?_ ?_|fail)
 all_goals(try simp only[BL]at *)
 all_goals have bC:s.size≤28:=by omega
 any_goals((simp only[Z8,Z5,Z9,Z7,Z4,bz,aV,bU,Z2];omega))
 ·refine⟨7-(s.size+1),by omega,_,_,Zr,Zs,z+1,(⟨#[48]⟩:ae)++s,by rw[bz,aV,Nat.add_comm];rfl,by rw[jz,hs,List.replicate_succ];rfl,.inr ?_,rfl,rfl⟩
  rw[bz,aV];show 1+_≤_;omega
 all_goals have hcut:IntKind.i64.wrap ((s.size:Int)-6)=((s.size-6:Nat):Int):=by rw[aM (by omega)];omega
 all_goals simp only[hcut,YJ]
 any_goals omega
 any_goals(simp only[bz,aV,ByteArray.size_extract,Z2,Z8,Z5];omega)
 refine Sx.Fin.intro Zs (bs (j9 ?_))
 have hp:=aap hs (by show 7≤s.size;omega) hz
 have tD:(Lib.decDigits (n / 10 ^ 6)).length=s.size-6:=by
  have:=Zy List.length hp
  rw[Z9,tW]at this
  have h5:s.data.toList.length=s.size:=rfl
  omega
 have e1:(ByteArray.extract s 0 (s.size-6)).data.toList=Lib.decDigits (n / 10 ^ 6):=by
  rw[ByteArray.data_extract,Array.toList_extract,List.extract_eq_take_drop,hp]
  simp[tD]
 have e2:(ByteArray.extract s (s.size-6) s.size).data.toList=fZ 6 n:=by
  rw[ByteArray.data_extract,Array.toList_extract,List.extract_eq_take_drop,hp,← tD,List.drop_left,ZU (by rw[tW];omega)]
 simp only[jz,e1,e2]
 simp[vb]
set_option maxHeartbeats 4000000
def uV(n:Int):ae:=if n=1 then⟨#[116,114,117,101]⟩else⟨#[102,97,108,115,101]⟩
def iA(n:Int):ae:=⟨(Lib.decDigits n.toNat).toArray⟩
def xf(v:fe):ae:=
 if v.kind=1 then uV v.n else if v.kind=2 then iA v.n else if v.kind=3 then vb v.n.toNat
 else if v.kind=4 then⟨#[34]⟩++(v.s++⟨#[34]⟩)else if v.kind=5 then⟨#[64]⟩++v.s else⟨#[110,117,108,108]⟩
theorem acg(n:Int):(⟨(Lib.formatBool (decide (n=1))).toArray⟩:ae)=uV n:=by
 unfold uV
 by_cases h:n=1
 ·rw[Z3 h,Zd h];decide
 ·rw[Z6 h,ZA h];decide
theorem zI{n:Int}(h:0≤n):dH n=iA n:=by
 obtain⟨m,rfl⟩:∃ m:Nat,n=m:=⟨n.toNat,by omega⟩
 unfold dH iA
 rw[Lib.itoa_nonneg];rfl
structure mg(v:fe):Prop where
 e:mK v=0
 n:0≤v.n
theorem mg.kinds{v:fe}(h:mg v):0≤v.kind∧v.kind≤5∧v.n≤1152921504606846976∧v.s.size≤64:=by
 have:=h.e
 have h0:=h.n
 unfold mK at this
 split at this
 ·omega
 ·rename_i hf
  have hf:=Y1.1 hf
  split at this
  ·omega
  ·rename_i hb
   have hs:v.kind≤3→v.s.size=0:=fun h=>by rw[hf.2.2.1 h];rfl
   refine⟨hf.1,hf.2.1,by omega,?_⟩
   have:=hf.2.1
   omega
theorem Jb{v:fe}(h:mg v):(xf v).size≤100:=by
 obtain⟨h1,h2,h3,h4⟩:=h.kinds
 have h0:=h.n
 have hd:(Lib.decDigits v.n.toNat).length≤21:=pH (by omega)
 have hq:(Lib.decDigits (v.n.toNat / 10 ^ 6)).length≤21:=pH (by omega)
 unfold xf
 repeat' split
 ·unfold uV;split<;>decide
 ·show(Lib.decDigits v.n.toNat).toArray.size≤100
  rw[Z2];omega
 ·show(Lib.decDigits (v.n.toNat / 10 ^ 6)++46::fZ 6 v.n.toNat).toArray.size≤100
  rw[Z2,Z9,Z8,tW];omega
 ·((simp only[Z8,Z5,Z9,Z7,Z4,bz,aV,bU,Z2];omega))
 ·((simp only[Z8,Z5,Z9,Z7,Z4,bz,aV,bU,Z2];omega))
 ·decide
theorem agU(v:fe):Pure prog 196 [.agg v.cells] (sv ⟨#[110,117,108,108]⟩):=by
 refine aeZ.p fun σ=> ?_
 repeat'(first|exact .nil|refine .k0 ?_|refine .k1 ?_|refine .k2 ?_|refine .k7 ?_|refine .r1 ?_ ?_|(refine .m1 ?_ ?_;intro b)|fail)
 all_goals(try simp only[BL]at *)
 ·exact Sx.Fin.intro Zs rfl
theorem WN(v:fe):Pure prog 197 [.agg v.cells] (sv (uV v.n)):=by
 refine ae0.p fun σ=> ?_
 repeat'(first|exact .nil|refine .k0 ?_|refine .k1 ?_|refine .k2 ?_|refine .k7 ?_|refine .r1 ?_ ?_|(refine .m1 ?_ ?_;intro b)|refine .an rfl (by intro aq;first|exact acj _|fail) ?_ ?_|fail)
 all_goals(try simp only[BL]at *)
 ·exact Sx.Fin.intro Zs (bs (acg v.n))
theorem adG(v:fe)(h:mg v):Pure prog 198 [.agg v.cells] (sv (iA v.n)):=by
 have hk:=h.kinds
 have h0:=h.n
 refine ae1.p fun σ=> ?_
 repeat'(first|exact .nil|refine .k0 ?_|refine .k1 ?_|refine .k2 ?_|refine .k7 ?_|refine .r1 ?_ ?_|(refine .m1 ?_ ?_;intro b)|refine .an rfl (by intro aq;first|exact tQ _ (by first|omega|fail)|fail) ?_ ?_|fail)
 all_goals(try simp only[BL]at *)
 ·exact Sx.Fin.intro Zs (bs (zI h0))
theorem aaq(v:fe)(h:mg v):Pure prog 199 [.agg v.cells] (sv (vb v.n.toNat)):=by
 have hk:=h.kinds
 have h0:=h.n
 have hd:=aao v.n.toNat (by omega)
 rw[show((v.n.toNat:Nat):Int)=v.n by omega]at hd
 refine ae2.p fun σ=> ?_
 repeat'(first|exact .nil|refine .k0 ?_|refine .k1 ?_|refine .k2 ?_|refine .k7 ?_|refine .r1 ?_ ?_|(refine .m1 ?_ ?_;intro b)|refine .an rfl (by intro aq;exact hd) ?_ ?_|fail)
 all_goals(try simp only[BL]at *)
 ·exact Sx.Fin.intro Zs rfl
theorem aMj(v:fe)(h:mg v):Pure prog 200 [.agg v.cells] (sv (⟨#[34]⟩++(v.s++⟨#[34]⟩))):=by
 have hk:=h.kinds
 refine ae3.p fun σ=> ?_
 repeat'(first|exact .nil|refine .k0 ?_|refine .k1 ?_|refine .k2 ?_|refine .k7 ?_|refine .r1 ?_ ?_|(refine .m1 ?_ ?_;intro b)|fail)
 all_goals(try simp only[BL]at *)
 any_goals((simp only[Z8,Z5,Z9,Z7,Z4,bz,aV,bU,Z2];omega))
 ·exact Sx.Fin.intro Zs (bs (eH _ _ _))
theorem afR(v:fe)(h:mg v):Pure prog 201 [.agg v.cells] (sv (⟨#[64]⟩++v.s)):=by
 have hk:=h.kinds
 refine ae4.p fun σ=> ?_
 repeat'(first|exact .nil|refine .k0 ?_|refine .k1 ?_|refine .k2 ?_|refine .k7 ?_|refine .r1 ?_ ?_|(refine .m1 ?_ ?_;intro b)|fail)
 all_goals(try simp only[BL]at *)
 any_goals((simp only[Z8,Z5,Z9,Z7,Z4,bz,aV,bU,Z2];omega))
 ·exact Sx.Fin.intro Zs rfl
theorem Wk.xe(vs:Array Value):Wk (.v (.agg vs)) (.agg (vs.toList.map .v)):=fun M x h=>by
 obtain rfl:=h.aC
 have:=R.agg (M:=M) (vs.toList.map .v) vs.toList (by simp) (fun i h1 h2=>by simp only[ZF];exact .v _)
 simpa using this
theorem acn(v:fe)(h:mg v):Pure prog 152 [.agg v.cells] (sv (xf v)):=by
 have hk:=h.kinds
 have he:=h.e
 obtain⟨k,n,s⟩:=v
 have cN:k=0∨k=1∨k=2∨k=3∨k=4∨k=5:=by
  have h1:=hk.1
  have h2:=hk.2.1
  simp only at h1 h2
  omega
 rcases cN with rfl|rfl|rfl|rfl|rfl|rfl
 all_goals refine aex.p fun σ=> ?_
 repeat'(first|exact .nil|refine .k0 ?_|refine .k1 ?_|refine .k2 ?_|refine .k7 ?_|refine .k9 ?_|(refine .cd ?_ ?_<;>(intro hc;skip))|refine .r1 ?_ ?_|(refine .l1 ?_;intro b)|(refine .m1 ?_ ?_;intro b)|refine .an rfl (by intro aq;first|exact Rv ⟨_,n,s⟩|exact(agU ⟨_,n,s⟩).wk (cD.cons (Wk.xe _) cD.nil)|exact(WN ⟨_,n,s⟩).wk (cD.cons (Wk.xe _) cD.nil)|exact(adG _ h).wk (cD.cons (Wk.xe _) cD.nil)|exact(aaq _ h).wk (cD.cons (Wk.xe _) cD.nil)|exact(aMj _ h).wk (cD.cons (Wk.xe _) cD.nil)|exact(afR _ h).wk (cD.cons (Wk.xe _) cD.nil)) ?_ ?_|(refine .l3 ?_;intro b)|refine .r6 ?_ ?_|refine .r7 ?_ ?_|fail)
 all_goals(try simp only[BL]at *)
 all_goals try(exfalso;exact hc he)
 all_goals exact Sx.Fin.intro Zs rfl
theorem acm(v:fe)(h:mg v):Pure prog 172 [.agg v.cells] (sv (xf v)):=by
 have hk:=h.kinds
 have h0:=h.n
 have he:=h.e
 have hd:=aah v.n.toNat (by omega)
 have jo:=Bt v.n.toNat (by omega)
 rw[show((v.n.toNat:Nat):Int)=v.n by omega]at hd jo
 refine aeM.p fun σ=> ?_
 repeat'(first|exact .nil|refine .k0 ?_|refine .k1 ?_|refine .k2 ?_|refine .k6 ?_|refine .k7 ?_|refine .k9 ?_|(refine .cd ?_ ?_<;>(intro hc;skip))|refine .r1 ?_ ?_|(refine .m1 ?_ ?_;intro b)|refine .an rfl (by intro aq;first|exact aMH v|exact hd|exact jo) ?_ ?_|fail)
 all_goals(try simp only[BL]at *)
 all_goals try(exfalso;first|omega|fail)
 any_goals((simp only[Z8,Z5,Z9,Z7,Z4,bz,aV,bU,Z2];omega))
 all_goals(refine Sx.Fin.intro Zs (bs ?_);simp[xf,uV,iA,eH, *];done)
set_option maxHeartbeats 4000000
def eP(x:Ex):Int:=
 if x.kind=8 then 0 else if x.kind=9 then 1
 else if x.kind=6 then(if x.op=⟨#[45]⟩then 8 else if x.op=⟨#[110,111,116]⟩then 4 else 9)
 else if x.kind=7 then(if x.op=⟨#[111,114]⟩then 2 else if x.op=⟨#[97,110,100]⟩then 3 else if x.op=⟨#[43]⟩∨x.op=⟨#[45]⟩then 6 else if x.op=⟨#[42]⟩∨x.op=⟨#[47]⟩then 7 else 5)
 else 9
theorem Ik(x:Ex):0≤eP x∧eP x≤9:=by
 unfold eP
 repeat' split
 all_goals omega
def ux(w:mh):ae:=
 if w.kind=2 then⟨#[115,108,105,100,105,110,103,32]⟩++iA w.size else if w.kind=3 then⟨#[116,117,109,98,108,105,110,103,32]⟩++iA w.size
 else if w.kind=4 then⟨#[115,101,115,115,105,111,110,32]⟩++iA w.size else⟨#[97,108,108]⟩
def tU(x:Ex):ae:=if x.val.kind=5 then⟨#[64]⟩++(x.name++(⟨#[32,34]⟩++(x.val.s++⟨#[34]⟩)))else xf x.val++mJ x.unit
def par(s:ae):ae:=⟨#[40]⟩++(s++⟨#[41]⟩)
def ji(x:Ex)(T:Nat→ae)(i:Nat)(r:Int):ae:=if eP (x.args.getD i default)<r then par (T i)else T i
def en(x:Ex)(T:Nat→ae):ae:=
 x.op++(⟨#[40]⟩++(x.table++((if x.op=aY then⟨#[]⟩else⟨#[44,32]⟩++T 0)++((if x.param=0 then⟨#[]⟩else⟨#[44,32]⟩++iA x.param)
  ++(⟨#[44,32]⟩++(ux x.win++((if x.args.getD 1 default=kV then⟨#[]⟩else⟨#[32,119,104,101,114,101,32]⟩++T 1)++⟨#[41]⟩)))))))
def wY(x:Ex)(T:Nat→ae):ae:=
 if x.op=⟨#[45]⟩then⟨#[45]⟩++ji x T 0 8 else if x.op=⟨#[110,111,116]⟩then⟨#[110,111,116,32]⟩++ji x T 0 4 else⟨#[110,117,108,108,40]⟩++(T 0++⟨#[41]⟩)
def CM(x:Ex):Int:=if eP x=5 then 6 else eP x
def uU(x:Ex)(T:Nat→ae):ae:=ji x T 0 (CM x)++(⟨#[32]⟩++(x.op++(⟨#[32]⟩++ji x T 1 (eP x+1))))
def zD(x:Ex)(T:Nat→ae):ae:=⟨#[105,102,32]⟩++(T 0++(⟨#[32,116,104,101,110,32]⟩++(T 1++(⟨#[32,101,108,115,101,32]⟩++T 2))))
def xZ(x:Ex)(T:Nat→ae):ae:=ji x T 0 1++(⟨#[32,100,101,102,97,117,108,116,32]⟩++ji x T 1 2)
def An(x:Ex)(T:Nat→ae):ae:=
 if x.kind=1 then tU x else if x.kind=4 then x.name++(⟨#[32,111,102,32,40]⟩++(T 0++⟨#[41]⟩))else if x.kind=5 then en x T
 else if x.kind=6 then wY x T else if x.kind=7 then uU x T else if x.kind=8 then zD x T else if x.kind=9 then xZ x T else x.name
mutual
def text:Ex→ae
 | .mk k o n t v u p w ks=>An (.mk k o n t v u p w ks) (fun i=>(Ao ks).getD i ⟨#[]⟩)
def Ao:List Ex→List ae
 |[]=>[]
 |x::l=>text x::Ao l
end
def tx(x:Ex)(i:Nat):ae:=(Ao x.args).getD i ⟨#[]⟩
theorem IW(x:Ex):text x=An x (tx x):=by cases x;rfl
theorem Q4:∀ (l:List Ex) (i:Nat),i<l.length→(Ao l).getD i ⟨#[]⟩=text (l.getD i default)
 |[],_,h=>absurd h (by simp)
 |x::l,0,_=>rfl
 |x::l,i+1,h=>by
  have:=Q4 l i (by simpa using h)
  simpa[Ao]using this
theorem Ap{x:Ex}{i:Nat}(h:i<x.args.length):tx x i=text (x.args.getD i default):=Q4 _ _ h
theorem Qu{l:List Ex}(h:0<l.length):(l.getD 0 default).size≤Ex.cB l:=Ex.Ag (bu h)
theorem ID{l:List Ex}(h:1<l.length):(l.getD 0 default).size+(l.getD 1 default).size≤Ex.cB l:=by
 match l,h with
 |a::b::l,_=>simp only[Ex.cB,List.getD_cons_zero,XL];omega
theorem aLu{l:List Ex}(h:2<l.length):(l.getD 0 default).size+(l.getD 1 default).size+(l.getD 2 default).size≤Ex.cB l:=by
 match l,h with
 |a::b::c::l,_=>simp only[Ex.cB,List.getD_cons_zero,XL];omega
structure qK(x:Ex)(ins:Bool):Prop where
 nb:gm x ins
 nn:(x.args.length:Int)=iY x
 sub:∀ y∈x.args,form (ins || decide (x.kind=5)) y=true
 cn:x.kind=5→x.op=aY→x.args.getD 0 default=kV
theorem qK.of{x:Ex}{ins:Bool}(h:form ins x=true):qK x ins:=by
 obtain⟨h1,h2,h3,h4⟩:=(lD ins x).1 h
 exact⟨h1,h2,h3,h4⟩
theorem aMy{u:List ar}(h:dk u=0):u.length≤4∧∀ f∈u,gb f:=by
 unfold dk at h
 split at h
 ·omega
 ·rename_i hl
  refine⟨by omega,?_⟩
  have:∀ (l:List ar) (p:Option ae),gq p l=0→∀ f∈l,gb f:=by
   intro l
   induction l with
   |nil=>intro p _ f hf;cases hf
   |cons g l ih=>
    intro p hp f hf
    rw[gq]at hp
    split at hp
    ·rename_i h0
     rcases ZQ.1 hf with rfl|hf
     ·unfold ie at h0
      split at h0
      ·omega
      ·rename_i hw
       have hw:=Y1.1 hw
       split at h0
       ·omega
       ·exact⟨hw.2.1,by omega,by omega,hw.1⟩
     ·exact ih _ hp f hf
    ·rename_i h0;exact absurd hp h0
  exact this u none h
theorem DH{t:Ty}(h:dO t=0):t.unit.length≤4∧(∀ f∈t.unit,gb f)∧t.of.size≤24:=by
 unfold dO at h
 split at h
 ·omega
 ·rename_i h3
  split at h
  ·omega
  ·rename_i h70
   have hu:dk t.unit=0:=Y1.1 fun h'=>h70 (.inl h')
   obtain⟨h1,h2⟩:=aMy hu
   refine⟨h1,h2,?_⟩
   by_cases hk:t.kind=5
   ·have:Name t.of:=Y1.1 fun h'=>h3 (.inr (.inr (.inr (.inl ⟨hk,h'⟩))))
    exact this.1.2.1
   ·have:t.of=⟨#[]⟩:=Y1.1 fun h'=>h3 (.inr (.inr (.inr (.inr ⟨hk,h'⟩))))
    rw[this];decide
theorem zG{n:Int}(h:n≤1152921504606846976):(iA n).size≤21:=by
 show(Lib.decDigits n.toNat).toArray.size≤21
 rw[Z2];exact pH (by omega)
theorem agc{x:Ex}(h:oT x):(tU x).size≤400:=by
 obtain⟨h1,h2,h3,h4⟩:=h
 have hv:mg x.val:=⟨h1,h2⟩
 have hk:=hv.kinds
 have hs:=Jb hv
 obtain⟨hl,hu,ho⟩:=DH h3
 have hu:(mJ x.unit).size≤210:=xb hu hl
 simp only at ho
 unfold tU
 split
 ·((simp only[Z8,Z5,Z9,Z7,Z4,bz,aV,bU,Z2];omega))
 ·simp only[bz];omega
theorem Jm{w:mh}(h:kj w):(ux w).size≤40:=by
 have:= @zG w.size (by unfold kj at h;omega)
 unfold ux
 repeat' split
 all_goals first|decide|((simp only[Z8,Z5,Z9,Z7,Z4,bz,aV,bU,Z2];omega))
theorem EA:∀ s∈oe,s.size≤8:=by decide
theorem EF:∀ s∈lg,s.size≤8:=by decide
theorem sH{x:Ex}{T:Nat→ae}{i:Nat}{r:Int}:(ji x T i r).size≤(T i).size+2:=by
 unfold ji par;split
 ·((simp only[Z8,Z5,Z9,Z7,Z4,bz,aV,bU,Z2];omega))
 ·omega
theorem IX(x:Ex):∀ ins,form ins x=true→(text x).size≤500 * x.size:=by
 induction x using Ex.ind with
 |h x ih=>
 intro ins hf
 have h:=qK.of hf
 have hT:∀ i,i<x.args.length→(tx x i).size≤500 * (x.args.getD i default).size:=fun i hi=>by
  rw[Ap hi];exact ih _ (bu hi) _ (h.sub _ (bu hi))
 have hs:=Ex.uj x
 have hb:=h.nb
 have hn:=h.nn
 have Ci:=hn
 rw[IW]
 unfold An
 unfold iY at hn
 by_cases h1:x.kind=1
 ·rw[Z3 h1]
  have:=agc (x:=x) (by unfold gm at hb;rwa [Z3 h1]at hb)
  omega
 rw[Z6 h1]
 by_cases h4:x.kind=4
 ·rw[Z3 h4]
  rw[Z3 (.inl h4)]at hn
  have hN:oV x:=by unfold gm at hb;rw[Z6 (by omega),Z6 (by omega),Z3 (.inr h4)]at hb;exact hb.2
  have h5:=hN.1.1.2.1
  have h6:=hT 0 (by omega)
  have h7:=Qu (l:=x.args) (by omega)
  ((simp only[Z8,Z5,Z9,Z7,Z4,bz,aV,bU,Z2];omega))
 rw[Z6 h4]
 by_cases h5:x.kind=5
 ·rw[Z3 h5]
  rw[Z6 (by omega),Z3 (.inl h5)]at hn
  have hA:qS x:=by unfold gm at hb;rw[Z6 (by omega),Z6 (by omega),Z6 (by omega),Z3 h5]at hb;exact hb.2
  obtain⟨⟨y,hy,ho⟩,ht,hw,hp, -⟩:=hA
  have e1:=EA y hy
  rw[← ho]at e1
  have e2:=ht.1.2.1
  have e3:=Jm hw
  have e4:(iA x.param).size≤21:=zG (by unfold lQ at hp;repeat' split at hp
                                       all_goals omega)
  have e6:=hT 0 (by omega)
  have e7:=hT 1 (by omega)
  have e8:=ID (l:=x.args) (by omega)
  have a1:(if x.op=aY then(⟨#[]⟩:ae)else⟨#[44,32]⟩++tx x 0).size≤2+(tx x 0).size:=by
   split
   ·rw[aV];exact Z1 _
   ·rw[bz,aV];exact ZR _
  have a2:(if x.param=0 then(⟨#[]⟩:ae)else⟨#[44,32]⟩++iA x.param).size≤23:=by
   split
   ·decide
   ·rw[bz,aV];show 2+_≤_;omega
  have a3:(if x.args.getD 1 default=kV then(⟨#[]⟩:ae)else⟨#[32,119,104,101,114,101,32]⟩++tx x 1).size≤7+(tx x 1).size:=by
   split
   ·rw[aV];exact Z1 _
   ·rw[bz,aV];exact ZR _
  unfold en
  ((simp only[Z8,Z5,Z9,Z7,Z4,bz,aV,bU,Z2];omega))
 rw[Z6 h5]
 by_cases h6:x.kind=6
 ·rw[Z3 h6]
  rw[Z3 (.inr h6)]at hn
  have e6:=hT 0 (by omega)
  have e7:=Qu (l:=x.args) (by omega)
  have e8:= @sH x (tx x) 0 8
  have e9:= @sH x (tx x) 0 4
  unfold wY
  repeat' split
  all_goals((simp only[Z8,Z5,Z9,Z7,Z4,bz,aV,bU,Z2];omega))
 rw[Z6 h6]
 by_cases h7:x.kind=7
 ·rw[Z3 h7]
  rw[Z6 (by omega),Z3 (.inr (.inl h7))]at hn
  have hB:∃ y∈lg,x.op=y:=by unfold gm at hb;rw[Z6 (by omega),Z6 (by omega),Z6 (by omega),Z6 (by omega),Z6 (by omega),Z3 h7]at hb;exact hb.2
  obtain⟨y,hy,ho⟩:=hB
  have e1:=EF y hy
  rw[← ho]at e1
  have e6:=hT 0 (by omega)
  have e7:=hT 1 (by omega)
  have e8:=ID (l:=x.args) (by omega)
  have e9:= @sH x (tx x) 0 (CM x)
  have e10:= @sH x (tx x) 1 (eP x+1)
  unfold uU
  ((simp only[Z8,Z5,Z9,Z7,Z4,bz,aV,bU,Z2];omega))
 rw[Z6 h7]
 by_cases h8:x.kind=8
 ·rw[Z3 h8]
  rw[Z6 (by omega),Z6 (by omega),Z3 h8]at hn
  have e6:=hT 0 (by omega)
  have e7:=hT 1 (by omega)
  have e5:=hT 2 (by omega)
  have e8:=aLu (l:=x.args) (by omega)
  unfold zD
  ((simp only[Z8,Z5,Z9,Z7,Z4,bz,aV,bU,Z2];omega))
 rw[Z6 h8]
 by_cases h9:x.kind=9
 ·rw[Z3 h9]
  rw[Z6 (by omega),Z3 (.inr (.inr h9))]at hn
  have e6:=hT 0 (by omega)
  have e7:=hT 1 (by omega)
  have e8:=ID (l:=x.args) (by omega)
  have e9:= @sH x (tx x) 0 1
  have e10:= @sH x (tx x) 1 2
  unfold xZ
  ((simp only[Z8,Z5,Z9,Z7,Z4,bz,aV,bU,Z2];omega))
 rw[Z6 h9]
 have hN:oV x:=by
  unfold gm at hb
  rw[Z6 h1]at hb
  split at hb
  ·exact hb.2
  ·split at hb
   ·exact hb.2
   ·rw[Z6 (by omega)]at hb;exact hb.elim
 have h5:=hN.1.1.2.1
 omega
end Go.Proofs.YtomhopcnkicknaaGreatDoor
