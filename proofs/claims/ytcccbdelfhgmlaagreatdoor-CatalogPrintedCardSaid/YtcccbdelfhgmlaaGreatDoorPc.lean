/- Lists of strings and of factors; units; types. -/
import Derived.Test.YtcccbdelfhgmlaaGreatDoorPt
import Derived.Test.YtcccbdelfhgmlaaGreatDoorCodeB
import Derived.Lib.ItoaLen
set_option linter.unusedSimpArgs false
set_option linter.unusedVariables false
set_option maxRecDepth 100000
namespace Go.Proofs.YtcccbdelfhgmlaaGreatDoor
open Go.Sx Go.Proofs
def firstIdx{α:Type}(p:α→Bool):List α→Nat→Int
 |[],_=> -1
 |x::l,k=>if p x then k else firstIdx p l (k+1)
theorem HV{α:Type}(p:α→Bool):∀ (l:List α) (k:Nat),0≤firstIdx p l k↔∃ x∈l,p x=true
 |[],k=>by simp[firstIdx]
 |x::l,k=>by
  unfold firstIdx
  cases h:p x with
  |true=>simp[h]
  |false=>simp[h,HV p l (k+1)]
theorem DF{α:Type}{p:α→Bool}:∀ {l:List α} {k:Nat},(∀ x∈l,p x=false)→firstIdx p l k= -1
 |[],k,_=>rfl
 |x::l,k,h=>by unfold firstIdx;rw[h x (by simp)];exact DF fun y hy=>h y (by simp[hy])
theorem DD{α:Type}[Inhabited α]{p:α→Bool}:∀ {l:List α} {k i:Nat},(∀ j,j<i→p (l.getD j default)=false)→i<l.length→p (l.getD i default)=true→firstIdx p l k=((k+i:Nat):Int)
 |[],k,i,_,h,_=>absurd h (by simp)
 |x::l,k,0,_,_,h=>by
  have h:p x=true:=h
  unfold firstIdx;rw[h];simp
 |x::l,k,i+1,ha,hi,h=>by
  have h0:p x=false:=ha 0 (by omega)
  unfold firstIdx
  rw[h0]
  simp only[ZM,Zf]
  rw[DD (k:=k+1) (i:=i) (fun j hj=>ha (j+1) (by omega)) (by simpa using hi) h]
  congr 1;omega
theorem FG{α:Type}[Inhabited α]{p:α→Prop}{l:List α}(h:∀ j,j<l.length→p (l.getD j default)):∀ x∈l,p x:=fun x hx=>by
 obtain⟨i,hi,rfl⟩:=Y5.1 hx
 have:=h i hi
 rwa [getD_eq hi]at this
theorem afu(l:List ae)(x:ae):Pure Tryz.prog 88 [.sl false 1 (l.map fL),sv x] (iv (firstIdx (fun y=>decide (x=y)) l 0)):=by
 refine k88.p fun σ=> ?_
 repeat'(first|exact .nil|refine .k0 ?_|refine .k1 ?_|refine .k2 ?_|refine .k6 ?_|refine .r1 ?_ ?_|(refine .m2 ?_ ?_;intro hlen)|fail)
 all_goals(try simp only[BL]at *)
 refine dU (fun n rg σ'=>∃ i:Nat,i≤l.length∧n=l.length-i∧(∀ j,j<i→¬x=l.getD j default)∧σ'=σ∧rg=[(0,.sl false 1 (l.map fL)),(1,sv x),(7,iv l.length),(8,iv i)]) l.length rfl ⟨_,_,Zr,Zs,0,ZH _,rfl,fun j hj=>absurd hj (by omega),rfl,rfl⟩ ?_
 rintro n _ _ ⟨i,hi,hn,hp,rfl,rfl⟩
 repeat'(first|exact .nil|refine .k0 ?_|refine .k1 ?_|refine .k2 ?_|refine .k6 ?_|refine .k7 ?_|refine .k8 ?_|refine .k9 ?_|(refine .cd ?_ ?_<;>(intro hc;skip))|refine .r1 ?_ ?_|refine .t1 ?_ ?_ ?_|fail)
 try any_goals(exact Zo)
 all_goals(try simp only[BL]at *)
 ·rw[DD (p:=fun y=>decide (x=y)) (l:=l) (k:=0) (i:=i) (fun j hj=>Zn (hp j hj)) (by omega) (Zi hc),Zc]
  exact Zw
 ·refine⟨l.length-(i+1),by omega,_,_,Zr,Zs,i+1,by omega,rfl,nS hp hc,rfl,by rw[iQ (by omega) hlen]⟩
 ·rw[DF (fun y hy=>Zn (FG (p:=fun y=>¬x=y) (fun j hj=>hp j (by omega)) y hy))]
  exact Zw
theorem G5(l:List ae)(x:ae):Pure Tryz.prog 55 [.sl false 1 (l.map fL),sv x] (.v (.bool (decide (∃ y∈l,x=y)))):=by
 refine k55.p fun σ=> ?_
 repeat'(first|exact .nil|refine .k0 ?_|refine .k1 ?_|refine .k2 ?_|refine .k7 ?_|refine .r1 ?_ ?_|refine .an rfl (by intro br;exact afu _ _) ?_ ?_|fail)
 all_goals(try simp only[BL]at *)
 ·(refine Sx.Fin.intro Zs (bd ?_);(try simp only[BL]at *);(try simp only[gU,gr,jD,and_assoc]at *))
  rw[HV]
  simp only[Zq]
theorem adU(f:ar):Pure Tryz.prog 86 [.agg f.cells] (.v (.bool (decide (¬Name f.name)))):=by
 refine k86.p fun σ=> ?_
 repeat'(first|exact .nil|refine .k0 ?_|refine .k1 ?_|refine .k2 ?_|refine .k7 ?_|refine .r1 ?_ ?_|(refine .m1 ?_ ?_;intro b)|refine .an rfl (by intro br;exact EK _) ?_ ?_|fail)
 all_goals(try simp only[BL]at *)
 ·refine Sx.Fin.intro Zs ?_
  rw[decide_not]
theorem aft(u:List ar):Pure Tryz.prog 124 [.sl false 2 (u.map ar.cells),.v (.func (.func 86) #[] #[])] (iv (firstIdx (fun f=>decide (¬Name f.name)) u 0)):=by
 refine afM.p fun σ=> ?_
 repeat'(first|exact .nil|refine .k0 ?_|refine .k1 ?_|refine .k2 ?_|refine .k6 ?_|refine .r1 ?_ ?_|(refine .m2 ?_ ?_;intro hlen)|fail)
 all_goals(try simp only[BL]at *)
 refine dU (fun n rg σ'=>∃ i:Nat,i≤u.length∧n=u.length-i∧(∀ j,j<i→Name (u.getD j default).name)∧σ'=σ∧rg=[(0,.sl false 2 (u.map ar.cells)),(1,.v (.func (.func 86) #[] #[])),(7,iv u.length),(8,iv i)]) u.length rfl ⟨_,_,Zr,Zs,0,ZH _,rfl,fun j hj=>absurd hj (by omega),rfl,rfl⟩ ?_
 rintro n _ _ ⟨i,hi,hn,hp,rfl,rfl⟩
 repeat'(first|exact .nil|refine .k0 ?_|refine .k1 ?_|refine .k2 ?_|refine .k6 ?_|refine .k7 ?_|refine .k8 ?_|refine .k9 ?_|(refine .cd ?_ ?_<;>(intro hc;skip))|refine .r1 ?_ ?_|refine .t1 ?_ ?_ ?_|refine .an rfl (by intro br;exact adU _) ?_ ?_|fail)
 try any_goals(exact Zo)
 all_goals(try simp only[BL]at *)
 ·rw[DD (p:=fun f:ar=>decide (¬Name f.name)) (l:=u) (k:=0) (i:=i) (fun j hj=>Zn (fun h=>h (hp j hj))) (by omega) (Zi hc),Zc]
  exact Zw
 ·refine⟨u.length-(i+1),by omega,_,_,Zr,Zs,i+1,by omega,rfl,nS hp (Y3.1 hc),rfl,by rw[iQ (by omega) hlen]⟩
 ·rw[DF (fun y hy=>Zn (fun h=>h (FG (p:=fun y:ar=>Name y.name) (fun j hj=>hp j (by omega)) y hy)))]
  exact Zw
theorem acr(u:List ar):Pure Tryz.prog 85 [.sl false 2 (u.map ar.cells),.v (.func (.func 86) #[] #[])] (.v (.bool (decide (∃ f∈u,¬Name f.name)))):=by
 refine k85.p fun σ=> ?_
 repeat'(first|exact .nil|refine .k0 ?_|refine .k1 ?_|refine .k2 ?_|refine .k7 ?_|refine .r1 ?_ ?_|refine .an rfl (by intro br;exact aft _) ?_ ?_|fail)
 all_goals(try simp only[BL]at *)
 ·(refine Sx.Fin.intro Zs (bd ?_);(try simp only[BL]at *);(try simp only[gU,gr,jD,and_assoc]at *))
  rw[HV]
  simp only[Zq]
theorem ac6{α:Type}[Inhabited α]{a b:List α}(hl:a.length=b.length)(h:∀ j,j<a.length→a.getD j default=b.getD j default):a=b:=by
 apply XP hl
 intro i h1 h2
 have:=h i h1
 rwa [getD_eq h1,getD_eq h2]at this
theorem adY{a b:ar}(h:a.name=b.name∧a.exp=b.exp):a=b:=by cases a;cases b;simp_all
theorem ac7(a b:List ar):Pure Tryz.prog 89 [.sl false 2 (a.map ar.cells),.sl false 2 (b.map ar.cells)] (.v (.bool (decide (a=b)))):=by
 refine k89.p fun σ=> ?_
 repeat'(first|exact .nil|refine .k0 ?_|refine .k1 ?_|refine .k2 ?_|refine .k6 ?_|refine .k7 ?_|refine .k9 ?_|(refine .cd ?_ ?_<;>(intro hc;skip))|refine .r1 ?_ ?_|(refine .m2 ?_ ?_;intro hlen)|fail)
 all_goals(try simp only[BL]at *)
 ·refine Sx.Fin.intro Zs (bf ?_)
  rintro rfl;exact hc rfl
 refine dU (fun n rg σ'=>∃ i:Nat,i≤a.length∧n=a.length-i∧(∀ j,j<i→a.getD j default=b.getD j default)∧σ'=σ∧rg=[(0,.sl false 2 (a.map ar.cells)),(1,.sl false 2 (b.map ar.cells)),(12,iv a.length),(13,iv i)]) a.length rfl ⟨_,_,Zr,Zs,0,ZH _,rfl,fun j hj=>absurd hj (by omega),rfl,rfl⟩ ?_
 rintro n _ _ ⟨i,hi,hn,hp,rfl,rfl⟩
 repeat'(first|exact .nil|refine .k0 ?_|refine .k1 ?_|refine .k2 ?_|refine .k5 ?_|refine .k6 ?_|refine .k7 ?_|refine .k8 ?_|refine .k9 ?_|(refine .cd ?_ ?_<;>(intro hc;skip))|refine .r1 ?_ ?_|refine .t1 ?_ ?_ ?_|fail)
 try any_goals(exact Zo)
 all_goals(try simp only[BL]at *)
 ·refine Sx.Fin.intro Zs (bf ?_)
  rintro rfl
  rcases hc with hc|hc<;>exact hc rfl
 ·refine⟨a.length-(i+1),by omega,_,_,Zr,Zs,i+1,by omega,rfl,nS hp (adY hc),rfl,by rw[iQ (by omega) hlen]⟩
 ·refine Sx.Fin.intro Zs (bt ?_)
  exact ac6 (by omega) (fun j hj=>hp j (by omega))
def Ew(a b:ae):Bool:=Op.bytesLess a.toList b.toList || decide (a=b)
def py(p:Option ae)(f:ar):Int:=if¬Word f.name then 1 else if f.exp=0∨f.exp>8∨f.exp< -8 then 70 else match p with
 |some p=>if Ew f.name p=true then 3 else 0
 |none=>0
def kx:Option ae→List ar→Int
 |_,[]=>0
 |p,f::l=>if py p f=0 then kx (some f.name) l else py p f
def kv(u:List ar):Int:=if u.length>4 then 2 else kx none u
def rJ(u:List ar)(i:Nat):Option ae:=if i=0 then none else some (u.getD (i-1) default).name
theorem axu{u:List ar}{i:Nat}(hi:i<u.length)(h:py (rJ u i) (u.getD i default)=0):kx (rJ u i) (u.drop i)=kx (rJ u (i+1)) (u.drop (i+1)):=by
 rw[OQ hi,kx,Z8 h];rfl
theorem Lj{u:List ar}{i:Nat}{e:Int}(hi:i<u.length)(h:py (rJ u i) (u.getD i default)=e)(he:e≠0):kx (rJ u i) (u.drop i)=e:=by
 rw[OQ hi,kx,Z9 (by rw[h];exact he),h]
theorem axt(u:List ar):Pure Tryz.prog 84 [.sl false 2 (u.map ar.cells)] (iv (kv u)):=by
 refine k84.p fun σ=> ?_
 repeat'(first|exact .nil|refine .k0 ?_|refine .k1 ?_|refine .k2 ?_|refine .k6 ?_|refine .k7 ?_|refine .k9 ?_|(refine .cd ?_ ?_<;>(intro hc;skip))|refine .r1 ?_ ?_|(refine .m2 ?_ ?_;intro hlen)|fail)
 all_goals(try simp only[BL]at *)
 ·rw[kv,Z8 (by omega)]
  exact Zw
 have hu:kv u=kx none u:=Z9 (by omega)
 refine dU (fun n rg σ'=>∃ i:Nat,i≤u.length∧n=u.length-i∧kv u=kx (rJ u i) (u.drop i)∧σ'=σ∧rg=[(0,.sl false 2 (u.map ar.cells)),(8,.sl false 2 (u.map ar.cells)),(9,iv u.length),(10,iv i)]) u.length rfl ⟨_,_,Zr,Zs,0,ZH _,rfl,hu,rfl,rfl⟩ ?_
 rintro n _ _ ⟨i,hi,hn,hp,rfl,rfl⟩
 repeat'(first|exact .nil|refine .k0 ?_|refine .k1 ?_|refine .k2 ?_|refine .k3 ?_|refine .k4 ?_|refine .k5 ?_|refine .k6 ?_|refine .k7 ?_|refine .k8 ?_|refine .k9 ?_|(refine .cd ?_ ?_<;>(intro hc;skip))|refine .r1 ?_ ?_|(refine .l1 ?_;intro b)|refine .t1 ?_ ?_ ?_|refine .an rfl (by intro br;first|exact VG _|exact S4 _ 8 (by decide)|fail) ?_ ?_|fail)
 try any_goals(exact Zo)
 all_goals(try simp only[BL]at *)
 ·rw[hp,Lj (e:=1) (by omega) (by unfold py;rw[Z8 hc]) (by decide)]
  exact Zw
 ·rename_i hw
  rw[hp,Lj (e:=70) (by omega) (by unfold py;rw[Z9 (fun h=>h hw),Z8 (by omega)]) (by decide)]
  exact Zw
 ·rename_i hw he
  rw[Ky (by omega) (by omega),YN]at hc
  rw[hp,Lj (e:=3) (by omega) (by
   unfold py;rw[Z9 (fun h=>h hw),Z9 (by omega),rJ,Z9 (by omega)]
   exact Z8 (by simp only[Ew,Y7,Zq];exact hc.2)) (by decide)]
  exact Zw
 ·rename_i hw he
  refine⟨u.length-(i+1),by omega,_,_,Zr,Zs,i+1,by omega,rfl,?_,rfl,by rw[iQ (n:=u.length) (by omega) (by assumption)]⟩
  rw[hp]
  refine axu (by omega) ?_
  unfold py;rw[Z9 (fun h=>h hw),Z9 (by omega)]
  by_cases h0:i=0
  ·rw[rJ,Z8 h0]
  ·rw[Ky (by omega) (by omega),YN]at hc
   rw[rJ,Z9 h0]
   refine Z9 ?_
   rcases hc with hc|hc
   ·omega
   ·simp only[Ew,Y7,Zq]
    rintro(h|h)
    ·rw[h]at hc;exact Bool.noConfusion hc.1
    ·exact hc.2 h
 all_goals(try(intro h0;rw[Ky (by omega) (by omega)];omega))
 ·rw[hp,List.drop_eq_nil_of_le (by omega),kx]
  exact Zw
theorem bi{n m:Int}(h:n=m):AV.v (.int .i64 n)=iv m:=by rw[h]
def Num(t:Ty):Prop:=t.kind=2∨t.kind=3
instance (t:Ty):Decidable (Num t):=inferInstanceAs (Decidable (_∨_))
theorem afD(t:Ty):Pure Tryz.prog 83 [.agg t.cells] (.v (.bool (decide (Num t)))):=by
 refine k83.p fun σ=> ?_
 repeat'(first|exact .nil|refine .k0 ?_|refine .k1 ?_|refine .k2 ?_|refine .k4 ?_|refine .k7 ?_|refine .r1 ?_ ?_|(refine .m1 ?_ ?_;intro b)|fail)
 try any_goals(exact Zo)
 all_goals(try simp only[BL]at *)
 ·(((refine Sx.Fin.intro Zs (bd ?_);(try simp only[BL]at *);(try simp only[gU,gr,jD,and_assoc]at *)));try omega)
  unfold Num;omega
def lq(t:Ty):Int:=
 if t.kind<1∨t.kind>5∨(t.unit≠[]∧¬Num t)∨(t.kind=5∧¬Name t.of)∨(t.kind≠5∧t.of≠⟨#[]⟩)then 3
 else if kv t.unit≠0∨∃ f∈t.unit,¬Name f.name then 70 else 0
theorem agA{s:ae}(h:Name s):s≠⟨#[]⟩:=fun e=>by have:=h.1.1;rw[Fu.2 e]at this;omega
theorem U8{t:Ty}(h:t.kind<1∨t.kind>5∨(t.unit≠[]∧¬Num t)∨(t.kind=5∧¬Name t.of)∨(t.kind≠5∧t.of≠⟨#[]⟩)):lq t=3:=Z8 h
theorem axn{t:Ty}(h:¬(t.kind<1∨t.kind>5∨(t.unit≠[]∧¬Num t)∨(t.kind=5∧¬Name t.of)∨(t.kind≠5∧t.of≠⟨#[]⟩)))(h':kv t.unit≠0∨∃ f∈t.unit,¬Name f.name):lq t=70:=(Z9 h).trans (Z8 h')
theorem axm{t:Ty}(h:¬(t.kind<1∨t.kind>5∨(t.unit≠[]∧¬Num t)∨(t.kind=5∧¬Name t.of)∨(t.kind≠5∧t.of≠⟨#[]⟩)))(h':¬(kv t.unit≠0∨∃ f∈t.unit,¬Name f.name)):lq t=0:=(Z9 h).trans (Z9 h')
theorem af7{α:Type}{l:List α}:0<(l.length:Int)↔l≠[]:=by cases l<;>simp<;>omega
theorem axo(t:Ty):Pure Tryz.prog 53 [.agg t.cells] (iv (lq t)):=by
 have hl:= @af7 ar t.unit
 have hn:= @agA t.of
 refine k53.p fun σ=> ?_
 repeat'(first|exact .nil|refine .k0 ?_|refine .k1 ?_|refine .k2 ?_|refine .k4 ?_|refine .k7 ?_|refine .k9 ?_|(refine .cd ?_ ?_<;>(intro hc;skip))|refine .r1 ?_ ?_|(refine .m1 ?_ ?_;intro b)|(refine .m2 ?_ ?_;intro hlen)|refine .an rfl (by intro br;first|exact EK _|exact axt _|exact acr _|exact afD _|fail) ?_ ?_|fail)
 try any_goals(exact Zo)
 all_goals(try simp only[BL]at *)
 ·rw[U8 (by grind)]
  exact Zw
 ·cases(decide (t.kind=5) == !decide (t.of=⟨#[]⟩))<;>simp
 ·rw[U8 (by grind)]
  exact Zw
 ·rename_i h1 h2
  rw[axn (by grind) hc]
  exact Zw
 ·rename_i h1 h2
  rw[axm (by grind) (by grind)]
  exact Zw
def pr(low:Nat)(c:UInt8):Prop:=low≤c.toNat∧c.toNat≤126∧c.toNat≠34∧c.toNat≠92
instance (low:Nat)(c:UInt8):Decidable (pr low c):=inferInstanceAs (Decidable (_∧_∧_∧_))
def nO(s:ae)(low:Nat):Prop:=∀ i,i<s.size→pr low (bZ s i)
instance (s:ae)(low:Nat):Decidable (nO s low):=inferInstanceAs (Decidable (∀ i,i<s.size→_))
def sS(v:eP):Prop:=0≤v.kind∧v.kind≤5∧(v.kind≤3→v.s=⟨#[]⟩)∧(v.kind=0→v.n=0)∧(v.kind=1→v.n=0∨v.n=1)∧(4≤v.kind→v.n=0)
instance (v:eP):Decidable (sS v):=inferInstanceAs (Decidable (_∧_∧_∧_∧_∧_))
def oQ(v:eP):Int:=
 if¬sS v then 1
 else if v.n< -1152921504606846976∨v.n>1152921504606846976∨(v.kind=4∧v.s.size>64)∨(v.kind=5∧v.s.size>32)then 2
 else if(v.kind=4∧¬nO v.s 32)∨(v.kind=5∧(v.s=⟨#[]⟩∨¬nO v.s 33))then 3 else 0
theorem Vl(v:eP):Pure Tryz.prog 52 [.agg v.cells] (iv (oQ v)):=by
 refine k52.p fun σ=> ?_
 repeat'(first|exact .nil|refine .k0 ?_|refine .k1 ?_|refine .k2 ?_|refine .k4 ?_|refine .k6 ?_|refine .k7 ?_|refine .k9 ?_|(refine .cd ?_ ?_<;>(intro hc;first|exact kf hc (by assumption)|skip))|refine .r1 ?_ ?_|(refine .m1 ?_ ?_;intro b)|fail)
 try any_goals(exact Zo)
 all_goals(try simp only[BL]at *)
 any_goals(refine Sx.Fin.intro Zs (bi ?_);unfold oQ sS;grind)
 ·refine dU (fun n rg σ'=>∃ i:Nat,i≤v.s.size∧n=v.s.size-i∧(∀ j,j<i→pr 33 (bZ v.s j))∧σ'=(1,b,cG.cells v.cells)::σ∧rg=[(1,.lp 1 b 0),(6,.v (.int .u8 33)),(88,iv v.s.size),(89,iv i)]) v.s.size rfl ⟨_,_,Zr,Zs,0,ZH _,rfl,fun j hj=>absurd hj (by omega),rfl,rfl⟩ ?_
  rintro n _ _ ⟨i,hi,hn,hp,rfl,rfl⟩
  repeat'(first|exact .nil|refine .k0 ?_|refine .k1 ?_|refine .k2 ?_|refine .k4 ?_|refine .k6 ?_|refine .k7 ?_|refine .k8 ?_|refine .k9 ?_|(refine .cd ?_ ?_<;>(intro hc;skip))|refine .r1 ?_ ?_|refine .t5 ?_ ?_ ?_|fail)
  try any_goals(exact Zo)
  all_goals(try simp only[BL]at *)
  ·refine Sx.Fin.intro Zs (bi ?_)
   have:¬nO v.s 33:=fun h=>by have:=h i (by omega);unfold pr at this;omega
   unfold oQ sS;grind
  ·refine⟨v.s.size-(i+1),by omega,_,_,Zr,Zs,i+1,by omega,rfl,nS hp ?_,rfl,by rw[bG (by omega)];rfl⟩
   unfold pr;omega
  ·refine Sx.Fin.intro Zs (bi ?_)
   have:nO v.s 33:=fun j hj=>hp j (by omega)
   unfold oQ sS;grind
 ·refine dU (fun n rg σ'=>∃ i:Nat,i≤v.s.size∧n=v.s.size-i∧(∀ j,j<i→pr 32 (bZ v.s j))∧σ'=(1,b,cG.cells v.cells)::σ∧rg=[(1,.lp 1 b 0),(6,.v (.int .u8 32)),(88,iv v.s.size),(89,iv i)]) v.s.size rfl ⟨_,_,Zr,Zs,0,ZH _,rfl,fun j hj=>absurd hj (by omega),rfl,rfl⟩ ?_
  rintro n _ _ ⟨i,hi,hn,hp,rfl,rfl⟩
  repeat'(first|exact .nil|refine .k0 ?_|refine .k1 ?_|refine .k2 ?_|refine .k4 ?_|refine .k6 ?_|refine .k7 ?_|refine .k8 ?_|refine .k9 ?_|(refine .cd ?_ ?_<;>(intro hc;skip))|refine .r1 ?_ ?_|refine .t5 ?_ ?_ ?_|fail)
  try any_goals(exact Zo)
  all_goals(try simp only[BL]at *)
  ·refine Sx.Fin.intro Zs (bi ?_)
   have:¬nO v.s 32:=fun h=>by have:=h i (by omega);unfold pr at this;omega
   unfold oQ sS;grind
  ·refine⟨v.s.size-(i+1),by omega,_,_,Zr,Zs,i+1,by omega,rfl,nS hp ?_,rfl,by rw[bG (by omega)];rfl⟩
   unfold pr;omega
  ·refine Sx.Fin.intro Zs (bi ?_)
   have:nO v.s 32:=fun j hj=>hp j (by omega)
   unfold oQ sS;grind
def Ex.lay(x:Ex):List AV:=[iv x.kind,sv x.op,sv x.name,sv x.table,iv x.val.kind,iv x.val.n,sv x.val.s,.sl false 2 (x.unit.map ar.cells),iv x.param,iv x.win.kind,iv x.win.size,.sl false 12 (x.args.map Ex.row)]
theorem Ex.Nq(x:Ex):x.args.length<x.size:=by
 have:∀ l:List Ex,l.length≤Ex.cR l:=fun l=>by
  induction l with
  |nil=>simp
  |cons y l ih=>have:=Ex.size_pos y;simp only[Z6,Ex.cR];omega
 have:=this x.args
 rw[Ex.wh];omega
theorem Ex.awI{x:Ex}{i:Nat}(h:i<x.args.length)(hs:x.size≤100000):IntKind.i64.wrap (((1+Ex.cR (x.args.take i):Nat):Int)+(x.args.getD i default).size)=((1+Ex.cR (x.args.take (i+1)):Nat):Int):=by
 have h1:=Ex.Ul h
 have h2:=Ex.Um x.args (i+1)
 have h3:=Ex.wh x
 rw[bG (by omega),h1];omega
theorem Ex.awG{x:Ex}{i:Nat}(h:i<x.args.length):(if false=true then(if((x.args.getD i default).depth:Int)<(Ex.jG (x.args.take i):Int)then((x.args.getD i default).depth:Int)else Ex.jG (x.args.take i))else(if((x.args.getD i default).depth:Int)>(Ex.jG (x.args.take i):Int)then((x.args.getD i default).depth:Int)else Ex.jG (x.args.take i)))=((Ex.jG (x.args.take (i+1)):Nat):Int):=by
 rw[Z9 Bool.false_ne_true,Ex.acR h]
 split<;>omega
theorem Ex.ac4{x:Ex}{i:Nat}(h:x.args.length≤i)(hs:x.size≤100000):IntKind.i64.wrap ((Ex.jG (x.args.take i):Int)+1)=(x.depth:Int):=by
 have:=Ex.OI x
 have h2:=Ex.acS x
 rw[ZD h,bG (by omega)];omega
theorem awp(x:Ex):x.size≤100000→Pure Tryz.prog 25 [.agg x.row] (iv x.size):=by
 induction x using Ex.ind with
 |h x ih=>
 intro hs
 have ml:∀ y∈x.args,Pure Tryz.prog 25 [.agg y.row] (iv y.size):=fun y hy=>ih y hy (by have:=Ex.Cr hy;omega)
 have hl:=Ex.Nq x
 rw[Ex.eT]
 refine k25.p fun σ=> ?_
 repeat'(first|exact .nil|refine .k0 ?_|refine .k1 ?_|refine .k2 ?_|refine .k6 ?_|refine .r1 ?_ ?_|(refine .m1 ?_ ?_;intro b)|(refine .m2 ?_ ?_;intro hlen)|fail)
 all_goals(try simp only[BL]at *)
 refine dU (fun n rg σ'=>∃ i:Nat,i≤x.args.length∧n=x.args.length-i∧σ'=(1,b,cG.cells x.lay)::σ∧rg=[(2,iv (1+Ex.cR (x.args.take i):Nat)),(6,.sl false 12 (x.args.map Ex.row)),(7,iv x.args.length),(8,iv i)]) x.args.length rfl ⟨_,_,Zr,Zs,0,ZH _,rfl,rfl,rfl⟩ ?_
 rintro n _ _ ⟨i,hi,hn,rfl,rfl⟩
 repeat'(first|exact .nil|refine .k0 ?_|refine .k1 ?_|refine .k2 ?_|refine .k6 ?_|refine .k7 ?_|refine .k8 ?_|refine .k9 ?_|(refine .cd ?_ ?_<;>(intro hc;skip))|refine .r1 ?_ ?_|(refine .l1 ?_;intro b)|refine .t1 ?_ ?_ ?_|refine .an rfl (by intro br;exact ml (x.args.getD i default) (gb (by(simp only[BL]at *;omega)))) ?_ ?_|fail)
 try any_goals(exact Zo)
 all_goals(try simp only[BL]at *)
 ·refine⟨x.args.length-(i+1),by omega,_,_,Zr,Zs,i+1,by omega,rfl,rfl,?_⟩
  rw[Ex.awI (by omega) hs,bG (by omega)];rfl
 ·rw[ZD (i:=i) (l:=x.args) (by omega),Ex.wh]
  exact Zw
theorem acT(x:Ex):x.size≤100000→Pure Tryz.prog 26 [.agg x.row] (iv x.depth):=by
 induction x using Ex.ind with
 |h x ih=>
 intro hs
 have ml:∀ y∈x.args,Pure Tryz.prog 26 [.agg y.row] (iv y.depth):=fun y hy=>ih y hy (by have:=Ex.Cr hy;omega)
 have hl:=Ex.Nq x
 rw[Ex.eT]
 refine k26.p fun σ=> ?_
 repeat'(first|exact .nil|refine .k0 ?_|refine .k1 ?_|refine .k2 ?_|refine .k6 ?_|refine .r1 ?_ ?_|(refine .m1 ?_ ?_;intro b)|(refine .m2 ?_ ?_;intro hlen)|fail)
 all_goals(try simp only[BL]at *)
 refine dU (fun n rg σ'=>∃ i:Nat,i≤x.args.length∧n=x.args.length-i∧σ'=(1,b,cG.cells x.lay)::σ∧rg=[(2,iv (Ex.jG (x.args.take i):Nat)),(6,.sl false 12 (x.args.map Ex.row)),(7,iv x.args.length),(8,iv i)]) x.args.length rfl ⟨_,_,Zr,Zs,0,ZH _,rfl,rfl,rfl⟩ ?_
 rintro n _ _ ⟨i,hi,hn,rfl,rfl⟩
 repeat'(first|exact .nil|refine .k0 ?_|refine .k1 ?_|refine .k2 ?_|refine .k6 ?_|refine .k7 ?_|refine .k8 ?_|refine .k9 ?_|(refine .cd ?_ ?_<;>(intro hc;skip))|refine .r1 ?_ ?_|(refine .l1 ?_;intro b)|refine .t1 ?_ ?_ ?_|refine .an rfl (by intro br;exact ml (x.args.getD i default) (gb (by(simp only[BL]at *;omega)))) ?_ ?_|fail)
 try any_goals(exact Zo)
 all_goals(try simp only[BL]at *)
 ·refine⟨x.args.length-(i+1),by omega,_,_,Zr,Zs,i+1,by omega,rfl,rfl,?_⟩
  rw[Ex.awG (by omega),bG (by omega)];rfl
 ·refine Sx.Fin.intro Zs (bi ?_)
  exact Ex.ac4 (by omega) hs
def Ex.lens(x:Ex):Nat:=x.op.size+x.name.size+x.table.size+x.val.s.size
mutual
def Ex.wt:Ex→Nat
 | .mk _ o n t v _ _ _ ks=>max (o.size+n.size+t.size+v.s.size) (Ex.uy ks)
def Ex.uy:List Ex→Nat
 |[]=>0
 |x::l=>max x.wt (Ex.uy l)
end
def Ex.pd(x:Ex)(n:Int):Prop:=n<1∨x.lens>300∨x.unit.length>10∨x.args.length>10∨∃ f∈x.unit,f.name.size>100
instance (x:Ex)(n:Int):Decidable (x.pd n):=inferInstanceAs (Decidable (_∨_∨_∨_∨_))
mutual
def Pr:Ex→Int→Int
 | .mk k o nm t v u p w ks,n=>if Ex.pd (.mk k o nm t v u p w ks) n then -1 else Ps ks (n-1)
def Ps:List Ex→Int→Int
 |[],n=>n
 |x::l,n=>if n<0 then n else Ps l (Pr x n)
end
def Gj(t:Ty):Prop:=t.of.size≤300∧t.unit.length≤10∧∀ f∈t.unit,f.name.size≤100
instance (t:Ty):Decidable (Gj t):=inferInstanceAs (Decidable (_∧_∧_))
end Go.Proofs.YtcccbdelfhgmlaaGreatDoor
namespace Go.Sx
open Go.Proofs.YtcccbdelfhgmlaaGreatDoor
theorem Wk.row{l:List Ex}{nn:Bool}:Wk (.sl nn 12 (l.map Ex.row)) (.sl nn 12 (l.map Ex.cells)):=by rw[Ex.j1];exact Wk.refl _
end Go.Sx
namespace Go.Proofs.YtcccbdelfhgmlaaGreatDoor
open Go.Sx Go.Proofs
def Ex.Flat(a b:Ex):Prop:=a.kind=b.kind∧a.op=b.op∧a.name=b.name∧a.table=b.table∧a.val=b.val∧a.unit=b.unit∧a.param=b.param∧a.win=b.win
instance (a b:Ex):Decidable (a.Flat b):=inferInstanceAs (Decidable (_∧_∧_∧_∧_∧_∧_∧_))
theorem Vk{a b:eP}:a=b↔a.kind=b.kind∧a.n=b.n∧a.s=b.s:=by cases a;cases b;simp
theorem ax7{a b:gu}:a=b↔a.kind=b.kind∧a.size=b.size:=by cases a;cases b;simp
theorem xl(a b:Ex):Pure Tryz.prog 56 [.agg a.row,.agg b.row] (.v (.bool (decide (a.Flat b)))):=by
 rw[Ex.eT a,Ex.eT b]
 refine k56.p fun σ=> ?_
 repeat'(first|exact .nil|refine .k0 ?_|refine .k1 ?_|refine .k2 ?_|refine .k4 ?_|refine .k7 ?_|refine .r1 ?_ ?_|(refine .m1 ?_ ?_;intro b)|refine .an rfl (by intro br;exact ac7 _ _) ?_ ?_|fail)
 all_goals(try simp only[BL]at *)
 ·refine Sx.Fin.intro Zs (bd ?_)
  unfold Ex.Flat;rw[Vk,ax7];grind
def ff:Ex:=⟨1,⟨#[]⟩,⟨#[]⟩,⟨#[]⟩,⟨1,1,⟨#[]⟩⟩,[],0,⟨0,0⟩,[]⟩
def mH(w:gu):Prop:=(w.kind=1∧w.size=0)∨(1<w.kind∧w.kind≤4∧1≤w.size∧w.size≤1099511627776)
instance (w:gu):Decidable (mH w):=inferInstanceAs (Decidable (_∨_∧_∧_∧_))
def BV(x:Ex):Ex:=⟨1,⟨#[]⟩,x.name,⟨#[]⟩,x.val,x.unit,0,⟨0,0⟩,[]⟩
def ny(x:Ex):Prop:=oQ x.val=0∧0≤x.val.n∧lq ⟨x.val.kind,x.unit,x.name⟩=0∧x.Flat (BV x)
instance (x:Ex):Decidable (ny x):=inferInstanceAs (Decidable (_∧_∧_∧_))
def Au(x:Ex):Ex:=⟨5,x.op,⟨#[]⟩,x.table,⟨0,0,⟨#[]⟩⟩,[],x.param,x.win,[]⟩
def qh(x:Ex):Prop:=if x.op=⟨#[113,117,97,110,116,105,108,101]⟩then 1≤x.param∧x.param≤1000 else if x.op=⟨#[100,101,99,97,121]⟩then 1≤x.param∧x.param≤1073741824 else x.param=0
instance (x:Ex):Decidable (qh x):=by unfold qh;infer_instance
def sF(x:Ex):Prop:=(∃ y∈lI,x.op=y)∧Name x.table∧mH x.win∧qh x∧x.Flat (Au x)
instance (x:Ex):Decidable (sF x):=inferInstanceAs (Decidable (_∧_∧_∧_∧_))
def EJ(x:Ex):Ex:=⟨x.kind,⟨#[]⟩,x.name,⟨#[]⟩,⟨0,0,⟨#[]⟩⟩,[],0,⟨0,0⟩,[]⟩
def mz(x:Ex):Ex:=⟨x.kind,x.op,⟨#[]⟩,⟨#[]⟩,⟨0,0,⟨#[]⟩⟩,[],0,⟨0,0⟩,[]⟩
def oI(x:Ex):Prop:=Name x.name∧x.Flat (EJ x)
instance (x:Ex):Decidable (oI x):=inferInstanceAs (Decidable (_∧_))
def nB(x:Ex):Int:=if x.kind=4∨x.kind=6 then 1 else if x.kind=5∨x.kind=7∨x.kind=9 then 2 else if x.kind=8 then 3 else 0
def ie(x:Ex)(ins:Bool):Prop:=
 if x.kind=1 then ny x else if x.kind=2 then ins=true∧oI x else if x.kind=3∨x.kind=4 then ins=false∧oI x
 else if x.kind=5 then ins=false∧sF x else if x.kind=6 then x.Flat (mz x)∧∃ y∈CH,x.op=y
 else if x.kind=7 then x.Flat (mz x)∧∃ y∈nR,x.op=y else if x.kind=8∨x.kind=9 then x.Flat (mz x)∧x.op=⟨#[]⟩else False
instance (x:Ex)(ins:Bool):Decidable (ie x ins):=by unfold ie;infer_instance
mutual
def Ex.Hm:Ex→Ex→Bool
 | .mk k o n t v u p w ks,.mk k' o' n' t' v' u' p' w' ks'=>decide (k=k'∧o=o'∧n=n'∧t=t'∧v=v'∧u=u'∧p=p'∧w=w') && Ex.uU ks ks'
def Ex.uU:List Ex→List Ex→Bool
 |[],[]=>true
 |x::l,y::m=>x.Hm y && Ex.uU l m
 |[],_::_=>false
 |_::_,[]=>false
end
mutual
theorem Ex.OS:∀ a b:Ex,a.Hm b=true↔a=b
 | .mk k o n t v u p w ks,.mk k' o' n' t' v' u' p' w' ks'=>by
  rw[Ex.Hm,Z0,Zq,Ex.OT ks ks',Ex.mk.injEq]
  simp only[and_assoc]
theorem Ex.OT:∀ a b:List Ex,Ex.uU a b=true↔a=b
 |[],[]=>by simp[Ex.uU]
 |x::l,y::m=>by rw[Ex.uU,Z0,Ex.OS x y,Ex.OT l m,ZT]
 |[],_::_=>by simp[Ex.uU]
 |_::_,[]=>by simp[Ex.uU]
end
instance:DecidableEq Ex:=fun a b=>decidable_of_iff _ (Ex.OS a b)
theorem Ex.eq_iff{a b:Ex}:a=b↔a.Flat b∧a.args=b.args:=by
 cases a;cases b
 simp only[Ex.mk.injEq,Ex.Flat,Ex.kind,Ex.op,Ex.name,Ex.table,Ex.val,Ex.unit,Ex.param,Ex.win,Ex.args,and_assoc]
theorem bq{b c:Bool}(h:b=true↔c=true):AV.v (.bool b)=AV.v (.bool c):=by rw[YF.2 h]
def aI:ae:=⟨#[99,111,117,110,116]⟩
mutual
def form:Bool→Ex→Bool
 |ins,.mk k o n t v u p w ks=>decide (ie (.mk k o n t v u p w ks) ins) && decide ((ks.length:Int)=nB (.mk k o n t v u p w ks)) && AU (ins || decide (k=5)) ks && (decide (¬(k=5∧o=aI)) || decide (ks.getD 0 default=ff))
def AU:Bool→List Ex→Bool
 |_,[]=>true
 |ins,x::l=>form ins x && AU ins l
end
theorem PH(ins:Bool):∀ l:List Ex,AU ins l=true↔∀ x∈l,form ins x=true
 |[]=>by simp[AU]
 |x::l=>by simp[AU,PH ins l]
theorem DI(ins:Bool)(x:Ex):form ins x=true↔ie x ins∧(x.args.length:Int)=nB x∧(∀ y∈x.args,form (ins || decide (x.kind=5)) y=true)∧(x.kind=5→x.op=aI→x.args.getD 0 default=ff):=by
 cases x
 rw[form]
 simp only[Z0,Y7,Zq,PH,Ex.args,Ex.kind,Ex.op]
 constructor
 ·rintro⟨⟨⟨h1,h2⟩,h3⟩,h4⟩
  exact⟨h1,h2,h3,fun a b=>h4.resolve_left fun h=>h ⟨a,b⟩⟩
 ·rintro⟨h1,h2,h3,h4⟩
  refine⟨⟨⟨h1,h2⟩,h3⟩,Decidable.or_iff_not_imp_left.2 fun h=> ?_⟩
  have:=Y3.1 h
  exact h4 this.1 this.2
set_option maxHeartbeats 4000000
def OR(x:Ex):Ex:=⟨x.kind,⟨#[]⟩,⟨#[]⟩,⟨#[]⟩,⟨0,0,⟨#[]⟩⟩,[],0,⟨0,0⟩,[]⟩
def J5(x:Ex):Ex:=⟨x.kind,⟨#[]⟩,x.name,⟨#[]⟩,x.val,x.unit,0,⟨0,0⟩,[]⟩
def GH(x:Ex):Ex:=⟨x.kind,x.op,⟨#[]⟩,x.table,⟨0,0,⟨#[]⟩⟩,[],x.param,x.win,[]⟩
theorem flat_lit(x:Ex)(h:x.kind=1):x.Flat (BV x)↔x.Flat (J5 x):=by unfold BV J5;rw[h]
theorem flat_agg(x:Ex)(h:x.kind=5):x.Flat (Au x)↔x.Flat (GH x):=by unfold Au GH;rw[h]
theorem PB(x:Ex):x.Flat (OR x)↔x.Flat (mz x)∧x.op=⟨#[]⟩:=by
 show _∧x.op=⟨#[]⟩∧_↔(_∧x.op=x.op∧_)∧_
 constructor
 ·rintro⟨h1,h2,h3⟩;exact⟨⟨h1,rfl,h3⟩,h2⟩
 ·rintro⟨⟨h1, -,h3⟩,h2⟩;exact⟨h1,h2,h3⟩
theorem TC:(⟨#[113,117,97,110,116,105,108,101]⟩:ae)≠⟨#[100,101,99,97,121]⟩:=by decide
def sk(x:Ex)(ins:Bool):Prop:=form ins x=true↔(∀ y∈x.args,form (ins || decide (x.kind=5)) y=true)∧(x.kind=5→x.op=aI→x.args.getD 0 default=ff)
theorem ad9{x:Ex}{ins q:Bool}{i:Nat}(hF:sk x ins)(hq:q=(ins || decide (x.kind=5)))(hi:i<x.args.length)(hc:form q (x.args.getD i default)=false):false=true↔form ins x=true:=by
 unfold sk at hF
 rw[hF,← hq]
 constructor
 ·intro h;exact Bool.noConfusion h
 ·rintro⟨h, -⟩
  have:=h _ (gb hi)
  rw[hc]at this
  exact this
theorem PI{q:Bool}{y:Ex}(h:form q y=true)(hf:y.Flat ff):y=ff:=by
 rw[DI]at h
 have hk:y.kind=1:=hf.1
 have hn:nB y=0:=by unfold nB;rw[Z9 (by omega),Z9 (by omega),Z9 (by omega)]
 have:y.args=[]:=ZO (by omega)
 exact Ex.eq_iff.2 ⟨hf,this⟩
theorem Pt{x:Ex}{q:Bool}{i:Nat}(hi:x.args.length≤i)(hp:∀ j,j<i→form q (x.args.getD j default)=true):∀ y∈x.args,form q y=true:=FG (p:=fun y=>form q y=true) fun j hj=>hp j (by omega)
theorem ad8{x:Ex}{ins q:Bool}(hF:sk x ins)(hq:q=(ins || decide (x.kind=5)))(cV:∀ y∈x.args,form q y=true)(h0:0<x.args.length)(hc:x.op=⟨#[99,111,117,110,116]⟩∧x.kind=5):decide ((x.args.getD 0 default).Flat ff)=true↔form ins x=true:=by
 unfold sk at hF
 rw[hF,← hq,Zq]
 constructor
 ·intro h;exact⟨cV,fun _ _=>PI (cV _ (gb h0)) h⟩
 ·rintro⟨-,h⟩;rw[h hc.2 hc.1];decide
theorem aea{x:Ex}{ins q:Bool}(hF:sk x ins)(hq:q=(ins || decide (x.kind=5)))(cV:∀ y∈x.args,form q y=true)(hc:¬x.op=⟨#[99,111,117,110,116]⟩∨¬x.kind=5):true=true↔form ins x=true:=by
 unfold sk at hF
 rw[hF,← hq]
 refine⟨fun _=>⟨cV,fun h1 h2=> ?_⟩,fun _=>rfl⟩
 rcases hc with h|h
 ·exact absurd h2 h
 ·exact absurd h1 h
theorem ahs(x:Ex):∀ ins,Pure Tryz.prog 27 [.agg x.row,.v (.bool ins)] (.v (.bool (form ins x))):=by
 induction x using Ex.ind with
 |h x ih=>
 intro ins
 have ml:=ih
 rw[Ex.eT x]
 refine k27.p fun σ=> ?_
 repeat'(first|exact .nil|refine .k0 ?_|refine .k1 ?_|refine .k2 ?_|refine .k3 ?_|refine .k4 ?_|refine .k6 ?_|refine .k7 ?_|refine .k9 ?_|(refine .cd ?_ ?_<;>(intro hc;first|exact kf hc (by assumption)|skip))|refine .r1 ?_ ?_|(refine .l1 ?_;intro b)|(refine .m1 ?_ ?_;intro b)|(refine .m2 ?_ ?_;intro hlen)|refine .an rfl (by intro br;first|exact Vl x.val|exact axo ⟨x.val.kind,x.unit,x.name⟩|exact EK _|exact G5 lI x.op|exact G5 CH x.op|exact G5 nR x.op|(refine(xl x (J5 x)).wk ?_;(repeat' first|exact .row|exact .refl _|exact .nil|refine .cons ?_ ?_|refine .agg ?_|fail);done)|(refine(xl x (EJ x)).wk ?_;(repeat' first|exact .row|exact .refl _|exact .nil|refine .cons ?_ ?_|refine .agg ?_|fail);done)|(refine(xl x (GH x)).wk ?_;(repeat' first|exact .row|exact .refl _|exact .nil|refine .cons ?_ ?_|refine .agg ?_|fail);done)|(refine(xl x (mz x)).wk ?_;(repeat' first|exact .row|exact .refl _|exact .nil|refine .cons ?_ ?_|refine .agg ?_|fail);done)|(refine(xl x (OR x)).wk ?_;(repeat' first|exact .row|exact .refl _|exact .nil|refine .cons ?_ ?_|refine .agg ?_|fail);done)|fail) ?_ ?_|refine .r9 ?_ ?_|fail)
 try any_goals(exact Zo)
 all_goals(try simp only[BL]at *)
 all_goals first
  |(exfalso;omega)
  |(with_reducible refine Sx.Fin.intro ?_ (bq ?_)
    rotate_left
    rw[DI]
    have h1:=flat_lit x
    have h2:=flat_agg x
    have h3:=PB x
    have hqd:=TC
    clear ih ml
    focus grind [ie,nB,ny,sF,oI,qh,mH]
    repeat' first|exact .refl _|refine .cons ?_)
  |skip
 all_goals
  have hF:sk x ins:=by
   unfold sk
   rw[DI]
   have h1:=flat_lit x
   have h2:=flat_agg x
   have h3:=PB x
   have hqd:=TC
   clear ih ml
   grind [ie,nB,ny,sF,oI,qh,mH]
 all_goals have hN:x.kind=5→x.args.length=2:=by intro h;omega
 all_goals refine dU (fun n rg σ'=>∃ (i:Nat) (q:Bool) (b0 b:Nat) (c:List AV),q=(ins || decide (x.kind=5))∧i≤x.args.length∧n=x.args.length-i∧(∀ j,j<i→form q (x.args.getD j default)=true)∧σ'=(5,b,cG.cells c)::(2,b0,cG.cells x.lay)::σ∧rg=[(1,.v (.bool q)),(2,.lp 2 b0 0),(186,.sl false 12 (x.args.map Ex.row)),(187,iv x.args.length),(188,iv i)]) x.args.length rfl ⟨_,_,Zr,Zs,0,_,_,_,_,by simp[*],ZH _,rfl,fun j hj=>absurd hj (by omega),rfl,rfl⟩ ?_
 all_goals clear hlen
 all_goals rintro n _ _ ⟨i,q,b0,b,c,hq,hi,hn,hp,rfl,rfl⟩
 all_goals clear ih
 repeat'(first|exact .nil|refine .k0 ?_|refine .k1 ?_|refine .k2 ?_|refine .k4 ?_|refine .k6 ?_|refine .k7 ?_|refine .k8 ?_|refine .k9 ?_|(refine .cd ?_ ?_<;>(intro hc;skip))|refine .r1 ?_ ?_|(refine .l1 ?_;intro b)|refine .t1 ?_ ?_ ?_|refine .an rfl (by intro br;first|(refine(xl (x.args.getD 0 default) ff).wk ?_;(repeat' first|exact .refl _|exact .nil|refine .cons ?_ ?_|refine .agg ?_|fail);done)|exact ml (x.args.getD i default) (gb (by(simp only[BL]at *;omega))) _) ?_ ?_|fail)
 try any_goals(exact Zo)
 all_goals(try simp only[BL]at *)
 all_goals first
  |(with_reducible refine Sx.Fin.intro ?_ (bq ?_)
    rotate_left
    focus first
     |exact ad9 hF hq (by omega) hc
     |exact ad8 hF hq (Pt (by omega) hp) (by omega) hc
     |exact aea hF hq (Pt (by omega) hp) hc
    repeat' first|exact .refl _|refine .cons ?_)
  |(refine⟨x.args.length-(i+1),by omega,_,_,Zr,Zs,i+1,_,_,_,_,hq,by omega,rfl,nS hp hc,rfl,by rw[bG (by omega)];rfl⟩)
  |trace_state
set_option maxHeartbeats 4000000
def shape(x:Ex):Int:=if 64<x.size∨12<x.depth then 2 else if form false x=true then 0 else 3
theorem Ui(x:Ex)(hs:x.size≤100000):Pure Tryz.prog 11 [.agg x.row] (iv (shape x)):=by
 rw[Ex.eT x]
 refine k11.p fun σ=> ?_
 repeat'(first|exact .nil|refine .k0 ?_|refine .k1 ?_|refine .k2 ?_|refine .k4 ?_|refine .k7 ?_|refine .k9 ?_|(refine .cd ?_ ?_<;>(intro hc;skip))|refine .r1 ?_ ?_|(refine .m1 ?_ ?_;intro b)|refine .an rfl (by intro br;first|(refine(awp x (by first|omega|fail)).wk ?_;(repeat' first|exact .row|exact .refl _|refine .cons ?_ ?_|refine .agg ?_|fail);done)|(refine(acT x (by first|omega|fail)).wk ?_;(repeat' first|exact .row|exact .refl _|refine .cons ?_ ?_|refine .agg ?_|fail);done)|(refine(ahs x false).wk ?_;(repeat' first|exact .row|exact .refl _|refine .cons ?_ ?_|refine .agg ?_|fail);done)|fail) ?_ ?_|fail)
 try any_goals(exact Zo)
 all_goals(try simp only[BL]at *)
 all_goals(refine Sx.Fin.intro Zs (bi ?_);unfold shape;grind)
def strs:List (List AV)→Option (List ae)
 |[]=>some []
 |[.v (.string s)]::l=>(strs l).map (s::·)
 |_=>none
theorem UK:∀ {l:List (List AV)} {ws:List ae},strs l=some ws→l=ws.map fL
 |[],ws,h=>by simp only[strs,Z1]at h;subst h;rfl
 |[.v (.string s)]::l,ws,h=>by
  simp only[strs,ZQ]at h
  obtain⟨w,h1,rfl⟩:=h
  rw[UK h1];rfl
def gY:List ae→ae
 |[]=>⟨#[]⟩
 |s::l=>s++gY l
def iM:List ae→Nat
 |[]=>0
 |s::l=>s.size+iM l
theorem fM(s:ae):s.data.toList.length=s.size:=rfl
theorem cS(a:Array UInt8):(⟨a⟩:ae).size=a.size:=rfl
theorem dQ(a b:ae):(a++b).size=a.size+b.size:=by rw[CB,zA,Z5];rfl
theorem pk:∀ l:List ae,(gY l).size=iM l
 |[]=>rfl
 |s::l=>by rw[gY,dQ,pk l,iM]
theorem RR:∀ l:List (List UInt8),([]:List UInt8).intercalate l=l.flatten
 |[]=>rfl
 |[a]=>by simp[List.intercalate]
 |a::b::l=>by
  have:=RR (b::l)
  simp only[List.intercalate,List.intersperse,XG,Za]at this ⊢
  rw[this]
theorem G0:∀ l:List ae,(gY l).data.toList=(l.map (·.data.toList)).flatten
 |[]=>rfl
 |s::l=>by rw[gY,zA,G0 l];rfl
theorem RW(l:List ae):Lib.join (l.map (·.data.toList)) (⟨#[]⟩:ae).data.toList=(gY l).data.toList:=by
 rw[G0];exact RR _
theorem afG(l:List ae):Et l ⟨#[]⟩=gY l:=by
 apply ui
 unfold Et
 rw[RW]
theorem afI(ws:List ae)(nn:Bool)(hN:ws.length≤1000)(hl:iM ws≤140737488355328):Pure Tryz.prog 57 [.sl nn 1 (ws.map fL)] (sv (gY ws)):=by
 refine k57.p fun σ=> ?_
 repeat'(first|exact .nil|refine .k0 ?_|refine .k1 ?_|refine .k2 ?_|refine .k7 ?_|refine .r1 ?_ ?_|refine .an rfl (by intro br;(refine(JU ws ⟨#[]⟩ nn (by first|omega|fail) (by rw[RW,← CB,pk];omega)).wk ?_;(repeat' first|exact .refl _|fail);done)) ?_ ?_|fail)
 all_goals(try simp only[BL]at *)
 ·rw[afG]
  exact Zw
theorem pX{nn:Bool}{l:List (List AV)}(ws:List ae)(h:strs l=some ws)(hN:ws.length≤1000)(hl:iM ws≤140737488355328):Pure Tryz.prog 57 [.sl nn 1 l] (sv (gY ws)):=by
 rw[UK h];exact afI ws nn hN hl
def iD(f:ar):ae:=if f.exp=1 then f.name else f.name++(⟨#[94]⟩++mq f.exp)
def wx(u:List ar):ae:=Et (u.map iD) ⟨#[42]⟩
theorem Es(n:Int)(h: -9223372036854775808≤n∧n≤9223372036854775807):(mq n).size≤21:=by
 have:=Lib.itoa_length_le n h.1 h.2
 rw[CB]
 simpa[mq]using this
theorem aw4{α:Type}[Inhabited α]{l:List α}{i:Nat}(h:i<l.length):l.take (i+1)=l.take i++[l.getD i default]:=by
 rw[getD_eq h,ZF h]
theorem RQ(sep:List UInt8):∀ l:List (List UInt8),(sep.intercalate l).length≤l.flatten.length+l.length * sep.length
 |[]=>by simp[List.intercalate]
 |[a]=>by simp[List.intercalate]
 |a::b::l=>by
  have:=RQ sep (b::l)
  simp only[List.intercalate,List.intersperse,XG,Z5,Z6,YM,Nat.one_mul]at this ⊢
  omega
theorem afH(ws:List ae)(sep:ae):(Lib.join (ws.map (·.data.toList)) sep.data.toList).length≤iM ws+ws.length * sep.size:=by
 have:=RQ sep.data.toList (ws.map (·.data.toList))
 rw[← G0,← CB,pk,Z3]at this
 exact this
theorem Sc{α:Type}(g:α→ae)(c:Nat):∀ {l:List α},(∀ x∈l,(g x).size≤c)→iM (l.map g)≤l.length * c
 |[],_=>ZH _
 |x::l,h=>by
  have h1:=h x (by simp)
  have h2:=Sc g c (l:=l) fun y hy=>h y (by simp[hy])
  simp only[Zu,iM,Z6,YM,Nat.one_mul]
  omega
def kC(f:ar):Prop:=f.name.size≤24∧-8≤f.exp∧f.exp≤8∧1≤f.name.size
theorem adV{f:ar}(h:kC f):(iD f).size≤46:=by
 unfold iD
 have:=Es f.exp (by have:=h.2;omega)
 have:=h.1
 split
 ·omega
 ·rw[dQ,dQ];show _+(1+_)≤_;omega
theorem Vd{u:List ar}(hu:∀ f∈u,kC f)(hl:u.length≤4):(Lib.join ((u.map iD).map (·.data.toList)) (⟨#[42]⟩:ae).data.toList).length≤200:=by
 have h1:=afH (u.map iD) ⟨#[42]⟩
 have h2:=Sc iD 46 fun f hf=>adV (hu f hf)
 have h3:(⟨#[42]⟩:ae).size=1:=rfl
 rw[Z3,h3]at h1
 omega
theorem Vb{u:List ar}(hu:∀ f∈u,kC f)(hl:u.length≤4):(wx u).size≤200:=Vd hu hl
theorem ah7{fs:List ar}{i:Nat}(h:i<fs.length):((fs.take i).map iD).map fL++[[.v (.string (iD (fs.getD i default)))]]=((fs.take (i+1)).map iD).map fL:=by
 rw[aw4 h];simp[fL]
theorem Pf{f:ar}(h:f.exp=1):iD f=f.name:=Z8 h
theorem Pg{f:ar}(h:¬f.exp=1):iD f=f.name++(⟨#[94]⟩++mq f.exp):=Z9 h
theorem axv(fs:List ar)(hu:∀ f∈fs,kC f)(hl:fs.length≤4):Pure Tryz.prog 97 [.sl false 2 (fs.map ar.cells)] (sv (wx fs)):=by
 refine k97.p fun σ=> ?_
 repeat'(first|exact .nil|refine .k0 ?_|refine .k1 ?_|refine .k2 ?_|refine .k6 ?_|refine .r1 ?_ ?_|(refine .m2 ?_ ?_;intro hlen)|fail)
 all_goals(try simp only[BL]at *)
 refine dU (fun n rg σ'=>∃ i:Nat,i≤fs.length∧n=fs.length-i∧((i=0∧σ'=σ∧rg=[(3,.v (.slice none 0 0)),(7,.sl false 2 (fs.map ar.cells)),(8,iv fs.length),(9,iv i)])∨(0<i∧∃ b v c,σ'=(27,b,.tail v c)::σ∧rg=[(3,.own 1 27 b v c (((fs.take i).map iD).map fL)),(7,.sl false 2 (fs.map ar.cells)),(8,iv fs.length),(9,iv i)]))) fs.length rfl ⟨_,_,Zr,Zs,0,ZH _,rfl,.inl ⟨rfl,rfl,rfl⟩⟩ ?_
 rintro n _ _ ⟨i,hi,hn,⟨h0,rfl,rfl⟩|⟨h0,b0,v0,c0,rfl,rfl⟩⟩
 all_goals have hf:i<fs.length→kC (fs.getD i default):=fun h=>hu _ (gb h)
 all_goals have hz:i<fs.length→(mq (fs.getD i default).exp).size≤21:=fun h=>Es _ (by have:=(hf h).2;omega)
 all_goals unfold kC at hf
 repeat'(first|exact .nil|refine .k0 ?_|refine .k1 ?_|refine .k2 ?_|refine .k6 ?_|refine .k7 ?_|refine .k8 ?_|refine .k9 ?_|(refine .cd ?_ ?_<;>(intro hc;skip))|refine .r1 ?_ ?_|(refine .l1 ?_;intro b)|refine .t1 ?_ ?_ ?_|refine .u1 ?_ ?_ ?_ (fun b u c=> ?_)|refine .u2 ?_ ?_ ?_ (fun b u c=> ?_)|refine .an rfl (by intro br;first|exact BT _ (by(simp only[BL]at *;omega))|(refine(JU [] ⟨#[42]⟩ false (by decide) (by decide)).wk ?_;(repeat' first|exact .refl _|exact .nil|refine .cons ?_ ?_|fail);done)|(refine(JU (fs.map iD) ⟨#[42]⟩ false (by rw[Z3];omega) (Zk (Vd hu hl) (by decide))).wk (dc.cons (Wk.S6 (by rw[ZD (by(simp only[BL]at *;omega))])) (dc.cons (Wk.refl _) dc.nil)))) ?_ ?_|(show List.all _ _=true;rfl)|fail)
 try any_goals(exact Zo)
 all_goals(try simp only[BL]at *)
 any_goals((simp only[Z6,ZW,Z5,Z3,ZK,dQ,cS,fM,ZS];omega))
 all_goals have e:=fun h=>ah7 (fs:=fs) (i:=i) h
 ·subst h0
  rw[Pg hc]at e
  refine⟨fs.length-(0+1),by omega,_,_,Zr,Zs,0+1,by omega,rfl,.inr ⟨by omega,_,_,_,rfl,?_⟩⟩
  rw[← e (by omega),iQ (n:=fs.length) (by omega) (by assumption)];rfl
 ·subst h0
  rw[Pf hc]at e
  refine⟨fs.length-(0+1),by omega,_,_,Zr,Zs,0+1,by omega,rfl,.inr ⟨by omega,_,_,_,rfl,?_⟩⟩
  rw[← e (by omega),iQ (n:=fs.length) (by omega) (by assumption)];rfl
 ·obtain rfl:fs=[]:=ZO (by omega)
  exact Sx.Fin.intro Zs rfl
 ·rw[Pg hc]at e
  refine⟨fs.length-(i+1),by omega,_,_,Zr,Zs,i+1,by omega,rfl,.inr ⟨by omega,_,_,_,rfl,?_⟩⟩
  rw[← e (by omega),iQ (n:=fs.length) (by omega) (by assumption)]
 ·rw[Pf hc]at e
  refine⟨fs.length-(i+1),by omega,_,_,Zr,Zs,i+1,by omega,rfl,.inr ⟨by omega,_,_,_,rfl,?_⟩⟩
  rw[← e (by omega),iQ (n:=fs.length) (by omega) (by assumption)]
 ·exact Sx.Fin.intro Zs rfl
set_option maxHeartbeats 4000000
theorem De(a b c:ae):a++b++c=a++(b++c):=ui (by simp)
theorem nQ(a:ae):a++(⟨#[]⟩:ae)=a:=ui (by simp)
theorem bs{a b:ae}(h:a=b):AV.v (.string a)=sv b:=by rw[h]
def rQ(u:List ar):ae:=if u=[]then⟨#[]⟩else⟨#[32,91]⟩++(wx u++⟨#[93]⟩)
theorem Vc{u:List ar}(hu:∀ f∈u,kC f)(hl:u.length≤4):(rQ u).size≤210:=by
 have:=Vb hu hl
 unfold rQ
 split
 ·decide
 ·simp only[dQ,cS,ZS,Z6,ZW];omega
theorem af8{α:Type}{l:List α}:(l.length:Int)=0↔l=[]:=by cases l<;>simp<;>omega
theorem axx(fs:List ar)(hu:∀ f∈fs,kC f)(hl:fs.length≤4):Pure Tryz.prog 59 [.sl false 2 (fs.map ar.cells)] (sv (rQ fs)):=by
 have kS:= @af8 ar fs
 refine k59.p fun σ=> ?_
 repeat'(first|exact .nil|refine .k0 ?_|refine .k1 ?_|refine .k2 ?_|refine .k7 ?_|refine .k9 ?_|(refine .cd ?_ ?_<;>(intro hc;skip))|refine .r1 ?_ ?_|(refine .m2 ?_ ?_;intro hlen)|refine .an rfl (by intro br;first|exact axv fs hu hl|exact pX _ rfl (Z7 rfl) (by have:=Vb hu hl;simp only[iM,cS,ZS,Z6,ZW];omega)) ?_ ?_|fail)
 all_goals(try simp only[BL]at *)
 any_goals((simp only[Z6,ZW,Z5,Z3,ZK,dQ,cS,fM,ZS];omega))
 all_goals(simp only[kS]at hc;refine Sx.Fin.intro Zs (bs ?_);simp[rQ,hc,gY,nQ,De];done)
theorem AF{u:Nat}(h:u<10):Lib.decDigits u=[UInt8.ofNat (48+u)]:=by rw[Lib.decDigits,dif_pos h]
theorem Dr{u:Nat}(h:¬u<10):Lib.decDigits u=Lib.decDigits (u / 10)++[UInt8.ofNat (48+u % 10)]:=by rw[Lib.decDigits,dif_neg h]
theorem xu{u:Nat}(h:u≤9223372036854775807):(Lib.decDigits u).length≤21:=by
 have:=Lib.itoa_length_le (u:Int) (by omega) (by omega)
 rwa [Lib.itoa_nonneg]at this
def eI:Nat→Nat→List UInt8
 |0,_=>[]
 |k+1,x=>eI k (x / 10)++[UInt8.ofNat (48+x % 10)]
theorem rF:∀ (k x:Nat),(eI k x).length=k
 |0,_=>rfl
 |k+1,x=>by rw[eI,Z5,rF k];rfl
def iW(x:Nat):ae:=⟨(Lib.decDigits (x / 10 ^ 6)++46::eI 6 x).toArray⟩
theorem Ov(n:Nat):1≤(Lib.decDigits n).length:=by
 by_cases h:n<10
 ·rw[AF h];exact ZR _
 ·rw[Dr h,Z5];exact Nat.le_add_left _ _
theorem Ow:∀ (k n:Nat),10 ^ k≤n→Lib.decDigits n=Lib.decDigits (n / 10 ^ k)++eI k n
 |0,n,_=>by simp[eI]
 |k+1,n,h=>by
  have Ib:0<10 ^ k:=Nat.pow_pos (by omega)
  rw[Nat.pow_succ]at h
  rw[Dr (by omega),Ow k (n / 10) (by omega),Nat.div_div_eq_div_mul,eI,Nat.pow_succ,Yp 10,Zz]
theorem Ot:∀ (k n:Nat),n<10 ^ (k+1)→(Lib.decDigits n).length≤k+1
 |0,n,h=>by rw[AF (by omega)];exact ZR _
 |k+1,n,h=>by
  by_cases h1:n<10
  ·rw[AF h1];simp
  ·rw[Nat.pow_succ]at h
   have:=Ot k (n / 10) (by omega)
   rw[Dr h1,Z5];simp only[Z6,ZW];omega
theorem Sj:∀ k:Nat,eI k 0=List.replicate k 48
 |0=>rfl
 |k+1=>by rw[eI,Nat.zero_div,Sj k,List.replicate_succ'];rfl
theorem Ou:∀ (k z n:Nat),z+(Lib.decDigits n).length=k→List.replicate z 48++Lib.decDigits n=eI k n
 |0,z,n,h=>by have:=Ov n;omega
 |k+1,z,n,h=>by
  by_cases h1:n<10
  ·rw[AF h1]at h ⊢
   simp only[Z6,ZW]at h
   obtain rfl:z=k:=by omega
   rw[eI,Nat.div_eq_of_lt h1,Sj,Nat.mod_eq_of_lt h1]
  ·rw[Dr h1]at h ⊢
   rw[Z5]at h
   simp only[Z6,ZW]at h
   rw[← Zz,Ou k z (n / 10) (by omega),eI]
theorem acI{n z:Nat}{L:List UInt8}(hL:L=List.replicate z 48++Lib.decDigits n)(h7:7≤L.length)(hz:z=0∨L.length≤7):L=Lib.decDigits (n / 10 ^ 6)++eI 6 n:=by
 by_cases h:n<10 ^ 6
 ·have h1:=Ot 5 n h
  have hl:L.length=z+(Lib.decDigits n).length:=by rw[hL,Z5,Y1]
  obtain⟨y,rfl⟩:∃ y,z=y+1:=⟨z-1,by omega⟩
  rw[hL,List.replicate_succ,ZC,Ou 6 y n (by omega),Nat.div_eq_of_lt h,AF (by omega)];rfl
 ·have h1:=Ow 6 n (by omega)
  have hl:L.length=z+(Lib.decDigits n).length:=by rw[hL,Z5,Y1]
  have h2:=Ov (n / 10 ^ 6)
  have h3:=Zy List.length h1
  rw[Z5,rF]at h3
  have:z=0:=by omega
  subst this
  rw[hL,← h1];rfl
theorem acH(n:Nat)(h:n≤1152921504606846976):Pure Tryz.prog 130 [iv n] (sv (iW n)):=by
 have hq:(Lib.decDigits n).length≤21:=xu (by omega)
 refine afN.p fun σ=> ?_
 repeat'(first|exact .nil|refine .k0 ?_|refine .k1 ?_|refine .k2 ?_|refine .k3 ?_|refine .k6 ?_|refine .k9 ?_|(refine .cd ?_ ?_<;>(intro hc;skip))|refine .r1 ?_ ?_|refine .an rfl (by intro br;exact BT _ (by first|omega|(simp only[BL]at *;omega))) ?_ ?_|refine .t6 ?_ ?_ ?_|fail)
 try any_goals(exact Zo)
 all_goals(try simp only[BL]at *)
 all_goals try(exfalso;omega)
 refine dU (fun k rg σ'=>∃ (z:Nat) (s:ae),k=7-s.size∧s.data.toList=List.replicate z 48++Lib.decDigits n∧(z=0∨s.size≤7)∧σ'=σ∧rg=[(3,sv s),(4,sv ⟨#[]⟩)]) (7-(mq n).size) rfl ⟨_,_,Zr,Zs,0,mq n,rfl,by rw[mq,Lib.itoa_nonneg];rfl,.inl rfl,rfl,rfl⟩ ?_
 rintro k _ _ ⟨z,s,hk,hs,hz,rfl,rfl⟩
 have hl:s.size=z+(Lib.decDigits n).length:=by
  have:=Zy List.length hs
  rwa [Z5,Y1]at this
 repeat'(first|exact .nil|refine .k0 ?_|refine .k1 ?_|refine .k2 ?_|refine .k5 ?_|refine .k6 ?_|refine .k7 ?_|refine .k8 ?_|refine .k9 ?_|(refine .cd ?_ ?_<;>(intro hc;skip))|refine .r1 ?_ ?_|refine .t6 ?_ ?_ ?_|fail)
 all_goals(try simp only[BL]at *)
 all_goals have aQ:s.size≤28:=by omega
 any_goals((simp only[Z6,ZW,Z5,Z3,ZK,dQ,cS,fM,ZS];omega))
 ·refine⟨7-(s.size+1),by omega,_,_,Zr,Zs,z+1,(⟨#[48]⟩:ae)++s,by rw[dQ,cS,Nat.add_comm];rfl,by rw[zA,hs,List.replicate_succ];rfl,.inr ?_,rfl,rfl⟩
  rw[dQ,cS];show 1+_≤_;omega
 all_goals have hcut:IntKind.i64.wrap ((s.size:Int)-6)=((s.size-6:Nat):Int):=by rw[bG (by omega)];omega
 all_goals simp only[hcut,YN]
 any_goals omega
 any_goals(simp only[dQ,cS,ByteArray.size_extract,ZS,Z6,ZW];omega)
 refine Sx.Fin.intro Zs (bs (ui ?_))
 have hp:=acI hs (by show 7≤s.size;omega) hz
 have qY:(Lib.decDigits (n / 10 ^ 6)).length=s.size-6:=by
  have:=Zy List.length hp
  rw[Z5,rF]at this
  have h5:s.data.toList.length=s.size:=rfl
  omega
 have e1:(ByteArray.extract s 0 (s.size-6)).data.toList=Lib.decDigits (n / 10 ^ 6):=by
  rw[ByteArray.data_extract,Array.toList_extract,List.extract_eq_take_drop,hp]
  simp[qY]
 have e2:(ByteArray.extract s (s.size-6) s.size).data.toList=eI 6 n:=by
  rw[ByteArray.data_extract,Array.toList_extract,List.extract_eq_take_drop,hp,← qY,List.drop_left,ZD (by rw[rF];omega)]
 simp only[zA,e1,e2]
 simp[iW]
set_option maxHeartbeats 4000000
def iz(n:Int):ae:=if n=1 then⟨#[116,114,117,101]⟩else⟨#[102,97,108,115,101]⟩
def mn(n:Int):ae:=⟨(Lib.decDigits n.toNat).toArray⟩
def wz(v:eP):ae:=
 if v.kind=1 then iz v.n else if v.kind=2 then mn v.n else if v.kind=3 then iW v.n.toNat
 else if v.kind=4 then⟨#[34]⟩++(v.s++⟨#[34]⟩)else if v.kind=5 then⟨#[64]⟩++v.s else⟨#[110,117,108,108]⟩
theorem aeg(n:Int):(⟨(Lib.formatBool (decide (n=1))).toArray⟩:ae)=iz n:=by
 unfold iz
 by_cases h:n=1
 ·rw[Z8 h,Zi h];decide
 ·rw[Z9 h,Zn h];decide
theorem JS{n:Int}(h:0≤n):mq n=mn n:=by
 obtain⟨m,rfl⟩:∃ m:Nat,n=m:=⟨n.toNat,by omega⟩
 unfold mq mn
 rw[Lib.itoa_nonneg];rfl
structure o4(v:eP):Prop where
 e:oQ v=0
 n:0≤v.n
theorem o4.kinds{v:eP}(h:o4 v):0≤v.kind∧v.kind≤5∧v.n≤1152921504606846976∧v.s.size≤64:=by
 have:=h.e
 have h0:=h.n
 unfold oQ at this
 split at this
 ·omega
 ·rename_i hf
  have hf:=Y3.1 hf
  split at this
  ·omega
  ·rename_i hb
   have hs:v.kind≤3→v.s.size=0:=fun h=>by rw[hf.2.2.1 h];rfl
   refine⟨hf.1,hf.2.1,by omega,?_⟩
   have:=hf.2.1
   omega
theorem Vj{v:eP}(h:o4 v):(wz v).size≤100:=by
 obtain⟨h1,h2,h3,h4⟩:=h.kinds
 have h0:=h.n
 have hd:(Lib.decDigits v.n.toNat).length≤21:=xu (by omega)
 have hq:(Lib.decDigits (v.n.toNat / 10 ^ 6)).length≤21:=xu (by omega)
 unfold wz
 repeat' split
 ·unfold iz;split<;>decide
 ·show(Lib.decDigits v.n.toNat).toArray.size≤100
  rw[ZS];omega
 ·show(Lib.decDigits (v.n.toNat / 10 ^ 6)++46::eI 6 v.n.toNat).toArray.size≤100
  rw[ZS,Z5,Z6,rF];omega
 ·((simp only[Z6,ZW,Z5,Z3,ZK,dQ,cS,fM,ZS];omega))
 ·((simp only[Z6,ZW,Z5,Z3,ZK,dQ,cS,fM,ZS];omega))
 ·decide
theorem agS(v:eP):Pure Tryz.prog 91 [.agg v.cells] (sv ⟨#[110,117,108,108]⟩):=by
 refine k91.p fun σ=> ?_
 repeat'(first|exact .nil|refine .k0 ?_|refine .k1 ?_|refine .k2 ?_|refine .k7 ?_|refine .r1 ?_ ?_|(refine .m1 ?_ ?_;intro b)|fail)
 all_goals(try simp only[BL]at *)
 ·exact Sx.Fin.intro Zs rfl
theorem abx(v:eP):Pure Tryz.prog 92 [.agg v.cells] (sv (iz v.n)):=by
 refine k92.p fun σ=> ?_
 repeat'(first|exact .nil|refine .k0 ?_|refine .k1 ?_|refine .k2 ?_|refine .k7 ?_|refine .r1 ?_ ?_|(refine .m1 ?_ ?_;intro b)|refine .an rfl (by intro br;first|exact aeh _|fail) ?_ ?_|fail)
 all_goals(try simp only[BL]at *)
 ·exact Sx.Fin.intro Zs (bs (aeg v.n))
theorem afy(v:eP)(h:o4 v):Pure Tryz.prog 93 [.agg v.cells] (sv (mn v.n)):=by
 have hk:=h.kinds
 have h0:=h.n
 refine k93.p fun σ=> ?_
 repeat'(first|exact .nil|refine .k0 ?_|refine .k1 ?_|refine .k2 ?_|refine .k7 ?_|refine .r1 ?_ ?_|(refine .m1 ?_ ?_;intro b)|refine .an rfl (by intro br;first|exact BT _ (by first|omega|fail)|fail) ?_ ?_|fail)
 all_goals(try simp only[BL]at *)
 ·exact Sx.Fin.intro Zs (bs (JS h0))
theorem acJ(v:eP)(h:o4 v):Pure Tryz.prog 94 [.agg v.cells] (sv (iW v.n.toNat)):=by
 have hk:=h.kinds
 have h0:=h.n
 have hd:=acH v.n.toNat (by omega)
 rw[show((v.n.toNat:Nat):Int)=v.n by omega]at hd
 refine k94.p fun σ=> ?_
 repeat'(first|exact .nil|refine .k0 ?_|refine .k1 ?_|refine .k2 ?_|refine .k7 ?_|refine .r1 ?_ ?_|(refine .m1 ?_ ?_;intro b)|refine .an rfl (by intro br;exact hd) ?_ ?_|fail)
 all_goals(try simp only[BL]at *)
 ·exact Sx.Fin.intro Zs rfl
theorem aw6(v:eP)(h:o4 v):Pure Tryz.prog 95 [.agg v.cells] (sv (⟨#[34]⟩++(v.s++⟨#[34]⟩))):=by
 have hk:=h.kinds
 refine k95.p fun σ=> ?_
 repeat'(first|exact .nil|refine .k0 ?_|refine .k1 ?_|refine .k2 ?_|refine .k7 ?_|refine .r1 ?_ ?_|(refine .m1 ?_ ?_;intro b)|fail)
 all_goals(try simp only[BL]at *)
 any_goals((simp only[Z6,ZW,Z5,Z3,ZK,dQ,cS,fM,ZS];omega))
 ·exact Sx.Fin.intro Zs (bs (De _ _ _))
theorem afV(v:eP)(h:o4 v):Pure Tryz.prog 96 [.agg v.cells] (sv (⟨#[64]⟩++v.s)):=by
 have hk:=h.kinds
 refine k96.p fun σ=> ?_
 repeat'(first|exact .nil|refine .k0 ?_|refine .k1 ?_|refine .k2 ?_|refine .k7 ?_|refine .r1 ?_ ?_|(refine .m1 ?_ ?_;intro b)|fail)
 all_goals(try simp only[BL]at *)
 any_goals((simp only[Z6,ZW,Z5,Z3,ZK,dQ,cS,fM,ZS];omega))
 ·exact Sx.Fin.intro Zs rfl
theorem Wk.zL(vs:Array Value):Wk (.v (.agg vs)) (.agg (vs.toList.map .v)):=fun M x h=>by
 obtain rfl:=h.ay
 have:=R.agg (M:=M) (vs.toList.map .v) vs.toList (by simp) (fun i h1 h2=>by simp only[Zm];exact .v _)
 simpa using this
theorem aei(v:eP)(h:o4 v):Pure Tryz.prog 58 [.agg v.cells] (sv (wz v)):=by
 have hk:=h.kinds
 have he:=h.e
 obtain⟨k,n,s⟩:=v
 have cC:k=0∨k=1∨k=2∨k=3∨k=4∨k=5:=by
  have h1:=hk.1
  have h2:=hk.2.1
  simp only at h1 h2
  omega
 rcases cC with rfl|rfl|rfl|rfl|rfl|rfl
 all_goals refine k58.p fun σ=> ?_
 repeat'(first|exact .nil|refine .k0 ?_|refine .k1 ?_|refine .k2 ?_|refine .k7 ?_|refine .k9 ?_|(refine .cd ?_ ?_<;>(intro hc;skip))|refine .r1 ?_ ?_|(refine .l1 ?_;intro b)|(refine .m1 ?_ ?_;intro b)|refine .an rfl (by intro br;first|exact Vl ⟨_,n,s⟩|exact(agS ⟨_,n,s⟩).wk (dc.cons (Wk.zL _) dc.nil)|exact(abx ⟨_,n,s⟩).wk (dc.cons (Wk.zL _) dc.nil)|exact(afy _ h).wk (dc.cons (Wk.zL _) dc.nil)|exact(acJ _ h).wk (dc.cons (Wk.zL _) dc.nil)|exact(aw6 _ h).wk (dc.cons (Wk.zL _) dc.nil)|exact(afV _ h).wk (dc.cons (Wk.zL _) dc.nil)) ?_ ?_|(refine .l3 ?_;intro b)|refine .r6 ?_ ?_|refine .r7 ?_ ?_|fail)
 all_goals(try simp only[BL]at *)
 all_goals try(exfalso;exact hc he)
 all_goals exact Sx.Fin.intro Zs rfl
set_option maxHeartbeats 4000000
def aK(x:Ex):Int:=
 if x.kind=8 then 0 else if x.kind=9 then 1
 else if x.kind=6 then(if x.op=⟨#[45]⟩then 8 else if x.op=⟨#[110,111,116]⟩then 4 else 9)
 else if x.kind=7 then(if x.op=⟨#[111,114]⟩then 2 else if x.op=⟨#[97,110,100]⟩then 3 else if x.op=⟨#[43]⟩∨x.op=⟨#[45]⟩then 6 else if x.op=⟨#[42]⟩∨x.op=⟨#[47]⟩then 7 else 5)
 else 9
theorem TG(x:Ex):0≤aK x∧aK x≤9:=by
 unfold aK
 repeat' split
 all_goals omega
def wF(w:gu):ae:=
 if w.kind=2 then⟨#[115,108,105,100,105,110,103,32]⟩++mn w.size else if w.kind=3 then⟨#[116,117,109,98,108,105,110,103,32]⟩++mn w.size
 else if w.kind=4 then⟨#[115,101,115,115,105,111,110,32]⟩++mn w.size else⟨#[97,108,108]⟩
def vM(x:Ex):ae:=if x.val.kind=5 then⟨#[64]⟩++(x.name++(⟨#[32,34]⟩++(x.val.s++⟨#[34]⟩)))else wz x.val++rQ x.unit
def par(s:ae):ae:=⟨#[40]⟩++(s++⟨#[41]⟩)
def j0(x:Ex)(T:Nat→ae)(i:Nat)(r:Int):ae:=if aK (x.args.getD i default)<r then par (T i)else T i
def eV(x:Ex)(T:Nat→ae):ae:=
 x.op++(⟨#[40]⟩++(x.table++((if x.op=aI then⟨#[]⟩else⟨#[44,32]⟩++T 0)++((if x.param=0 then⟨#[]⟩else⟨#[44,32]⟩++mn x.param)
  ++(⟨#[44,32]⟩++(wF x.win++((if x.args.getD 1 default=ff then⟨#[]⟩else⟨#[32,119,104,101,114,101,32]⟩++T 1)++⟨#[41]⟩)))))))
def zI(x:Ex)(T:Nat→ae):ae:=
 if x.op=⟨#[45]⟩then⟨#[45]⟩++j0 x T 0 8 else if x.op=⟨#[110,111,116]⟩then⟨#[110,111,116,32]⟩++j0 x T 0 4 else⟨#[110,117,108,108,40]⟩++(T 0++⟨#[41]⟩)
def ke(x:Ex):Int:=if aK x=5 then 6 else aK x
def xm(x:Ex)(T:Nat→ae):ae:=j0 x T 0 (ke x)++(⟨#[32]⟩++(x.op++(⟨#[32]⟩++j0 x T 1 (aK x+1))))
def yq(x:Ex)(T:Nat→ae):ae:=⟨#[105,102,32]⟩++(T 0++(⟨#[32,116,104,101,110,32]⟩++(T 1++(⟨#[32,101,108,115,101,32]⟩++T 2))))
def xv(x:Ex)(T:Nat→ae):ae:=j0 x T 0 1++(⟨#[32,100,101,102,97,117,108,116,32]⟩++j0 x T 1 2)
def CF(x:Ex)(T:Nat→ae):ae:=
 if x.kind=1 then vM x else if x.kind=4 then x.name++(⟨#[32,111,102,32,40]⟩++(T 0++⟨#[41]⟩))else if x.kind=5 then eV x T
 else if x.kind=6 then zI x T else if x.kind=7 then xm x T else if x.kind=8 then yq x T else if x.kind=9 then xv x T else x.name
mutual
def text:Ex→ae
 | .mk k o n t v u p w ks=>CF (.mk k o n t v u p w ks) (fun i=>(CG ks).getD i ⟨#[]⟩)
def CG:List Ex→List ae
 |[]=>[]
 |x::l=>text x::CG l
end
def tx(x:Ex)(i:Nat):ae:=(CG x.args).getD i ⟨#[]⟩
theorem La(x:Ex):text x=CF x (tx x):=by cases x;rfl
theorem U2:∀ (l:List Ex) (i:Nat),i<l.length→(CG l).getD i ⟨#[]⟩=text (l.getD i default)
 |[],_,h=>absurd h (by simp)
 |x::l,0,_=>rfl
 |x::l,i+1,h=>by
  have:=U2 l i (by simpa using h)
  simpa[CG]using this
theorem FM{x:Ex}{i:Nat}(h:i<x.args.length):tx x i=text (x.args.getD i default):=U2 _ _ h
theorem Uj{l:List Ex}(h:0<l.length):(l.getD 0 default).size≤Ex.cR l:=Ex.Uk (gb h)
theorem KX{l:List Ex}(h:1<l.length):(l.getD 0 default).size+(l.getD 1 default).size≤Ex.cR l:=by
 match l,h with
 |a::b::l,_=>simp only[Ex.cR,List.getD_cons_zero,XO];omega
theorem awn{l:List Ex}(h:2<l.length):(l.getD 0 default).size+(l.getD 1 default).size+(l.getD 2 default).size≤Ex.cR l:=by
 match l,h with
 |a::b::c::l,_=>simp only[Ex.cR,List.getD_cons_zero,XO];omega
structure qw(x:Ex)(ins:Bool):Prop where
 nb:ie x ins
 nn:(x.args.length:Int)=nB x
 sub:∀ y∈x.args,form (ins || decide (x.kind=5)) y=true
 cn:x.kind=5→x.op=aI→x.args.getD 0 default=ff
theorem qw.of{x:Ex}{ins:Bool}(h:form ins x=true):qw x ins:=by
 obtain⟨h1,h2,h3,h4⟩:=(DI ins x).1 h
 exact⟨h1,h2,h3,h4⟩
theorem FO{u:List ar}(h:kv u=0):u.length≤4∧∀ f∈u,kC f:=by
 unfold kv at h
 split at h
 ·omega
 ·rename_i hl
  refine⟨by omega,?_⟩
  have:∀ (l:List ar) (p:Option ae),kx p l=0→∀ f∈l,kC f:=by
   intro l
   induction l with
   |nil=>intro p _ f hf;cases hf
   |cons g l ih=>
    intro p hp f hf
    rw[kx]at hp
    split at hp
    ·rename_i h0
     rcases ZV.1 hf with rfl|hf
     ·unfold py at h0
      split at h0
      ·omega
      ·rename_i hw
       have hw:=Y3.1 hw
       split at h0
       ·omega
       ·exact⟨hw.2.1,by omega,by omega,hw.1⟩
     ·exact ih _ hp f hf
    ·rename_i h0;exact absurd hp h0
  exact this u none h
theorem U9{t:Ty}(h:lq t=0):t.unit.length≤4∧(∀ f∈t.unit,kC f)∧t.of.size≤24:=by
 unfold lq at h
 split at h
 ·omega
 ·rename_i h3
  split at h
  ·omega
  ·rename_i h70
   have hu:kv t.unit=0:=Y3.1 fun h'=>h70 (.inl h')
   obtain⟨h1,h2⟩:=FO hu
   refine⟨h1,h2,?_⟩
   by_cases hk:t.kind=5
   ·have:Name t.of:=Y3.1 fun h'=>h3 (.inr (.inr (.inr (.inl ⟨hk,h'⟩))))
    exact this.1.2.1
   ·have:t.of=⟨#[]⟩:=Y3.1 fun h'=>h3 (.inr (.inr (.inr (.inr ⟨hk,h'⟩))))
    rw[this];decide
theorem RP{n:Int}(h:n≤1152921504606846976):(mn n).size≤21:=by
 show(Lib.decDigits n.toNat).toArray.size≤21
 rw[ZS];exact xu (by omega)
theorem Lg{t:Ty}(h:lq t=0):(1≤t.kind∧t.kind≤5)∧(t.unit≠[]→Num t)∧(t.kind=5→Name t.of)∧(t.kind≠5→t.of=⟨#[]⟩)∧(∀ f∈t.unit,Name f.name)∧kv t.unit=0:=by
 unfold lq at h
 split at h
 ·omega
 ·split at h
  ·omega
  ·refine⟨by omega,by grind,by grind,by grind,by grind,by grind⟩
theorem Lp{v:eP}(h:oQ v=0):sS v∧v.n≤1152921504606846976∧(v.kind=4→v.s.size≤64∧nO v.s 32)∧(v.kind=5→1≤v.s.size∧v.s.size≤32∧nO v.s 33):=by
 unfold oQ at h
 split at h
 ·omega
 ·split at h
  ·omega
  ·split at h
   ·omega
   ·rename_i h1 h2 h3
    refine⟨by grind,by omega,fun h4=>⟨by omega,by grind⟩,fun h5=>⟨?_,by omega,by grind⟩⟩
    have:¬v.s=⟨#[]⟩:=fun e=>h3 (.inr ⟨h5,.inl e⟩)
    have h0:v.s.size≠0:=fun e=>this (Fu.1 e)
    omega
theorem axE{v:eP}(hn:v.n≤1152921504606846976)(hk:v.kind=2∨v.kind=3):(wz v).size≤40:=by
 have hd:(Lib.decDigits v.n.toNat).length≤21:=xu (by omega)
 have hq:(Lib.decDigits (v.n.toNat / 10 ^ 6)).length≤21:=xu (by omega)
 unfold wz
 rw[Z9 (by omega)]
 split
 ·show(Lib.decDigits v.n.toNat).toArray.size≤40
  rw[ZS];omega
 ·rw[Z8 (by omega)]
  show(Lib.decDigits (v.n.toNat / 10 ^ 6)++46::eI 6 v.n.toNat).toArray.size≤40
  rw[ZS,Z5,Z6,rF];omega
theorem agd{x:Ex}(h:ny x):(vM x).size≤250:=by
 obtain⟨h1,h2,h3,h4⟩:=h
 have hv:o4 x.val:=⟨h1,h2⟩
 have hk:=hv.kinds
 have hs:=Vj hv
 obtain⟨hl,hu,ho⟩:=U9 h3
 have hn:=(Lg h3).2.1
 have hu:(rQ x.unit).size≤210:=Vc hu hl
 have hb:=(Lp h1).2.1
 simp only at ho hn
 unfold vM
 split
 ·((simp only[Z6,ZW,Z5,Z3,ZK,dQ,cS,fM,ZS];omega))
 ·rw[dQ]
  by_cases Eg:x.unit=[]
  ·rw[Eg]
   have:(rQ []).size=0:=rfl
   omega
  ·have:=axE hb (hn Eg)
   omega
theorem VE{w:gu}(h:mH w):(wF w).size≤40:=by
 have:= @RP w.size (by unfold mH at h;omega)
 unfold wF
 repeat' split
 all_goals first|decide|((simp only[Z6,ZW,Z5,Z3,ZK,dQ,cS,fM,ZS];omega))
theorem Nj:∀ s∈lI,s.size≤8:=by decide
theorem Nx:∀ s∈nR,s.size≤8:=by decide
theorem uN{x:Ex}{T:Nat→ae}{i:Nat}{r:Int}:(j0 x T i r).size≤(T i).size+2:=by
 unfold j0 par;split
 ·((simp only[Z6,ZW,Z5,Z3,ZK,dQ,cS,fM,ZS];omega))
 ·omega
theorem Lb(x:Ex):∀ ins,form ins x=true→(text x).size≤250 * x.size:=by
 induction x using Ex.ind with
 |h x ih=>
 intro ins hf
 have h:=qw.of hf
 have hT:∀ i,i<x.args.length→(tx x i).size≤250 * (x.args.getD i default).size:=fun i hi=>by
  rw[FM hi];exact ih _ (gb hi) _ (h.sub _ (gb hi))
 have hs:=Ex.wh x
 have hb:=h.nb
 have hn:=h.nn
 have Ec:=hn
 rw[La]
 unfold CF
 unfold nB at hn
 by_cases h1:x.kind=1
 ·rw[Z8 h1]
  have:=agd (x:=x) (by unfold ie at hb;rwa [Z8 h1]at hb)
  omega
 rw[Z9 h1]
 by_cases h4:x.kind=4
 ·rw[Z8 h4]
  rw[Z8 (.inl h4)]at hn
  have hN:oI x:=by unfold ie at hb;rw[Z9 (by omega),Z9 (by omega),Z8 (.inr h4)]at hb;exact hb.2
  have h5:=hN.1.1.2.1
  have h6:=hT 0 (by omega)
  have h7:=Uj (l:=x.args) (by omega)
  ((simp only[Z6,ZW,Z5,Z3,ZK,dQ,cS,fM,ZS];omega))
 rw[Z9 h4]
 by_cases h5:x.kind=5
 ·rw[Z8 h5]
  rw[Z9 (by omega),Z8 (.inl h5)]at hn
  have hA:sF x:=by unfold ie at hb;rw[Z9 (by omega),Z9 (by omega),Z9 (by omega),Z8 h5]at hb;exact hb.2
  obtain⟨⟨y,hy,ho⟩,ht,hw,hp, -⟩:=hA
  have e1:=Nj y hy
  rw[← ho]at e1
  have e2:=ht.1.2.1
  have e3:=VE hw
  have e4:(mn x.param).size≤21:=RP (by unfold qh at hp;repeat' split at hp
                                       all_goals omega)
  have e6:=hT 0 (by omega)
  have e7:=hT 1 (by omega)
  have e8:=KX (l:=x.args) (by omega)
  have a1:(if x.op=aI then(⟨#[]⟩:ae)else⟨#[44,32]⟩++tx x 0).size≤2+(tx x 0).size:=by
   split
   ·rw[cS];exact ZH _
   ·rw[dQ,cS];exact ZR _
  have a2:(if x.param=0 then(⟨#[]⟩:ae)else⟨#[44,32]⟩++mn x.param).size≤23:=by
   split
   ·decide
   ·rw[dQ,cS];show 2+_≤_;omega
  have a3:(if x.args.getD 1 default=ff then(⟨#[]⟩:ae)else⟨#[32,119,104,101,114,101,32]⟩++tx x 1).size≤7+(tx x 1).size:=by
   split
   ·rw[cS];exact ZH _
   ·rw[dQ,cS];exact ZR _
  unfold eV
  ((simp only[Z6,ZW,Z5,Z3,ZK,dQ,cS,fM,ZS];omega))
 rw[Z9 h5]
 by_cases h6:x.kind=6
 ·rw[Z8 h6]
  rw[Z8 (.inr h6)]at hn
  have e6:=hT 0 (by omega)
  have e7:=Uj (l:=x.args) (by omega)
  have e8:= @uN x (tx x) 0 8
  have e9:= @uN x (tx x) 0 4
  unfold zI
  repeat' split
  all_goals((simp only[Z6,ZW,Z5,Z3,ZK,dQ,cS,fM,ZS];omega))
 rw[Z9 h6]
 by_cases h7:x.kind=7
 ·rw[Z8 h7]
  rw[Z9 (by omega),Z8 (.inr (.inl h7))]at hn
  have hB:∃ y∈nR,x.op=y:=by unfold ie at hb;rw[Z9 (by omega),Z9 (by omega),Z9 (by omega),Z9 (by omega),Z9 (by omega),Z8 h7]at hb;exact hb.2
  obtain⟨y,hy,ho⟩:=hB
  have e1:=Nx y hy
  rw[← ho]at e1
  have e6:=hT 0 (by omega)
  have e7:=hT 1 (by omega)
  have e8:=KX (l:=x.args) (by omega)
  have e9:= @uN x (tx x) 0 (ke x)
  have e10:= @uN x (tx x) 1 (aK x+1)
  unfold xm
  ((simp only[Z6,ZW,Z5,Z3,ZK,dQ,cS,fM,ZS];omega))
 rw[Z9 h7]
 by_cases h8:x.kind=8
 ·rw[Z8 h8]
  rw[Z9 (by omega),Z9 (by omega),Z8 h8]at hn
  have e6:=hT 0 (by omega)
  have e7:=hT 1 (by omega)
  have e5:=hT 2 (by omega)
  have e8:=awn (l:=x.args) (by omega)
  unfold yq
  ((simp only[Z6,ZW,Z5,Z3,ZK,dQ,cS,fM,ZS];omega))
 rw[Z9 h8]
 by_cases h9:x.kind=9
 ·rw[Z8 h9]
  rw[Z9 (by omega),Z8 (.inr (.inr h9))]at hn
  have e6:=hT 0 (by omega)
  have e7:=hT 1 (by omega)
  have e8:=KX (l:=x.args) (by omega)
  have e9:= @uN x (tx x) 0 1
  have e10:= @uN x (tx x) 1 2
  unfold xv
  ((simp only[Z6,ZW,Z5,Z3,ZK,dQ,cS,fM,ZS];omega))
 rw[Z9 h9]
 have hN:oI x:=by
  unfold ie at hb
  rw[Z9 h1]at hb
  split at hb
  ·exact hb.2
  ·split at hb
   ·exact hb.2
   ·rw[Z9 (by omega)]at hb;exact hb.elim
 have h5:=hN.1.1.2.1
 omega
theorem aw9(x:Ex)(ins:Bool)(h:form ins x=true):(text x).size≤500 * x.size:=by have:=Lb x ins h;omega
end Go.Proofs.YtcccbdelfhgmlaaGreatDoor
