/- Lists of strings and of factors; units; types. -/
import Derived.Test.YthdeaajdmdmfnaaGreatDoorPt
import Derived.Test.YthdeaajdmdmfnaaGreatDoorCodeA
import Derived.Lib.ItoaLen
set_option linter.unusedSimpArgs false
set_option linter.unusedVariables false
set_option maxRecDepth 100000
namespace Go.Proofs.YthdeaajdmdmfnaaGreatDoor
open _root_.Go.Proofs.Tryz
open Go.Sx Go.Proofs
def firstIdx{α:Type}(p:α→Bool):List α→Nat→Int
 |[],_=> -1
 |x::l,k=>if p x then k else firstIdx p l (k+1)
theorem CA{α:Type}(p:α→Bool):∀ (l:List α) (k:Nat),0≤firstIdx p l k↔∃ x∈l,p x=true
 |[],k=>by simp[firstIdx]
 |x::l,k=>by
  unfold firstIdx
  cases h:p x with
  |true=>simp[h]
  |false=>simp[h,CA p l (k+1)]
theorem rZ{α:Type}{p:α→Bool}:∀ {l:List α} {k:Nat},(∀ x∈l,p x=false)→firstIdx p l k= -1
 |[],k,_=>rfl
 |x::l,k,h=>by unfold firstIdx;rw[h x (by simp)];exact rZ fun y hy=>h y (by simp[hy])
theorem rY{α:Type}[Inhabited α]{p:α→Bool}:∀ {l:List α} {k i:Nat},(∀ j,j<i→p (l.getD j default)=false)→i<l.length→p (l.getD i default)=true→firstIdx p l k=((k+i:Nat):Int)
 |[],k,i,_,h,_=>absurd h (by simp)
 |x::l,k,0,_,_,h=>by
  unfold firstIdx;grind
 |x::l,k,i+1,ha,hi,h=>by
  have h0:p x=false:=ha 0 (by omega)
  unfold firstIdx
  rw[rY (k:=k+1) (i:=i) (fun j hj=>ha (j+1) (by omega)) (by grind) h]
  grind
theorem nz{α:Type}[Inhabited α]{p:α→Prop}{l:List α}(h:∀ j,j<l.length→p (l.getD j default)):∀ x∈l,p x:=fun x hx=>by
 obtain⟨i,hi,rfl⟩:=YR.1 hx
 grind
theorem acS(l:List af)(x:af):Pure prog 268 [.sl false 1 (l.map iZ),sv x] (iv (firstIdx (fun y=>decide (x=y)) l 0)):=by
 refine ad3.p fun σ=> ?_
 repeat'(first|exact .nil|refine .k0 ?_|refine .k1 ?_|refine .k2 ?_|refine .k6 ?_|refine .r1 ?_ ?_|(refine .m2 ?_ ?_;intro hlen)|fail)
 all_goals(try simp only[BL]at *)
 refine cr (fun n rg σ'=>∃ i:Nat,i≤l.length∧n=l.length-i∧(∀ j,j<i→¬x=l.getD j default)∧σ'=σ∧rg=[(0,.sl false 1 (l.map iZ)),(1,sv x),(7,iv l.length),(8,iv i)]) l.length rfl ⟨_,_,Zr,Zs,0,ZM _,rfl,fun j hj=>absurd hj (by omega),rfl,rfl⟩ ?_
 rintro n _ _ ⟨i,hi,hn,hp,rfl,rfl⟩
 repeat'(first|exact .nil|refine .k0 ?_|refine .k1 ?_|refine .k2 ?_|refine .k6 ?_|refine .k7 ?_|refine .k8 ?_|refine .k9 ?_|(refine .cd ?_ ?_<;>(intro hc;skip))|refine .r1 ?_ ?_|refine .t1 ?_ ?_ ?_|fail)
 try any_goals(exact Zo)
 all_goals(try simp only[BL]at *)
 ·rw[rY (p:=fun y=>decide (x=y)) (l:=l) (k:=0) (i:=i) (fun j hj=>Zh (hp j hj)) (by omega) (YJ hc),ZH]
  exact Zw
 ·refine⟨l.length-(i+1),by omega,_,_,Zr,Zs,i+1,by omega,rfl,iM hp hc,rfl,by rw[cm (by omega) hlen]⟩
 ·rw[rZ (fun y hy=>Zh (nz (p:=fun y=>¬x=y) (fun j hj=>hp j (by omega)) y hy))]
  exact Zw
theorem F6(l:List af)(x:af):Pure prog 218 [.sl false 1 (l.map iZ),sv x] (.v (.bool (decide (∃ y∈l,x=y)))):=by
 refine adL.p fun σ=> ?_
 repeat'(first|exact .nil|refine .k0 ?_|refine .k1 ?_|refine .k2 ?_|refine .k7 ?_|refine .r1 ?_ ?_|refine .an rfl (by intro aI;exact acS _ _) ?_ ?_|fail)
 all_goals(try simp only[BL]at *)
 ·(refine Sx.Fin.intro Zs (bd ?_);(try simp only[BL]at *);(try simp only[jf,lG,j2,and_assoc]at *))
  rw[CA]
  simp only[ZR]
theorem aaZ(f:aC):Pure prog 173 [.agg f.cells] (.v (.bool (decide (¬Name f.name)))):=by
 refine ady.p fun σ=> ?_
 repeat'(first|exact .nil|refine .k0 ?_|refine .k1 ?_|refine .k2 ?_|refine .k7 ?_|refine .r1 ?_ ?_|(refine .m1 ?_ ?_;intro b)|refine .an rfl (by intro aI;exact qO _) ?_ ?_|fail)
 all_goals(try simp only[BL]at *)
 ·refine Sx.Fin.intro Zs ?_
  rw[decide_not]
theorem acP(u:List aC):Pure prog 217 [.sl false 2 (u.map aC.cells),.v (.func (.func 173) #[] #[])] (iv (firstIdx (fun f=>decide (¬Name f.name)) u 0)):=by
 refine PQ.p fun σ=> ?_
 repeat'(first|exact .nil|refine .k0 ?_|refine .k1 ?_|refine .k2 ?_|refine .k6 ?_|refine .r1 ?_ ?_|(refine .m2 ?_ ?_;intro hlen)|fail)
 all_goals(try simp only[BL]at *)
 refine cr (fun n rg σ'=>∃ i:Nat,i≤u.length∧n=u.length-i∧(∀ j,j<i→Name (u.getD j default).name)∧σ'=σ∧rg=[(0,.sl false 2 (u.map aC.cells)),(1,.v (.func (.func 173) #[] #[])),(7,iv u.length),(8,iv i)]) u.length rfl ⟨_,_,Zr,Zs,0,ZM _,rfl,fun j hj=>absurd hj (by omega),rfl,rfl⟩ ?_
 rintro n _ _ ⟨i,hi,hn,hp,rfl,rfl⟩
 repeat'(first|exact .nil|refine .k0 ?_|refine .k1 ?_|refine .k2 ?_|refine .k6 ?_|refine .k7 ?_|refine .k8 ?_|refine .k9 ?_|(refine .cd ?_ ?_<;>(intro hc;skip))|refine .r1 ?_ ?_|refine .t1 ?_ ?_ ?_|refine .an rfl (by intro aI;exact aaZ _) ?_ ?_|fail)
 try any_goals(exact Zo)
 all_goals(try simp only[BL]at *)
 ·rw[rY (p:=fun f:aC=>decide (¬Name f.name)) (l:=u) (k:=0) (i:=i) (fun j hj=>Zh (fun h=>h (hp j hj))) (by omega) (YJ hc),ZH]
  exact Zw
 ·refine⟨u.length-(i+1),by omega,_,_,Zr,Zs,i+1,by omega,rfl,iM hp (Yv.1 hc),rfl,by rw[cm (by omega) hlen]⟩
 ·rw[rZ (fun y hy=>Zh (fun h=>h (nz (p:=fun y:aC=>Name y.name) (fun j hj=>hp j (by omega)) y hy)))]
  exact Zw
theorem aae(u:List aC):Pure prog 172 [.sl false 2 (u.map aC.cells),.v (.func (.func 173) #[] #[])] (.v (.bool (decide (∃ f∈u,¬Name f.name)))):=by
 refine PK.p fun σ=> ?_
 repeat'(first|exact .nil|refine .k0 ?_|refine .k1 ?_|refine .k2 ?_|refine .k7 ?_|refine .r1 ?_ ?_|refine .an rfl (by intro aI;exact acP _) ?_ ?_|fail)
 all_goals(try simp only[BL]at *)
 ·(refine Sx.Fin.intro Zs (bd ?_);(try simp only[BL]at *);(try simp only[jf,lG,j2,and_assoc]at *))
  rw[CA]
  simp only[ZR]
theorem aaP{α:Type}[Inhabited α]{a b:List α}(hl:a.length=b.length)(h:∀ j,j<a.length→a.getD j default=b.getD j default):a=b:=by
 apply XW hl
 grind
theorem aa3{a b:aC}(h:a.name=b.name∧a.exp=b.exp):a=b:=by cases a;cases b;simp_all
theorem MV(a b:List aC):Pure prog 225 [.sl false 2 (a.map aC.cells),.sl false 2 (b.map aC.cells)] (.v (.bool (decide (a=b)))):=by
 refine adS.p fun σ=> ?_
 repeat'(first|exact .nil|refine .k0 ?_|refine .k1 ?_|refine .k2 ?_|refine .k6 ?_|refine .k7 ?_|refine .k9 ?_|(refine .cd ?_ ?_<;>(intro hc;skip))|refine .r1 ?_ ?_|(refine .m2 ?_ ?_;intro hlen)|fail)
 all_goals(try simp only[BL]at *)
 ·refine Sx.Fin.intro Zs (bf ?_)
  rintro rfl;exact hc rfl
 refine cr (fun n rg σ'=>∃ i:Nat,i≤a.length∧n=a.length-i∧(∀ j,j<i→a.getD j default=b.getD j default)∧σ'=σ∧rg=[(0,.sl false 2 (a.map aC.cells)),(1,.sl false 2 (b.map aC.cells)),(12,iv a.length),(13,iv i)]) a.length rfl ⟨_,_,Zr,Zs,0,ZM _,rfl,fun j hj=>absurd hj (by omega),rfl,rfl⟩ ?_
 rintro n _ _ ⟨i,hi,hn,hp,rfl,rfl⟩
 repeat'(first|exact .nil|refine .k0 ?_|refine .k1 ?_|refine .k2 ?_|refine .k5 ?_|refine .k6 ?_|refine .k7 ?_|refine .k8 ?_|refine .k9 ?_|(refine .cd ?_ ?_<;>(intro hc;skip))|refine .r1 ?_ ?_|refine .t1 ?_ ?_ ?_|fail)
 try any_goals(exact Zo)
 all_goals(try simp only[BL]at *)
 ·refine Sx.Fin.intro Zs (bf ?_)
  rintro rfl
  rcases hc with hc|hc<;>exact hc rfl
 ·refine⟨a.length-(i+1),by omega,_,_,Zr,Zs,i+1,by omega,rfl,iM hp (aa3 hc),rfl,by rw[cm (by omega) hlen]⟩
 ·refine Sx.Fin.intro Zs (bt ?_)
  exact aaP (by omega) (fun j hj=>hp j (by omega))
def Jv(a b:af):Bool:=Op.bytesLess a.toList b.toList || decide (a=b)
def pd(p:Option af)(f:aC):Int:=if¬Word f.name then 1 else if f.exp=0∨f.exp>8∨f.exp< -8 then 70 else match p with
 |some p=>if Jv f.name p=true then 3 else 0
 |none=>0
def nA:Option af→List aC→Int
 |_,[]=>0
 |p,f::l=>if pd p f=0 then nA (some f.name) l else pd p f
def jc(u:List aC):Int:=if u.length>4 then 2 else nA none u
def qS(u:List aC)(i:Nat):Option af:=if i=0 then none else some (u.getD (i-1) default).name
theorem ai7{u:List aC}{i:Nat}(hi:i<u.length)(h:pd (qS u i) (u.getD i default)=0):nA (qS u i) (u.drop i)=nA (qS u (i+1)) (u.drop (i+1)):=by
 rw[zq hi,nA,ZV h];rfl
theorem KQ{u:List aC}{i:Nat}{e:Int}(hi:i<u.length)(h:pd (qS u i) (u.getD i default)=e)(he:e≠0):nA (qS u i) (u.drop i)=e:=by
 rw[zq hi,nA,Z7 (by grind),h]
theorem SJ(u:List aC):Pure prog 171 [.sl false 2 (u.map aC.cells)] (iv (jc u)):=by
 refine PJ.p fun σ=> ?_
 repeat'(first|exact .nil|refine .k0 ?_|refine .k1 ?_|refine .k2 ?_|refine .k6 ?_|refine .k7 ?_|refine .k9 ?_|(refine .cd ?_ ?_<;>(intro hc;skip))|refine .r1 ?_ ?_|(refine .m2 ?_ ?_;intro hlen)|fail)
 all_goals(try simp only[BL]at *)
 ·rw[jc,ZV (by omega)]
  exact Zw
 have hu:jc u=nA none u:=Z7 (by omega)
 refine cr (fun n rg σ'=>∃ i:Nat,i≤u.length∧n=u.length-i∧jc u=nA (qS u i) (u.drop i)∧σ'=σ∧rg=[(0,.sl false 2 (u.map aC.cells)),(8,.sl false 2 (u.map aC.cells)),(9,iv u.length),(10,iv i)]) u.length rfl ⟨_,_,Zr,Zs,0,ZM _,rfl,hu,rfl,rfl⟩ ?_
 rintro n _ _ ⟨i,hi,hn,hp,rfl,rfl⟩
 repeat'(first|exact .nil|refine .k0 ?_|refine .k1 ?_|refine .k2 ?_|refine .k3 ?_|refine .k4 ?_|refine .k5 ?_|refine .k6 ?_|refine .k7 ?_|refine .k8 ?_|refine .k9 ?_|(refine .cd ?_ ?_<;>(intro hc;skip))|refine .r1 ?_ ?_|(refine .l1 ?_;intro b)|refine .t1 ?_ ?_ ?_|refine .an rfl (by intro aI;first|exact Tg _|exact Q6 _ 8 (by decide)|fail) ?_ ?_|fail)
 try any_goals(exact Zo)
 all_goals(try simp only[BL]at *)
 ·rw[hp,KQ (e:=1) (by omega) (by unfold pd;rw[ZV hc]) (by decide)]
  exact Zw
 ·rename_i hw
  rw[hp,KQ (e:=70) (by omega) (by unfold pd;rw[Z7 (fun h=>h hw),ZV (by omega)]) (by decide)]
  exact Zw
 ·rename_i hw he
  rw[JW (by omega) (by omega),XI]at hc
  rw[hp,KQ (e:=3) (by omega) (by
   unfold pd;rw[Z7 (fun h=>h hw),Z7 (by omega),qS,Z7 (by omega)]
   exact ZV (by simp only[Jv,YO,ZR];exact hc.2)) (by decide)]
  exact Zw
 ·rename_i hw he
  refine⟨u.length-(i+1),by omega,_,_,Zr,Zs,i+1,by omega,rfl,?_,rfl,by rw[cm (n:=u.length) (by omega) (by assumption)]⟩
  rw[hp]
  refine ai7 (by omega) ?_
  unfold pd;rw[Z7 (fun h=>h hw),Z7 (by omega)]
  by_cases h0:i=0
  ·rw[qS,ZV h0]
  ·rw[JW (by omega) (by omega),XI]at hc
   rw[qS,Z7 h0]
   refine Z7 ?_
   rcases hc with hc|hc
   ·omega
   ·simp only[Jv,YO,ZR]
    rintro(h|h)
    ·rw[h]at hc;exact Bool.noConfusion hc.1
    ·exact hc.2 h
 all_goals(try(intro h0;rw[JW (by omega) (by omega)];omega))
 ·rw[hp,List.drop_eq_nil_of_le (by omega),nA]
  exact Zw
theorem bi{n m:Int}(h:n=m):AV.v (.int .i64 n)=iv m:=by rw[h]
def Num(t:Ty):Prop:=t.kind=2∨t.kind=3
instance (t:Ty):Decidable (Num t):=inferInstanceAs (Decidable (_∨_))
theorem DF(t:Ty):Pure prog 170 [.agg t.cells] (.v (.bool (decide (Num t)))):=by
 refine adx.p fun σ=> ?_
 repeat'(first|exact .nil|refine .k0 ?_|refine .k1 ?_|refine .k2 ?_|refine .k4 ?_|refine .k7 ?_|refine .r1 ?_ ?_|(refine .m1 ?_ ?_;intro b)|fail)
 try any_goals(exact Zo)
 all_goals(try simp only[BL]at *)
 ·(((refine Sx.Fin.intro Zs (bd ?_);(try simp only[BL]at *);(try simp only[jf,lG,j2,and_assoc]at *)));try omega)
  unfold Num;omega
def kI(t:Ty):Int:=
 if t.kind<1∨t.kind>5∨(t.unit≠[]∧¬Num t)∨(t.kind=5∧¬Name t.of)∨(t.kind≠5∧t.of≠⟨#[]⟩)then 3
 else if jc t.unit≠0∨∃ f∈t.unit,¬Name f.name then 70 else 0
theorem afa{s:af}(h:Name s):s≠⟨#[]⟩:=fun e=>by have:=h.1.1;rw[Kp.2 e]at this;omega
theorem SG{t:Ty}(h:t.kind<1∨t.kind>5∨(t.unit≠[]∧¬Num t)∨(t.kind=5∧¬Name t.of)∨(t.kind≠5∧t.of≠⟨#[]⟩)):kI t=3:=ZV h
theorem ai3{t:Ty}(h:¬(t.kind<1∨t.kind>5∨(t.unit≠[]∧¬Num t)∨(t.kind=5∧¬Name t.of)∨(t.kind≠5∧t.of≠⟨#[]⟩)))(h':jc t.unit≠0∨∃ f∈t.unit,¬Name f.name):kI t=70:=(Z7 h).trans (ZV h')
theorem ai2{t:Ty}(h:¬(t.kind<1∨t.kind>5∨(t.unit≠[]∧¬Num t)∨(t.kind=5∧¬Name t.of)∨(t.kind≠5∧t.of≠⟨#[]⟩)))(h':¬(jc t.unit≠0∨∃ f∈t.unit,¬Name f.name)):kI t=0:=(Z7 h).trans (Z7 h')
theorem aeL{α:Type}{l:List α}:0<(l.length:Int)↔l≠[]:=by cases l<;>simp<;>omega
theorem yw(t:Ty):Pure prog 125 [.agg t.cells] (iv (kI t)):=by
 have hl:= @aeL aC t.unit
 have hn:= @afa t.of
 refine PE.p fun σ=> ?_
 repeat'(first|exact .nil|refine .k0 ?_|refine .k1 ?_|refine .k2 ?_|refine .k4 ?_|refine .k7 ?_|refine .k9 ?_|(refine .cd ?_ ?_<;>(intro hc;skip))|refine .r1 ?_ ?_|(refine .m1 ?_ ?_;intro b)|(refine .m2 ?_ ?_;intro hlen)|refine .an rfl (by intro aI;first|exact qO _|exact SJ _|exact aae _|exact DF _|fail) ?_ ?_|fail)
 try any_goals(exact Zo)
 all_goals(try simp only[BL]at *)
 ·rw[SG (by grind)]
  exact Zw
 ·cases(decide (t.kind=5) == !decide (t.of=⟨#[]⟩))<;>simp
 ·rw[SG (by grind)]
  exact Zw
 ·rename_i h1 h2
  rw[ai3 (by grind) hc]
  exact Zw
 ·rename_i h1 h2
  rw[ai2 (by grind) (by grind)]
  exact Zw
def pr(low:Nat)(c:UInt8):Prop:=low≤c.toNat∧c.toNat≤126∧c.toNat≠34∧c.toNat≠92
instance (low:Nat)(c:UInt8):Decidable (pr low c):=inferInstanceAs (Decidable (_∧_∧_∧_))
def ub(s:af)(low:Nat):Prop:=∀ i,i<s.size→pr low (iL s i)
instance (s:af)(low:Nat):Decidable (ub s low):=inferInstanceAs (Decidable (∀ i,i<s.size→_))
def uq(v:gh):Prop:=0≤v.kind∧v.kind≤5∧(v.kind≤3→v.s=⟨#[]⟩)∧(v.kind=0→v.n=0)∧(v.kind=1→v.n=0∨v.n=1)∧(4≤v.kind→v.n=0)
instance (v:gh):Decidable (uq v):=inferInstanceAs (Decidable (_∧_∧_∧_∧_∧_))
def rj(v:gh):Int:=
 if¬uq v then 1
 else if v.n< -1152921504606846976∨v.n>1152921504606846976∨(v.kind=4∧v.s.size>64)∨(v.kind=5∧v.s.size>32)then 2
 else if(v.kind=4∧¬ub v.s 32)∨(v.kind=5∧(v.s=⟨#[]⟩∨¬ub v.s 33))then 3 else 0
theorem ajg(v:gh):Pure prog 98 [.agg v.cells] (iv (rj v)):=by
 refine k98.p fun σ=> ?_
 repeat'(first|exact .nil|refine .k0 ?_|refine .k1 ?_|refine .k2 ?_|refine .k4 ?_|refine .k6 ?_|refine .k7 ?_|refine .k9 ?_|(refine .cd ?_ ?_<;>(intro hc;first|exact kf hc (by assumption)|skip))|refine .r1 ?_ ?_|(refine .m1 ?_ ?_;intro b)|fail)
 try any_goals(exact Zo)
 all_goals(try simp only[BL]at *)
 any_goals(refine Sx.Fin.intro Zs (bi ?_);unfold rj uq;grind)
 ·refine cr (fun n rg σ'=>∃ i:Nat,i≤v.s.size∧n=v.s.size-i∧(∀ j,j<i→pr 33 (iL v.s j))∧σ'=(1,b,aZ.cells v.cells)::σ∧rg=[(1,.lp 1 b 0),(6,.v (.int .u8 33)),(88,iv v.s.size),(89,iv i)]) v.s.size rfl ⟨_,_,Zr,Zs,0,ZM _,rfl,fun j hj=>absurd hj (by omega),rfl,rfl⟩ ?_
  rintro n _ _ ⟨i,hi,hn,hp,rfl,rfl⟩
  repeat'(first|exact .nil|refine .k0 ?_|refine .k1 ?_|refine .k2 ?_|refine .k4 ?_|refine .k6 ?_|refine .k7 ?_|refine .k8 ?_|refine .k9 ?_|(refine .cd ?_ ?_<;>(intro hc;skip))|refine .r1 ?_ ?_|refine .t5 ?_ ?_ ?_|fail)
  try any_goals(exact Zo)
  all_goals(try simp only[BL]at *)
  ·refine Sx.Fin.intro Zs (bi ?_)
   have:¬ub v.s 33:=fun h=>by have:=h i (by omega);unfold pr at this;omega
   unfold rj uq;grind
  ·refine⟨v.s.size-(i+1),by omega,_,_,Zr,Zs,i+1,by omega,rfl,iM hp ?_,rfl,by rw[dN (by omega)];rfl⟩
   unfold pr;omega
  ·refine Sx.Fin.intro Zs (bi ?_)
   have:ub v.s 33:=fun j hj=>hp j (by omega)
   unfold rj uq;grind
 ·refine cr (fun n rg σ'=>∃ i:Nat,i≤v.s.size∧n=v.s.size-i∧(∀ j,j<i→pr 32 (iL v.s j))∧σ'=(1,b,aZ.cells v.cells)::σ∧rg=[(1,.lp 1 b 0),(6,.v (.int .u8 32)),(88,iv v.s.size),(89,iv i)]) v.s.size rfl ⟨_,_,Zr,Zs,0,ZM _,rfl,fun j hj=>absurd hj (by omega),rfl,rfl⟩ ?_
  rintro n _ _ ⟨i,hi,hn,hp,rfl,rfl⟩
  repeat'(first|exact .nil|refine .k0 ?_|refine .k1 ?_|refine .k2 ?_|refine .k4 ?_|refine .k6 ?_|refine .k7 ?_|refine .k8 ?_|refine .k9 ?_|(refine .cd ?_ ?_<;>(intro hc;skip))|refine .r1 ?_ ?_|refine .t5 ?_ ?_ ?_|fail)
  try any_goals(exact Zo)
  all_goals(try simp only[BL]at *)
  ·refine Sx.Fin.intro Zs (bi ?_)
   have:¬ub v.s 32:=fun h=>by have:=h i (by omega);unfold pr at this;omega
   unfold rj uq;grind
  ·refine⟨v.s.size-(i+1),by omega,_,_,Zr,Zs,i+1,by omega,rfl,iM hp ?_,rfl,by rw[dN (by omega)];rfl⟩
   unfold pr;omega
  ·refine Sx.Fin.intro Zs (bi ?_)
   have:ub v.s 32:=fun j hj=>hp j (by omega)
   unfold rj uq;grind
def Ex.lay(x:Ex):List AV:=[iv x.kind,sv x.op,sv x.name,sv x.table,iv x.val.kind,iv x.val.n,sv x.val.s,.sl false 2 (x.unit.map aC.cells),iv x.param,iv x.win.kind,iv x.win.size,.sl false 12 (x.args.map Ex.row)]
theorem Ex.L9(x:Ex):x.args.length<x.size:=by
 have:∀ l:List Ex,l.length≤Ex.cX l:=fun l=>by
  induction l with
  |nil=>simp
  |cons y l ih=>have:=Ex.size_pos y;simp only[ZS,Ex.cX];omega
 have:=this x.args
 rw[Ex.Bj];omega
theorem Ex.aiA{x:Ex}{i:Nat}(h:i<x.args.length)(hs:x.size≤100000):IntKind.i64.wrap (((1+Ex.cX (x.args.take i):Nat):Int)+(x.args.getD i default).size)=((1+Ex.cX (x.args.take (i+1)):Nat):Int):=by
 have h1:=Ex.Sc h
 have h2:=Ex.Sd x.args (i+1)
 have h3:=Ex.Bj x
 rw[dN (by omega),h1];omega
theorem Ex.aiy{x:Ex}{i:Nat}(h:i<x.args.length):(if false=true then(if((x.args.getD i default).depth:Int)<(Ex.jG (x.args.take i):Int)then((x.args.getD i default).depth:Int)else Ex.jG (x.args.take i))else(if((x.args.getD i default).depth:Int)>(Ex.jG (x.args.take i):Int)then((x.args.getD i default).depth:Int)else Ex.jG (x.args.take i)))=((Ex.jG (x.args.take (i+1)):Nat):Int):=by
 rw[Z7 Bool.false_ne_true,Ex.aaq h]
 grind
theorem Ex.aaJ{x:Ex}{i:Nat}(h:x.args.length≤i)(hs:x.size≤100000):IntKind.i64.wrap ((Ex.jG (x.args.take i):Int)+1)=(x.depth:Int):=by
 have:=Ex.ME x
 have h2:=Ex.aar x
 rw[Zq h,dN (by omega)];omega
theorem aij(x:Ex):x.size≤100000→Pure prog 174 [.agg x.row] (iv x.size):=by
 induction x using Ex.ind with
 |h x ih=>
 intro hs
 have kC:∀ y∈x.args,Pure prog 174 [.agg y.row] (iv y.size):=fun y hy=>ih y hy (by have:=Ex.Ko hy;omega)
 have hl:=Ex.L9 x
 rw[Ex.kE]
 refine adz.p fun σ=> ?_
 repeat'(first|exact .nil|refine .k0 ?_|refine .k1 ?_|refine .k2 ?_|refine .k6 ?_|refine .r1 ?_ ?_|(refine .m1 ?_ ?_;intro b)|(refine .m2 ?_ ?_;intro hlen)|fail)
 all_goals(try simp only[BL]at *)
 refine cr (fun n rg σ'=>∃ i:Nat,i≤x.args.length∧n=x.args.length-i∧σ'=(1,b,aZ.cells x.lay)::σ∧rg=[(2,iv (1+Ex.cX (x.args.take i):Nat)),(6,.sl false 12 (x.args.map Ex.row)),(7,iv x.args.length),(8,iv i)]) x.args.length rfl ⟨_,_,Zr,Zs,0,ZM _,rfl,rfl,rfl⟩ ?_
 rintro n _ _ ⟨i,hi,hn,rfl,rfl⟩
 repeat'(first|exact .nil|refine .k0 ?_|refine .k1 ?_|refine .k2 ?_|refine .k6 ?_|refine .k7 ?_|refine .k8 ?_|refine .k9 ?_|(refine .cd ?_ ?_<;>(intro hc;skip))|refine .r1 ?_ ?_|(refine .l1 ?_;intro b)|refine .t1 ?_ ?_ ?_|refine .an rfl (by intro aI;exact kC (x.args.getD i default) (dp (by(simp only[BL]at *;omega)))) ?_ ?_|fail)
 try any_goals(exact Zo)
 all_goals(try simp only[BL]at *)
 ·refine⟨x.args.length-(i+1),by omega,_,_,Zr,Zs,i+1,by omega,rfl,rfl,?_⟩
  rw[Ex.aiA (by omega) hs,dN (by omega)];rfl
 ·rw[Zq (i:=i) (l:=x.args) (by omega),Ex.Bj]
  exact Zw
theorem aas(x:Ex):x.size≤100000→Pure prog 175 [.agg x.row] (iv x.depth):=by
 induction x using Ex.ind with
 |h x ih=>
 intro hs
 have kC:∀ y∈x.args,Pure prog 175 [.agg y.row] (iv y.depth):=fun y hy=>ih y hy (by have:=Ex.Ko hy;omega)
 have hl:=Ex.L9 x
 rw[Ex.kE]
 refine adA.p fun σ=> ?_
 repeat'(first|exact .nil|refine .k0 ?_|refine .k1 ?_|refine .k2 ?_|refine .k6 ?_|refine .r1 ?_ ?_|(refine .m1 ?_ ?_;intro b)|(refine .m2 ?_ ?_;intro hlen)|fail)
 all_goals(try simp only[BL]at *)
 refine cr (fun n rg σ'=>∃ i:Nat,i≤x.args.length∧n=x.args.length-i∧σ'=(1,b,aZ.cells x.lay)::σ∧rg=[(2,iv (Ex.jG (x.args.take i):Nat)),(6,.sl false 12 (x.args.map Ex.row)),(7,iv x.args.length),(8,iv i)]) x.args.length rfl ⟨_,_,Zr,Zs,0,ZM _,rfl,rfl,rfl⟩ ?_
 rintro n _ _ ⟨i,hi,hn,rfl,rfl⟩
 repeat'(first|exact .nil|refine .k0 ?_|refine .k1 ?_|refine .k2 ?_|refine .k6 ?_|refine .k7 ?_|refine .k8 ?_|refine .k9 ?_|(refine .cd ?_ ?_<;>(intro hc;skip))|refine .r1 ?_ ?_|(refine .l1 ?_;intro b)|refine .t1 ?_ ?_ ?_|refine .an rfl (by intro aI;exact kC (x.args.getD i default) (dp (by(simp only[BL]at *;omega)))) ?_ ?_|fail)
 try any_goals(exact Zo)
 all_goals(try simp only[BL]at *)
 ·refine⟨x.args.length-(i+1),by omega,_,_,Zr,Zs,i+1,by omega,rfl,rfl,?_⟩
  rw[Ex.aiy (by omega),dN (by omega)];rfl
 ·refine Sx.Fin.intro Zs (bi ?_)
  exact Ex.aaJ (by omega) hs
def Ex.lens(x:Ex):Nat:=x.op.size+x.name.size+x.table.size+x.val.s.size
mutual
def Ex.wt:Ex→Nat
 | .mk _ o n t v _ _ _ ks=>max (o.size+n.size+t.size+v.s.size) (Ex.ry ks)
def Ex.ry:List Ex→Nat
 |[]=>0
 |x::l=>max x.wt (Ex.ry l)
end
theorem Ex.Tk(x:Ex):x.wt=max x.lens (Ex.ry x.args):=by cases x;rfl
theorem Ex.ajI{l:List Ex}{y:Ex}(h:y∈l):y.wt≤Ex.ry l:=by
 induction l with
 |nil=>cases h
 |cons x l ih=>
  rw[Ex.ry]
  rcases ZK.1 h with rfl|h
  ·omega
  ·have:=ih h;omega
theorem Ex.ajJ{x y:Ex}(h:y∈x.args):y.wt≤x.wt:=by
 have:=Ex.ajI h
 rw[Ex.Tk x];omega
def Ex.ue(x:Ex)(n:Int):Prop:=n<1∨x.lens>300∨x.unit.length>10∨x.args.length>10∨∃ f∈x.unit,f.name.size>100
instance (x:Ex)(n:Int):Decidable (x.ue n):=inferInstanceAs (Decidable (_∨_∨_∨_∨_))
mutual
def few:Ex→Int→Int
 | .mk k o nm t v u p w ks,n=>if Ex.ue (.mk k o nm t v u p w ks) n then -1 else ic ks (n-1)
def ic:List Ex→Int→Int
 |[],n=>n
 |x::l,n=>if n<0 then n else ic l (few x n)
end
theorem zv(x:Ex)(n:Int):few x n=if x.ue n then -1 else ic x.args (n-1):=by cases x;rfl
mutual
theorem Gs:∀ (x:Ex) (n:Int), -1≤n→-1≤few x n∧few x n≤n∧(0≤few x n→few x n+x.size≤n)
 | .mk k o nm t v u p w ks,n,hn=>by
  rw[zv]
  split
  ·omega
  ·rename_i h
   have h1:¬n<1:=fun h'=>h (.inl h')
   have:=Nj ks (n-1) (by omega)
   rw[Ex.size]
   simp only[Ex.args]
   omega
theorem Nj:∀ (l:List Ex) (n:Int), -1≤n→-1≤ic l n∧ic l n≤n∧(0≤ic l n→ic l n+Ex.cX l≤n)
 |[],n,hn=>by rw[ic,Ex.cX];omega
 |x::l,n,hn=>by
  rw[ic,Ex.cX]
  split
  ·omega
  ·have h1:=Gs x n hn
   have h2:=Nj l (few x n) h1.1
   omega
end
theorem abf{l:List Ex}{n:Int}(h:n<0):ic l n=n:=by
 cases l with
 |nil=>rfl
 |cons x l=>rw[ic,ZV h]
theorem abe{x:Ex}{i:Nat}{n:Int}(hi:i<x.args.length)(h:¬n<0):ic (x.args.drop i) n=ic (x.args.drop (i+1)) (few (x.args.getD i default) n):=by
 rw[zq hi,ic,Z7 h]
theorem Nl(x:Ex):x.wt≤2 ^ 60→∀ n:Int, -1≤n∧n≤1000→Pure prog 27 [.agg x.row,iv n] (iv (few x n)):=by
 induction x using Ex.ind with
 |h x ih=>
 intro hs n0 IC
 have kC:∀ y∈x.args,∀ n:Int, -1≤n∧n≤1000→Pure prog 27 [.agg y.row,iv n] (iv (few y n)):=fun y hy=>ih y hy (by have:=Ex.ajJ hy;omega)
 have hw:=Ex.Tk x
 have pH:x.lens=x.op.size+x.name.size+x.table.size+x.val.s.size:=rfl
 have akd:x.op.size+x.name.size+x.table.size+x.val.s.size≤1152921504606846976:=by omega
 rw[Ex.kE]
 refine k27.p fun σ=> ?_
 repeat'(first|exact .nil|refine .k0 ?_|refine .k1 ?_|refine .k2 ?_|refine .k3 ?_|refine .k4 ?_|refine .k6 ?_|refine .k7 ?_|refine .k9 ?_|(refine .cd ?_ ?_<;>(intro hc;skip))|refine .r1 ?_ ?_|(refine .m1 ?_ ?_;intro b)|(refine .m2 ?_ ?_;intro hlen)|fail)
 try any_goals(exact Zo)
 all_goals(try simp only[BL]at *)
 all_goals have vi:IntKind.i64.wrap (IntKind.i64.wrap (IntKind.i64.wrap ((x.op.size:Int)+x.name.size)+x.table.size)+x.val.s.size)=(x.lens:Int):=by rw[dN (n:=(x.op.size:Int)+x.name.size) (by omega),dN (n:=(x.op.size:Int)+x.name.size+x.table.size) (by omega),dN (by omega)];omega
 all_goals rw[vi]at hc
 ·refine Sx.Fin.intro Zs (bi ?_)
  rw[zv,ZV (by unfold Ex.ue;omega)]
 refine cr (fun n rg σ'=>∃ i:Nat,i≤x.unit.length∧n=x.unit.length-i∧(∀ j,j<i→¬(x.unit.getD j default).name.size>100)∧σ'=(2,b,aZ.cells x.lay)::σ∧rg=[(1,iv n0),(2,.lp 2 b 0),(5,iv i)]) x.unit.length rfl ⟨_,_,Zr,Zs,0,ZM _,rfl,fun j hj=>absurd hj (by omega),rfl,rfl⟩ ?_
 rintro n _ _ ⟨i,hi,hn,hp,rfl,rfl⟩
 repeat'(first|exact .nil|refine .k0 ?_|refine .k1 ?_|refine .k2 ?_|refine .k6 ?_|refine .k7 ?_|refine .k8 ?_|refine .k9 ?_|(refine .cd ?_ ?_<;>(intro hc;skip))|refine .r1 ?_ ?_|(refine .m2 ?_ ?_;intro hlen)|refine .t1 ?_ ?_ ?_|fail)
 try any_goals(exact Zo)
 all_goals(try simp only[BL]at *)
 ·refine Sx.Fin.intro Zs (bi ?_)
  rw[zv,ZV (.inr (.inr (.inr (.inr ⟨_,dp (i:=i) (by omega),by omega⟩))))]
 ·refine⟨x.unit.length-(i+1),by omega,_,_,Zr,Zs,i+1,by omega,rfl,iM hp (by omega),rfl,by rw[cm (n:=x.unit.length) (by omega) (by assumption)]⟩
 have cV:=nz (p:=fun f:aC=>¬f.name.size>100) (l:=x.unit) (fun j hj=>hp j (by omega))
 have mQ:¬x.ue n0:=by rintro(h|h|h|h|⟨f,h1,h2⟩);all_goals first|omega|exact cV f h1 h2
 have ab7:few x n0=ic x.args (n0-1):=by rw[zv,Z7 mQ]
 have im:IntKind.i64.wrap (n0-1)=n0-1:=dN (by omega)
 rw[im]
 refine cr (fun n rg σ'=>∃ (i:Nat) (m:Int),i≤x.args.length∧n=x.args.length-i∧few x n0=ic (x.args.drop i) m∧(-1≤m∧m≤1000)∧σ'=(2,b,aZ.cells x.lay)::σ∧rg=[(1,iv m),(2,.lp 2 b 0),(6,iv i)]) x.args.length rfl ⟨_,_,Zr,Zs,0,n0-1,ZM _,rfl,ab7,by omega,rfl,rfl⟩ ?_
 rintro n _ _ ⟨i,m,hi,hn,hp,hm,rfl,rfl⟩
 repeat'(first|exact .nil|refine .k0 ?_|refine .k1 ?_|refine .k2 ?_|refine .k4 ?_|refine .k6 ?_|refine .k7 ?_|refine .k8 ?_|refine .k9 ?_|(refine .cd ?_ ?_<;>(intro hc;skip))|refine .r1 ?_ ?_|(refine .m2 ?_ ?_;intro hlen)|refine .t1 ?_ ?_ ?_|refine .an rfl (by intro aI;exact kC (x.args.getD i default) (dp (by(simp only[BL]at *;omega))) _ (by first|omega|fail)) ?_ ?_|fail)
 try any_goals(exact Zo)
 all_goals(try simp only[BL]at *)
 ·have:=Gs (x.args.getD i default) m hm.1
  refine⟨x.args.length-(i+1),by omega,_,_,Zr,Zs,i+1,_,by omega,rfl,by rw[hp,abe (by omega) (by omega)],by omega,rfl,by rw[cm (n:=x.args.length) (by omega) (by omega)]⟩
 ·refine Sx.Fin.intro Zs (bi ?_)
  rw[hp]
  by_cases h:m<0
  ·rw[abf h]
  ·rw[List.drop_eq_nil_of_le (by omega),ic]
def we(t:Ty):Ex:=⟨0,⟨#[]⟩,t.of,⟨#[]⟩,⟨0,0,⟨#[]⟩⟩,t.unit,0,⟨0,0⟩,[]⟩
theorem ai4(t:Ty):(we t).lens=t.of.size:=by show 0+t.of.size+0+0=_;omega
theorem ai5(t:Ty):(we t).wt=t.of.size:=by show max (0+t.of.size+0+0) 0=_;omega
def oU(t:Ty):Prop:=t.of.size≤300∧t.unit.length≤10∧∀ f∈t.unit,f.name.size≤100
instance (t:Ty):Decidable (oU t):=inferInstanceAs (Decidable (_∧_∧_))
theorem Md(t:Ty):(we t).ue 1↔¬oU t:=by
 show((1:Int)<1∨(we t).lens>300∨t.unit.length>10∨0>10∨∃ f∈t.unit,f.name.size>100)↔_
 rw[ai4]
 unfold oU
 grind
theorem abk(t:Ty):0≤few (we t) 1↔oU t:=by
 rw[zv]
 by_cases h:(we t).ue 1
 ·rw[ZV h]
  have:=(Md t).1 h
  grind
 ·rw[Z7 h]
  have:oU t:=Yv.1 fun h'=>h ((Md t).2 h')
  show 0≤ic [] (1-1)↔_
  rw[ic]
  grind
theorem Nk(t:Ty)(h:t.of.size≤2 ^ 59):Pure prog 26 [.agg t.cells] (.v (.bool (decide (oU t)))):=by
 refine k26.p fun σ=> ?_
 repeat'(first|exact .nil|refine .k0 ?_|refine .k1 ?_|refine .k2 ?_|refine .k7 ?_|refine .r1 ?_ ?_|(refine .m1 ?_ ?_;intro b)|refine .an rfl (by intro aI;exact(Nl (we t) (by rw[ai5];omega) 1 (by omega)).wk (by repeat' first|exact .refl _|exact .nil|refine .cons ?_ ?_|refine .agg ?_|fail)) ?_ ?_|fail)
 all_goals(try simp only[BL]at *)
 ·refine Sx.Fin.intro Zs (bd ?_)
  rw[← abk];simp
end Go.Proofs.YthdeaajdmdmfnaaGreatDoor
namespace Go.Sx
open Go.Proofs.YthdeaajdmdmfnaaGreatDoor
theorem Wk.row{l:List Ex}{nn:Bool}:Wk (.sl nn 12 (l.map Ex.row)) (.sl nn 12 (l.map Ex.cells)):=by rw[Ex.o3];exact Wk.refl _
end Go.Sx
namespace Go.Proofs.YthdeaajdmdmfnaaGreatDoor
open _root_.Go.Proofs.Tryz
open Go.Sx Go.Proofs
def Ex.Flat(a b:Ex):Prop:=a.kind=b.kind∧a.op=b.op∧a.name=b.name∧a.table=b.table∧a.val=b.val∧a.unit=b.unit∧a.param=b.param∧a.win=b.win
instance (a b:Ex):Decidable (a.Flat b):=inferInstanceAs (Decidable (_∧_∧_∧_∧_∧_∧_∧_))
theorem aje{a b:gh}:a=b↔a.kind=b.kind∧a.n=b.n∧a.s=b.s:=by cases a;cases b;simp
theorem ajB{a b:qe}:a=b↔a.kind=b.kind∧a.size=b.size:=by cases a;cases b;simp
theorem wP(a b:Ex):Pure prog 219 [.agg a.row,.agg b.row] (.v (.bool (decide (a.Flat b)))):=by
 rw[Ex.kE a,Ex.kE b]
 refine adM.p fun σ=> ?_
 repeat'(first|exact .nil|refine .k0 ?_|refine .k1 ?_|refine .k2 ?_|refine .k4 ?_|refine .k7 ?_|refine .r1 ?_ ?_|(refine .m1 ?_ ?_;intro b)|refine .an rfl (by intro aI;exact MV _ _) ?_ ?_|fail)
 all_goals(try simp only[BL]at *)
 ·refine Sx.Fin.intro Zs (bd ?_)
  unfold Ex.Flat;rw[aje,ajB];grind
def lA:Ex:=⟨1,⟨#[]⟩,⟨#[]⟩,⟨#[]⟩,⟨1,1,⟨#[]⟩⟩,[],0,⟨0,0⟩,[]⟩
theorem SE:Pure prog 43 [] (.agg lA.row):=by
 refine DK.p fun σ=> ?_
 repeat'(first|exact .nil|refine .k0 ?_|refine .k1 ?_|refine .k2 ?_|refine .k7 ?_|refine .r1 ?_ ?_|(refine .l1 ?_;intro b)|fail)
 all_goals(try simp only[BL]at *)
 ·refine Sx.Fin.wk Zs (Wk.agg ?_)
  show ct _ lA.lay
  unfold Ex.lay
  repeat' first|exact .refl _|exact .nil|refine .cons ?_ ?_|fail
def E1(w:qe):Prop:=(w.kind=1∧w.size=0)∨(1<w.kind∧w.kind≤4∧1≤w.size∧w.size≤1099511627776)
instance (w:qe):Decidable (E1 w):=inferInstanceAs (Decidable (_∨_∧_∧_∧_))
def Jw(x:Ex):Ex:=⟨1,⟨#[]⟩,x.name,⟨#[]⟩,x.val,x.unit,0,⟨0,0⟩,[]⟩
def AR(x:Ex):Prop:=rj x.val=0∧0≤x.val.n∧kI ⟨x.val.kind,x.unit,x.name⟩=0∧x.Flat (Jw x)
instance (x:Ex):Decidable (AR x):=inferInstanceAs (Decidable (_∧_∧_∧_))
def FI(x:Ex):Ex:=⟨5,x.op,⟨#[]⟩,x.table,⟨0,0,⟨#[]⟩⟩,[],x.param,x.win,[]⟩
def A5(x:Ex):Prop:=if x.op=⟨#[113,117,97,110,116,105,108,101]⟩then 1≤x.param∧x.param≤1000 else if x.op=⟨#[100,101,99,97,121]⟩then 1≤x.param∧x.param≤1073741824 else x.param=0
instance (x:Ex):Decidable (A5 x):=by unfold A5;infer_instance
def yZ(x:Ex):Prop:=(∃ y∈FL,x.op=y)∧Name x.table∧E1 x.win∧A5 x∧x.Flat (FI x)
instance (x:Ex):Decidable (yZ x):=inferInstanceAs (Decidable (_∧_∧_∧_∧_))
def QE(x:Ex):Ex:=⟨x.kind,⟨#[]⟩,x.name,⟨#[]⟩,⟨0,0,⟨#[]⟩⟩,[],0,⟨0,0⟩,[]⟩
def A0(x:Ex):Ex:=⟨x.kind,x.op,⟨#[]⟩,⟨#[]⟩,⟨0,0,⟨#[]⟩⟩,[],0,⟨0,0⟩,[]⟩
def vA(x:Ex):Prop:=Name x.name∧x.Flat (QE x)
instance (x:Ex):Decidable (vA x):=inferInstanceAs (Decidable (_∧_))
def qR(x:Ex):Int:=if x.kind=4∨x.kind=6 then 1 else if x.kind=5∨x.kind=7∨x.kind=9 then 2 else if x.kind=8 then 3 else 0
def qQ(x:Ex)(ins:Bool):Prop:=
 if x.kind=1 then AR x else if x.kind=2 then ins=true∧vA x else if x.kind=3∨x.kind=4 then ins=false∧vA x
 else if x.kind=5 then ins=false∧yZ x else if x.kind=6 then x.Flat (A0 x)∧∃ y∈EO,x.op=y
 else if x.kind=7 then x.Flat (A0 x)∧∃ y∈B9,x.op=y else if x.kind=8∨x.kind=9 then x.Flat (A0 x)∧x.op=⟨#[]⟩else False
instance (x:Ex)(ins:Bool):Decidable (qQ x ins):=by unfold qQ;infer_instance
mutual
def Ex.Gg:Ex→Ex→Bool
 | .mk k o n t v u p w ks,.mk k' o' n' t' v' u' p' w' oz=>decide (k=k'∧o=o'∧n=n'∧t=t'∧v=v'∧u=u'∧p=p'∧w=w') && Ex.um ks oz
def Ex.um:List Ex→List Ex→Bool
 |[],[]=>true
 |x::l,y::m=>x.Gg y && Ex.um l m
 |[],_::_=>false
 |_::_,[]=>false
end
mutual
theorem Ex.MQ:∀ a b:Ex,a.Gg b=true↔a=b
 | .mk k o n t v u p w ks,.mk k' o' n' t' v' u' p' w' oz=>by
  rw[Ex.Gg,Z8,ZR,Ex.MS ks oz,Ex.mk.injEq]
  simp only[and_assoc]
theorem Ex.MS:∀ a b:List Ex,Ex.um a b=true↔a=b
 |[],[]=>by simp[Ex.um]
 |x::l,y::m=>by rw[Ex.um,Z8,Ex.MQ x y,Ex.MS l m,Z2]
 |[],_::_=>by simp[Ex.um]
 |_::_,[]=>by simp[Ex.um]
end
instance:DecidableEq Ex:=fun a b=>decidable_of_iff _ (Ex.MQ a b)
theorem Ex.eq_iff{a b:Ex}:a=b↔a.Flat b∧a.args=b.args:=by
 cases a;cases b
 simp only[Ex.mk.injEq,Ex.Flat,Ex.kind,Ex.op,Ex.name,Ex.table,Ex.val,Ex.unit,Ex.param,Ex.win,Ex.args,and_assoc]
theorem bq{b c:Bool}(h:b=true↔c=true):AV.v (.bool b)=AV.v (.bool c):=by rw[YN.2 h]
def bJ:af:=⟨#[99,111,117,110,116]⟩
mutual
def form:Bool→Ex→Bool
 |ins,.mk k o n t v u p w ks=>decide (qQ (.mk k o n t v u p w ks) ins) && decide ((ks.length:Int)=qR (.mk k o n t v u p w ks)) && zA (ins || decide (k=5)) ks && (decide (¬(k=5∧o=bJ)) || decide (ks.getD 0 default=lA))
def zA:Bool→List Ex→Bool
 |_,[]=>true
 |ins,x::l=>form ins x && zA ins l
end
theorem NA(ins:Bool):∀ l:List Ex,zA ins l=true↔∀ x∈l,form ins x=true
 |[]=>by simp[zA]
 |x::l=>by simp[zA,NA ins l]
theorem ux(ins:Bool)(x:Ex):form ins x=true↔qQ x ins∧(x.args.length:Int)=qR x∧(∀ y∈x.args,form (ins || decide (x.kind=5)) y=true)∧(x.kind=5→x.op=bJ→x.args.getD 0 default=lA):=by
 cases x
 rw[form]
 simp only[Z8,YO,ZR,NA,Ex.args,Ex.kind,Ex.op]
 constructor
 ·rintro⟨⟨⟨h1,h2⟩,h3⟩,h4⟩
  exact⟨h1,h2,h3,fun a b=>h4.resolve_left fun h=>h ⟨a,b⟩⟩
 ·rintro⟨h1,h2,h3,h4⟩
  refine⟨⟨⟨h1,h2⟩,h3⟩,Decidable.or_iff_not_imp_left.2 fun h=> ?_⟩
  have:=Yv.1 h
  exact h4 this.1 this.2
set_option maxHeartbeats 4000000
def MO(x:Ex):Ex:=⟨x.kind,⟨#[]⟩,⟨#[]⟩,⟨#[]⟩,⟨0,0,⟨#[]⟩⟩,[],0,⟨0,0⟩,[]⟩
def Jy(x:Ex):Ex:=⟨x.kind,⟨#[]⟩,x.name,⟨#[]⟩,x.val,x.unit,0,⟨0,0⟩,[]⟩
def FJ(x:Ex):Ex:=⟨x.kind,x.op,⟨#[]⟩,x.table,⟨0,0,⟨#[]⟩⟩,[],x.param,x.win,[]⟩
theorem flat_lit(x:Ex)(h:x.kind=1):x.Flat (Jw x)↔x.Flat (Jy x):=by unfold Jw Jy;rw[h]
theorem flat_agg(x:Ex)(h:x.kind=5):x.Flat (FI x)↔x.Flat (FJ x):=by unfold FI FJ;rw[h]
theorem Nw(x:Ex):x.Flat (MO x)↔x.Flat (A0 x)∧x.op=⟨#[]⟩:=by
 show _∧x.op=⟨#[]⟩∧_↔(_∧x.op=x.op∧_)∧_
 constructor
 ·rintro⟨h1,h2,h3⟩;exact⟨⟨h1,rfl,h3⟩,h2⟩
 ·rintro⟨⟨h1, -,h3⟩,h2⟩;exact⟨h1,h2,h3⟩
theorem RD:(⟨#[113,117,97,110,116,105,108,101]⟩:af)≠⟨#[100,101,99,97,121]⟩:=by decide
def rF(x:Ex)(ins:Bool):Prop:=form ins x=true↔(∀ y∈x.args,form (ins || decide (x.kind=5)) y=true)∧(x.kind=5→x.op=bJ→x.args.getD 0 default=lA)
theorem abm{x:Ex}{ins q:Bool}{i:Nat}(hF:rF x ins)(hq:q=(ins || decide (x.kind=5)))(hi:i<x.args.length)(hc:form q (x.args.getD i default)=false):false=true↔form ins x=true:=by
 unfold rF at hF
 rw[hF,← hq]
 constructor
 ·intro h;exact Bool.noConfusion h
 ·rintro⟨h, -⟩
  have:=h _ (dp hi)
  rw[hc]at this
  exact this
theorem abz{q:Bool}{y:Ex}(h:form q y=true)(hf:y.Flat lA):y=lA:=by
 rw[ux]at h
 have hk:y.kind=1:=hf.1
 have hn:qR y=0:=by unfold qR;rw[Z7 (by omega),Z7 (by omega),Z7 (by omega)]
 have:y.args=[]:=Zt (by omega)
 exact Ex.eq_iff.2 ⟨hf,this⟩
theorem Nn{x:Ex}{q:Bool}{i:Nat}(hi:x.args.length≤i)(hp:∀ j,j<i→form q (x.args.getD j default)=true):∀ y∈x.args,form q y=true:=nz (p:=fun y=>form q y=true) fun j hj=>hp j (by omega)
theorem abl{x:Ex}{ins q:Bool}(hF:rF x ins)(hq:q=(ins || decide (x.kind=5)))(cV:∀ y∈x.args,form q y=true)(h0:0<x.args.length)(hc:x.op=⟨#[99,111,117,110,116]⟩∧x.kind=5):decide ((x.args.getD 0 default).Flat lA)=true↔form ins x=true:=by
 unfold rF at hF
 rw[hF,← hq,ZR]
 constructor
 ·intro h;exact⟨cV,fun _ _=>abz (cV _ (dp h0)) h⟩
 ·rintro⟨-,h⟩;rw[h hc.2 hc.1];decide
theorem abn{x:Ex}{ins q:Bool}(hF:rF x ins)(hq:q=(ins || decide (x.kind=5)))(cV:∀ y∈x.args,form q y=true)(hc:¬x.op=⟨#[99,111,117,110,116]⟩∨¬x.kind=5):true=true↔form ins x=true:=by
 unfold rF at hF
 rw[hF,← hq]
 refine⟨fun _=>⟨cV,fun h1 h2=> ?_⟩,fun _=>rfl⟩
 rcases hc with h|h
 ·exact absurd h2 h
 ·exact absurd h1 h
theorem afG(x:Ex):∀ ins,Pure prog 176 [.agg x.row,.v (.bool ins)] (.v (.bool (form ins x))):=by
 induction x using Ex.ind with
 |h x ih=>
 intro ins
 have kC:=ih
 rw[Ex.kE x]
 refine adB.p fun σ=> ?_
 repeat'(first|exact .nil|refine .k0 ?_|refine .k1 ?_|refine .k2 ?_|refine .k3 ?_|refine .k4 ?_|refine .k6 ?_|refine .k7 ?_|refine .k9 ?_|(refine .cd ?_ ?_<;>(intro hc;first|exact kf hc (by assumption)|skip))|refine .r1 ?_ ?_|(refine .l1 ?_;intro b)|(refine .m1 ?_ ?_;intro b)|(refine .m2 ?_ ?_;intro hlen)|refine .an rfl (by intro aI;first|exact ajg x.val|exact yw ⟨x.val.kind,x.unit,x.name⟩|exact qO _|exact F6 FL x.op|exact F6 EO x.op|exact F6 B9 x.op|(refine(wP x (Jy x)).wk ?_;(repeat' first|exact .row|exact .refl _|exact .nil|refine .cons ?_ ?_|refine .agg ?_|fail);done)|(refine(wP x (QE x)).wk ?_;(repeat' first|exact .row|exact .refl _|exact .nil|refine .cons ?_ ?_|refine .agg ?_|fail);done)|(refine(wP x (FJ x)).wk ?_;(repeat' first|exact .row|exact .refl _|exact .nil|refine .cons ?_ ?_|refine .agg ?_|fail);done)|(refine(wP x (A0 x)).wk ?_;(repeat' first|exact .row|exact .refl _|exact .nil|refine .cons ?_ ?_|refine .agg ?_|fail);done)|(refine(wP x (MO x)).wk ?_;(repeat' first|exact .row|exact .refl _|exact .nil|refine .cons ?_ ?_|refine .agg ?_|fail);done)|fail) ?_ ?_|refine .r9 ?_ ?_|fail)
 try any_goals(exact Zo)
 all_goals(try simp only[BL]at *)
 all_goals first
  |(exfalso;omega)
  |(with_reducible refine Sx.Fin.intro ?_ (bq ?_)
    rotate_left
    rw[ux]
    have h1:=flat_lit x
    have h2:=flat_agg x
    have h3:=Nw x
    have hqd:=RD
    clear ih kC
    focus grind [qQ,qR,AR,yZ,vA,A5,E1]
    repeat' first|exact .refl _|refine .cons ?_)
  |skip
 all_goals
  have hF:rF x ins:=by
   unfold rF
   rw[ux]
   have h1:=flat_lit x
   have h2:=flat_agg x
   have h3:=Nw x
   have hqd:=RD
   clear ih kC
   grind [qQ,qR,AR,yZ,vA,A5,E1]
 all_goals have hN:x.kind=5→x.args.length=2:=by intro h;omega
 all_goals refine cr (fun n rg σ'=>∃ (i:Nat) (q:Bool) (b0 b:Nat) (c:List AV),q=(ins || decide (x.kind=5))∧i≤x.args.length∧n=x.args.length-i∧(∀ j,j<i→form q (x.args.getD j default)=true)∧σ'=(5,b,aZ.cells c)::(2,b0,aZ.cells x.lay)::σ∧rg=[(1,.v (.bool q)),(2,.lp 2 b0 0),(186,.sl false 12 (x.args.map Ex.row)),(187,iv x.args.length),(188,iv i)]) x.args.length rfl ⟨_,_,Zr,Zs,0,_,_,_,_,by simp[*],ZM _,rfl,fun j hj=>absurd hj (by omega),rfl,rfl⟩ ?_
 all_goals clear hlen
 all_goals rintro n _ _ ⟨i,q,b0,b,c,hq,hi,hn,hp,rfl,rfl⟩
 all_goals clear ih
 repeat'(first|exact .nil|refine .k0 ?_|refine .k1 ?_|refine .k2 ?_|refine .k4 ?_|refine .k6 ?_|refine .k7 ?_|refine .k8 ?_|refine .k9 ?_|(refine .cd ?_ ?_<;>(intro hc;skip))|refine .r1 ?_ ?_|(refine .l1 ?_;intro b)|refine .t1 ?_ ?_ ?_|refine .an rfl (by intro aI;first|(refine(wP (x.args.getD 0 default) lA).wk ?_;(repeat' first|exact .refl _|exact .nil|refine .cons ?_ ?_|refine .agg ?_|fail);done)|exact kC (x.args.getD i default) (dp (by(simp only[BL]at *;omega))) _) ?_ ?_|fail)
 try any_goals(exact Zo)
 all_goals(try simp only[BL]at *)
 all_goals first
  |(with_reducible refine Sx.Fin.intro ?_ (bq ?_)
    rotate_left
    focus first
     |exact abm hF hq (by omega) hc
     |exact abl hF hq (Nn (by omega) hp) (by omega) hc
     |exact abn hF hq (Nn (by omega) hp) hc
    repeat' first|exact .refl _|refine .cons ?_)
  |(refine⟨x.args.length-(i+1),by omega,_,_,Zr,Zs,i+1,_,_,_,_,hq,by omega,rfl,iM hp hc,rfl,by rw[dN (by omega)];rfl⟩)
  |trace_state
set_option maxHeartbeats 4000000
def shape(x:Ex):Int:=if 64<x.size∨12<x.depth then 2 else if form false x=true then 0 else 3
theorem Ew(x:Ex)(hs:x.size≤100000):Pure prog 126 [.agg x.row] (iv (shape x)):=by
 rw[Ex.kE x]
 refine adm.p fun σ=> ?_
 repeat'(first|exact .nil|refine .k0 ?_|refine .k1 ?_|refine .k2 ?_|refine .k4 ?_|refine .k7 ?_|refine .k9 ?_|(refine .cd ?_ ?_<;>(intro hc;skip))|refine .r1 ?_ ?_|(refine .m1 ?_ ?_;intro b)|refine .an rfl (by intro aI;first|(refine(aij x (by first|omega|fail)).wk ?_;(repeat' first|exact .row|exact .refl _|refine .cons ?_ ?_|refine .agg ?_|fail);done)|(refine(aas x (by first|omega|fail)).wk ?_;(repeat' first|exact .row|exact .refl _|refine .cons ?_ ?_|refine .agg ?_|fail);done)|(refine(afG x false).wk ?_;(repeat' first|exact .row|exact .refl _|refine .cons ?_ ?_|refine .agg ?_|fail);done)|fail) ?_ ?_|fail)
 try any_goals(exact Zo)
 all_goals(try simp only[BL]at *)
 all_goals(refine Sx.Fin.intro Zs (bi ?_);unfold shape;grind)
theorem Sp(s:af):s.data.toList.length=s.size:=rfl
theorem Su(a:Array UInt8):(⟨a⟩:af).size=a.size:=rfl
theorem L1(a b:af):(a++b).size=a.size+b.size:=by rw[Sq,Sn,Z4];rfl
def aa0(f:aC):af:=if f.exp=1 then f.name else f.name++(⟨#[94]⟩++adg f.exp)
def ai8(u:List aC):af:=PB (u.map aa0) ⟨#[42]⟩
theorem aiT{α:Type}[Inhabited α]{l:List α}{i:Nat}(h:i<l.length):l.take (i+1)=l.take i++[l.getD i default]:=by
 rw[getD_eq h,ZC h]
set_option maxHeartbeats 4000000
theorem bs{a b:af}(h:a=b):AV.v (.string a)=sv b:=by rw[h]
def ai9(u:List aC):af:=if u=[]then⟨#[]⟩else⟨#[32,91]⟩++(ai8 u++⟨#[93]⟩)
def Qr:Nat→Nat→List UInt8
 |0,_=>[]
 |k+1,x=>Qr k (x / 10)++[UInt8.ofNat (48+x % 10)]
def aaj(x:Nat):af:=⟨(Lib.decDigits (x / 10 ^ 6)++46::Qr 6 x).toArray⟩
set_option maxHeartbeats 4000000
def Wu(n:Int):af:=if n=1 then⟨#[116,114,117,101]⟩else⟨#[102,97,108,115,101]⟩
def AJ(n:Int):af:=⟨(Lib.decDigits n.toNat).toArray⟩
def ajd(v:gh):af:=
 if v.kind=1 then Wu v.n else if v.kind=2 then AJ v.n else if v.kind=3 then aaj v.n.toNat
 else if v.kind=4 then⟨#[34]⟩++(v.s++⟨#[34]⟩)else if v.kind=5 then⟨#[64]⟩++v.s else⟨#[110,117,108,108]⟩
structure LM(v:gh):Prop where
 e:rj v=0
 n:0≤v.n
theorem LM.kinds{v:gh}(h:LM v):0≤v.kind∧v.kind≤5∧v.n≤1152921504606846976∧v.s.size≤64:=by
 have:=h.e
 have h0:=h.n
 unfold rj at this
 split at this
 ·omega
 ·rename_i hf
  have hf:=Yv.1 hf
  split at this
  ·omega
  ·rename_i hb
   have hs:v.kind≤3→v.s.size=0:=fun h=>by rw[hf.2.2.1 h];rfl
   refine⟨hf.1,hf.2.1,by omega,?_⟩
   have:=hf.2.1
   omega
theorem Wk.SR(vs:Array Value):Wk (.v (.agg vs)) (.agg (vs.toList.map .v)):=fun M x h=>by
 obtain rfl:=h.ay
 have:=R.agg (M:=M) (vs.toList.map .v) vs.toList (by simp) (fun i h1 h2=>by simp only[Zu];exact .v _)
 simpa using this
set_option maxHeartbeats 4000000
def Eh(x:Ex):Int:=
 if x.kind=8 then 0 else if x.kind=9 then 1
 else if x.kind=6 then(if x.op=⟨#[45]⟩then 8 else if x.op=⟨#[110,111,116]⟩then 4 else 9)
 else if x.kind=7 then(if x.op=⟨#[111,114]⟩then 2 else if x.op=⟨#[97,110,100]⟩then 3 else if x.op=⟨#[43]⟩∨x.op=⟨#[45]⟩then 6 else if x.op=⟨#[42]⟩∨x.op=⟨#[47]⟩then 7 else 5)
 else 9
def ajA(w:qe):af:=
 if w.kind=2 then⟨#[115,108,105,100,105,110,103,32]⟩++AJ w.size else if w.kind=3 then⟨#[116,117,109,98,108,105,110,103,32]⟩++AJ w.size
 else if w.kind=4 then⟨#[115,101,115,115,105,111,110,32]⟩++AJ w.size else⟨#[97,108,108]⟩
def aeN(x:Ex):af:=if x.val.kind=5 then⟨#[64]⟩++(x.name++(⟨#[32,34]⟩++(x.val.s++⟨#[34]⟩)))else ajd x.val++ai9 x.unit
def par(s:af):af:=⟨#[40]⟩++(s++⟨#[41]⟩)
def wO(x:Ex)(T:Nat→af)(i:Nat)(r:Int):af:=if Eh (x.args.getD i default)<r then par (T i)else T i
def eH(x:Ex)(T:Nat→af):af:=
 x.op++(⟨#[40]⟩++(x.table++((if x.op=bJ then⟨#[]⟩else⟨#[44,32]⟩++T 0)++((if x.param=0 then⟨#[]⟩else⟨#[44,32]⟩++AJ x.param)
  ++(⟨#[44,32]⟩++(ajA x.win++((if x.args.getD 1 default=lA then⟨#[]⟩else⟨#[32,119,104,101,114,101,32]⟩++T 1)++⟨#[41]⟩)))))))
def unT(x:Ex)(T:Nat→af):af:=
 if x.op=⟨#[45]⟩then⟨#[45]⟩++wO x T 0 8 else if x.op=⟨#[110,111,116]⟩then⟨#[110,111,116,32]⟩++wO x T 0 4 else⟨#[110,117,108,108,40]⟩++(T 0++⟨#[41]⟩)
def aeJ(x:Ex):Int:=if Eh x=5 then 6 else Eh x
def Wh(x:Ex)(T:Nat→af):af:=wO x T 0 (aeJ x)++(⟨#[32]⟩++(x.op++(⟨#[32]⟩++wO x T 1 (Eh x+1))))
def ifT(x:Ex)(T:Nat→af):af:=⟨#[105,102,32]⟩++(T 0++(⟨#[32,116,104,101,110,32]⟩++(T 1++(⟨#[32,101,108,115,101,32]⟩++T 2))))
def aak(x:Ex)(T:Nat→af):af:=wO x T 0 1++(⟨#[32,100,101,102,97,117,108,116,32]⟩++wO x T 1 2)
def aiX(x:Ex)(T:Nat→af):af:=
 if x.kind=1 then aeN x else if x.kind=4 then x.name++(⟨#[32,111,102,32,40]⟩++(T 0++⟨#[41]⟩))else if x.kind=5 then eH x T
 else if x.kind=6 then unT x T else if x.kind=7 then Wh x T else if x.kind=8 then ifT x T else if x.kind=9 then aak x T else x.name
mutual
def text:Ex→af
 | .mk k o n t v u p w ks=>aiX (.mk k o n t v u p w ks) (fun i=>(SB ks).getD i ⟨#[]⟩)
def SB:List Ex→List af
 |[]=>[]
 |x::l=>text x::SB l
end
structure Ff(x:Ex)(ins:Bool):Prop where
 nb:qQ x ins
 nn:(x.args.length:Int)=qR x
 sub:∀ y∈x.args,form (ins || decide (x.kind=5)) y=true
 cn:x.kind=5→x.op=bJ→x.args.getD 0 default=lA
theorem Ff.of{x:Ex}{ins:Bool}(h:form ins x=true):Ff x ins:=by
 obtain⟨h1,h2,h3,h4⟩:=(ux ins x).1 h
 exact⟨h1,h2,h3,h4⟩
end Go.Proofs.YthdeaajdmdmfnaaGreatDoor
