/- Lists of strings and of factors; units; types. -/
import Derived.Test.YtajimcniogfpcaaGreatDoorPt
import Derived.Test.YtajimcniogfpcaaGreatDoorCodeA
import Derived.Lib.ItoaLen
set_option linter.unusedSimpArgs false
set_option linter.unusedVariables false
set_option maxRecDepth 100000
namespace Go.Proofs.YtajimcniogfpcaaGreatDoor
open _root_.Go.Proofs.Tryz
open Go.Sx Go.Proofs
def firstIdx{α:Type}(p:α→Bool):List α→Nat→Int
 |[],_=> -1
 |x::l,k=>if p x then k else firstIdx p l (k+1)
theorem En{α:Type}(p:α→Bool):∀ (l:List α) (k:Nat),0≤firstIdx p l k↔∃ x∈l,p x=true
 |[],k=>by simp[firstIdx]
 |x::l,k=>by
  unfold firstIdx
  cases h:p x with
  |true=>simp[h]
  |false=>simp[h,En p l (k+1)]
theorem uk{α:Type}{p:α→Bool}:∀ {l:List α} {k:Nat},(∀ x∈l,p x=false)→firstIdx p l k= -1
 |[],k,_=>rfl
 |x::l,k,h=>by unfold firstIdx;rw[h x (by simp)];exact uk fun y hy=>h y (by simp[hy])
theorem uj{α:Type}[Inhabited α]{p:α→Bool}:∀ {l:List α} {k i:Nat},(∀ j,j<i→p (l.getD j default)=false)→i<l.length→p (l.getD i default)=true→firstIdx p l k=((k+i:Nat):Int)
 |[],k,i,_,h,_=>absurd h (by simp)
 |x::l,k,0,_,_,h=>by
  unfold firstIdx;grind
 |x::l,k,i+1,ha,hi,h=>by
  have h0:p x=false:=ha 0 (by omega)
  unfold firstIdx
  rw[uj (k:=k+1) (i:=i) (fun j hj=>ha (j+1) (by omega)) (by grind) h]
  grind
theorem oA{α:Type}[Inhabited α]{p:α→Prop}{l:List α}(h:∀ j,j<l.length→p (l.getD j default)):∀ x∈l,p x:=fun x hx=>by
 obtain⟨i,hi,rfl⟩:=YQ.1 hx
 grind
theorem afi(l:List ae)(x:ae):Pure prog 180 [.sl false 1 (l.map eX),sv x] (iv (firstIdx (fun y=>decide (x=y)) l 0)):=by
 refine agd.p fun σ=> ?_
 repeat'(first|exact .nil|refine .k0 ?_|refine .k1 ?_|refine .k2 ?_|refine .k6 ?_|refine .r1 ?_ ?_|(refine .m2 ?_ ?_;intro hlen)|fail)
 all_goals(try simp only[BL]at *)
 refine bO (fun n rg σ'=>∃ i:Nat,i≤l.length∧n=l.length-i∧(∀ j,j<i→¬x=l.getD j default)∧σ'=σ∧rg=[(0,.sl false 1 (l.map eX)),(1,sv x),(7,iv l.length),(8,iv i)]) l.length rfl ⟨_,_,Zr,Zs,0,ZL _,rfl,fun j hj=>absurd hj (by omega),rfl,rfl⟩ ?_
 rintro n _ _ ⟨i,hi,hn,hp,rfl,rfl⟩
 repeat'(first|exact .nil|refine .k0 ?_|refine .k1 ?_|refine .k2 ?_|refine .k6 ?_|refine .k7 ?_|refine .k8 ?_|refine .k9 ?_|(refine .cd ?_ ?_<;>(intro hc;skip))|refine .r1 ?_ ?_|refine .t1 ?_ ?_ ?_|fail)
 try any_goals(exact Zo)
 all_goals(try simp only[BL]at *)
 ·rw[uj (p:=fun y=>decide (x=y)) (l:=l) (k:=0) (i:=i) (fun j hj=>Zd (hp j hj)) (by omega) (YR hc),ZA]
  exact Zw
 ·refine⟨l.length-(i+1),by omega,_,_,Zr,Zs,i+1,by omega,rfl,iP hp hc,rfl,by rw[cu (by omega) hlen]⟩
 ·rw[uk (fun y hy=>Zd (oA (p:=fun y=>¬x=y) (fun j hj=>hp j (by omega)) y hy))]
  exact Zw
theorem IJ(l:List ae)(x:ae):Pure prog 127 [.sl false 1 (l.map eX),sv x] (.v (.bool (decide (∃ y∈l,x=y)))):=by
 refine afQ.p fun σ=> ?_
 repeat'(first|exact .nil|refine .k0 ?_|refine .k1 ?_|refine .k2 ?_|refine .k7 ?_|refine .r1 ?_ ?_|refine .an rfl (by intro aB;exact afi _ _) ?_ ?_|fail)
 all_goals(try simp only[BL]at *)
 ·(refine Sx.Fin.intro Zs (bd ?_);(try simp only[BL]at *);(try simp only[gz,mD,ig,and_assoc]at *))
  rw[En]
  simp only[ZN]
theorem adw(f:ax):Pure prog 120 [.agg f.cells] (.v (.bool (decide (¬Name f.name)))):=by
 refine afO.p fun σ=> ?_
 repeat'(first|exact .nil|refine .k0 ?_|refine .k1 ?_|refine .k2 ?_|refine .k7 ?_|refine .r1 ?_ ?_|(refine .m1 ?_ ?_;intro b)|refine .an rfl (by intro aB;exact qD _) ?_ ?_|fail)
 all_goals(try simp only[BL]at *)
 ·refine Sx.Fin.intro Zs ?_
  rw[decide_not]
theorem aff(u:List ax):Pure prog 166 [.sl false 2 (u.map ax.cells),.v (.func (.func 120) #[] #[])] (iv (firstIdx (fun f=>decide (¬Name f.name)) u 0)):=by
 refine R6.p fun σ=> ?_
 repeat'(first|exact .nil|refine .k0 ?_|refine .k1 ?_|refine .k2 ?_|refine .k6 ?_|refine .r1 ?_ ?_|(refine .m2 ?_ ?_;intro hlen)|fail)
 all_goals(try simp only[BL]at *)
 refine bO (fun n rg σ'=>∃ i:Nat,i≤u.length∧n=u.length-i∧(∀ j,j<i→Name (u.getD j default).name)∧σ'=σ∧rg=[(0,.sl false 2 (u.map ax.cells)),(1,.v (.func (.func 120) #[] #[])),(7,iv u.length),(8,iv i)]) u.length rfl ⟨_,_,Zr,Zs,0,ZL _,rfl,fun j hj=>absurd hj (by omega),rfl,rfl⟩ ?_
 rintro n _ _ ⟨i,hi,hn,hp,rfl,rfl⟩
 repeat'(first|exact .nil|refine .k0 ?_|refine .k1 ?_|refine .k2 ?_|refine .k6 ?_|refine .k7 ?_|refine .k8 ?_|refine .k9 ?_|(refine .cd ?_ ?_<;>(intro hc;skip))|refine .r1 ?_ ?_|refine .t1 ?_ ?_ ?_|refine .an rfl (by intro aB;exact adw _) ?_ ?_|fail)
 try any_goals(exact Zo)
 all_goals(try simp only[BL]at *)
 ·rw[uj (p:=fun f:ax=>decide (¬Name f.name)) (l:=u) (k:=0) (i:=i) (fun j hj=>Zd (fun h=>h (hp j hj))) (by omega) (YR hc),ZA]
  exact Zw
 ·refine⟨u.length-(i+1),by omega,_,_,Zr,Zs,i+1,by omega,rfl,iP hp (Yy.1 hc),rfl,by rw[cu (by omega) hlen]⟩
 ·rw[uk (fun y hy=>Zd (fun h=>h (oA (p:=fun y:ax=>Name y.name) (fun j hj=>hp j (by omega)) y hy)))]
  exact Zw
theorem acI(u:List ax):Pure prog 119 [.sl false 2 (u.map ax.cells),.v (.func (.func 120) #[] #[])] (.v (.bool (decide (∃ f∈u,¬Name f.name)))):=by
 refine R2.p fun σ=> ?_
 repeat'(first|exact .nil|refine .k0 ?_|refine .k1 ?_|refine .k2 ?_|refine .k7 ?_|refine .r1 ?_ ?_|refine .an rfl (by intro aB;exact aff _) ?_ ?_|fail)
 all_goals(try simp only[BL]at *)
 ·(refine Sx.Fin.intro Zs (bd ?_);(try simp only[BL]at *);(try simp only[gz,mD,ig,and_assoc]at *))
  rw[En]
  simp only[ZN]
theorem O5{α:Type}[Inhabited α]{a b:List α}(hl:a.length=b.length)(h:∀ j,j<a.length→a.getD j default=b.getD j default):a=b:=by
 apply X7 hl
 grind
theorem Po{a b:ax}(h:a.name=b.name∧a.exp=b.exp):a=b:=by cases a;cases b;simp_all
theorem akh(a b:List ax):Pure prog 39 [.sl false 2 (a.map ax.cells),.sl false 2 (b.map ax.cells)] (.v (.bool (decide (a=b)))):=by
 refine k39.p fun σ=> ?_
 repeat'(first|exact .nil|refine .k0 ?_|refine .k1 ?_|refine .k2 ?_|refine .k6 ?_|refine .k7 ?_|refine .k9 ?_|(refine .cd ?_ ?_<;>(intro hc;skip))|refine .r1 ?_ ?_|(refine .m2 ?_ ?_;intro hlen)|fail)
 all_goals(try simp only[BL]at *)
 ·refine Sx.Fin.intro Zs (bf ?_)
  rintro rfl;exact hc rfl
 refine bO (fun n rg σ'=>∃ i:Nat,i≤a.length∧n=a.length-i∧(∀ j,j<i→a.getD j default=b.getD j default)∧σ'=σ∧rg=[(0,.sl false 2 (a.map ax.cells)),(1,.sl false 2 (b.map ax.cells)),(5,iv i)]) a.length rfl ⟨_,_,Zr,Zs,0,ZL _,rfl,fun j hj=>absurd hj (by omega),rfl,rfl⟩ ?_
 rintro n _ _ ⟨i,hi,hn,hp,rfl,rfl⟩
 repeat'(first|exact .nil|refine .k0 ?_|refine .k1 ?_|refine .k2 ?_|refine .k5 ?_|refine .k6 ?_|refine .k7 ?_|refine .k8 ?_|refine .k9 ?_|(refine .cd ?_ ?_<;>(intro hc;skip))|refine .r1 ?_ ?_|(refine .m2 ?_ ?_;intro hlen)|refine .t1 ?_ ?_ ?_|fail)
 try any_goals(exact Zo)
 all_goals(try simp only[BL]at *)
 ·refine Sx.Fin.intro Zs (bf ?_)
  rintro rfl
  rcases hc with hc|hc<;>exact hc rfl
 ·refine⟨a.length-(i+1),by omega,_,_,Zr,Zs,i+1,by omega,rfl,iP hp (Po hc),rfl,by rw[cu (by omega) hlen]⟩
 ·refine Sx.Fin.intro Zs (bt ?_)
  exact O5 (by omega) (fun j hj=>hp j (by omega))
theorem O7(a b:List ax):Pure prog 167 [.sl false 2 (a.map ax.cells),.sl false 2 (b.map ax.cells)] (.v (.bool (decide (a=b)))):=by
 refine agc.p fun σ=> ?_
 repeat'(first|exact .nil|refine .k0 ?_|refine .k1 ?_|refine .k2 ?_|refine .k6 ?_|refine .k7 ?_|refine .k9 ?_|(refine .cd ?_ ?_<;>(intro hc;skip))|refine .r1 ?_ ?_|(refine .m2 ?_ ?_;intro hlen)|fail)
 all_goals(try simp only[BL]at *)
 ·refine Sx.Fin.intro Zs (bf ?_)
  rintro rfl;exact hc rfl
 refine bO (fun n rg σ'=>∃ i:Nat,i≤a.length∧n=a.length-i∧(∀ j,j<i→a.getD j default=b.getD j default)∧σ'=σ∧rg=[(0,.sl false 2 (a.map ax.cells)),(1,.sl false 2 (b.map ax.cells)),(12,iv a.length),(13,iv i)]) a.length rfl ⟨_,_,Zr,Zs,0,ZL _,rfl,fun j hj=>absurd hj (by omega),rfl,rfl⟩ ?_
 rintro n _ _ ⟨i,hi,hn,hp,rfl,rfl⟩
 repeat'(first|exact .nil|refine .k0 ?_|refine .k1 ?_|refine .k2 ?_|refine .k5 ?_|refine .k6 ?_|refine .k7 ?_|refine .k8 ?_|refine .k9 ?_|(refine .cd ?_ ?_<;>(intro hc;skip))|refine .r1 ?_ ?_|refine .t1 ?_ ?_ ?_|fail)
 try any_goals(exact Zo)
 all_goals(try simp only[BL]at *)
 ·refine Sx.Fin.intro Zs (bf ?_)
  rintro rfl
  rcases hc with hc|hc<;>exact hc rfl
 ·refine⟨a.length-(i+1),by omega,_,_,Zr,Zs,i+1,by omega,rfl,iP hp (Po hc),rfl,by rw[cu (by omega) hlen]⟩
 ·refine Sx.Fin.intro Zs (bt ?_)
  exact O5 (by omega) (fun j hj=>hp j (by omega))
def Lj(a b:ae):Bool:=Op.bytesLess a.toList b.toList || decide (a=b)
def oS(p:Option ae)(f:ax):Int:=if¬Word f.name then 1 else if f.exp=0∨f.exp>8∨f.exp< -8 then 70 else match p with
 |some p=>if Lj f.name p=true then 3 else 0
 |none=>0
def my:Option ae→List ax→Int
 |_,[]=>0
 |p,f::l=>if oS p f=0 then my (some f.name) l else oS p f
def iN(u:List ax):Int:=if u.length>4 then 2 else my none u
def sI(u:List ax)(i:Nat):Option ae:=if i=0 then none else some (u.getD (i-1) default).name
theorem alm{u:List ax}{i:Nat}(hi:i<u.length)(h:oS (sI u i) (u.getD i default)=0):my (sI u i) (u.drop i)=my (sI u (i+1)) (u.drop (i+1)):=by
 rw[uc hi,my,ZW h];rfl
theorem MU{u:List ax}{i:Nat}{e:Int}(hi:i<u.length)(h:oS (sI u i) (u.getD i default)=e)(he:e≠0):my (sI u i) (u.drop i)=e:=by
 rw[uc hi,my,Z5 (by grind),h]
theorem Vu(u:List ax):Pure prog 118 [.sl false 2 (u.map ax.cells)] (iv (iN u)):=by
 refine R1.p fun σ=> ?_
 repeat'(first|exact .nil|refine .k0 ?_|refine .k1 ?_|refine .k2 ?_|refine .k6 ?_|refine .k7 ?_|refine .k9 ?_|(refine .cd ?_ ?_<;>(intro hc;skip))|refine .r1 ?_ ?_|(refine .m2 ?_ ?_;intro hlen)|fail)
 all_goals(try simp only[BL]at *)
 ·rw[iN,ZW (by omega)]
  exact Zw
 have hu:iN u=my none u:=Z5 (by omega)
 refine bO (fun n rg σ'=>∃ i:Nat,i≤u.length∧n=u.length-i∧iN u=my (sI u i) (u.drop i)∧σ'=σ∧rg=[(0,.sl false 2 (u.map ax.cells)),(8,.sl false 2 (u.map ax.cells)),(9,iv u.length),(10,iv i)]) u.length rfl ⟨_,_,Zr,Zs,0,ZL _,rfl,hu,rfl,rfl⟩ ?_
 rintro n _ _ ⟨i,hi,hn,hp,rfl,rfl⟩
 repeat'(first|exact .nil|refine .k0 ?_|refine .k1 ?_|refine .k2 ?_|refine .k3 ?_|refine .k4 ?_|refine .k5 ?_|refine .k6 ?_|refine .k7 ?_|refine .k8 ?_|refine .k9 ?_|(refine .cd ?_ ?_<;>(intro hc;skip))|refine .r1 ?_ ?_|(refine .l1 ?_;intro b)|refine .t1 ?_ ?_ ?_|refine .an rfl (by intro aB;first|exact V6 _|exact TD _ 8 (by decide)|fail) ?_ ?_|fail)
 try any_goals(exact Zo)
 all_goals(try simp only[BL]at *)
 ·rw[hp,MU (e:=1) (by omega) (by unfold oS;rw[ZW hc]) (by decide)]
  exact Zw
 ·rename_i hw
  rw[hp,MU (e:=70) (by omega) (by unfold oS;rw[Z5 (fun h=>h hw),ZW (by omega)]) (by decide)]
  exact Zw
 ·rename_i hw he
  rw[LW (by omega) (by omega),XF]at hc
  rw[hp,MU (e:=3) (by omega) (by
   unfold oS;rw[Z5 (fun h=>h hw),Z5 (by omega),sI,Z5 (by omega)]
   exact ZW (by simp only[Lj,YM,ZN];exact hc.2)) (by decide)]
  exact Zw
 ·rename_i hw he
  refine⟨u.length-(i+1),by omega,_,_,Zr,Zs,i+1,by omega,rfl,?_,rfl,by rw[cu (n:=u.length) (by omega) (by assumption)]⟩
  rw[hp]
  refine alm (by omega) ?_
  unfold oS;rw[Z5 (fun h=>h hw),Z5 (by omega)]
  by_cases h0:i=0
  ·rw[sI,ZW h0]
  ·rw[LW (by omega) (by omega),XF]at hc
   rw[sI,Z5 h0]
   refine Z5 ?_
   rcases hc with hc|hc
   ·omega
   ·simp only[Lj,YM,ZN]
    rintro(h|h)
    ·rw[h]at hc;exact Bool.noConfusion hc.1
    ·exact hc.2 h
 all_goals(try(intro h0;rw[LW (by omega) (by omega)];omega))
 ·rw[hp,W6 (by omega),my]
  exact Zw
theorem bi{n m:Int}(h:n=m):AV.v (.int .i64 n)=iv m:=by rw[h]
def Num(t:Ty):Prop:=t.kind=2∨t.kind=3
instance (t:Ty):Decidable (Num t):=inferInstanceAs (Decidable (_∨_))
theorem Ff(t:Ty):Pure prog 117 [.agg t.cells] (.v (.bool (decide (Num t)))):=by
 refine afN.p fun σ=> ?_
 repeat'(first|exact .nil|refine .k0 ?_|refine .k1 ?_|refine .k2 ?_|refine .k4 ?_|refine .k7 ?_|refine .r1 ?_ ?_|(refine .m1 ?_ ?_;intro b)|fail)
 try any_goals(exact Zo)
 all_goals(try simp only[BL]at *)
 ·(((refine Sx.Fin.intro Zs (bd ?_);(try simp only[BL]at *);(try simp only[gz,mD,ig,and_assoc]at *)));try omega)
  unfold Num;omega
def ft(t:Ty):Int:=
 if t.kind<1∨t.kind>5∨(t.unit≠[]∧¬Num t)∨(t.kind=5∧¬Name t.of)∨(t.kind≠5∧t.of≠⟨#[]⟩)then 3
 else if iN t.unit≠0∨∃ f∈t.unit,¬Name f.name then 70 else 0
theorem ahR{s:ae}(h:Name s):s≠⟨#[]⟩:=fun e=>by have:=h.1.1;rw[Mq.2 e]at this;omega
theorem Vr{t:Ty}(h:t.kind<1∨t.kind>5∨(t.unit≠[]∧¬Num t)∨(t.kind=5∧¬Name t.of)∨(t.kind≠5∧t.of≠⟨#[]⟩)):ft t=3:=ZW h
theorem ale{t:Ty}(h:¬(t.kind<1∨t.kind>5∨(t.unit≠[]∧¬Num t)∨(t.kind=5∧¬Name t.of)∨(t.kind≠5∧t.of≠⟨#[]⟩)))(h':iN t.unit≠0∨∃ f∈t.unit,¬Name f.name):ft t=70:=(Z5 h).trans (ZW h')
theorem ald{t:Ty}(h:¬(t.kind<1∨t.kind>5∨(t.unit≠[]∧¬Num t)∨(t.kind=5∧¬Name t.of)∨(t.kind≠5∧t.of≠⟨#[]⟩)))(h':¬(iN t.unit≠0∨∃ f∈t.unit,¬Name f.name)):ft t=0:=(Z5 h).trans (Z5 h')
theorem ahr{α:Type}{l:List α}:0<(l.length:Int)↔l≠[]:=by cases l<;>simp<;>omega
theorem yq(t:Ty):Pure prog 70 [.agg t.cells] (iv (ft t)):=by
 have hl:= @ahr ax t.unit
 have hn:= @ahR t.of
 refine Sr.p fun σ=> ?_
 repeat'(first|exact .nil|refine .k0 ?_|refine .k1 ?_|refine .k2 ?_|refine .k4 ?_|refine .k7 ?_|refine .k9 ?_|(refine .cd ?_ ?_<;>(intro hc;skip))|refine .r1 ?_ ?_|(refine .m1 ?_ ?_;intro b)|(refine .m2 ?_ ?_;intro hlen)|refine .an rfl (by intro aB;first|exact qD _|exact Vu _|exact acI _|exact Ff _|fail) ?_ ?_|fail)
 try any_goals(exact Zo)
 all_goals(try simp only[BL]at *)
 ·rw[Vr (by grind)]
  exact Zw
 ·cases(decide (t.kind=5) == !decide (t.of=⟨#[]⟩))<;>simp
 ·rw[Vr (by grind)]
  exact Zw
 ·rename_i h1 h2
  rw[ale (by grind) hc]
  exact Zw
 ·rename_i h1 h2
  rw[ald (by grind) (by grind)]
  exact Zw
def pr(low:Nat)(c:UInt8):Prop:=low≤c.toNat∧c.toNat≤126∧c.toNat≠34∧c.toNat≠92
instance (low:Nat)(c:UInt8):Decidable (pr low c):=inferInstanceAs (Decidable (_∧_∧_∧_))
def wg(s:ae)(low:Nat):Prop:=∀ i,i<s.size→pr low (fO s i)
instance (s:ae)(low:Nat):Decidable (wg s low):=inferInstanceAs (Decidable (∀ i,i<s.size→_))
def wP(v:iE):Prop:=0≤v.kind∧v.kind≤5∧(v.kind≤3→v.s=⟨#[]⟩)∧(v.kind=0→v.n=0)∧(v.kind=1→v.n=0∨v.n=1)∧(4≤v.kind→v.n=0)
instance (v:iE):Decidable (wP v):=inferInstanceAs (Decidable (_∧_∧_∧_∧_∧_))
def td(v:iE):Int:=
 if¬wP v then 1
 else if v.n< -1152921504606846976∨v.n>1152921504606846976∨(v.kind=4∧v.s.size>64)∨(v.kind=5∧v.s.size>32)then 2
 else if(v.kind=4∧¬wg v.s 32)∨(v.kind=5∧(v.s=⟨#[]⟩∨¬wg v.s 33))then 3 else 0
theorem VF(v:iE):Pure prog 100 [.agg v.cells] (iv (td v)):=by
 refine afH.p fun σ=> ?_
 repeat'(first|exact .nil|refine .k0 ?_|refine .k1 ?_|refine .k2 ?_|refine .k4 ?_|refine .k6 ?_|refine .k7 ?_|refine .k9 ?_|(refine .cd ?_ ?_<;>(intro hc;first|exact kf hc (by assumption)|skip))|refine .r1 ?_ ?_|(refine .m1 ?_ ?_;intro b)|fail)
 try any_goals(exact Zo)
 all_goals(try simp only[BL]at *)
 any_goals(refine Sx.Fin.intro Zs (bi ?_);unfold td wP;grind)
 ·refine bO (fun n rg σ'=>∃ i:Nat,i≤v.s.size∧n=v.s.size-i∧(∀ j,j<i→pr 33 (fO v.s j))∧σ'=(1,b,aR.cells v.cells)::σ∧rg=[(1,.lp 1 b 0),(6,.v (.int .u8 33)),(88,iv v.s.size),(89,iv i)]) v.s.size rfl ⟨_,_,Zr,Zs,0,ZL _,rfl,fun j hj=>absurd hj (by omega),rfl,rfl⟩ ?_
  rintro n _ _ ⟨i,hi,hn,hp,rfl,rfl⟩
  repeat'(first|exact .nil|refine .k0 ?_|refine .k1 ?_|refine .k2 ?_|refine .k4 ?_|refine .k6 ?_|refine .k7 ?_|refine .k8 ?_|refine .k9 ?_|(refine .cd ?_ ?_<;>(intro hc;skip))|refine .r1 ?_ ?_|refine .t5 ?_ ?_ ?_|fail)
  try any_goals(exact Zo)
  all_goals(try simp only[BL]at *)
  ·refine Sx.Fin.intro Zs (bi ?_)
   have:¬wg v.s 33:=fun h=>by have:=h i (by omega);unfold pr at this;omega
   unfold td wP;grind
  ·refine⟨v.s.size-(i+1),by omega,_,_,Zr,Zs,i+1,by omega,rfl,iP hp ?_,rfl,by rw[eu (by omega)];rfl⟩
   unfold pr;omega
  ·refine Sx.Fin.intro Zs (bi ?_)
   have:wg v.s 33:=fun j hj=>hp j (by omega)
   unfold td wP;grind
 ·refine bO (fun n rg σ'=>∃ i:Nat,i≤v.s.size∧n=v.s.size-i∧(∀ j,j<i→pr 32 (fO v.s j))∧σ'=(1,b,aR.cells v.cells)::σ∧rg=[(1,.lp 1 b 0),(6,.v (.int .u8 32)),(88,iv v.s.size),(89,iv i)]) v.s.size rfl ⟨_,_,Zr,Zs,0,ZL _,rfl,fun j hj=>absurd hj (by omega),rfl,rfl⟩ ?_
  rintro n _ _ ⟨i,hi,hn,hp,rfl,rfl⟩
  repeat'(first|exact .nil|refine .k0 ?_|refine .k1 ?_|refine .k2 ?_|refine .k4 ?_|refine .k6 ?_|refine .k7 ?_|refine .k8 ?_|refine .k9 ?_|(refine .cd ?_ ?_<;>(intro hc;skip))|refine .r1 ?_ ?_|refine .t5 ?_ ?_ ?_|fail)
  try any_goals(exact Zo)
  all_goals(try simp only[BL]at *)
  ·refine Sx.Fin.intro Zs (bi ?_)
   have:¬wg v.s 32:=fun h=>by have:=h i (by omega);unfold pr at this;omega
   unfold td wP;grind
  ·refine⟨v.s.size-(i+1),by omega,_,_,Zr,Zs,i+1,by omega,rfl,iP hp ?_,rfl,by rw[eu (by omega)];rfl⟩
   unfold pr;omega
  ·refine Sx.Fin.intro Zs (bi ?_)
   have:wg v.s 32:=fun j hj=>hp j (by omega)
   unfold td wP;grind
def Ex.lay(x:Ex):List AV:=[iv x.kind,sv x.op,sv x.name,sv x.table,iv x.val.kind,iv x.val.n,sv x.val.s,.sl false 2 (x.unit.map ax.cells),iv x.param,iv x.win.kind,iv x.win.size,.sl false 12 (x.args.map Ex.row)]
theorem Ex.N5(x:Ex):x.args.length<x.size:=by
 have:∀ l:List Ex,l.length≤Ex.cM l:=fun l=>by
  induction l with
  |nil=>simp
  |cons y l ih=>have:=Ex.size_pos y;simp only[Z8,Ex.cM];omega
 have:=this x.args
 rw[Ex.Az];omega
theorem Ex.akB{x:Ex}{i:Nat}(h:i<x.args.length)(hs:x.size≤100000):IntKind.i64.wrap (((1+Ex.cM (x.args.take i):Nat):Int)+(x.args.getD i default).size)=((1+Ex.cM (x.args.take (i+1)):Nat):Int):=by
 have h1:=Ex.UT h
 have h2:=Ex.UU x.args (i+1)
 have h3:=Ex.Az x
 rw[eu (by omega),h1];omega
theorem Ex.akz{x:Ex}{i:Nat}(h:i<x.args.length):(if false=true then(if((x.args.getD i default).depth:Int)<(Ex.iQ (x.args.take i):Int)then((x.args.getD i default).depth:Int)else Ex.iQ (x.args.take i))else(if((x.args.getD i default).depth:Int)>(Ex.iQ (x.args.take i):Int)then((x.args.getD i default).depth:Int)else Ex.iQ (x.args.take i)))=((Ex.iQ (x.args.take (i+1)):Nat):Int):=by
 rw[Z5 Bool.false_ne_true,Ex.ac0 h]
 grind
theorem Ex.adg{x:Ex}{i:Nat}(h:x.args.length≤i)(hs:x.size≤100000):IntKind.i64.wrap ((Ex.iQ (x.args.take i):Int)+1)=(x.depth:Int):=by
 have:=Ex.ON x
 have h2:=Ex.ac1 x
 rw[Zq h,eu (by omega)];omega
theorem akm(x:Ex):x.size≤100000→Pure prog 79 [.agg x.row] (iv x.size):=by
 induction x using Ex.ind with
 |h x ih=>
 intro hs
 have lj:∀ y∈x.args,Pure prog 79 [.agg y.row] (iv y.size):=fun y hy=>ih y hy (by have:=Ex.De hy;omega)
 have hl:=Ex.N5 x
 rw[Ex.fe]
 refine k79.p fun σ=> ?_
 repeat'(first|exact .nil|refine .k0 ?_|refine .k1 ?_|refine .k2 ?_|refine .k6 ?_|refine .r1 ?_ ?_|(refine .m1 ?_ ?_;intro b)|(refine .m2 ?_ ?_;intro hlen)|fail)
 all_goals(try simp only[BL]at *)
 refine bO (fun n rg σ'=>∃ i:Nat,i≤x.args.length∧n=x.args.length-i∧σ'=(1,b,aR.cells x.lay)::σ∧rg=[(2,iv (1+Ex.cM (x.args.take i):Nat)),(6,.sl false 12 (x.args.map Ex.row)),(7,iv x.args.length),(8,iv i)]) x.args.length rfl ⟨_,_,Zr,Zs,0,ZL _,rfl,rfl,rfl⟩ ?_
 rintro n _ _ ⟨i,hi,hn,rfl,rfl⟩
 repeat'(first|exact .nil|refine .k0 ?_|refine .k1 ?_|refine .k2 ?_|refine .k6 ?_|refine .k7 ?_|refine .k8 ?_|refine .k9 ?_|(refine .cd ?_ ?_<;>(intro hc;skip))|refine .r1 ?_ ?_|(refine .l1 ?_;intro b)|refine .t1 ?_ ?_ ?_|refine .an rfl (by intro aB;exact lj (x.args.getD i default) (dt (by(simp only[BL]at *;omega)))) ?_ ?_|fail)
 try any_goals(exact Zo)
 all_goals(try simp only[BL]at *)
 ·refine⟨x.args.length-(i+1),by omega,_,_,Zr,Zs,i+1,by omega,rfl,rfl,?_⟩
  rw[Ex.akB (by omega) hs,eu (by omega)];rfl
 ·rw[Zq (i:=i) (l:=x.args) (by omega),Ex.Az]
  exact Zw
theorem ac2(x:Ex):x.size≤100000→Pure prog 80 [.agg x.row] (iv x.depth):=by
 induction x using Ex.ind with
 |h x ih=>
 intro hs
 have lj:∀ y∈x.args,Pure prog 80 [.agg y.row] (iv y.depth):=fun y hy=>ih y hy (by have:=Ex.De hy;omega)
 have hl:=Ex.N5 x
 rw[Ex.fe]
 refine k80.p fun σ=> ?_
 repeat'(first|exact .nil|refine .k0 ?_|refine .k1 ?_|refine .k2 ?_|refine .k6 ?_|refine .r1 ?_ ?_|(refine .m1 ?_ ?_;intro b)|(refine .m2 ?_ ?_;intro hlen)|fail)
 all_goals(try simp only[BL]at *)
 refine bO (fun n rg σ'=>∃ i:Nat,i≤x.args.length∧n=x.args.length-i∧σ'=(1,b,aR.cells x.lay)::σ∧rg=[(2,iv (Ex.iQ (x.args.take i):Nat)),(6,.sl false 12 (x.args.map Ex.row)),(7,iv x.args.length),(8,iv i)]) x.args.length rfl ⟨_,_,Zr,Zs,0,ZL _,rfl,rfl,rfl⟩ ?_
 rintro n _ _ ⟨i,hi,hn,rfl,rfl⟩
 repeat'(first|exact .nil|refine .k0 ?_|refine .k1 ?_|refine .k2 ?_|refine .k6 ?_|refine .k7 ?_|refine .k8 ?_|refine .k9 ?_|(refine .cd ?_ ?_<;>(intro hc;skip))|refine .r1 ?_ ?_|(refine .l1 ?_;intro b)|refine .t1 ?_ ?_ ?_|refine .an rfl (by intro aB;exact lj (x.args.getD i default) (dt (by(simp only[BL]at *;omega)))) ?_ ?_|fail)
 try any_goals(exact Zo)
 all_goals(try simp only[BL]at *)
 ·refine⟨x.args.length-(i+1),by omega,_,_,Zr,Zs,i+1,by omega,rfl,rfl,?_⟩
  rw[Ex.akz (by omega),eu (by omega)];rfl
 ·refine Sx.Fin.intro Zs (bi ?_)
  exact Ex.adg (by omega) hs
def Ex.lens(x:Ex):Nat:=x.op.size+x.name.size+x.table.size+x.val.s.size
mutual
def Ex.wt:Ex→Nat
 | .mk _ o n t v _ _ _ ks=>max (o.size+n.size+t.size+v.s.size) (Ex.tu ks)
def Ex.tu:List Ex→Nat
 |[]=>0
 |x::l=>max x.wt (Ex.tu l)
end
theorem Ex.Wb(x:Ex):x.wt=max x.lens (Ex.tu x.args):=by cases x;rfl
theorem Ex.al4{l:List Ex}{y:Ex}(h:y∈l):y.wt≤Ex.tu l:=by
 induction l with
 |nil=>cases h
 |cons x l ih=>
  rw[Ex.tu]
  rcases ZT.1 h with rfl|h
  ·omega
  ·have:=ih h;omega
theorem Ex.al5{x y:Ex}(h:y∈x.args):y.wt≤x.wt:=by
 have:=Ex.al4 h
 rw[Ex.Wb x];omega
def Ex.wy(x:Ex)(n:Int):Prop:=n<1∨x.lens>300∨x.unit.length>10∨x.args.length>10∨∃ f∈x.unit,f.name.size>100
instance (x:Ex)(n:Int):Decidable (x.wy n):=inferInstanceAs (Decidable (_∨_∨_∨_∨_))
mutual
def kB:Ex→Int→Int
 | .mk k o nm t v u p w ks,n=>if Ex.wy (.mk k o nm t v u p w ks) n then -1 else jd ks (n-1)
def jd:List Ex→Int→Int
 |[],n=>n
 |x::l,n=>if n<0 then n else jd l (kB x n)
end
theorem BD(x:Ex)(n:Int):kB x n=if x.wy n then -1 else jd x.args (n-1):=by cases x;rfl
mutual
theorem Ek:∀ (x:Ex) (n:Int), -1≤n→-1≤kB x n∧kB x n≤n∧(0≤kB x n→kB x n+x.size≤n)
 | .mk k o nm t v u p w ks,n,hn=>by
  rw[BD]
  split
  ·omega
  ·rename_i h
   have h1:¬n<1:=fun h'=>h (.inl h')
   have:=PA ks (n-1) (by omega)
   rw[Ex.size]
   simp only[Ex.args]
   omega
theorem PA:∀ (l:List Ex) (n:Int), -1≤n→-1≤jd l n∧jd l n≤n∧(0≤jd l n→jd l n+Ex.cM l≤n)
 |[],n,hn=>by rw[jd,Ex.cM];omega
 |x::l,n,hn=>by
  rw[jd,Ex.cM]
  split
  ·omega
  ·have h1:=Ek x n hn
   have h2:=PA l (kB x n) h1.1
   omega
end
theorem adN{l:List Ex}{n:Int}(h:n<0):jd l n=n:=by
 cases l with
 |nil=>rfl
 |cons x l=>rw[jd,ZW h]
theorem adM{x:Ex}{i:Nat}{n:Int}(hi:i<x.args.length)(h:¬n<0):jd (x.args.drop i) n=jd (x.args.drop (i+1)) (kB (x.args.getD i default) n):=by
 rw[uc hi,jd,Z5 h]
theorem PE(x:Ex):x.wt≤2 ^ 60→∀ n:Int, -1≤n∧n≤1000→Pure prog 54 [.agg x.row,iv n] (iv (kB x n)):=by
 induction x using Ex.ind with
 |h x ih=>
 intro hs n0 QT
 have lj:∀ y∈x.args,∀ n:Int, -1≤n∧n≤1000→Pure prog 54 [.agg y.row,iv n] (iv (kB y n)):=fun y hy=>ih y hy (by have:=Ex.al5 hy;omega)
 have hw:=Ex.Wb x
 have qw:x.lens=x.op.size+x.name.size+x.table.size+x.val.s.size:=rfl
 have an7:x.op.size+x.name.size+x.table.size+x.val.s.size≤1152921504606846976:=by omega
 rw[Ex.fe]
 refine k54.p fun σ=> ?_
 repeat'(first|exact .nil|refine .k0 ?_|refine .k1 ?_|refine .k2 ?_|refine .k3 ?_|refine .k4 ?_|refine .k6 ?_|refine .k7 ?_|refine .k9 ?_|(refine .cd ?_ ?_<;>(intro hc;skip))|refine .r1 ?_ ?_|(refine .m1 ?_ ?_;intro b)|(refine .m2 ?_ ?_;intro hlen)|fail)
 try any_goals(exact Zo)
 all_goals(try simp only[BL]at *)
 all_goals have ae7:IntKind.i64.wrap (IntKind.i64.wrap (IntKind.i64.wrap ((x.op.size:Int)+x.name.size)+x.table.size)+x.val.s.size)=(x.lens:Int):=by rw[eu (n:=(x.op.size:Int)+x.name.size) (by omega),eu (n:=(x.op.size:Int)+x.name.size+x.table.size) (by omega),eu (by omega)];omega
 all_goals rw[ae7]at hc
 ·refine Sx.Fin.intro Zs (bi ?_)
  rw[BD,ZW (by unfold Ex.wy;omega)]
 refine bO (fun n rg σ'=>∃ i:Nat,i≤x.unit.length∧n=x.unit.length-i∧(∀ j,j<i→¬(x.unit.getD j default).name.size>100)∧σ'=(2,b,aR.cells x.lay)::σ∧rg=[(1,iv n0),(2,.lp 2 b 0),(5,iv i)]) x.unit.length rfl ⟨_,_,Zr,Zs,0,ZL _,rfl,fun j hj=>absurd hj (by omega),rfl,rfl⟩ ?_
 rintro n _ _ ⟨i,hi,hn,hp,rfl,rfl⟩
 repeat'(first|exact .nil|refine .k0 ?_|refine .k1 ?_|refine .k2 ?_|refine .k6 ?_|refine .k7 ?_|refine .k8 ?_|refine .k9 ?_|(refine .cd ?_ ?_<;>(intro hc;skip))|refine .r1 ?_ ?_|(refine .m2 ?_ ?_;intro hlen)|refine .t1 ?_ ?_ ?_|fail)
 try any_goals(exact Zo)
 all_goals(try simp only[BL]at *)
 ·refine Sx.Fin.intro Zs (bi ?_)
  rw[BD,ZW (.inr (.inr (.inr (.inr ⟨_,dt (i:=i) (by omega),by omega⟩))))]
 ·refine⟨x.unit.length-(i+1),by omega,_,_,Zr,Zs,i+1,by omega,rfl,iP hp (by omega),rfl,by rw[cu (n:=x.unit.length) (by omega) (by assumption)]⟩
 have cO:=oA (p:=fun f:ax=>¬f.name.size>100) (l:=x.unit) (fun j hj=>hp j (by omega))
 have nN:¬x.wy n0:=by rintro(h|h|h|h|⟨f,h1,h2⟩);all_goals first|omega|exact cO f h1 h2
 have aeJ:kB x n0=jd x.args (n0-1):=by rw[BD,Z5 nN]
 have nQ:IntKind.i64.wrap (n0-1)=n0-1:=eu (by omega)
 rw[nQ]
 refine bO (fun n rg σ'=>∃ (i:Nat) (m:Int),i≤x.args.length∧n=x.args.length-i∧kB x n0=jd (x.args.drop i) m∧(-1≤m∧m≤1000)∧σ'=(2,b,aR.cells x.lay)::σ∧rg=[(1,iv m),(2,.lp 2 b 0),(6,iv i)]) x.args.length rfl ⟨_,_,Zr,Zs,0,n0-1,ZL _,rfl,aeJ,by omega,rfl,rfl⟩ ?_
 rintro n _ _ ⟨i,m,hi,hn,hp,hm,rfl,rfl⟩
 repeat'(first|exact .nil|refine .k0 ?_|refine .k1 ?_|refine .k2 ?_|refine .k4 ?_|refine .k6 ?_|refine .k7 ?_|refine .k8 ?_|refine .k9 ?_|(refine .cd ?_ ?_<;>(intro hc;skip))|refine .r1 ?_ ?_|(refine .m2 ?_ ?_;intro hlen)|refine .t1 ?_ ?_ ?_|refine .an rfl (by intro aB;exact lj (x.args.getD i default) (dt (by(simp only[BL]at *;omega))) _ (by first|omega|fail)) ?_ ?_|fail)
 try any_goals(exact Zo)
 all_goals(try simp only[BL]at *)
 ·have:=Ek (x.args.getD i default) m hm.1
  refine⟨x.args.length-(i+1),by omega,_,_,Zr,Zs,i+1,_,by omega,rfl,by rw[hp,adM (by omega) (by omega)],by omega,rfl,by rw[cu (n:=x.args.length) (by omega) (by omega)]⟩
 ·refine Sx.Fin.intro Zs (bi ?_)
  rw[hp]
  by_cases h:m<0
  ·rw[adN h]
  ·rw[W6 (by omega),jd]
def yo(t:Ty):Ex:=⟨0,⟨#[]⟩,t.of,⟨#[]⟩,⟨0,0,⟨#[]⟩⟩,t.unit,0,⟨0,0⟩,[]⟩
theorem alf(t:Ty):(yo t).lens=t.of.size:=by show 0+t.of.size+0+0=_;omega
theorem alg(t:Ty):(yo t).wt=t.of.size:=by show max (0+t.of.size+0+0) 0=_;omega
def pP(t:Ty):Prop:=t.of.size≤300∧t.unit.length≤10∧∀ f∈t.unit,f.name.size≤100
instance (t:Ty):Decidable (pP t):=inferInstanceAs (Decidable (_∧_∧_))
theorem N9(t:Ty):(yo t).wy 1↔¬pP t:=by
 show((1:Int)<1∨(yo t).lens>300∨t.unit.length>10∨0>10∨∃ f∈t.unit,f.name.size>100)↔_
 rw[alf]
 unfold pP
 grind
theorem adQ(t:Ty):0≤kB (yo t) 1↔pP t:=by
 rw[BD]
 by_cases h:(yo t).wy 1
 ·rw[ZW h]
  have:=(N9 t).1 h
  grind
 ·rw[Z5 h]
  have:pP t:=Yy.1 fun h'=>h ((N9 t).2 h')
  show 0≤jd [] (1-1)↔_
  rw[jd]
  grind
theorem PC(t:Ty)(h:t.of.size≤2 ^ 59):Pure prog 53 [.agg t.cells] (.v (.bool (decide (pP t)))):=by
 refine k53.p fun σ=> ?_
 repeat'(first|exact .nil|refine .k0 ?_|refine .k1 ?_|refine .k2 ?_|refine .k7 ?_|refine .r1 ?_ ?_|(refine .m1 ?_ ?_;intro b)|refine .an rfl (by intro aB;exact(PE (yo t) (by rw[alg];omega) 1 (by omega)).wk (by repeat' first|exact .refl _|exact .nil|refine .cons ?_ ?_|refine .agg ?_|fail)) ?_ ?_|fail)
 all_goals(try simp only[BL]at *)
 ·refine Sx.Fin.intro Zs (bd ?_)
  rw[← adQ];simp
end Go.Proofs.YtajimcniogfpcaaGreatDoor
namespace Go.Sx
open Go.Proofs.YtajimcniogfpcaaGreatDoor
theorem Wk.row{l:List Ex}{nn:Bool}:Wk (.sl nn 12 (l.map Ex.row)) (.sl nn 12 (l.map Ex.cells)):=by rw[Ex.oP];exact Wk.refl _
end Go.Sx
namespace Go.Proofs.YtajimcniogfpcaaGreatDoor
open _root_.Go.Proofs.Tryz
open Go.Sx Go.Proofs
def Ex.Flat(a b:Ex):Prop:=a.kind=b.kind∧a.op=b.op∧a.name=b.name∧a.table=b.table∧a.val=b.val∧a.unit=b.unit∧a.param=b.param∧a.win=b.win
instance (a b:Ex):Decidable (a.Flat b):=inferInstanceAs (Decidable (_∧_∧_∧_∧_∧_∧_∧_))
theorem VE{a b:iE}:a=b↔a.kind=b.kind∧a.n=b.n∧a.s=b.s:=by cases a;cases b;simp
theorem alU{a b:pS}:a=b↔a.kind=b.kind∧a.size=b.size:=by cases a;cases b;simp
theorem yQ(a b:Ex):Pure prog 128 [.agg a.row,.agg b.row] (.v (.bool (decide (a.Flat b)))):=by
 rw[Ex.fe a,Ex.fe b]
 refine afR.p fun σ=> ?_
 repeat'(first|exact .nil|refine .k0 ?_|refine .k1 ?_|refine .k2 ?_|refine .k4 ?_|refine .k7 ?_|refine .r1 ?_ ?_|(refine .m1 ?_ ?_;intro b)|refine .an rfl (by intro aB;exact O7 _ _) ?_ ?_|fail)
 all_goals(try simp only[BL]at *)
 ·refine Sx.Fin.intro Zs (bd ?_)
  unfold Ex.Flat;rw[VE,alU];grind
def jL:Ex:=⟨1,⟨#[]⟩,⟨#[]⟩,⟨#[]⟩,⟨1,1,⟨#[]⟩⟩,[],0,⟨0,0⟩,[]⟩
theorem Vp:Pure prog 40 [] (.agg jL.row):=by
 refine Fj.p fun σ=> ?_
 repeat'(first|exact .nil|refine .k0 ?_|refine .k1 ?_|refine .k2 ?_|refine .k7 ?_|refine .r1 ?_ ?_|(refine .l1 ?_;intro b)|fail)
 all_goals(try simp only[BL]at *)
 ·refine Sx.Fin.wk Zs (Wk.agg ?_)
  show bC _ jL.lay
  unfold Ex.lay
  repeat' first|exact .refl _|exact .nil|refine .cons ?_ ?_|fail
def tj(w:pS):Prop:=(w.kind=1∧w.size=0)∨(1<w.kind∧w.kind≤4∧1≤w.size∧w.size≤1099511627776)
instance (w:pS):Decidable (tj w):=inferInstanceAs (Decidable (_∨_∧_∧_∧_))
def Ln(x:Ex):Ex:=⟨1,⟨#[]⟩,x.name,⟨#[]⟩,x.val,x.unit,0,⟨0,0⟩,[]⟩
def xE(x:Ex):Prop:=td x.val=0∧0≤x.val.n∧ft ⟨x.val.kind,x.unit,x.name⟩=0∧x.Flat (Ln x)
instance (x:Ex):Decidable (xE x):=inferInstanceAs (Decidable (_∧_∧_∧_))
def Ij(x:Ex):Ex:=⟨5,x.op,⟨#[]⟩,x.table,⟨0,0,⟨#[]⟩⟩,[],x.param,x.win,[]⟩
def qI(x:Ex):Prop:=if x.op=⟨#[113,117,97,110,116,105,108,101]⟩then 1≤x.param∧x.param≤1000 else if x.op=⟨#[100,101,99,97,121]⟩then 1≤x.param∧x.param≤1073741824 else x.param=0
instance (x:Ex):Decidable (qI x):=by unfold qI;infer_instance
def yO(x:Ex):Prop:=(∃ y∈DS,x.op=y)∧Name x.table∧tj x.win∧qI x∧x.Flat (Ij x)
instance (x:Ex):Decidable (yO x):=inferInstanceAs (Decidable (_∧_∧_∧_∧_))
def Ta(x:Ex):Ex:=⟨x.kind,⟨#[]⟩,x.name,⟨#[]⟩,⟨0,0,⟨#[]⟩⟩,[],0,⟨0,0⟩,[]⟩
def CU(x:Ex):Ex:=⟨x.kind,x.op,⟨#[]⟩,⟨#[]⟩,⟨0,0,⟨#[]⟩⟩,[],0,⟨0,0⟩,[]⟩
def sG(x:Ex):Prop:=Name x.name∧x.Flat (Ta x)
instance (x:Ex):Decidable (sG x):=inferInstanceAs (Decidable (_∧_))
def qE(x:Ex):Int:=if x.kind=4∨x.kind=6 then 1 else if x.kind=5∨x.kind=7∨x.kind=9 then 2 else if x.kind=8 then 3 else 0
def jF(x:Ex)(ins:Bool):Prop:=
 if x.kind=1 then xE x else if x.kind=2 then ins=true∧sG x else if x.kind=3∨x.kind=4 then ins=false∧sG x
 else if x.kind=5 then ins=false∧yO x else if x.kind=6 then x.Flat (CU x)∧∃ y∈AF,x.op=y
 else if x.kind=7 then x.Flat (CU x)∧∃ y∈wz,x.op=y else if x.kind=8∨x.kind=9 then x.Flat (CU x)∧x.op=⟨#[]⟩else False
instance (x:Ex)(ins:Bool):Decidable (jF x ins):=by unfold jF;infer_instance
mutual
def Ex.IY:Ex→Ex→Bool
 | .mk k o n t v u p w ks,.mk k' o' n' t' v' u' p' w' mg=>decide (k=k'∧o=o'∧n=n'∧t=t'∧v=v'∧u=u'∧p=p'∧w=w') && Ex.wL ks mg
def Ex.wL:List Ex→List Ex→Bool
 |[],[]=>true
 |x::l,y::m=>x.IY y && Ex.wL l m
 |[],_::_=>false
 |_::_,[]=>false
end
mutual
theorem Ex.O1:∀ a b:Ex,a.IY b=true↔a=b
 | .mk k o n t v u p w ks,.mk k' o' n' t' v' u' p' w' mg=>by
  rw[Ex.IY,Z6,ZN,Ex.O3 ks mg,Ex.mk.injEq]
  simp only[and_assoc]
theorem Ex.O3:∀ a b:List Ex,Ex.wL a b=true↔a=b
 |[],[]=>by simp[Ex.wL]
 |x::l,y::m=>by rw[Ex.wL,Z6,Ex.O1 x y,Ex.O3 l m,Z3]
 |[],_::_=>by simp[Ex.wL]
 |_::_,[]=>by simp[Ex.wL]
end
instance:DecidableEq Ex:=fun a b=>decidable_of_iff _ (Ex.O1 a b)
theorem Ex.eq_iff{a b:Ex}:a=b↔a.Flat b∧a.args=b.args:=by
 cases a;cases b
 simp only[Ex.mk.injEq,Ex.Flat,Ex.kind,Ex.op,Ex.name,Ex.table,Ex.val,Ex.unit,Ex.param,Ex.win,Ex.args,and_assoc]
theorem bq{b c:Bool}(h:b=true↔c=true):AV.v (.bool b)=AV.v (.bool c):=by rw[YJ.2 h]
def bu:ae:=⟨#[99,111,117,110,116]⟩
mutual
def form:Bool→Ex→Bool
 |ins,.mk k o n t v u p w ks=>decide (jF (.mk k o n t v u p w ks) ins) && decide ((ks.length:Int)=qE (.mk k o n t v u p w ks)) && BI (ins || decide (k=5)) ks && (decide (¬(k=5∧o=bu)) || decide (ks.getD 0 default=jL))
def BI:Bool→List Ex→Bool
 |_,[]=>true
 |ins,x::l=>form ins x && BI ins l
end
theorem PT(ins:Bool):∀ l:List Ex,BI ins l=true↔∀ x∈l,form ins x=true
 |[]=>by simp[BI]
 |x::l=>by simp[BI,PT ins l]
theorem wT(ins:Bool)(x:Ex):form ins x=true↔jF x ins∧(x.args.length:Int)=qE x∧(∀ y∈x.args,form (ins || decide (x.kind=5)) y=true)∧(x.kind=5→x.op=bu→x.args.getD 0 default=jL):=by
 cases x
 rw[form]
 simp only[Z6,YM,ZN,PT,Ex.args,Ex.kind,Ex.op]
 constructor
 ·rintro⟨⟨⟨h1,h2⟩,h3⟩,h4⟩
  exact⟨h1,h2,h3,fun a b=>h4.resolve_left fun h=>h ⟨a,b⟩⟩
 ·rintro⟨h1,h2,h3,h4⟩
  refine⟨⟨⟨h1,h2⟩,h3⟩,Decidable.or_iff_not_imp_left.2 fun h=> ?_⟩
  have:=Yy.1 h
  exact h4 this.1 this.2
set_option maxHeartbeats 4000000
def O0(x:Ex):Ex:=⟨x.kind,⟨#[]⟩,⟨#[]⟩,⟨#[]⟩,⟨0,0,⟨#[]⟩⟩,[],0,⟨0,0⟩,[]⟩
def Lp(x:Ex):Ex:=⟨x.kind,⟨#[]⟩,x.name,⟨#[]⟩,x.val,x.unit,0,⟨0,0⟩,[]⟩
def Ik(x:Ex):Ex:=⟨x.kind,x.op,⟨#[]⟩,x.table,⟨0,0,⟨#[]⟩⟩,[],x.param,x.win,[]⟩
theorem flat_lit(x:Ex)(h:x.kind=1):x.Flat (Ln x)↔x.Flat (Lp x):=by unfold Ln Lp;rw[h]
theorem flat_agg(x:Ex)(h:x.kind=5):x.Flat (Ij x)↔x.Flat (Ik x):=by unfold Ij Ik;rw[h]
theorem PN(x:Ex):x.Flat (O0 x)↔x.Flat (CU x)∧x.op=⟨#[]⟩:=by
 show _∧x.op=⟨#[]⟩∧_↔(_∧x.op=x.op∧_)∧_
 constructor
 ·rintro⟨h1,h2,h3⟩;exact⟨⟨h1,rfl,h3⟩,h2⟩
 ·rintro⟨⟨h1, -,h3⟩,h2⟩;exact⟨h1,h2,h3⟩
theorem Ub:(⟨#[113,117,97,110,116,105,108,101]⟩:ae)≠⟨#[100,101,99,97,121]⟩:=by decide
def tH(x:Ex)(ins:Bool):Prop:=form ins x=true↔(∀ y∈x.args,form (ins || decide (x.kind=5)) y=true)∧(x.kind=5→x.op=bu→x.args.getD 0 default=jL)
theorem adS{x:Ex}{ins q:Bool}{i:Nat}(hF:tH x ins)(hq:q=(ins || decide (x.kind=5)))(hi:i<x.args.length)(hc:form q (x.args.getD i default)=false):false=true↔form ins x=true:=by
 unfold tH at hF
 rw[hF,← hq]
 constructor
 ·intro h;exact Bool.noConfusion h
 ·rintro⟨h, -⟩
  have:=h _ (dt hi)
  rw[hc]at this
  exact this
theorem PU{q:Bool}{y:Ex}(h:form q y=true)(hf:y.Flat jL):y=jL:=by
 rw[wT]at h
 have hk:y.kind=1:=hf.1
 have hn:qE y=0:=by unfold qE;rw[Z5 (by omega),Z5 (by omega),Z5 (by omega)]
 have:y.args=[]:=Zx (by omega)
 exact Ex.eq_iff.2 ⟨hf,this⟩
theorem PF{x:Ex}{q:Bool}{i:Nat}(hi:x.args.length≤i)(hp:∀ j,j<i→form q (x.args.getD j default)=true):∀ y∈x.args,form q y=true:=oA (p:=fun y=>form q y=true) fun j hj=>hp j (by omega)
theorem adR{x:Ex}{ins q:Bool}(hF:tH x ins)(hq:q=(ins || decide (x.kind=5)))(cO:∀ y∈x.args,form q y=true)(h0:0<x.args.length)(hc:x.op=⟨#[99,111,117,110,116]⟩∧x.kind=5):decide ((x.args.getD 0 default).Flat jL)=true↔form ins x=true:=by
 unfold tH at hF
 rw[hF,← hq,ZN]
 constructor
 ·intro h;exact⟨cO,fun _ _=>PU (cO _ (dt h0)) h⟩
 ·rintro⟨-,h⟩;rw[h hc.2 hc.1];decide
theorem adT{x:Ex}{ins q:Bool}(hF:tH x ins)(hq:q=(ins || decide (x.kind=5)))(cO:∀ y∈x.args,form q y=true)(hc:¬x.op=⟨#[99,111,117,110,116]⟩∨¬x.kind=5):true=true↔form ins x=true:=by
 unfold tH at hF
 rw[hF,← hq]
 refine⟨fun _=>⟨cO,fun h1 h2=> ?_⟩,fun _=>rfl⟩
 rcases hc with h|h
 ·exact absurd h2 h
 ·exact absurd h1 h
theorem aiB(x:Ex):∀ ins,Pure prog 81 [.agg x.row,.v (.bool ins)] (.v (.bool (form ins x))):=by
 induction x using Ex.ind with
 |h x ih=>
 intro ins
 have lj:=ih
 rw[Ex.fe x]
 refine k81.p fun σ=> ?_
 repeat'(first|exact .nil|refine .k0 ?_|refine .k1 ?_|refine .k2 ?_|refine .k3 ?_|refine .k4 ?_|refine .k6 ?_|refine .k7 ?_|refine .k9 ?_|(refine .cd ?_ ?_<;>(intro hc;first|exact kf hc (by assumption)|skip))|refine .r1 ?_ ?_|(refine .l1 ?_;intro b)|(refine .m1 ?_ ?_;intro b)|(refine .m2 ?_ ?_;intro hlen)|refine .an rfl (by intro aB;first|exact VF x.val|exact yq ⟨x.val.kind,x.unit,x.name⟩|exact qD _|exact IJ DS x.op|exact IJ AF x.op|exact IJ wz x.op|(refine(yQ x (Lp x)).wk ?_;(repeat' first|exact .row|exact .refl _|exact .nil|refine .cons ?_ ?_|refine .agg ?_|fail);done)|(refine(yQ x (Ta x)).wk ?_;(repeat' first|exact .row|exact .refl _|exact .nil|refine .cons ?_ ?_|refine .agg ?_|fail);done)|(refine(yQ x (Ik x)).wk ?_;(repeat' first|exact .row|exact .refl _|exact .nil|refine .cons ?_ ?_|refine .agg ?_|fail);done)|(refine(yQ x (CU x)).wk ?_;(repeat' first|exact .row|exact .refl _|exact .nil|refine .cons ?_ ?_|refine .agg ?_|fail);done)|(refine(yQ x (O0 x)).wk ?_;(repeat' first|exact .row|exact .refl _|exact .nil|refine .cons ?_ ?_|refine .agg ?_|fail);done)|fail) ?_ ?_|refine .r9 ?_ ?_|fail)
 try any_goals(exact Zo)
 all_goals(try simp only[BL]at *)
 all_goals first
  |(exfalso;omega)
  |(with_reducible refine Sx.Fin.intro ?_ (bq ?_)
    rotate_left
    rw[wT]
    have h1:=flat_lit x
    have h2:=flat_agg x
    have h3:=PN x
    have hqd:=Ub
    clear ih lj
    focus grind [jF,qE,xE,yO,sG,qI,tj]
    repeat' first|exact .refl _|refine .cons ?_)
  |skip
 all_goals
  have hF:tH x ins:=by
   unfold tH
   rw[wT]
   have h1:=flat_lit x
   have h2:=flat_agg x
   have h3:=PN x
   have hqd:=Ub
   clear ih lj
   grind [jF,qE,xE,yO,sG,qI,tj]
 all_goals have hN:x.kind=5→x.args.length=2:=by intro h;omega
 all_goals refine bO (fun n rg σ'=>∃ (i:Nat) (q:Bool) (b0 b:Nat) (c:List AV),q=(ins || decide (x.kind=5))∧i≤x.args.length∧n=x.args.length-i∧(∀ j,j<i→form q (x.args.getD j default)=true)∧σ'=(5,b,aR.cells c)::(2,b0,aR.cells x.lay)::σ∧rg=[(1,.v (.bool q)),(2,.lp 2 b0 0),(186,.sl false 12 (x.args.map Ex.row)),(187,iv x.args.length),(188,iv i)]) x.args.length rfl ⟨_,_,Zr,Zs,0,_,_,_,_,by simp[*],ZL _,rfl,fun j hj=>absurd hj (by omega),rfl,rfl⟩ ?_
 all_goals clear hlen
 all_goals rintro n _ _ ⟨i,q,b0,b,c,hq,hi,hn,hp,rfl,rfl⟩
 all_goals clear ih
 repeat'(first|exact .nil|refine .k0 ?_|refine .k1 ?_|refine .k2 ?_|refine .k4 ?_|refine .k6 ?_|refine .k7 ?_|refine .k8 ?_|refine .k9 ?_|(refine .cd ?_ ?_<;>(intro hc;skip))|refine .r1 ?_ ?_|(refine .l1 ?_;intro b)|refine .t1 ?_ ?_ ?_|refine .an rfl (by intro aB;first|(refine(yQ (x.args.getD 0 default) jL).wk ?_;(repeat' first|exact .refl _|exact .nil|refine .cons ?_ ?_|refine .agg ?_|fail);done)|exact lj (x.args.getD i default) (dt (by(simp only[BL]at *;omega))) _) ?_ ?_|fail)
 try any_goals(exact Zo)
 all_goals(try simp only[BL]at *)
 all_goals first
  |(with_reducible refine Sx.Fin.intro ?_ (bq ?_)
    rotate_left
    focus first
     |exact adS hF hq (by omega) hc
     |exact adR hF hq (PF (by omega) hp) (by omega) hc
     |exact adT hF hq (PF (by omega) hp) hc
    repeat' first|exact .refl _|refine .cons ?_)
  |(refine⟨x.args.length-(i+1),by omega,_,_,Zr,Zs,i+1,_,_,_,_,hq,by omega,rfl,iP hp hc,rfl,by rw[eu (by omega)];rfl⟩)
  |trace_state
set_option maxHeartbeats 4000000
def shape(x:Ex):Int:=if 64<x.size∨12<x.depth then 2 else if form false x=true then 0 else 3
theorem Db(x:Ex)(hs:x.size≤100000):Pure prog 36 [.agg x.row] (iv (shape x)):=by
 rw[Ex.fe x]
 refine k36.p fun σ=> ?_
 repeat'(first|exact .nil|refine .k0 ?_|refine .k1 ?_|refine .k2 ?_|refine .k4 ?_|refine .k7 ?_|refine .k9 ?_|(refine .cd ?_ ?_<;>(intro hc;skip))|refine .r1 ?_ ?_|(refine .m1 ?_ ?_;intro b)|refine .an rfl (by intro aB;first|(refine(akm x (by first|omega|fail)).wk ?_;(repeat' first|exact .row|exact .refl _|refine .cons ?_ ?_|refine .agg ?_|fail);done)|(refine(ac2 x (by first|omega|fail)).wk ?_;(repeat' first|exact .row|exact .refl _|refine .cons ?_ ?_|refine .agg ?_|fail);done)|(refine(aiB x false).wk ?_;(repeat' first|exact .row|exact .refl _|refine .cons ?_ ?_|refine .agg ?_|fail);done)|fail) ?_ ?_|fail)
 try any_goals(exact Zo)
 all_goals(try simp only[BL]at *)
 all_goals(refine Sx.Fin.intro Zs (bi ?_);unfold shape;grind)
theorem eL(s:ae):s.data.toList.length=s.size:=rfl
theorem cr(a:Array UInt8):(⟨a⟩:ae).size=a.size:=rfl
theorem di(a b:ae):(a++b).size=a.size+b.size:=by rw[Dh,qQ,Z9];rfl
def iR(f:ax):ae:=if f.exp=1 then f.name else f.name++(⟨#[94]⟩++kL f.exp)
def qT(u:List ax):ae:=xA (u.map iR) ⟨#[42]⟩
theorem Dk{α:Type}[Inhabited α]{l:List α}{i:Nat}(h:i<l.length):l.take (i+1)=l.take i++[l.getD i default]:=by
 rw[getD_eq h,ZF h]
set_option maxHeartbeats 4000000
theorem bs{a b:ae}(h:a=b):AV.v (.string a)=sv b:=by rw[h]
def s9(u:List ax):ae:=if u=[]then⟨#[]⟩else⟨#[32,91]⟩++(qT u++⟨#[93]⟩)
def iA:Nat→Nat→List UInt8
 |0,_=>[]
 |k+1,x=>iA k (x / 10)++[UInt8.ofNat (48+x % 10)]
def Br(x:Nat):ae:=⟨(Lib.decDigits (x / 10 ^ 6)++46::iA 6 x).toArray⟩
set_option maxHeartbeats 4000000
def Bi(n:Int):ae:=if n=1 then⟨#[116,114,117,101]⟩else⟨#[102,97,108,115,101]⟩
def nY(n:Int):ae:=⟨(Lib.decDigits n.toNat).toArray⟩
def GU(v:iE):ae:=
 if v.kind=1 then Bi v.n else if v.kind=2 then nY v.n else if v.kind=3 then Br v.n.toNat
 else if v.kind=4 then⟨#[34]⟩++(v.s++⟨#[34]⟩)else if v.kind=5 then⟨#[64]⟩++v.s else⟨#[110,117,108,108]⟩
structure pR(v:iE):Prop where
 e:td v=0
 n:0≤v.n
theorem pR.kinds{v:iE}(h:pR v):0≤v.kind∧v.kind≤5∧v.n≤1152921504606846976∧v.s.size≤64:=by
 have:=h.e
 have h0:=h.n
 unfold td at this
 split at this
 ·omega
 ·rename_i hf
  have hf:=Yy.1 hf
  split at this
  ·omega
  ·rename_i hb
   have hs:v.kind≤3→v.s.size=0:=fun h=>by rw[hf.2.2.1 h];rfl
   refine⟨hf.1,hf.2.1,by omega,?_⟩
   have:=hf.2.1
   omega
theorem Wk.vP(vs:Array Value):Wk (.v (.agg vs)) (.agg (vs.toList.map .v)):=fun M x h=>by
 obtain rfl:=h.ay
 have:=R.agg (M:=M) (vs.toList.map .v) vs.toList (by simp) (fun i h1 h2=>by simp only[Zj];exact .v _)
 simpa using this
set_option maxHeartbeats 4000000
def iL(x:Ex):Int:=
 if x.kind=8 then 0 else if x.kind=9 then 1
 else if x.kind=6 then(if x.op=⟨#[45]⟩then 8 else if x.op=⟨#[110,111,116]⟩then 4 else 9)
 else if x.kind=7 then(if x.op=⟨#[111,114]⟩then 2 else if x.op=⟨#[97,110,100]⟩then 3 else if x.op=⟨#[43]⟩∨x.op=⟨#[45]⟩then 6 else if x.op=⟨#[42]⟩∨x.op=⟨#[47]⟩then 7 else 5)
 else 9
def Dw(w:pS):ae:=
 if w.kind=2 then⟨#[115,108,105,100,105,110,103,32]⟩++nY w.size else if w.kind=3 then⟨#[116,117,109,98,108,105,110,103,32]⟩++nY w.size
 else if w.kind=4 then⟨#[115,101,115,115,105,111,110,32]⟩++nY w.size else⟨#[97,108,108]⟩
def CP(x:Ex):ae:=if x.val.kind=5 then⟨#[64]⟩++(x.name++(⟨#[32,34]⟩++(x.val.s++⟨#[34]⟩)))else GU x.val++s9 x.unit
def par(s:ae):ae:=⟨#[40]⟩++(s++⟨#[41]⟩)
def mG(x:Ex)(T:Nat→ae)(i:Nat)(r:Int):ae:=if iL (x.args.getD i default)<r then par (T i)else T i
def gM(x:Ex)(T:Nat→ae):ae:=
 x.op++(⟨#[40]⟩++(x.table++((if x.op=bu then⟨#[]⟩else⟨#[44,32]⟩++T 0)++((if x.param=0 then⟨#[]⟩else⟨#[44,32]⟩++nY x.param)
  ++(⟨#[44,32]⟩++(Dw x.win++((if x.args.getD 1 default=jL then⟨#[]⟩else⟨#[32,119,104,101,114,101,32]⟩++T 1)++⟨#[41]⟩)))))))
def GD(x:Ex)(T:Nat→ae):ae:=
 if x.op=⟨#[45]⟩then⟨#[45]⟩++mG x T 0 8 else if x.op=⟨#[110,111,116]⟩then⟨#[110,111,116,32]⟩++mG x T 0 4 else⟨#[110,117,108,108,40]⟩++(T 0++⟨#[41]⟩)
def Lk(x:Ex):Int:=if iL x=5 then 6 else iL x
def DX(x:Ex)(T:Nat→ae):ae:=mG x T 0 (Lk x)++(⟨#[32]⟩++(x.op++(⟨#[32]⟩++mG x T 1 (iL x+1))))
def Fc(x:Ex)(T:Nat→ae):ae:=⟨#[105,102,32]⟩++(T 0++(⟨#[32,116,104,101,110,32]⟩++(T 1++(⟨#[32,101,108,115,101,32]⟩++T 2))))
def Ea(x:Ex)(T:Nat→ae):ae:=mG x T 0 1++(⟨#[32,100,101,102,97,117,108,116,32]⟩++mG x T 1 2)
def Gw(x:Ex)(T:Nat→ae):ae:=
 if x.kind=1 then CP x else if x.kind=4 then x.name++(⟨#[32,111,102,32,40]⟩++(T 0++⟨#[41]⟩))else if x.kind=5 then gM x T
 else if x.kind=6 then GD x T else if x.kind=7 then DX x T else if x.kind=8 then Fc x T else if x.kind=9 then Ea x T else x.name
mutual
def text:Ex→ae
 | .mk k o n t v u p w ks=>Gw (.mk k o n t v u p w ks) (fun i=>(Dl ks).getD i ⟨#[]⟩)
def Dl:List Ex→List ae
 |[]=>[]
 |x::l=>text x::Dl l
end
structure vW(x:Ex)(ins:Bool):Prop where
 nb:jF x ins
 nn:(x.args.length:Int)=qE x
 sub:∀ y∈x.args,form (ins || decide (x.kind=5)) y=true
 cn:x.kind=5→x.op=bu→x.args.getD 0 default=jL
theorem vW.of{x:Ex}{ins:Bool}(h:form ins x=true):vW x ins:=by
 obtain⟨h1,h2,h3,h4⟩:=(wT ins x).1 h
 exact⟨h1,h2,h3,h4⟩
end Go.Proofs.YtajimcniogfpcaaGreatDoor
