import Derived.Test.YtmemninechdogaaGreatDoorPt
import Derived.Lib.ItoaLen
set_option linter.all false
set_option maxRecDepth 100000
namespace Go.Proofs.YtmemninechdogaaGreatDoor
open _root_.Go.Proofs.Tryz
open Go.Sx Go.Proofs
def firstIdx{X:Type}(p:X->Bool):List X->Nat->Int
 |[],_=> -1|x::l,k=>if p x then k else firstIdx p l (k+1)
theorem C8{X:Type}(p:X->Bool):∀(l:List X) (k:Nat),0<=firstIdx p l k↔∃x∈l,p x=true
 |[],k=>by simp[firstIdx]|x::l,k=>by
  unfold firstIdx;cases h:p x with
  |true=>simp[h]|false=>simp[h,C8 p l (k+1)]
theorem q9{X:Type}{p:X->Bool}:∀{l:List X} {k:Nat},(∀x∈l,p x=false)->firstIdx p l k= -1
 |[],k,_=>rfl|x::l,k,h=>by unfold firstIdx;rw[h x (by simp)];exact q9 fun y hy=>h y (by simp[hy])
theorem q8{X:Type}[Inhabited X]{p:X->Bool}:∀{l:List X} {k i:Nat},(∀j,j<i->p (l.getD j default)=false)->i<l.length->p (l.getD i default)=true->firstIdx p l k=((k+i:Nat):Int)
 |[],k,i,_,h,_=>absurd h (by simp)|x::l,k,0,_,_,h=>by unfold firstIdx;grind|x::l,k,i+1,ha,hi,h=>by have h0:p x=false:=ha 0 (by omega);unfold firstIdx;rw[q8 (k:=k+1) (i:=i) (fun j hj=>ha (j+1) (by omega)) (by grind) h];grind
theorem kj{X:Type}[Inhabited X]{p:X->Prop}{l:List X}(h:∀j,j<l.length->p (l.getD j default)):∀x∈l,p x:=fun x hx=>by obtain⟨i,hi,rfl⟩:=YO.1 hx;grind
theorem aey(l:List ae)(x:ae):Pure prog 281 [.sl false 1 (l.map dq),sv x] (iv (firstIdx (fun y=>decide (x=y)) l 0)):=by
 refine agq.p fun d=>?_;repeat'(first|exact .nil|refine .k ?_|refine .r1 ?_ ?_|(refine .m2 ?_ ?_;intro hlen)|fail)
 all_goals(simp_all)
 refine aP (fun n rg af=>∃i:Nat,i<=l.length/\n=l.length-i/\(∀j,j<i->¬x=l.getD j default)/\af=d/\rg=[(0,.sl false 1 (l.map dq)),(1,sv x),(7,iv l.length),(8,iv i)]) l.length rfl ⟨_,_,Zr,Zs,0,Z4 _,rfl,fun j hj=>absurd hj (by omega),rfl,rfl⟩ ?_;rintro n _ _ ⟨i,hi,hn,hp,rfl,rfl⟩;repeat'(first|exact .nil|refine .k ?_|(refine .cd ?_ ?_<;>intro hc)|refine .r1 ?_ ?_|refine .t1 ?_ ?_ ?_|fail)
 try any_goals(exact Zo)
 all_goals(try simp only[BL]at*)
 .rw[q8 (p:=fun y=>decide (x=y)) (l:=l) (k:=0) (i:=i) (fun j hj=>Zp (hp j hj)) (by omega) (Y7 hc),ZH];exact Zw
 .refine⟨l.length-(i+1),by omega,_,_,Zr,Zs,i+1,by omega,rfl,dj hp hc,rfl,by rw[bj (by omega) hlen]⟩
 .rw[q9 (fun y hy=>Zp (kj (p:=fun y=>¬x=y) (fun j hj=>hp j (by omega)) y hy))];exact Zw
theorem G1(l:List ae)(x:ae):Pure prog 233 [.sl false 1 (l.map dq),sv x] (.v (.bool (decide (∃y∈l,x=y)))):=by
 refine af2.p fun d=>?_;repeat'(first|exact .nil|refine .k ?_|refine .r1 ?_ ?_|refine .an rfl (by intro ar;exact aey _ _) ?_ ?_|fail)
 ·(refine Sx.Fin.intro Zs (bd ?_);simp_all)
  rw[C8];grind
theorem Bj(l:List ae)(x:ae):Pure prog 220 [sv x,.sl false 1 (l.map dq)] (.v (.bool (decide (∃y∈l,x=y)))):=by
 refine afT.p fun d=>?_;repeat'(first|exact .nil|refine .k ?_|refine .r1 ?_ ?_|fail)
 all_goals(try grind)
 refine aP (fun n rg af=>∃i:Nat,i<=l.length/\n=l.length-i/\(∀j,j<i->¬l.getD j default=x)/\af=d/\rg=[(0,sv x),(1,.sl false 1 (l.map dq)),(5,iv i)]) l.length rfl ⟨_,_,Zr,Zs,0,Z4 _,rfl,fun j hj=>absurd hj (by omega),rfl,rfl⟩ ?_;rintro n _ _ ⟨i,hi,hn,hp,rfl,rfl⟩;repeat'(first|exact .nil|refine .k ?_|(refine .cd ?_ ?_<;>intro hc)|refine .r1 ?_ ?_|(refine .m2 ?_ ?_;intro hlen)|refine .t1 ?_ ?_ ?_|fail)
 try any_goals(exact Zo)
 all_goals(try simp only[BL]at*)
 .refine Sx.Fin.intro Zs (bt ?_);exact⟨_,bN (by omega),hc.symm⟩
 .refine⟨l.length-(i+1),by omega,_,_,Zr,Zs,i+1,by omega,rfl,dj hp hc,rfl,by rw[bj (by omega) hlen]⟩
 .refine Sx.Fin.intro Zs (bf ?_);rintro⟨y,hy,rfl⟩;exact kj (p:=fun y=>¬y=x) (fun j hj=>hp j (by omega)) x hy rfl
theorem aco(f:ax):Pure prog 180 [.agg f.cells] (.v (.bool (decide (¬Name f.name)))):=by
 refine afH.p fun d=>?_;repeat'(first|exact .nil|refine .k ?_|refine .r1 ?_ ?_|(refine .m1 ?_ ?_;intro b)|refine .an rfl (by intro ar;exact rO _) ?_ ?_|fail)
 .refine Sx.Fin.intro Zs ?_;grind
theorem aev(u:List ax):Pure prog 232 [.sl false 2 (u.map ax.cells),.v (.func (.func 180) #[] #[])] (iv (firstIdx (fun f=>decide (¬Name f.name)) u 0)):=by
 refine QD.p fun d=>?_;repeat'(first|exact .nil|refine .k ?_|refine .r1 ?_ ?_|(refine .m2 ?_ ?_;intro hlen)|fail)
 all_goals(try grind)
 refine aP (fun n rg af=>∃i:Nat,i<=u.length/\n=u.length-i/\(∀j,j<i->Name (u.getD j default).name)/\af=d/\rg=[(0,.sl false 2 (u.map ax.cells)),(1,.v (.func (.func 180) #[] #[])),(7,iv u.length),(8,iv i)]) u.length rfl ⟨_,_,Zr,Zs,0,Z4 _,rfl,fun j hj=>absurd hj (by omega),rfl,rfl⟩ ?_;rintro n _ _ ⟨i,hi,hn,hp,rfl,rfl⟩;repeat'(first|exact .nil|refine .k ?_|(refine .cd ?_ ?_<;>intro hc)|refine .r1 ?_ ?_|refine .t1 ?_ ?_ ?_|refine .an rfl (by intro ar;exact aco _) ?_ ?_|fail)
 try any_goals(exact Zo)
 all_goals(try simp only[BL]at*)
 .rw[q8 (p:=fun f:ax=>decide (¬Name f.name)) (l:=u) (k:=0) (i:=i) (fun j hj=>Zp (fun h=>h (hp j hj))) (by omega) (Y7 hc),ZH];exact Zw
 .refine⟨u.length-(i+1),by omega,_,_,Zr,Zs,i+1,by omega,rfl,dj hp (YF.1 hc),rfl,by rw[bj (by omega) hlen]⟩
 .rw[q9 (fun y hy=>Zp (fun h=>h (kj (p:=fun y:ax=>Name y.name) (fun j hj=>hp j (by omega)) y hy)))];exact Zw
theorem abl(u:List ax):Pure prog 179 [.sl false 2 (u.map ax.cells),.v (.func (.func 180) #[] #[])] (.v (.bool (decide (∃f∈u,¬Name f.name)))):=by
 refine Qy.p fun d=>?_;repeat'(first|exact .nil|refine .k ?_|refine .r1 ?_ ?_|refine .an rfl (by intro ar;exact aev _) ?_ ?_|fail)
 ·(refine Sx.Fin.intro Zs (bd ?_);simp_all)
  rw[C8];grind
theorem He{X:Type}[Inhabited X]{a b:List X}(hl:a.length=b.length)(h:∀j,j<a.length->a.getD j default=b.getD j default):a=b:=by apply X9 hl;grind
theorem NS{a b:ax}(h:a.name=b.name/\a.exp=b.exp):a=b:=by cases a;cases b;simp_all
theorem E6(a b:List ax):Pure prog 82 [.sl false 2 (a.map ax.cells),.sl false 2 (b.map ax.cells)] (.v (.bool (decide (a=b)))):=by
 refine k82.p fun d=>?_;repeat'(first|exact .nil|refine .k ?_|(refine .cd ?_ ?_<;>intro hc)|refine .r1 ?_ ?_|(refine .m2 ?_ ?_;intro hlen)|fail)
 all_goals(simp_all)
 .refine Sx.Fin.intro Zs (bf ?_);grind
 refine aP (fun n rg af=>∃i:Nat,i<=a.length/\n=a.length-i/\(∀j,j<i->a.getD j default=b.getD j default)/\af=d/\rg=[(0,.sl false 2 (a.map ax.cells)),(1,.sl false 2 (b.map ax.cells)),(5,iv i)]) a.length rfl ⟨_,_,Zr,Zs,0,Z4 _,rfl,fun j hj=>absurd hj (by omega),rfl,rfl⟩ ?_;rintro n _ _ ⟨i,hi,hn,hp,rfl,rfl⟩;repeat'(first|exact .nil|refine .k ?_|(refine .cd ?_ ?_<;>intro hc)|refine .r1 ?_ ?_|(refine .m2 ?_ ?_;intro hlen)|refine .t1 ?_ ?_ ?_|fail)
 try any_goals(exact Zo)
 all_goals(try simp only[BL]at*)
 .refine Sx.Fin.intro Zs (bf ?_);rintro rfl;rcases hc with hc|hc<;>exact hc rfl
 .refine⟨a.length-(i+1),by omega,_,_,Zr,Zs,i+1,by omega,rfl,dj hp (NS hc),rfl,by rw[bj (by omega) hlen]⟩
 .refine Sx.Fin.intro Zs (bt ?_);exact He (by omega) (fun j hj=>hp j (by omega))
theorem ND(a b:List ax):Pure prog 240 [.sl false 2 (a.map ax.cells),.sl false 2 (b.map ax.cells)] (.v (.bool (decide (a=b)))):=by
 refine af9.p fun d=>?_;repeat'(first|exact .nil|refine .k ?_|(refine .cd ?_ ?_<;>intro hc)|refine .r1 ?_ ?_|(refine .m2 ?_ ?_;intro hlen)|fail)
 all_goals(try simp only[BL]at*)
 .refine Sx.Fin.intro Zs (bf ?_);grind
 refine aP (fun n rg af=>∃i:Nat,i<=a.length/\n=a.length-i/\(∀j,j<i->a.getD j default=b.getD j default)/\af=d/\rg=[(0,.sl false 2 (a.map ax.cells)),(1,.sl false 2 (b.map ax.cells)),(12,iv a.length),(13,iv i)]) a.length rfl ⟨_,_,Zr,Zs,0,Z4 _,rfl,fun j hj=>absurd hj (by omega),rfl,rfl⟩ ?_;rintro n _ _ ⟨i,hi,hn,hp,rfl,rfl⟩;repeat'(first|exact .nil|refine .k ?_|(refine .cd ?_ ?_<;>intro hc)|refine .r1 ?_ ?_|refine .t1 ?_ ?_ ?_|fail)
 try any_goals(exact Zo)
 all_goals(try simp only[BL]at*)
 .refine Sx.Fin.intro Zs (bf ?_);rintro rfl;rcases hc with hc|hc<;>exact hc rfl
 .refine⟨a.length-(i+1),by omega,_,_,Zr,Zs,i+1,by omega,rfl,dj hp (NS hc),rfl,by rw[bj (by omega) hlen]⟩
 .refine Sx.Fin.intro Zs (bt ?_);exact He (by omega) (fun j hj=>hp j (by omega))
def A9(a b:ae):Bool:=Op.bytesLess a.toList b.toList||decide (a=b)
def jv(p:Option ae)(f:ax):Int:=if¬Word f.name then 1 else if f.exp=0\/f.exp>8\/f.exp< -8 then 70 else match p with
 |some p=>if A9 f.name p=true then 3 else 0|none=>0
def iX:Option ae->List ax->Int
 |_,[]=>0|p,f::l=>if jv p f=0 then iX (some f.name) l else jv p f
def dK(u:List ax):Int:=if u.length>4 then 2 else iX none u
def nh(u:List ax)(i:Nat):Option ae:=if i=0 then none else some (u.getD (i-1) default).name
theorem T9{u:List ax}{i:Nat}(hi:i<u.length)(h:jv (nh u i) (u.getD i default)=0):iX (nh u i) (u.drop i)=iX (nh u (i+1)) (u.drop (i+1)):=by rw[tc hi,iX,Z3 h];rfl
theorem yS{u:List ax}{i:Nat}{e:Int}(hi:i<u.length)(h:jv (nh u i) (u.getD i default)=e)(he:e≠0):iX (nh u i) (u.drop i)=e:=by rw[tc hi,iX,Z9 (by grind),h]
theorem T7(u:List ax):Pure prog 178 [.sl false 2 (u.map ax.cells)] (iv (dK u)):=by
 refine Qx.p fun d=>?_;repeat'(first|exact .nil|refine .k ?_|(refine .cd ?_ ?_<;>intro hc)|refine .r1 ?_ ?_|(refine .m2 ?_ ?_;intro hlen)|fail)
 all_goals(simp_all)
 .rw[dK,Z3 (by omega)];exact Zw
 have hu:dK u=iX none u:=Z9 (by omega);refine aP (fun n rg af=>∃i:Nat,i<=u.length/\n=u.length-i/\dK u=iX (nh u i) (u.drop i)/\af=d/\rg=[(0,.sl false 2 (u.map ax.cells)),(8,.sl false 2 (u.map ax.cells)),(9,iv u.length),(10,iv i)]) u.length rfl ⟨_,_,Zr,Zs,0,Z4 _,rfl,hu,rfl,rfl⟩ ?_;rintro n _ _ ⟨i,hi,hn,hp,rfl,rfl⟩;repeat'(first|exact .nil|refine .k ?_|omega|omega|refine .k ?_|(refine .cd ?_ ?_<;>intro hc)|refine .r1 ?_ ?_|refine .l1 fun b=>?_|refine .t1 ?_ ?_ ?_|refine .an rfl (by intro ar;first|exact UK _|exact Sf _ 8 (by decide)|fail) ?_ ?_|fail)
 try any_goals(exact Zo)
 all_goals(try simp only[BL]at*)
 .rw[hp,yS (e:=1) (by omega) (by unfold jv;rw[Z3 hc]) (by decide)];exact Zw
 .rename_i hw;rw[hp,yS (e:=70) (by omega) (by unfold jv;rw[Z9 (fun h=>h hw),Z3 (by omega)]) (by decide)];exact Zw
 .rename_i hw he;rw[yu (by omega) (by omega),Yk]at hc;rw[hp,yS (e:=3) (by omega) (by
   unfold jv;rw[Z9 (fun h=>h hw),Z9 (by omega),nh,Z9 (by omega)]
   exact Z3 (by simp only[A9,YL,ZQ];exact hc.2)) (by decide)]
  exact Zw
 .rename_i hw he;refine⟨u.length-(i+1),by omega,_,_,Zr,Zs,i+1,by omega,rfl,?_,rfl,by rw[bj (n:=u.length) (by omega) (by assumption)]⟩;rw[hp];refine T9 (by omega) ?_;unfold jv;rw[Z9 (fun h=>h hw),Z9 (by omega)];by_cases h0:i=0
  .rw[nh,Z3 h0]
  .rw[yu (by omega) (by omega),Yk]at hc;rw[nh,Z9 h0];refine Z9 ?_;rcases hc with hc|hc
   .omega
   .simp only[A9,YL,ZQ];rintro(h|h)
    .rw[h]at hc;exact Bool.noConfusion hc.1
    .exact hc.2 h
 all_goals(try(intro h0;rw[yu (by omega) (by omega)];omega))
 .rw[hp,XC (by omega),iX];exact Zw
theorem Lp(u:List ax):Pure prog 115 [.sl false 2 (u.map ax.cells)] (iv (dK u)):=by
 refine afb.p fun d=>?_;repeat'(first|exact .nil|refine .k ?_|(refine .cd ?_ ?_<;>intro hc)|refine .r1 ?_ ?_|(refine .m2 ?_ ?_;intro hlen)|fail)
 all_goals(simp_all)
 .rw[dK,Z3 (by omega)];exact Zw
 have hu:dK u=iX none u:=Z9 (by omega);refine aP (fun n rg af=>∃i:Nat,i<=u.length/\n=u.length-i/\dK u=iX (nh u i) (u.drop i)/\af=d/\rg=[(0,.sl false 2 (u.map ax.cells)),(3,iv i)]) u.length rfl ⟨_,_,Zr,Zs,0,Z4 _,rfl,hu,rfl,rfl⟩ ?_;rintro n _ _ ⟨i,hi,hn,hp,rfl,rfl⟩;repeat'(first|exact .nil|refine .k ?_|omega|omega|refine .k ?_|(refine .cd ?_ ?_<;>intro hc)|refine .r1 ?_ ?_|(refine .m2 ?_ ?_;intro hlen)|refine .t1 ?_ ?_ ?_|refine .an rfl (by intro ar;first|exact UJ _|exact NT _) ?_ ?_|fail)
 try any_goals(exact Zo)
 all_goals(try simp only[BL]at*)
 .rw[hp,yS (e:=1) (by omega) (by unfold jv;rw[Z3 hc]) (by decide)];exact Zw
 .rename_i hw;rw[hp,yS (e:=70) (by omega) (by unfold jv;rw[Z9 (fun h=>h hw),Z3 (by omega)]) (by decide)];exact Zw
 .rename_i hw he;rw[yu (by omega) (by omega),Yk]at hc;rw[hp,yS (e:=3) (by omega) (by
   unfold jv;rw[Z9 (fun h=>h hw),Z9 (by omega),nh,Z9 (by omega)]
   exact Z3 (by simp only[A9,YL,ZQ];exact hc.2)) (by decide)]
  exact Zw
 .rename_i hw he;refine⟨u.length-(i+1),by omega,_,_,Zr,Zs,i+1,by omega,rfl,?_,rfl,by rw[bj (n:=u.length) (by omega) (by assumption)]⟩;rw[hp];refine T9 (by omega) ?_;unfold jv;rw[Z9 (fun h=>h hw),Z9 (by omega)];by_cases h0:i=0
  .rw[nh,Z3 h0]
  .rw[yu (by omega) (by omega),Yk]at hc;rw[nh,Z9 h0];refine Z9 ?_;rcases hc with hc|hc
   .omega
   .simp only[A9,YL,ZQ];rintro(h|h)
    .rw[h]at hc;exact Bool.noConfusion hc.1
    .exact hc.2 h
 all_goals(try(intro h0;rw[yu (by omega) (by omega)];omega))
 .rw[hp,XC (by omega),iX];exact Zw
theorem bi{n m:Int}(h:n=m):AV.v (.int .i64 n)=iv m:=by rw[h]
def Num(t:Ty):Prop:=t.kind=2\/t.kind=3
instance (t:Ty):Decidable (Num t):=inferInstanceAs (Decidable (_\/_))
theorem Ed(t:Ty):Pure prog 177 [.agg t.cells] (.v (.bool (decide (Num t)))):=by
 refine afG.p fun d=>?_;repeat'(first|exact .nil|refine .k ?_|grind|refine .r1 ?_ ?_|(refine .m1 ?_ ?_;intro b)|fail)
 ·(((refine Sx.Fin.intro Zs (bd ?_);simp_all)))
  unfold Num;omega
theorem Ey(t:Ty):Pure prog 114 [.agg t.cells] (.v (.bool (decide (Num t)))):=by
 refine afa.p fun d=>?_;repeat'(first|exact .nil|refine .k ?_|grind|refine .r1 ?_ ?_|(refine .m1 ?_ ?_;intro b)|fail)
 ·(((refine Sx.Fin.intro Zs (bd ?_);simp_all)))
  unfold Num;omega
def kn(t:Ty):Int:=
 if t.kind<1\/t.kind>5\/(t.unit≠[]/\¬Num t)\/(t.kind=5/\¬Name t.of)\/(t.kind≠5/\t.of≠⟨#[]⟩)then 3
 else if dK t.unit≠0\/∃f∈t.unit,¬Name f.name then 70 else 0
theorem ah0{s:ae}(h:Name s):s≠⟨#[]⟩:=fun e=>by have:=h.1.1;rw[yK.2 e]at this;omega
theorem Fz{t:Ty}(h:t.kind<1\/t.kind>5\/(t.unit≠[]/\¬Num t)\/(t.kind=5/\¬Name t.of)\/(t.kind≠5/\t.of≠⟨#[]⟩)):kn t=3:=Z3 h
theorem Ll{t:Ty}(h:¬(t.kind<1\/t.kind>5\/(t.unit≠[]/\¬Num t)\/(t.kind=5/\¬Name t.of)\/(t.kind≠5/\t.of≠⟨#[]⟩)))(h':dK t.unit≠0\/∃f∈t.unit,¬Name f.name):kn t=70:=(Z9 h).trans (Z3 h')
theorem T4{t:Ty}(h:¬(t.kind<1\/t.kind>5\/(t.unit≠[]/\¬Num t)\/(t.kind=5/\¬Name t.of)\/(t.kind≠5/\t.of≠⟨#[]⟩)))(h':¬(dK t.unit≠0\/∃f∈t.unit,¬Name f.name)):kn t=0:=(Z9 h).trans (Z9 h')
theorem Ra{X:Type}{l:List X}:0<(l.length:Int)↔l≠[]:=by cases l<;>simp<;>omega
theorem FA(t:Ty):Pure prog 60 [.agg t.cells] (iv (kn t)):=by
 have hl:=@Ra ax t.unit;refine k60.p fun d=>?_;repeat'(first|exact .nil|refine .k ?_|grind|(refine .cd ?_ ?_<;>intro hc)|refine .r1 ?_ ?_|(refine .m1 ?_ ?_;intro b)|(refine .m2 ?_ ?_;intro hlen)|refine .an rfl (by intro ar;first|exact ug _|exact Lp _|exact Ey _) ?_ ?_|fail)
 try any_goals(exact Zo)
 all_goals(try simp only[BL]at*)
 .rw[Fz (by omega)];exact Zw
 .rw[Fz (by grind)];exact Zw
 .rw[Ll (by grind) (.inl hc)];exact Zw
 rename_i h1 h2;refine aP (fun n rg af=>∃i:Nat,i<=t.unit.length/\n=t.unit.length-i/\(∀j,j<i->Name (t.unit.getD j default).name)/\af=(1,b,aE.cells t.cells)::d/\rg=[(1,.lp 1 b 0),(3,iv i)]) t.unit.length rfl ⟨_,_,Zr,Zs,0,Z4 _,rfl,fun j hj=>absurd hj (by omega),rfl,rfl⟩ ?_;rintro n _ _ ⟨i,hi,hn,hp,rfl,rfl⟩;repeat'(first|exact .nil|refine .k ?_|(refine .cd ?_ ?_<;>intro hc)|refine .r1 ?_ ?_|(refine .m2 ?_ ?_;intro hlen)|refine .t1 ?_ ?_ ?_|refine .an rfl (by intro ar;first|exact ug _|fail) ?_ ?_|fail)
 try any_goals(exact Zo)
 all_goals(try simp only[BL]at*)
 .rw[Ll (by grind) (.inr ⟨_,bN (i:=i) (by omega),hc⟩)];exact Zw
 .refine⟨t.unit.length-(i+1),by omega,_,_,Zr,Zs,i+1,by omega,rfl,dj hp hc,rfl,by rw[bj (by omega) hlen]⟩
 .have bW:=kj (p:=fun f:ax=>Name f.name) (fun j hj=>hp j (by omega));rw[T4 (by grind) (by grind)];exact Zw
theorem yR(t:Ty):Pure prog 132 [.agg t.cells] (iv (kn t)):=by
 have hl:=@Ra ax t.unit;have hn:=@ah0 t.of;refine Qr.p fun d=>?_;repeat'(first|exact .nil|refine .k ?_|omega|refine .k ?_|(refine .cd ?_ ?_<;>intro hc)|refine .r1 ?_ ?_|(refine .m1 ?_ ?_;intro b)|(refine .m2 ?_ ?_;intro hlen)|refine .an rfl (by intro ar;first|exact rO _|exact T7 _|exact abl _|exact Ed _|fail) ?_ ?_|fail)
 try any_goals(exact Zo)
 all_goals(try simp only[BL]at*)
 .rw[Fz (by grind)];exact Zw
 .cases(decide (t.kind=5) == !decide (t.of=⟨#[]⟩))<;>simp
 .rw[Fz (by grind)];exact Zw
 .rename_i h1 h2;rw[Ll (by grind) hc];exact Zw
 .rename_i h1 h2;rw[T4 (by grind) (by grind)];exact Zw
def pr(low:Nat)(c:UInt8):Prop:=low<=c.toNat/\c.toNat<=126/\c.toNat≠34/\c.toNat≠92
instance (low:Nat)(c:UInt8):Decidable (pr low c):=inferInstanceAs (Decidable (_/\_/\_/\_))
def pE(s:ae)(low:Nat):Prop:=∀i,i<s.size->pr low (fA s i)
instance (s:ae)(low:Nat):Decidable (pE s low):=inferInstanceAs (Decidable (∀i,i<s.size->_))
def pT(v:kv):Prop:=0<=v.kind/\v.kind<=5/\(v.kind<=3->v.s=⟨#[]⟩)/\(v.kind=0->v.n=0)/\(v.kind=1->v.n=0\/v.n=1)/\(4<=v.kind->v.n=0)
instance (v:kv):Decidable (pT v):=inferInstanceAs (Decidable (_/\_/\_/\_/\_/\_))
def pq(v:kv):Int:=
 if¬pT v then 1
 else if v.n< -1152921504606846976\/v.n>1152921504606846976\/(v.kind=4/\v.s.size>64)\/(v.kind=5/\v.s.size>32)then 2
 else if(v.kind=4/\¬pE v.s 32)\/(v.kind=5/\(v.s=⟨#[]⟩\/¬pE v.s 33))then 3 else 0
theorem Ss(s:ae)(low:UInt8)(hs:s.size<=1000):Pure prog 358 [sv s,.v (.int .u8 low.toNat)] (.v (.bool (decide (pE s low.toNat)))):=by
 refine agQ.p fun d=>?_;repeat'(first|exact .nil|refine .k ?_|refine .r1 ?_ ?_|fail)
 all_goals(try grind)
 refine aP (fun n rg af=>∃i:Nat,i<=s.size/\n=s.size-i/\(∀j,j<i->pr low.toNat (fA s j))/\af=d/\rg=[(0,sv s),(1,.v (.int .u8 low.toNat)),(5,iv i)]) s.size rfl ⟨_,_,Zr,Zs,0,Z4 _,rfl,fun j hj=>absurd hj (by omega),rfl,rfl⟩ ?_;rintro n _ _ ⟨i,hi,hn,hp,rfl,rfl⟩;repeat'(first|exact .nil|refine .k ?_|grind|(refine .cd ?_ ?_<;>intro hc)|refine .r1 ?_ ?_|refine .t5 ?_ ?_ ?_|fail)
 try any_goals(exact Zo)
 all_goals(try simp only[BL]at*)
 .refine Sx.Fin.intro Zs (bf ?_);intro h;have:=h i (by omega);unfold pr at this;omega
 .refine⟨s.size-(i+1),by omega,_,_,Zr,Zs,i+1,by omega,rfl,dj hp ?_,rfl,by rw[bn (by omega)];rfl⟩;unfold pr;omega
 .refine Sx.Fin.intro Zs (bt ?_);exact fun j hj=>hp j (by omega)
theorem acN(v:kv):Pure prog 327 [.agg v.cells] (.v (.bool (decide (pT v)))):=by
 refine agG.p fun d=>?_;repeat'(first|exact .nil|refine .k ?_|grind|(refine .cd ?_ ?_<;>(intro hc;simp_all))|refine .r1 ?_ ?_|(refine .m1 ?_ ?_;intro b)|fail)
 try any_goals(exact Zo)
 all_goals(try simp only[BL]at*)
 all_goals(refine Sx.Fin.intro Zs (bd ?_);unfold pT;grind)
theorem alM(s:ae):Pure prog 329 [sv s] (.v (.bool (decide (s.size<=64/\pE s 32)))):=by
 refine agI.p fun d=>?_;repeat'(first|exact .nil|refine .k ?_|grind|refine .r1 ?_ ?_|refine .an rfl (by intro ar;first|exact Ss _ 32 (by(grind))|fail) ?_ ?_|fail)
 .refine Sx.Fin.intro Zs (bd ?_);grind
theorem ag9(s:ae):Pure prog 330 [sv s] (.v (.bool (decide (s≠⟨#[]⟩/\s.size<=32/\pE s 33)))):=by
 refine agJ.p fun d=>?_;repeat'(first|exact .nil|refine .k ?_|grind|refine .r1 ?_ ?_|refine .an rfl (by intro ar;first|exact Ss _ 33 (by(grind))|fail) ?_ ?_|fail)
 .refine Sx.Fin.intro Zs (bd ?_);grind
theorem aes(n:Int):Pure prog 328 [iv n] (.v (.bool (decide (-1152921504606846976<=n/\n<=1152921504606846976)))):=by
 refine agH.p fun d=>?_;repeat'(first|exact .nil|refine .k ?_|grind|refine .r1 ?_ ?_|fail)
 ·(((refine Sx.Fin.intro Zs (bd ?_);grind)))
theorem al1(v:kv):Pure prog 274 [.agg v.cells] (iv (pq v)):=by
 refine agl.p fun d=>?_;repeat'(first|exact .nil|refine .k ?_|grind|(refine .cd ?_ ?_<;>intro hc)|refine .r1 ?_ ?_|(refine .m1 ?_ ?_;intro b)|refine .an rfl (by intro ar;first|exact acN _|exact alM _|exact ag9 _|exact aes _) ?_ ?_|fail)
 try any_goals(exact Zo)
 all_goals(try simp only[BL]at*)
 all_goals(refine Sx.Fin.intro Zs (bi ?_);unfold pq;grind)
theorem al2(v:kv):Pure prog 107 [.agg v.cells] (iv (pq v)):=by
 refine ae5.p fun d=>?_;repeat'(first|exact .nil|refine .k ?_|(refine .cd ?_ ?_<;>(intro hc;first|exact kf hc (by assumption)|skip))|refine .r1 ?_ ?_|(refine .m1 ?_ ?_;intro b)|fail)
 try any_goals(exact Zo)
 all_goals(try simp only[BL]at*)
 any_goals(refine Sx.Fin.intro Zs (bi ?_);unfold pq pT;grind)
 .refine aP (fun n rg af=>∃i:Nat,i<=v.s.size/\n=v.s.size-i/\(∀j,j<i->pr 33 (fA v.s j))/\af=(1,b,aE.cells v.cells)::d/\rg=[(1,.lp 1 b 0),(6,.v (.int .u8 33)),(88,iv v.s.size),(89,iv i)]) v.s.size rfl ⟨_,_,Zr,Zs,0,Z4 _,rfl,fun j hj=>absurd hj (by omega),rfl,rfl⟩ ?_;rintro n _ _ ⟨i,hi,hn,hp,rfl,rfl⟩;repeat'(first|exact .nil|refine .k ?_|(refine .cd ?_ ?_<;>intro hc)|refine .r1 ?_ ?_|refine .t5 ?_ ?_ ?_|fail)
  try any_goals(exact Zo)
  all_goals(try simp only[BL]at*)
  .refine Sx.Fin.intro Zs (bi ?_);have:¬pE v.s 33:=fun h=>by have:=h i (by omega);unfold pr at this;omega
   unfold pq pT;grind
  .refine⟨v.s.size-(i+1),by omega,_,_,Zr,Zs,i+1,by omega,rfl,dj hp ?_,rfl,by rw[bn (by omega)];rfl⟩;unfold pr;omega
  .refine Sx.Fin.intro Zs (bi ?_);have:pE v.s 33:=fun j hj=>hp j (by omega);unfold pq pT;grind
 .refine aP (fun n rg af=>∃i:Nat,i<=v.s.size/\n=v.s.size-i/\(∀j,j<i->pr 32 (fA v.s j))/\af=(1,b,aE.cells v.cells)::d/\rg=[(1,.lp 1 b 0),(6,.v (.int .u8 32)),(88,iv v.s.size),(89,iv i)]) v.s.size rfl ⟨_,_,Zr,Zs,0,Z4 _,rfl,fun j hj=>absurd hj (by omega),rfl,rfl⟩ ?_;rintro n _ _ ⟨i,hi,hn,hp,rfl,rfl⟩;repeat'(first|exact .nil|refine .k ?_|(refine .cd ?_ ?_<;>intro hc)|refine .r1 ?_ ?_|refine .t5 ?_ ?_ ?_|fail)
  try any_goals(exact Zo)
  all_goals(try simp only[BL]at*)
  .refine Sx.Fin.intro Zs (bi ?_);have:¬pE v.s 32:=fun h=>by have:=h i (by omega);unfold pr at this;omega
   unfold pq pT;grind
  .refine⟨v.s.size-(i+1),by omega,_,_,Zr,Zs,i+1,by omega,rfl,dj hp ?_,rfl,by rw[bn (by omega)];rfl⟩;unfold pr;omega
  .refine Sx.Fin.intro Zs (bi ?_);have:pE v.s 32:=fun j hj=>hp j (by omega);unfold pq pT;grind
def Ex.lay(x:Ex):List AV:=[iv x.kind,sv x.op,sv x.name,sv x.table,iv x.val.kind,iv x.val.n,sv x.val.s,.sl false 2 (x.unit.map ax.cells),iv x.param,iv x.win.kind,iv x.win.size,.sl false 12 (x.args.map Ex.row)]
theorem Ex.Cw(x:Ex):x.args.length<x.size:=by
 have:∀l:List Ex,l.length<=Ex.c8 l:=fun l=>by
  induction l with
  |nil=>simp|cons y l ih=>have:=Ex.size_pos y;simp only[ZY,Ex.c8];omega
 have:=this x.args;rw[Ex.yJ];omega
theorem Ex.TD{x:Ex}{i:Nat}(h:i<x.args.length)(hs:x.size<=100000):IntKind.i64.wrap (((1+Ex.c8 (x.args.take i):Nat):Int)+(x.args.getD i default).size)=((1+Ex.c8 (x.args.take (i+1)):Nat):Int):=by have h1:=Ex.Tq h;have h2:=Ex.Tr x.args (i+1);have h3:=Ex.yJ x;rw[bn (by omega),h1];omega
theorem Ex.TC{x:Ex}{i:Nat}(h:i<x.args.length):(if false=true then(if((x.args.getD i default).depth:Int)<(Ex.js (x.args.take i):Int)then((x.args.getD i default).depth:Int)else Ex.js (x.args.take i))else(if((x.args.getD i default).depth:Int)>(Ex.js (x.args.take i):Int)then((x.args.getD i default).depth:Int)else Ex.js (x.args.take i)))=((Ex.js (x.args.take (i+1)):Nat):Int):=by rw[Z9 Bool.false_ne_true,Ex.abE h];grind
theorem Ex.Nx{x:Ex}{i:Nat}(h:x.args.length<=i)(hs:x.size<=100000):IntKind.i64.wrap ((Ex.js (x.args.take i):Int)+1)=(x.depth:Int):=by have:=Ex.Nb x;have h2:=Ex.abG x;rw[ZM h,bn (by omega)];omega
theorem akX(x:Ex):x.size<=100000->Pure prog 116 [.agg x.row] (iv x.size):=by
 induction x using Ex.ind with
 |h x ih=>
 intro hs;have gJ:∀y∈x.args,Pure prog 116 [.agg y.row] (iv y.size):=fun y hy=>ih y hy (by have:=Ex.BF hy;omega);have hl:=Ex.Cw x;rw[Ex.dX];refine afc.p fun d=>?_;repeat'(first|exact .nil|refine .k ?_|refine .r1 ?_ ?_|(refine .m1 ?_ ?_;intro b)|fail)
 all_goals(try simp only[BL]at*)
 refine aP (fun n rg af=>∃i:Nat,i<=x.args.length/\n=x.args.length-i/\af=(1,b,aE.cells x.lay)::d/\rg=[(1,.lp 1 b 0),(3,iv (1+Ex.c8 (x.args.take i):Nat)),(4,iv i)]) x.args.length rfl ⟨_,_,Zr,Zs,0,Z4 _,rfl,rfl,rfl⟩ ?_;rintro n _ _ ⟨i,hi,hn,rfl,rfl⟩;repeat'(first|exact .nil|refine .k ?_|(refine .cd ?_ ?_<;>intro hc)|refine .r1 ?_ ?_|(refine .m2 ?_ ?_;intro hlen)|refine .t1 ?_ ?_ ?_|refine .an rfl (by intro ar;exact gJ (x.args.getD i default) (bN (by(simp only[BL]at*;omega)))) ?_ ?_|fail)
 try any_goals(exact Zo)
 all_goals(try simp only[BL]at*)
 .refine⟨x.args.length-(i+1),by omega,_,_,Zr,Zs,i+1,by omega,rfl,rfl,?_⟩;rw[Ex.TD (by omega) hs,bn (by omega)];rfl
 .rw[ZM (i:=i) (l:=x.args) (by omega),Ex.yJ];exact Zw
theorem abF(x:Ex):x.size<=100000->Pure prog 117 [.agg x.row] (iv x.depth):=by
 induction x using Ex.ind with
 |h x ih=>
 intro hs;have gJ:∀y∈x.args,Pure prog 117 [.agg y.row] (iv y.depth):=fun y hy=>ih y hy (by have:=Ex.BF hy;omega);have hl:=Ex.Cw x;rw[Ex.dX];refine afd.p fun d=>?_;repeat'(first|exact .nil|refine .k ?_|refine .r1 ?_ ?_|(refine .m1 ?_ ?_;intro b)|fail)
 all_goals(try simp only[BL]at*)
 refine aP (fun n rg af=>∃i:Nat,i<=x.args.length/\n=x.args.length-i/\af=(1,b,aE.cells x.lay)::d/\rg=[(1,.lp 1 b 0),(3,iv (Ex.js (x.args.take i):Nat)),(4,iv i)]) x.args.length rfl ⟨_,_,Zr,Zs,0,Z4 _,rfl,rfl,rfl⟩ ?_;rintro n _ _ ⟨i,hi,hn,rfl,rfl⟩;repeat'(first|exact .nil|refine .k ?_|(refine .cd ?_ ?_<;>intro hc)|refine .r1 ?_ ?_|(refine .m2 ?_ ?_;intro hlen)|refine .t1 ?_ ?_ ?_|refine .an rfl (by intro ar;exact gJ (x.args.getD i default) (bN (by(simp only[BL]at*;omega)))) ?_ ?_|fail)
 try any_goals(exact Zo)
 all_goals(try simp only[BL]at*)
 .refine⟨x.args.length-(i+1),by omega,_,_,Zr,Zs,i+1,by omega,rfl,rfl,?_⟩;rw[Ex.TC (by omega),bn (by omega)];rfl
 .refine Sx.Fin.intro Zs (bi ?_);exact Ex.Nx (by omega) hs
theorem akZ(x:Ex):x.size<=100000->Pure prog 181 [.agg x.row] (iv x.size):=by
 induction x using Ex.ind with
 |h x ih=>
 intro hs;have gJ:∀y∈x.args,Pure prog 181 [.agg y.row] (iv y.size):=fun y hy=>ih y hy (by have:=Ex.BF hy;omega);have hl:=Ex.Cw x;rw[Ex.dX];refine afI.p fun d=>?_;repeat'(first|exact .nil|refine .k ?_|refine .r1 ?_ ?_|(refine .m1 ?_ ?_;intro b)|(refine .m2 ?_ ?_;intro hlen)|fail)
 all_goals(try simp only[BL]at*)
 refine aP (fun n rg af=>∃i:Nat,i<=x.args.length/\n=x.args.length-i/\af=(1,b,aE.cells x.lay)::d/\rg=[(2,iv (1+Ex.c8 (x.args.take i):Nat)),(6,.sl false 12 (x.args.map Ex.row)),(7,iv x.args.length),(8,iv i)]) x.args.length rfl ⟨_,_,Zr,Zs,0,Z4 _,rfl,rfl,rfl⟩ ?_;rintro n _ _ ⟨i,hi,hn,rfl,rfl⟩;repeat'(first|exact .nil|refine .k ?_|(refine .cd ?_ ?_<;>intro hc)|refine .r1 ?_ ?_|refine .l1 fun b=>?_|refine .t1 ?_ ?_ ?_|refine .an rfl (by intro ar;exact gJ (x.args.getD i default) (bN (by(simp only[BL]at*;omega)))) ?_ ?_|fail)
 try any_goals(exact Zo)
 all_goals(try simp only[BL]at*)
 .refine⟨x.args.length-(i+1),by omega,_,_,Zr,Zs,i+1,by omega,rfl,rfl,?_⟩;rw[Ex.TD (by omega) hs,bn (by omega)];rfl
 .rw[ZM (i:=i) (l:=x.args) (by omega),Ex.yJ];exact Zw
theorem abH(x:Ex):x.size<=100000->Pure prog 182 [.agg x.row] (iv x.depth):=by
 induction x using Ex.ind with
 |h x ih=>
 intro hs;have gJ:∀y∈x.args,Pure prog 182 [.agg y.row] (iv y.depth):=fun y hy=>ih y hy (by have:=Ex.BF hy;omega);have hl:=Ex.Cw x;rw[Ex.dX];refine afJ.p fun d=>?_;repeat'(first|exact .nil|refine .k ?_|refine .r1 ?_ ?_|(refine .m1 ?_ ?_;intro b)|(refine .m2 ?_ ?_;intro hlen)|fail)
 all_goals(try simp only[BL]at*)
 refine aP (fun n rg af=>∃i:Nat,i<=x.args.length/\n=x.args.length-i/\af=(1,b,aE.cells x.lay)::d/\rg=[(2,iv (Ex.js (x.args.take i):Nat)),(6,.sl false 12 (x.args.map Ex.row)),(7,iv x.args.length),(8,iv i)]) x.args.length rfl ⟨_,_,Zr,Zs,0,Z4 _,rfl,rfl,rfl⟩ ?_;rintro n _ _ ⟨i,hi,hn,rfl,rfl⟩;repeat'(first|exact .nil|refine .k ?_|(refine .cd ?_ ?_<;>intro hc)|refine .r1 ?_ ?_|refine .l1 fun b=>?_|refine .t1 ?_ ?_ ?_|refine .an rfl (by intro ar;exact gJ (x.args.getD i default) (bN (by(simp only[BL]at*;omega)))) ?_ ?_|fail)
 try any_goals(exact Zo)
 all_goals(try simp only[BL]at*)
 .refine⟨x.args.length-(i+1),by omega,_,_,Zr,Zs,i+1,by omega,rfl,rfl,?_⟩;rw[Ex.TC (by omega),bn (by omega)];rfl
 .refine Sx.Fin.intro Zs (bi ?_);exact Ex.Nx (by omega) hs
def Ex.lens(x:Ex):Nat:=x.op.size+x.name.size+x.table.size+x.val.s.size
mutual
def Ex.wt:Ex->Nat
 |.mk _ o n t v _ _ _ ks=>max (o.size+n.size+t.size+v.s.size) (Ex.sE ks)
def Ex.sE:List Ex->Nat
 |[]=>0|x::l=>max x.wt (Ex.sE l)
end
theorem Ex.UN(x:Ex):x.wt=max x.lens (Ex.sE x.args):=by cases x;rfl
theorem Ex.amw{l:List Ex}{y:Ex}(h:y∈l):y.wt<=Ex.sE l:=by
 induction l with
 |nil=>cases h|cons x l ih=>
  rw[Ex.sE];rcases ZR.1 h with rfl|h
  .omega
  .have:=ih h;omega
theorem Ex.amx{x y:Ex}(h:y∈x.args):y.wt<=x.wt:=by have:=Ex.amw h;rw[Ex.UN x];omega
def Ex.uS(x:Ex)(n:Int):Prop:=n<1\/x.lens>300\/x.unit.length>10\/x.args.length>10\/∃f∈x.unit,f.name.size>100
instance (x:Ex)(n:Int):Decidable (x.uS n):=inferInstanceAs (Decidable (_\/_\/_\/_\/_))
mutual
def kC:Ex->Int->Int
 |.mk k o nm t v u p w ks,n=>if Ex.uS (.mk k o nm t v u p w ks) n then -1 else iL ks (n-1)
def iL:List Ex->Int->Int
 |[],n=>n|x::l,n=>if n<0 then n else iL l (kC x n)
end
theorem zN(x:Ex)(n:Int):kC x n=if x.uS n then -1 else iL x.args (n-1):=by cases x;rfl
mutual
theorem Hu:∀(x:Ex) (n:Int), -1<=n->-1<=kC x n/\kC x n<=n/\(0<=kC x n->kC x n+x.size<=n)
 |.mk k o nm t v u p w ks,n,hn=>by
  rw[zN];split
  .omega
  .rename_i h;have h1:¬n<1:=fun h'=>h (.inl h');have:=N0 ks (n-1) (by omega);rw[Ex.size];simp only[Ex.args];omega
theorem N0:∀(l:List Ex) (n:Int), -1<=n->-1<=iL l n/\iL l n<=n/\(0<=iL l n->iL l n+Ex.c8 l<=n)
 |[],n,hn=>by rw[iL,Ex.c8];omega|x::l,n,hn=>by
  rw[iL,Ex.c8];split
  .omega
  .have h1:=Hu x n hn;have h2:=N0 l (kC x n) h1.1;omega
end
theorem acC{l:List Ex}{n:Int}(h:n<0):iL l n=n:=by
 cases l with
 |nil=>rfl|cons x l=>rw[iL,Z3 h]
theorem acB{x:Ex}{i:Nat}{n:Int}(hi:i<x.args.length)(h:¬n<0):iL (x.args.drop i) n=iL (x.args.drop (i+1)) (kC (x.args.getD i default) n):=by rw[tc hi,iL,Z9 h]
theorem N4(x:Ex):x.wt<=2^60->∀n:Int, -1<=n/\n<=1000->Pure prog 26 [.agg x.row,iv n] (iv (kC x n)):=by
 induction x using Ex.ind with
 |h x ih=>
 intro hs n0 PA;have gJ:∀y∈x.args,∀n:Int, -1<=n/\n<=1000->Pure prog 26 [.agg y.row,iv n] (iv (kC y n)):=fun y hy=>ih y hy (by have:=Ex.amx hy;omega);have hw:=Ex.UN x;have qj:x.lens=x.op.size+x.name.size+x.table.size+x.val.s.size:=rfl;have amY:x.op.size+x.name.size+x.table.size+x.val.s.size<=1152921504606846976:=by omega
 rw[Ex.dX];refine k26.p fun d=>?_;repeat'(first|exact .nil|refine .k ?_|(refine .cd ?_ ?_<;>intro hc)|refine .r1 ?_ ?_|(refine .m1 ?_ ?_;intro b)|(refine .m2 ?_ ?_;intro hlen)|fail)
 try any_goals(exact Zo)
 all_goals(try simp only[BL]at*)
 all_goals have aeg:IntKind.i64.wrap (IntKind.i64.wrap (IntKind.i64.wrap ((x.op.size:Int)+x.name.size)+x.table.size)+x.val.s.size)=(x.lens:Int):=by rw[bn (n:=(x.op.size:Int)+x.name.size) (by omega),bn (n:=(x.op.size:Int)+x.name.size+x.table.size) (by omega),bn (by omega)];omega
 all_goals rw[aeg]at hc
 .refine Sx.Fin.intro Zs (bi ?_);rw[zN,Z3 (by unfold Ex.uS;omega)]
 refine aP (fun n rg af=>∃i:Nat,i<=x.unit.length/\n=x.unit.length-i/\(∀j,j<i->¬(x.unit.getD j default).name.size>100)/\af=(2,b,aE.cells x.lay)::d/\rg=[(1,iv n0),(2,.lp 2 b 0),(5,iv i)]) x.unit.length rfl ⟨_,_,Zr,Zs,0,Z4 _,rfl,fun j hj=>absurd hj (by omega),rfl,rfl⟩ ?_;rintro n _ _ ⟨i,hi,hn,hp,rfl,rfl⟩;repeat'(first|exact .nil|refine .k ?_|(refine .cd ?_ ?_<;>intro hc)|refine .r1 ?_ ?_|(refine .m2 ?_ ?_;intro hlen)|refine .t1 ?_ ?_ ?_|fail)
 try any_goals(exact Zo)
 all_goals(try simp only[BL]at*)
 .refine Sx.Fin.intro Zs (bi ?_);rw[zN,Z3 (.inr (.inr (.inr (.inr ⟨_,bN (i:=i) (by omega),by omega⟩))))]
 .refine⟨x.unit.length-(i+1),by omega,_,_,Zr,Zs,i+1,by omega,rfl,dj hp (by omega),rfl,by rw[bj (n:=x.unit.length) (by omega) (by assumption)]⟩
 have bW:=kj (p:=fun f:ax=>¬f.name.size>100) (l:=x.unit) (fun j hj=>hp j (by omega));have nF:¬x.uS n0:=by rintro(h|h|h|h|⟨f,h1,h2⟩);all_goals first|omega|exact bW f h1 h2
 have adR:kC x n0=iL x.args (n0-1):=by rw[zN,Z9 nF]
 have qc:IntKind.i64.wrap (n0-1)=n0-1:=bn (by omega);rw[qc];refine aP (fun n rg af=>∃(i:Nat) (m:Int),i<=x.args.length/\n=x.args.length-i/\kC x n0=iL (x.args.drop i) m/\(-1<=m/\m<=1000)/\af=(2,b,aE.cells x.lay)::d/\rg=[(1,iv m),(2,.lp 2 b 0),(6,iv i)]) x.args.length rfl ⟨_,_,Zr,Zs,0,n0-1,Z4 _,rfl,adR,by omega,rfl,rfl⟩ ?_;rintro n _ _ ⟨i,m,hi,hn,hp,hm,rfl,rfl⟩;repeat'(first|exact .nil|refine .k ?_|(refine .cd ?_ ?_<;>intro hc)|refine .r1 ?_ ?_|(refine .m2 ?_ ?_;intro hlen)|refine .t1 ?_ ?_ ?_|refine .an rfl (by intro ar;exact gJ (x.args.getD i default) (bN (by(simp only[BL]at*;omega))) _ (by first|omega|fail)) ?_ ?_|fail)
 try any_goals(exact Zo)
 all_goals(try simp only[BL]at*)
 .have:=Hu (x.args.getD i default) m hm.1;refine⟨x.args.length-(i+1),by omega,_,_,Zr,Zs,i+1,_,by omega,rfl,by rw[hp,acB (by omega) (by omega)],by omega,rfl,by rw[bj (n:=x.args.length) (by omega) (by omega)]⟩
 .refine Sx.Fin.intro Zs (bi ?_);rw[hp];by_cases h:m<0
  .rw[acC h]
  .rw[XC (by omega),iL]
def wN(t:Ty):Ex:=⟨0,⟨#[]⟩,t.of,⟨#[]⟩,⟨0,0,⟨#[]⟩⟩,t.unit,0,⟨0,0⟩,[]⟩
theorem alR(t:Ty):(wN t).lens=t.of.size:=by show 0+t.of.size+0+0=_;omega
theorem alS(t:Ty):(wN t).wt=t.of.size:=by show max (0+t.of.size+0+0) 0=_;omega
def pC(t:Ty):Prop:=t.of.size<=300/\t.unit.length<=10/\∀f∈t.unit,f.name.size<=100
instance (t:Ty):Decidable (pC t):=inferInstanceAs (Decidable (_/\_/\_))
theorem MD(t:Ty):(wN t).uS 1↔¬pC t:=by show((1:Int)<1\/(wN t).lens>300\/t.unit.length>10\/0>10\/∃f∈t.unit,f.name.size>100)↔_;rw[alR];unfold pC;grind
theorem acG(t:Ty):0<=kC (wN t) 1↔pC t:=by
 rw[zN];by_cases h:(wN t).uS 1
 .rw[Z3 h];have:=(MD t).1 h;grind
 .rw[Z9 h];have:pC t:=YF.1 fun h'=>h ((MD t).2 h');show 0<=iL [] (1-1)↔_;rw[iL];grind
theorem N1(t:Ty)(h:t.of.size<=2^59):Pure prog 25 [.agg t.cells] (.v (.bool (decide (pC t)))):=by
 refine k25.p fun d=>?_;repeat'(first|exact .nil|refine .k ?_|refine .r1 ?_ ?_|(refine .m1 ?_ ?_;intro b)|refine .an rfl (by intro ar;exact(N4 (wN t) (by rw[alS];omega) 1 (by omega)).wk (by repeat' first|exact .refl _|exact .nil|refine .cons ?_ ?_|refine .agg ?_|fail)) ?_ ?_|fail)
 all_goals(try simp only[BL]at*)
 .refine Sx.Fin.intro Zs (bd ?_);rw[<-acG];simp
end Go.Proofs.YtmemninechdogaaGreatDoor
namespace Go.Sx
open Go.Proofs.YtmemninechdogaaGreatDoor
theorem Wk.row{l:List Ex}{nn:Bool}:Wk (.sl nn 12 (l.map Ex.row)) (.sl nn 12 (l.map Ex.cells)):=by rw[Ex.pQ];exact Wk.refl _
end Go.Sx
namespace Go.Proofs.YtmemninechdogaaGreatDoor
open _root_.Go.Proofs.Tryz
open Go.Sx Go.Proofs
def Ex.Flat(a b:Ex):Prop:=a.kind=b.kind/\a.op=b.op/\a.name=b.name/\a.table=b.table/\a.val=b.val/\a.unit=b.unit/\a.param=b.param/\a.win=b.win
instance (a b:Ex):Decidable (a.Flat b):=inferInstanceAs (Decidable (_/\_/\_/\_/\_/\_/\_/\_))
theorem Uh{a b:kv}:a=b↔a.kind=b.kind/\a.n=b.n/\a.s=b.s:=by cases a;cases b;simp
theorem UB{a b:pJ}:a=b↔a.kind=b.kind/\a.size=b.size:=by cases a;cases b;simp
theorem zR(a b:Ex):Pure prog 83 [.agg a.row,.agg b.row] (.v (.bool (decide (a.Flat b)))):=by
 rw[Ex.dX a,Ex.dX b];refine k83.p fun d=>?_;repeat'(first|exact .nil|refine .k ?_|refine .r1 ?_ ?_|(refine .m1 ?_ ?_;intro b)|refine .an rfl (by intro ar;first|exact E6 _ _|fail) ?_ ?_|fail)
 all_goals(try simp only[BL]at*)
 .refine Sx.Fin.intro Zs (bd ?_);unfold Ex.Flat;rw[Uh,UB];grind
theorem xd(a b:Ex):Pure prog 234 [.agg a.row,.agg b.row] (.v (.bool (decide (a.Flat b)))):=by
 rw[Ex.dX a,Ex.dX b];refine af3.p fun d=>?_;repeat'(first|exact .nil|refine .k ?_|refine .r1 ?_ ?_|(refine .m1 ?_ ?_;intro b)|refine .an rfl (by intro ar;exact ND _ _) ?_ ?_|fail)
 all_goals(try simp only[BL]at*)
 .refine Sx.Fin.intro Zs (bd ?_);unfold Ex.Flat;rw[Uh,UB];grind
def ml:Ex:=⟨1,⟨#[]⟩,⟨#[]⟩,⟨#[]⟩,⟨1,1,⟨#[]⟩⟩,[],0,⟨0,0⟩,[]⟩
theorem Lk:Pure prog 45 [] (.agg ml.row):=by
 refine k45.p fun d=>?_;repeat'(first|exact .nil|refine .k ?_|refine .r1 ?_ ?_|refine .l1 fun b=>?_|fail)
 all_goals(try simp only[BL]at*)
 .refine Sx.Fin.wk Zs (Wk.agg ?_);show cj _ ml.lay;unfold Ex.lay;repeat' first|exact .refl _|exact .nil|refine .cons ?_ ?_|fail
theorem aaf:Pure prog 275 [] (.sl false 1 (qQ.map dq)):=by
 refine agm.p fun d=>?_;repeat'(first|exact .nil|refine .k ?_|refine .r1 ?_ ?_|fail)
 all_goals(try simp only[BL]at*)
 .decide
 .refine Sx.Fin.wk Zs ?_;exact Wk.sl
theorem ait:Pure prog 221 [] (.sl false 1 (pL.map dq)):=by
 refine afU.p fun d=>?_;repeat'(first|exact .nil|refine .k ?_|refine .r1 ?_ ?_|fail)
 all_goals(try simp only[BL]at*)
 .decide
 .refine Sx.Fin.wk Zs ?_;exact Wk.sl
def yZ(w:pJ):Prop:=(w.kind=1/\w.size=0)\/(1<w.kind/\w.kind<=4/\1<=w.size/\w.size<=1099511627776)
instance (w:pJ):Decidable (yZ w):=inferInstanceAs (Decidable (_\/_/\_/\_/\_))
theorem aml(w:pJ):Pure prog 276 [.agg w.cells] (.v (.bool (decide (yZ w)))):=by
 refine agn.p fun d=>?_;repeat'(first|exact .nil|refine .k ?_|(refine .cd ?_ ?_<;>intro hc)|refine .r1 ?_ ?_|(refine .m1 ?_ ?_;intro b)|fail)
 all_goals(try simp only[BL]at*)
 all_goals(refine Sx.Fin.intro Zs (bd ?_);unfold yZ;grind)
def El(x:Ex):Ex:=⟨1,⟨#[]⟩,x.name,⟨#[]⟩,x.val,x.unit,0,⟨0,0⟩,[]⟩
def wh(x:Ex):Prop:=pq x.val=0/\0<=x.val.n/\kn ⟨x.val.kind,x.unit,x.name⟩=0/\x.Flat (El x)
instance (x:Ex):Decidable (wh x):=inferInstanceAs (Decidable (_/\_/\_/\_))
theorem ahz(x:Ex):Pure prog 218 [.agg x.row] (.v (.bool (decide (wh x)))):=by
 rw[Ex.dX x];refine afR.p fun d=>?_;repeat'(first|exact .nil|refine .k ?_|(refine .cd ?_ ?_<;>intro hc)|refine .r1 ?_ ?_|refine .l1 fun b=>?_|(refine .m1 ?_ ?_;intro b)|refine .an rfl (by intro ar;first|exact al1 _|exact FA ⟨x.val.kind,x.unit,x.name⟩|(refine(zR x (El x)).wk ?_;(repeat' first|exact .row|exact .refl _|exact .nil|refine .cons ?_ ?_|refine .agg ?_|fail);done)) ?_ ?_|fail)
 try any_goals(exact Zo)
 all_goals(try simp only[BL]at*)
 all_goals(refine Sx.Fin.intro Zs (bd ?_);unfold wh;grind)
def Ct(x:Ex):Ex:=⟨5,x.op,⟨#[]⟩,x.table,⟨0,0,⟨#[]⟩⟩,[],x.param,x.win,[]⟩
def yr(x:Ex):Prop:=if x.op=⟨#[113,117,97,110,116,105,108,101]⟩then 1<=x.param/\x.param<=1000 else if x.op=⟨#[100,101,99,97,121]⟩then 1<=x.param/\x.param<=1073741824 else x.param=0
instance (x:Ex):Decidable (yr x):=by unfold yr;infer_instance
def uR(x:Ex):Prop:=(∃y∈qQ,x.op=y)/\Name x.table/\yZ x.win/\yr x/\x.Flat (Ct x)
instance (x:Ex):Decidable (uR x):=inferInstanceAs (Decidable (_/\_/\_/\_/\_))
theorem aad(x:Ex):Pure prog 219 [.agg x.row] (.v (.bool (decide (uR x)))):=by
 rw[Ex.dX x];refine afS.p fun d=>?_;repeat'(first|exact .nil|refine .k ?_|(refine .cd ?_ ?_<;>intro hc)|refine .r1 ?_ ?_|(refine .m1 ?_ ?_;intro b)|refine .an rfl (by intro ar;first|exact ug _|exact aml x.win|exact aaf|exact Bj qQ x.op|(refine(zR x (Ct x)).wk ?_;(repeat' first|exact .row|exact .refl _|exact .nil|refine .cons ?_ ?_|refine .agg ?_|fail);done)) ?_ ?_|fail)
 try any_goals(exact Zo)
 all_goals(try simp only[BL]at*)
 all_goals(refine Sx.Fin.intro Zs (bd ?_);unfold uR yr;have PF:(⟨#[113,117,97,110,116,105,108,101]⟩:ae)≠⟨#[100,101,99,97,121]⟩:=by decide
           first|grind|fail)
def J9(x:Ex):Ex:=⟨x.kind,⟨#[]⟩,x.name,⟨#[]⟩,⟨0,0,⟨#[]⟩⟩,[],0,⟨0,0⟩,[]⟩
def yo(x:Ex):Ex:=⟨x.kind,x.op,⟨#[]⟩,⟨#[]⟩,⟨0,0,⟨#[]⟩⟩,[],0,⟨0,0⟩,[]⟩
def uf(x:Ex):Prop:=Name x.name/\x.Flat (J9 x)
instance (x:Ex):Decidable (uf x):=inferInstanceAs (Decidable (_/\_))
def j8(x:Ex):Int:=if x.kind=4\/x.kind=6 then 1 else if x.kind=5\/x.kind=7\/x.kind=9 then 2 else if x.kind=8 then 3 else 0
def nS(x:Ex)(ins:Bool):Prop:=
 if x.kind=1 then wh x else if x.kind=2 then ins=true/\uf x else if x.kind=3\/x.kind=4 then ins=false/\uf x
 else if x.kind=5 then ins=false/\uR x else if x.kind=6 then x.Flat (yo x)/\∃y∈uC,x.op=y
 else if x.kind=7 then x.Flat (yo x)/\∃y∈pL,x.op=y else if x.kind=8\/x.kind=9 then x.Flat (yo x)/\x.op=⟨#[]⟩else False
instance (x:Ex)(ins:Bool):Decidable (nS x ins):=by unfold nS;infer_instance
theorem bt2{n m:Int}{b:Bool}{p:Prop}[Decidable p](h1:n=m)(h2:b=true↔p):AV.aG [.v (.int .i64 n),.v (.bool b)]= .aG [iv m,.v (.bool (decide p))]:=by rw[h1,bd h2]
theorem aic(x:Ex)(ins:Bool):Pure prog 161 [.agg x.row,.v (.bool ins)] (.aG [iv (j8 x),.v (.bool (decide (nS x ins)))]):=by
 rw[Ex.dX x];refine afy.p fun d=>?_;repeat'(first|exact .nil|refine .k ?_|(refine .cd ?_ ?_<;>intro hc)|refine .r1 ?_ ?_|(refine .m1 ?_ ?_;intro b)|refine .an rfl (by intro ar;first|exact ug _|(refine(ahz x).wk ?_;(repeat' first|exact .row|exact .refl _|refine .cons ?_ ?_|refine .agg ?_|fail);done)|(refine(aad x).wk ?_;(repeat' first|exact .row|exact .refl _|refine .cons ?_ ?_|refine .agg ?_|fail);done)|exact ait|exact Bj pL x.op|(refine(Bj uC x.op).wk ?_;(repeat' first|exact .refl _|refine .cons ?_ ?_|exact .sl|fail);done)|(refine(zR x (J9 x)).wk ?_;(repeat' first|exact .row|exact .refl _|exact .nil|refine .cons ?_ ?_|refine .agg ?_|fail);done)|(refine(zR x (yo x)).wk ?_;(repeat' first|exact .row|exact .refl _|exact .nil|refine .cons ?_ ?_|refine .agg ?_|fail);done)) ?_ ?_|fail)
 try any_goals(exact Zo)
 all_goals(try simp only[BL]at*)
 all_goals(refine Sx.Fin.intro Zs (bt2 ?_ ?_)<;>grind [j8,nS,uf])
mutual
def Ex.Hc:Ex->Ex->Bool
 |.mk k o n t v u p w ks,.mk k' o' n' t' v' u' p' w' o3=>decide (k=k'/\o=o'/\n=n'/\t=t'/\v=v'/\u=u'/\p=p'/\w=w')&&Ex.uZ ks o3
def Ex.uZ:List Ex->List Ex->Bool
 |[],[]=>true|x::l,y::m=>x.Hc y&&Ex.uZ l m|[],_::_=>false|_::_,[]=>false
end
mutual
theorem Ex.Ny:∀a b:Ex,a.Hc b=true↔a=b
 |.mk k o n t v u p w ks,.mk k' o' n' t' v' u' p' w' o3=>by rw[Ex.Hc,Z6,ZQ,Ex.NA ks o3,Ex.mk.injEq];simp only[XQ]
theorem Ex.NA:∀a b:List Ex,Ex.uZ a b=true↔a=b
 |[],[]=>by simp[Ex.uZ]|x::l,y::m=>by rw[Ex.uZ,Z6,Ex.Ny x y,Ex.NA l m,Z2]|[],_::_=>by simp[Ex.uZ]|_::_,[]=>by simp[Ex.uZ]
end
instance:DecidableEq Ex:=fun a b=>decidable_of_iff _ (Ex.Ny a b)
theorem Ex.eq_iff{a b:Ex}:a=b↔a.Flat b/\a.args=b.args:=by cases a;cases b;simp only[Ex.mk.injEq,Ex.Flat,Ex.kind,Ex.op,Ex.name,Ex.table,Ex.val,Ex.unit,Ex.param,Ex.win,Ex.args,XQ]
theorem Tf(x:Ex):∀e:Ex,Pure prog 36 [.agg x.row,.agg e.row] (.v (.bool (decide (x=e)))):=by
 induction x using Ex.ind with
 |h x ih=>
 intro e;have gJ:=ih;rw[Ex.dX x,Ex.dX e];refine k36.p fun d=>?_;repeat'(first|exact .nil|refine .k ?_|(refine .cd ?_ ?_<;>intro hc)|refine .r1 ?_ ?_|(refine .m1 ?_ ?_;intro b)|(refine .m2 ?_ ?_;intro hlen)|refine .an rfl (by intro ar;first|(refine(zR x e).wk ?_;(repeat' first|exact .row|exact .refl _|refine .cons ?_ ?_|refine .agg ?_|fail);done)|fail) ?_ ?_|fail)
 try any_goals(exact Zo)
 all_goals(try simp only[BL]at*)
 .refine Sx.Fin.intro Zs (bf ?_);intro h;rw[h]at hc;rcases hc with hc|hc
  .exact hc (by unfold Ex.Flat;grind)
  .exact hc rfl
 rename_i b0 nH;refine aP (fun n rg af=>∃i:Nat,i<=x.args.length/\n=x.args.length-i/\(∀j,j<i->x.args.getD j default=e.args.getD j default)/\af=(3,b,aE.cells e.lay)::(2,b0,aE.cells x.lay)::d/\rg=[(2,.lp 2 b0 0),(3,.lp 3 b 0),(5,iv i)]) x.args.length rfl ⟨_,_,Zr,Zs,0,Z4 _,rfl,fun j hj=>absurd hj (by omega),rfl,rfl⟩ ?_;rintro n _ _ ⟨i,hi,hn,hp,rfl,rfl⟩;repeat'(first|exact .nil|refine .k ?_|(refine .cd ?_ ?_<;>intro hc)|refine .r1 ?_ ?_|(refine .m2 ?_ ?_;intro hlen)|refine .t1 ?_ ?_ ?_|refine .an rfl (by intro ar;exact gJ (x.args.getD i default) (bN (by(simp only[BL]at*;omega))) (e.args.getD i default)) ?_ ?_|fail)
 try any_goals(exact Zo)
 all_goals(try simp only[BL]at*)
 .refine Sx.Fin.intro Zs (bf ?_);rintro rfl;exact hc rfl
 .refine⟨x.args.length-(i+1),by omega,_,_,Zr,Zs,i+1,by omega,rfl,dj hp hc,rfl,by rw[bj (by omega) hlen]⟩
 .refine Sx.Fin.intro Zs (bt ?_);rename_i h1;exact Ex.eq_iff.2 ⟨h1.1,He (by omega) (fun j hj=>hp j (by omega))⟩
theorem bq{b c:Bool}(h:b=true↔c=true):AV.v (.bool b)=AV.v (.bool c):=by rw[YH.2 h]
def bG:ae:=⟨#[99,111,117,110,116]⟩
mutual
def form:Bool->Ex->Bool
 |ins,.mk k o n t v u p w ks=>decide (nS (.mk k o n t v u p w ks) ins)&&decide ((ks.length:Int)=j8 (.mk k o n t v u p w ks))&&zU (ins||decide (k=5)) ks&&(decide (¬(k=5/\o=bG))||decide (ks.getD 0 default=ml))
def zU:Bool->List Ex->Bool
 |_,[]=>true|ins,x::l=>form ins x&&zU ins l
end
theorem Ol(ins:Bool):∀l:List Ex,zU ins l=true↔∀x∈l,form ins x=true
 |[]=>by simp[zU]|x::l=>by simp[zU,Ol ins l]
theorem mK(ins:Bool)(x:Ex):form ins x=true↔nS x ins/\(x.args.length:Int)=j8 x/\(∀y∈x.args,form (ins||decide (x.kind=5)) y=true)/\(x.kind=5->x.op=bG->x.args.getD 0 default=ml):=by
 cases x;rw[form];simp only[Z6,YL,ZQ,Ol,Ex.args,Ex.kind,Ex.op];constructor
 .rintro⟨⟨⟨h1,h2⟩,h3⟩,h4⟩;exact⟨h1,h2,h3,fun a b=>h4.resolve_left fun h=>h ⟨a,b⟩⟩
 .rintro⟨h1,h2,h3,h4⟩;refine⟨⟨⟨h1,h2⟩,h3⟩,Decidable.or_iff_not_imp_left.2 fun h=>?_⟩;have:=YF.1 h;exact h4 this.1 this.2
theorem ada(x:Ex):∀ins,Pure prog 118 [.agg x.row,.v (.bool ins)] (.v (.bool (form ins x))):=by
 induction x using Ex.ind with
 |h x ih=>
 intro ins;have gJ:=ih;rw[Ex.dX x];refine afe.p fun d=>?_;repeat'(first|exact .nil|refine .k ?_|(refine .cd ?_ ?_<;>intro hc)|refine .r1 ?_ ?_|(refine .m1 ?_ ?_;intro b)|(refine .m2 ?_ ?_;intro hlen)|refine .an rfl (by intro ar;first|(refine(aic x ins).wk ?_;(repeat' first|exact .row|exact .refl _|refine .cons ?_ ?_|refine .agg ?_|fail);done)|fail) ?_ ?_|fail)
 try any_goals(exact Zo)
 all_goals(try simp only[BL]at*)
 .refine Sx.Fin.intro Zs (bq ?_);rw[mK];grind
 refine aP (fun n rg af=>∃i:Nat,i<=x.args.length/\n=x.args.length-i/\(∀j,j<i->form (ins||decide (x.kind=5)) (x.args.getD j default)=true)/\af=(2,b,aE.cells x.lay)::d/\rg=[(1,.v (.bool ins)),(2,.lp 2 b 0),(5,iv (j8 x)),(7,iv i)]) x.args.length rfl ⟨_,_,Zr,Zs,0,Z4 _,rfl,fun j hj=>absurd hj (by omega),rfl,rfl⟩ ?_;rintro n _ _ ⟨i,hi,hn,hp,rfl,rfl⟩;repeat'(first|exact .nil|refine .k ?_|(refine .cd ?_ ?_<;>intro hc)|refine .r1 ?_ ?_|refine .t1 ?_ ?_ ?_|refine .an rfl (by intro ar;first|exact Tf _ _|exact Lk|exact gJ (x.args.getD i default) (bN (by(simp only[BL]at*;omega))) _|fail) ?_ ?_|fail)
 try any_goals(exact Zo)
 all_goals(try simp only[BL]at*)
 .refine Sx.Fin.intro Zs (bq ?_);rw[mK];constructor
  .intro h;exact Bool.noConfusion h
  .rintro⟨h1,h2,h3,h4⟩;have:=h3 _ (bN (i:=i) (by omega));rw[hc]at this;exact this
 .rename_i h1 h2;refine⟨x.args.length-(i+1),by omega,_,_,Zr,Zs,i+1,by omega,rfl,dj hp hc,rfl,?_⟩
  have:j8 x<=3:=by unfold j8;repeat' split
                   all_goals omega
  rw[bn (by omega)];rfl
 .refine Sx.Fin.intro Zs (bq ?_);rw[mK];have bW:=kj (p:=fun y=>form (ins||decide (x.kind=5)) y=true) (l:=x.args) (fun j hj=>hp j (by omega));show _↔_/\_/\_/\(_->x.op=(⟨#[99,111,117,110,116]⟩:ae)->_);grind
 .rename_i h1;intro h;have h2:j8 x=2:=by unfold j8;rw[Z9 (by omega),Z3 (by omega)]
  omega
set_option maxHeartbeats 4000000
def Nw(x:Ex):Ex:=⟨x.kind,⟨#[]⟩,⟨#[]⟩,⟨#[]⟩,⟨0,0,⟨#[]⟩⟩,[],0,⟨0,0⟩,[]⟩
def J0(x:Ex):Ex:=⟨x.kind,⟨#[]⟩,x.name,⟨#[]⟩,x.val,x.unit,0,⟨0,0⟩,[]⟩
def Gw(x:Ex):Ex:=⟨x.kind,x.op,⟨#[]⟩,x.table,⟨0,0,⟨#[]⟩⟩,[],x.param,x.win,[]⟩
theorem flat_lit(x:Ex)(h:x.kind=1):x.Flat (El x)↔x.Flat (J0 x):=by unfold El J0;rw[h]
theorem flat_agg(x:Ex)(h:x.kind=5):x.Flat (Ct x)↔x.Flat (Gw x):=by unfold Ct Gw;rw[h]
theorem Oe(x:Ex):x.Flat (Nw x)↔x.Flat (yo x)/\x.op=⟨#[]⟩:=by
 show _/\x.op=⟨#[]⟩/\_↔(_/\x.op=x.op/\_)/\_;constructor
 .rintro⟨h1,h2,h3⟩;exact⟨⟨h1,rfl,h3⟩,h2⟩
 .rintro⟨⟨h1, -,h3⟩,h2⟩;exact⟨h1,h2,h3⟩
theorem SK:(⟨#[113,117,97,110,116,105,108,101]⟩:ae)≠⟨#[100,101,99,97,121]⟩:=by decide
def sJ(x:Ex)(ins:Bool):Prop:=form ins x=true↔(∀y∈x.args,form (ins||decide (x.kind=5)) y=true)/\(x.kind=5->x.op=bG->x.args.getD 0 default=ml)
theorem acI{x:Ex}{ins q:Bool}{i:Nat}(hF:sJ x ins)(hq:q=(ins||decide (x.kind=5)))(hi:i<x.args.length)(hc:form q (x.args.getD i default)=false):false=true↔form ins x=true:=by
 unfold sJ at hF;rw[hF,<-hq];constructor
 .intro h;exact Bool.noConfusion h
 .rintro⟨h, -⟩;have:=h _ (bN hi);rw[hc]at this;exact this
theorem adb{q:Bool}{y:Ex}(h:form q y=true)(hf:y.Flat ml):y=ml:=by
 rw[mK]at h;have hk:y.kind=1:=hf.1;have hn:j8 y=0:=by unfold j8;rw[Z9 (by omega),Z9 (by omega),Z9 (by omega)]
 have:y.args=[]:=Zt (by omega);exact Ex.eq_iff.2 ⟨hf,this⟩
theorem N5{x:Ex}{q:Bool}{i:Nat}(hi:x.args.length<=i)(hp:∀j,j<i->form q (x.args.getD j default)=true):∀y∈x.args,form q y=true:=kj (p:=fun y=>form q y=true) fun j hj=>hp j (by omega)
theorem acH{x:Ex}{ins q:Bool}(hF:sJ x ins)(hq:q=(ins||decide (x.kind=5)))(bW:∀y∈x.args,form q y=true)(h0:0<x.args.length)(hc:x.op=⟨#[99,111,117,110,116]⟩/\x.kind=5):decide ((x.args.getD 0 default).Flat ml)=true↔form ins x=true:=by
 unfold sJ at hF;rw[hF,<-hq,ZQ];constructor
 .intro h;exact⟨bW,fun _ _=>adb (bW _ (bN h0)) h⟩
 .rintro⟨-,h⟩;rw[h hc.2 hc.1];decide
theorem acJ{x:Ex}{ins q:Bool}(hF:sJ x ins)(hq:q=(ins||decide (x.kind=5)))(bW:∀y∈x.args,form q y=true)(hc:¬x.op=⟨#[99,111,117,110,116]⟩\/¬x.kind=5):true=true↔form ins x=true:=by
 unfold sJ at hF;rw[hF,<-hq];refine⟨fun _=>⟨bW,fun h1 h2=>?_⟩,fun _=>rfl⟩;rcases hc with h|h
 .exact absurd h2 h
 .exact absurd h1 h
theorem aiK(x:Ex):∀ins,Pure prog 183 [.agg x.row,.v (.bool ins)] (.v (.bool (form ins x))):=by
 induction x using Ex.ind with
 |h x ih=>
 intro ins;have gJ:=ih;rw[Ex.dX x];refine afK.p fun d=>?_;repeat'(first|exact .nil|refine .k ?_|(refine .cd ?_ ?_<;>(intro hc;first|exact kf hc (by assumption)|skip))|refine .r1 ?_ ?_|refine .l1 fun b=>?_|(refine .m1 ?_ ?_;intro b)|(refine .m2 ?_ ?_;intro hlen)|refine .an rfl (by intro ar;first|exact al2 x.val|exact yR ⟨x.val.kind,x.unit,x.name⟩|exact rO _|exact G1 qQ x.op|exact G1 uC x.op|exact G1 pL x.op|(refine(xd x (J0 x)).wk ?_;(repeat' first|exact .row|exact .refl _|exact .nil|refine .cons ?_ ?_|refine .agg ?_|fail);done)|(refine(xd x (J9 x)).wk ?_;(repeat' first|exact .row|exact .refl _|exact .nil|refine .cons ?_ ?_|refine .agg ?_|fail);done)|(refine(xd x (Gw x)).wk ?_;(repeat' first|exact .row|exact .refl _|exact .nil|refine .cons ?_ ?_|refine .agg ?_|fail);done)|(refine(xd x (yo x)).wk ?_;(repeat' first|exact .row|exact .refl _|exact .nil|refine .cons ?_ ?_|refine .agg ?_|fail);done)|(refine(xd x (Nw x)).wk ?_;(repeat' first|exact .row|exact .refl _|exact .nil|refine .cons ?_ ?_|refine .agg ?_|fail);done)|fail) ?_ ?_|refine .r9 ?_ ?_|fail)
 try any_goals(exact Zo)
 all_goals(try simp only[BL]at*)
 all_goals first
  |(exfalso;omega)
  |(with_reducible refine Sx.Fin.intro ?_ (bq ?_)
    rotate_left
    rw[mK];have h1:=flat_lit x;have h2:=flat_agg x;have h3:=Oe x;have PF:=SK;clear ih gJ
    focus grind [nS,j8,wh,uR,uf,yr,yZ]
    repeat' first|exact .refl _|refine .cons ?_)
  |skip
 all_goals
  have hF:sJ x ins:=by unfold sJ;rw[mK];have h1:=flat_lit x;have h2:=flat_agg x;have h3:=Oe x;have PF:=SK;clear ih gJ;grind [nS,j8,wh,uR,uf,yr,yZ]
 all_goals have hN:x.kind=5->x.args.length=2:=by intro h;omega
 all_goals refine aP (fun n rg af=>∃(i:Nat) (q:Bool) (b0 b:Nat) (c:List AV),q=(ins||decide (x.kind=5))/\i<=x.args.length/\n=x.args.length-i/\(∀j,j<i->form q (x.args.getD j default)=true)/\af=(5,b,aE.cells c)::(2,b0,aE.cells x.lay)::d/\rg=[(1,.v (.bool q)),(2,.lp 2 b0 0),(186,.sl false 12 (x.args.map Ex.row)),(187,iv x.args.length),(188,iv i)]) x.args.length rfl ⟨_,_,Zr,Zs,0,_,_,_,_,by simp[*],Z4 _,rfl,fun j hj=>absurd hj (by omega),rfl,rfl⟩ ?_
 all_goals clear hlen
 all_goals rintro n _ _ ⟨i,q,b0,b,c,hq,hi,hn,hp,rfl,rfl⟩
 all_goals clear ih
 repeat'(first|exact .nil|refine .k ?_|(refine .cd ?_ ?_<;>intro hc)|refine .r1 ?_ ?_|refine .l1 fun b=>?_|refine .t1 ?_ ?_ ?_|refine .an rfl (by intro ar;first|(refine(xd (x.args.getD 0 default) ml).wk ?_;(repeat' first|exact .refl _|exact .nil|refine .cons ?_ ?_|refine .agg ?_|fail);done)|exact gJ (x.args.getD i default) (bN (by(simp only[BL]at*;omega))) _) ?_ ?_|fail)
 try any_goals(exact Zo)
 all_goals(try simp only[BL]at*)
 all_goals first
  |(with_reducible refine Sx.Fin.intro ?_ (bq ?_)
    rotate_left
    focus first
     |exact acI hF hq (by omega) hc
     |exact acH hF hq (N5 (by omega) hp) (by omega) hc
     |exact acJ hF hq (N5 (by omega) hp) hc
    repeat' first|exact .refl _|refine .cons ?_)
  |(refine⟨x.args.length-(i+1),by omega,_,_,Zr,Zs,i+1,_,_,_,_,hq,by omega,rfl,dj hp hc,rfl,by rw[bn (by omega)];rfl⟩)
  |trace_state
set_option maxHeartbeats 4000000
def shape(x:Ex):Int:=if 64<x.size\/12<x.depth then 2 else if form false x=true then 0 else 3
theorem E8(x:Ex)(hs:x.size<=100000):Pure prog 133 [.agg x.row] (iv (shape x)):=by
 rw[Ex.dX x];refine afl.p fun d=>?_;repeat'(first|exact .nil|refine .k ?_|(refine .cd ?_ ?_<;>intro hc)|refine .r1 ?_ ?_|(refine .m1 ?_ ?_;intro b)|refine .an rfl (by intro ar;first|(refine(akZ x (by first|omega|fail)).wk ?_;(repeat' first|exact .row|exact .refl _|refine .cons ?_ ?_|refine .agg ?_|fail);done)|(refine(abH x (by first|omega|fail)).wk ?_;(repeat' first|exact .row|exact .refl _|refine .cons ?_ ?_|refine .agg ?_|fail);done)|(refine(aiK x false).wk ?_;(repeat' first|exact .row|exact .refl _|refine .cons ?_ ?_|refine .agg ?_|fail);done)|fail) ?_ ?_|fail)
 try any_goals(exact Zo)
 all_goals(try simp only[BL]at*)
 all_goals(refine Sx.Fin.intro Zs (bi ?_);unfold shape;grind)
theorem Tl(x:Ex)(hs:x.size<=100000):Pure prog 61 [.agg x.row] (iv (shape x)):=by
 rw[Ex.dX x];refine k61.p fun d=>?_;repeat'(first|exact .nil|refine .k ?_|(refine .cd ?_ ?_<;>intro hc)|refine .r1 ?_ ?_|(refine .m1 ?_ ?_;intro b)|refine .an rfl (by intro ar;first|(refine(akX x (by first|omega|fail)).wk ?_;(repeat' first|exact .row|exact .refl _|refine .cons ?_ ?_|refine .agg ?_|fail);done)|(refine(abF x (by first|omega|fail)).wk ?_;(repeat' first|exact .row|exact .refl _|refine .cons ?_ ?_|refine .agg ?_|fail);done)|(refine(ada x false).wk ?_;(repeat' first|exact .row|exact .refl _|refine .cons ?_ ?_|refine .agg ?_|fail);done)) ?_ ?_|fail)
 try any_goals(exact Zo)
 all_goals(try simp only[BL]at*)
 all_goals(refine Sx.Fin.intro Zs (bi ?_);unfold shape;grind)
def strs:List (List AV)->Option (List ae)
 |[]=>some []|[.v (.string s)]::l=>(strs l).map (s::·)|_=>none
theorem ao1:∀{l:List (List AV)} {ws:List ae},strs l=some ws->l=ws.map dq
 |[],ws,h=>by simp only[strs,ZV]at h;subst h;rfl|[.v (.string s)]::l,ws,h=>by simp only[strs,Z8]at h;obtain⟨w,h1,rfl⟩:=h;rw[ao1 h1];rfl
def Pd:List ae->ae
 |[]=>⟨#[]⟩
 |s::l=>s++Pd l
def Xs:List ae->Nat
 |[]=>0|s::l=>s.size+Xs l
theorem TH(s:ae):s.data.toList.length=s.size:=rfl
theorem TN(a:Array UInt8):(⟨a⟩:ae).size=a.size:=rfl
theorem Mx(a b:ae):(a++b).size=a.size+b.size:=by rw[Fh,TG,Z7];rfl
theorem ang:∀l:List ae,(Pd l).size=Xs l
 |[]=>rfl|s::l=>by rw[Pd,Mx,ang l,Xs]
theorem aoB:∀l:List (List UInt8),([]:List UInt8).intercalate l=l.flatten
 |[]=>rfl|[a]=>by simp[List.intercalate]|a::b::l=>by have:=aoB (b::l);simp only[List.intercalate,List.intersperse,XL,Zf]at this|-;rw[this]
theorem an1:∀l:List ae,(Pd l).data.toList=(l.map (·.data.toList)).flatten
 |[]=>rfl|s::l=>by rw[Pd,TG,an1 l];rfl
theorem aoE(l:List ae):Lib.join (l.map (·.data.toList)) (⟨#[]⟩:ae).data.toList=(Pd l).data.toList:=by rw[an1];exact aoB _
theorem aqd(l:List ae):Qn l ⟨#[]⟩=Pd l:=by apply Fg;unfold Qn;rw[aoE]
theorem aqe(ws:List ae)(nn:Bool)(hN:ws.length<=1000)(hl:Xs ws<=140737488355328):Pure prog 86 [.sl nn 1 (ws.map dq)] (sv (Pd ws)):=by
 refine k86.p fun d=>?_;repeat'(first|exact .nil|refine .k ?_|refine .r1 ?_ ?_|refine .an rfl (by intro ar;(refine(A5 ws ⟨#[]⟩ nn (by first|omega|fail) (by rw[aoE,<-Fh,ang];omega)).wk ?_;(repeat' first|exact .refl _|fail);done)) ?_ ?_|fail)
 all_goals(try simp only[BL]at*)
 .rw[aqd];exact Zw
theorem anf{nn:Bool}{l:List (List AV)}(ws:List ae)(h:strs l=some ws)(hN:ws.length<=1000)(hl:Xs ws<=140737488355328):Pure prog 86 [.sl nn 1 l] (sv (Pd ws)):=by rw[ao1 h];exact aqe ws nn hN hl
def acp(f:ax):ae:=if f.exp=1 then f.name else f.name++(⟨#[94]⟩++ae1 f.exp)
def alU(u:List ax):ae:=Qn (u.map acp) ⟨#[42]⟩
theorem anH(n:Int)(h: -9223372036854775808<=n/\n<=9223372036854775807):(ae1 n).size<=21:=by have:=Lib.itoa_length_le n h.1 h.2;rw[Fh];simpa[ae1]using this
theorem alH{X:Type}[Inhabited X]{l:List X}{i:Nat}(h:i<l.length):l.take (i+1)=l.take i++[l.getD i default]:=by rw[getD_eq h,ZU h]
theorem aoA(sep:List UInt8):∀l:List (List UInt8),(sep.intercalate l).length<=l.flatten.length+l.length*sep.length
 |[]=>by simp[List.intercalate]|[a]=>by simp[List.intercalate]|a::b::l=>by have:=aoA sep (b::l);simp only[List.intercalate,List.intersperse,XL,Z7,ZY,YG,Nat.one_mul]at this|-;omega
theorem aoD(ws:List ae)(sep:ae):(Lib.join (ws.map (·.data.toList)) sep.data.toList).length<=Xs ws+ws.length*sep.size:=by have:=aoA sep.data.toList (ws.map (·.data.toList));rw[<-an1,<-Fh,ang,Z5]at this;exact this
theorem aob{X:Type}(g:X->ae)(c:Nat):∀{l:List X},(∀x∈l,(g x).size<=c)->Xs (l.map g)<=l.length*c
 |[],_=>Z4 _|x::l,h=>by have h1:=h x (by simp);have h2:=aob g c (l:=l) fun y hy=>h y (by simp[hy]);simp only[Zz,Xs,ZY,YG,Nat.one_mul];omega
def am8(f:ax):Prop:=f.name.size<=24/\-8<=f.exp/\f.exp<=8/\1<=f.name.size
theorem apJ{f:ax}(h:am8 f):(acp f).size<=46:=by
 unfold acp;have:=anH f.exp (by have:=h.2;omega);have:=h.1;split
 .omega
 .rw[Mx,Mx];show _+(1+_)<=_;omega
theorem apc{u:List ax}(hu:∀f∈u,am8 f)(hl:u.length<=4):(Lib.join ((u.map acp).map (·.data.toList)) (⟨#[42]⟩:ae).data.toList).length<=200:=by have h1:=aoD (u.map acp) ⟨#[42]⟩;have h2:=aob acp 46 fun f hf=>apJ (hu f hf);have h3:(⟨#[42]⟩:ae).size=1:=rfl;rw[Z5,h3]at h1;omega
theorem apb{u:List ax}(hu:∀f∈u,am8 f)(hl:u.length<=4):(alU u).size<=200:=apc hu hl
theorem aqR{fs:List ax}{i:Nat}(h:i<fs.length):((fs.take i).map acp).map dq++[[.v (.string (acp (fs.getD i default)))]]=((fs.take (i+1)).map acp).map dq:=by rw[alH h];simp[dq]
theorem aoq{f:ax}(h:f.exp=1):acp f=f.name:=Z3 h
theorem aor{f:ax}(h:¬f.exp=1):acp f=f.name++(⟨#[94]⟩++ae1 f.exp):=Z9 h
theorem aq5(fs:List ax)(hu:∀f∈fs,am8 f)(hl:fs.length<=4):Pure prog 195 [.sl false 2 (fs.map ax.cells)] (sv (alU fs)):=by
 refine aqg.p fun d=>?_;repeat'(first|exact .nil|refine .k ?_|refine .r1 ?_ ?_|(refine .m2 ?_ ?_;intro hlen)|fail)
 all_goals(try simp only[BL]at*)
 refine aP (fun n rg af=>∃i:Nat,i<=fs.length/\n=fs.length-i/\((i=0/\af=d/\rg=[(3,.v (.slice none 0 0)),(7,.sl false 2 (fs.map ax.cells)),(8,iv fs.length),(9,iv i)])\/(0<i/\∃b v c,af=(27,b,.tail v c)::d/\rg=[(3,.own 1 27 b v c (((fs.take i).map acp).map dq)),(7,.sl false 2 (fs.map ax.cells)),(8,iv fs.length),(9,iv i)]))) fs.length rfl ⟨_,_,Zr,Zs,0,Z4 _,rfl,.inl ⟨rfl,rfl,rfl⟩⟩ ?_;rintro n _ _ ⟨i,hi,hn,⟨h0,rfl,rfl⟩|⟨h0,b0,v0,c0,rfl,rfl⟩⟩;all_goals have hf:i<fs.length->am8 (fs.getD i default):=fun h=>hu _ (bN h)
 all_goals have hz:i<fs.length->(ae1 (fs.getD i default).exp).size<=21:=fun h=>anH _ (by have:=(hf h).2;omega)
 all_goals unfold am8 at hf
 repeat'(first|exact .nil|refine .k ?_|(refine .cd ?_ ?_<;>intro hc)|refine .r1 ?_ ?_|refine .l1 fun b=>?_|refine .t1 ?_ ?_ ?_|refine .u1 ?_ ?_ ?_ (fun b u c=>?_)|refine .u2 ?_ ?_ ?_ (fun b u c=>?_)|refine .an rfl (by intro ar;first|exact anw _ (by(simp only[BL]at*;omega))|(refine(A5 [] ⟨#[42]⟩ false (by decide) (by decide)).wk ?_;(repeat' first|exact .refl _|exact .nil|refine .cons ?_ ?_|fail);done)|(refine(A5 (fs.map acp) ⟨#[42]⟩ false (by rw[Z5];omega) (ZD (apc hu hl) (by decide))).wk (cj.cons (Wk.Kl (by rw[ZM (by(simp only[BL]at*;omega))])) (cj.cons (Wk.refl _) cj.nil)))) ?_ ?_|(show List.all _ _=true;rfl)|fail)
 try any_goals(exact Zo)
 all_goals(try simp only[BL]at*)
 any_goals((simp only[ZY,ZP,Z7,Z5,ZL,Mx,TN,TH,YB];omega))
 all_goals have e:=fun h=>aqR (fs:=fs) (i:=i) h
 .subst h0;rw[aor hc]at e;refine⟨fs.length-(0+1),by omega,_,_,Zr,Zs,0+1,by omega,rfl,.inr ⟨by omega,_,_,_,rfl,?_⟩⟩;rw[<-e (by omega),bj (n:=fs.length) (by omega) (by assumption)];rfl
 .subst h0;rw[aoq hc]at e;refine⟨fs.length-(0+1),by omega,_,_,Zr,Zs,0+1,by omega,rfl,.inr ⟨by omega,_,_,_,rfl,?_⟩⟩;rw[<-e (by omega),bj (n:=fs.length) (by omega) (by assumption)];rfl
 .obtain rfl:fs=[]:=Zt (by omega);exact Sx.Fin.intro Zs rfl
 .rw[aor hc]at e;refine⟨fs.length-(i+1),by omega,_,_,Zr,Zs,i+1,by omega,rfl,.inr ⟨by omega,_,_,_,rfl,?_⟩⟩;rw[<-e (by omega),bj (n:=fs.length) (by omega) (by assumption)]
 .rw[aoq hc]at e;refine⟨fs.length-(i+1),by omega,_,_,Zr,Zs,i+1,by omega,rfl,.inr ⟨by omega,_,_,_,rfl,?_⟩⟩;rw[<-e (by omega),bj (n:=fs.length) (by omega) (by assumption)]
 .exact Sx.Fin.intro Zs rfl
set_option maxHeartbeats 4000000
theorem anh(a b c:ae):a++b++c=a++(b++c):=Fg (by simp)
theorem am7(a:ae):a++(⟨#[]⟩:ae)=a:=Fg (by simp)
theorem bs{a b:ae}(h:a=b):AV.v (.string a)=sv b:=by rw[h]
def alV(u:List ax):ae:=if u=[]then⟨#[]⟩else⟨#[32,91]⟩++(alU u++⟨#[93]⟩)
theorem anY{u:List ax}(hu:∀f∈u,am8 f)(hl:u.length<=4):(alV u).size<=210:=by
 have:=apb hu hl;unfold alV;split
 .decide
 .simp only[Mx,TN,YB,ZY,ZP];omega
theorem aqC{X:Type}{l:List X}:(l.length:Int)=0↔l=[]:=by cases l<;>simp<;>omega
theorem apd(fs:List ax)(hu:∀f∈fs,am8 f)(hl:fs.length<=4):Pure prog 142 [.sl false 2 (fs.map ax.cells)] (sv (alV fs)):=by
 have nH:=@aqC ax fs;refine afo.p fun d=>?_;repeat'(first|exact .nil|refine .k ?_|(refine .cd ?_ ?_<;>intro hc)|refine .r1 ?_ ?_|(refine .m2 ?_ ?_;intro hlen)|refine .an rfl (by intro ar;first|exact aq5 fs hu hl|exact anf _ rfl (ZE rfl) (by have:=apb hu hl;simp only[Xs,TN,YB,ZY,ZP];omega)) ?_ ?_|fail)
 all_goals(try simp only[BL]at*)
 any_goals((simp only[ZY,ZP,Z7,Z5,ZL,Mx,TN,TH,YB];omega))
 all_goals(simp only[nH]at hc;refine Sx.Fin.intro Zs (bs ?_);simp[alV,hc,Pd,am7,anh];done)
def tyS(t:Ty):ae:=
 if t.kind=1 then⟨#[98,111,111,108]⟩else if t.kind=4 then⟨#[116,101,120,116]⟩else if t.kind=5 then⟨#[107,101,121,32]⟩++t.of
 else if t.kind=2 then⟨#[105,110,116]⟩++alV t.unit else⟨#[100,101,99]⟩++alV t.unit
theorem aoF(t:Ty)(hu:∀f∈t.unit,am8 f)(hl:t.unit.length<=4)(ho:t.of.size<=100):Pure prog 87 [.agg t.cells] (sv (tyS t)):=by
 have hs:=anY hu hl;refine k87.p fun d=>?_;repeat'(first|exact .nil|refine .k ?_|(refine .cd ?_ ?_<;>intro hc)|refine .r1 ?_ ?_|(refine .m1 ?_ ?_;intro b)|refine .an rfl (by intro ar;first|exact apd t.unit hu hl|exact anf _ rfl (ZE rfl) (by simp only[Xs,TN,YB,ZY,ZP];omega)) ?_ ?_|fail)
 all_goals(try simp only[BL]at*)
 any_goals((simp only[ZY,ZP,Z7,Z5,ZL,Mx,TN,TH,YB];omega))
 all_goals(refine Sx.Fin.intro Zs (bs ?_);simp[alV,tyS,Pd,am7,anh, *];done)
theorem anD{u:Nat}(h:u<10):Lib.decDigits u=[UInt8.ofNat (48+u)]:=by rw[Lib.decDigits,dif_pos h]
theorem anP{u:Nat}(h:¬u<10):Lib.decDigits u=Lib.decDigits (u / 10)++[UInt8.ofNat (48+u%10)]:=by rw[Lib.decDigits,dif_neg h]
theorem anQ{u:Nat}(h:u<=9223372036854775807):(Lib.decDigits u).length<=21:=by have:=Lib.itoa_length_le (u:Int) (by omega) (by omega);rwa [Lib.itoa_nonneg]at this
def Rj:Nat->Nat->List UInt8
 |0,_=>[]
 |k+1,x=>Rj k (x / 10)++[UInt8.ofNat (48+x%10)]
theorem anL:∀(k x:Nat),(Rj k x).length=k
 |0,_=>rfl|k+1,x=>by rw[Rj,Z7,anL k];rfl
def abv(x:Nat):ae:=⟨(Lib.decDigits (x / 10^6)++46::Rj 6 x).toArray⟩
theorem aon(n:Nat):1<=(Lib.decDigits n).length:=by
 by_cases h:n<10
 .rw[anD h];exact ZO _
 .rw[anP h,Z7];exact Nat.le_add_left _ _
theorem aoo:∀(k n:Nat),10^k<=n->Lib.decDigits n=Lib.decDigits (n / 10^k)++Rj k n
 |0,n,_=>by simp[Rj]|k+1,n,h=>by have Di:0<10^k:=Nat.pow_pos (by omega);rw[Nat.pow_succ]at h;rw[anP (by omega),aoo k (n / 10) (by omega),Nat.div_div_eq_div_mul,Rj,Nat.pow_succ,Xf 10,Zq]
theorem aol:∀(k n:Nat),n<10^(k+1)->(Lib.decDigits n).length<=k+1
 |0,n,h=>by rw[anD (by omega)];exact ZO _|k+1,n,h=>by
  by_cases h1:n<10
  .rw[anD h1];simp
  .rw[Nat.pow_succ]at h;have:=aol k (n / 10) (by omega);rw[anP h1,Z7];simp only[ZY,ZP];omega
theorem aoM:∀k:Nat,Rj k 0=List.replicate k 48
 |0=>rfl|k+1=>by rw[Rj,Nat.zero_div,aoM k,List.replicate_succ'];rfl
theorem aom:∀(k z n:Nat),z+(Lib.decDigits n).length=k->List.replicate z 48++Lib.decDigits n=Rj k n
 |0,z,n,h=>by have:=aon n;omega|k+1,z,n,h=>by
  by_cases h1:n<10
  .rw[anD h1]at h|-;simp only[ZY,ZP]at h;obtain rfl:z=k:=by omega
   rw[Rj,Nat.div_eq_of_lt h1,aoM,Nat.mod_eq_of_lt h1]
  .rw[anP h1]at h|-;rw[Z7]at h;simp only[ZY,ZP]at h;rw[<-Zq,aom k z (n / 10) (by omega),Rj]
theorem apB{n z:Nat}{L:List UInt8}(hL:L=List.replicate z 48++Lib.decDigits n)(h7:7<=L.length)(hz:z=0\/L.length<=7):L=Lib.decDigits (n / 10^6)++Rj 6 n:=by
 by_cases h:n<10^6
 .have h1:=aol 5 n h;have hl:L.length=z+(Lib.decDigits n).length:=by rw[hL,Z7,W9]
  obtain⟨y,rfl⟩:∃y,z=y+1:=⟨z-1,by omega⟩
  rw[hL,List.replicate_succ,ZB,aom 6 y n (by omega),Nat.div_eq_of_lt h,anD (by omega)];rfl
 .have h1:=aoo 6 n (by omega);have hl:L.length=z+(Lib.decDigits n).length:=by rw[hL,Z7,W9]
  have h2:=aon (n / 10^6);have h3:=Zk List.length h1;rw[Z7,anL]at h3;have:z=0:=by omega
  subst this;rw[hL,<-h1];rfl
theorem apA(n:Nat)(h:n<=1152921504606846976):Pure prog 346 [iv n] (sv (abv n)):=by
 have hq:(Lib.decDigits n).length<=21:=anQ (by omega);refine aqz.p fun d=>?_;repeat'(first|exact .nil|refine .k ?_|(refine .cd ?_ ?_<;>intro hc)|refine .r1 ?_ ?_|refine .an rfl (by intro ar;exact anw _ (by first|omega|(simp only[BL]at*;omega))) ?_ ?_|refine .t6 ?_ ?_ ?_|fail)
 try any_goals(exact Zo)
 all_goals(try simp only[BL]at*)
 all_goals try(exfalso;omega)
 refine aP (fun k rg af=>∃(z:Nat) (s:ae),k=7-s.size/\s.data.toList=List.replicate z 48++Lib.decDigits n/\(z=0\/s.size<=7)/\af=d/\rg=[(3,sv s),(4,sv ⟨#[]⟩)]) (7-(ae1 n).size) rfl ⟨_,_,Zr,Zs,0,ae1 n,rfl,by rw[ae1,Lib.itoa_nonneg];rfl,.inl rfl,rfl,rfl⟩ ?_;rintro k _ _ ⟨z,s,hk,hs,hz,rfl,rfl⟩;have hl:s.size=z+(Lib.decDigits n).length:=by have:=Zk List.length hs;rwa [Z7,W9]at this
 repeat'(first|exact .nil|refine .k ?_|(refine .cd ?_ ?_<;>intro hc)|refine .r1 ?_ ?_|refine .t6 ?_ ?_ ?_|fail)
 all_goals(try simp only[BL]at*)
 all_goals have bl:s.size<=28:=by omega
 any_goals((simp only[ZY,ZP,Z7,Z5,ZL,Mx,TN,TH,YB];omega))
 .refine⟨7-(s.size+1),by omega,_,_,Zr,Zs,z+1,(⟨#[48]⟩:ae)++s,by rw[Mx,TN,Nat.add_comm];rfl,by rw[TG,hs,List.replicate_succ];rfl,.inr ?_,rfl,rfl⟩;rw[Mx,TN];show 1+_<=_;omega
 all_goals have hcut:IntKind.i64.wrap ((s.size:Int)-6)=((s.size-6:Nat):Int):=by rw[bn (by omega)];omega
 all_goals simp only[hcut,Yk]
 any_goals omega
 any_goals(simp only[Mx,TN,ByteArray.size_extract,YB,ZY,ZP];omega)
 refine Sx.Fin.intro Zs (bs (Fg ?_));have hp:=apB hs (by show 7<=s.size;omega) hz;have DP:(Lib.decDigits (n / 10^6)).length=s.size-6:=by have:=Zk List.length hp;rw[Z7,anL]at this;have h5:s.data.toList.length=s.size:=rfl;omega
 have e1:(ByteArray.extract s 0 (s.size-6)).data.toList=Lib.decDigits (n / 10^6):=by rw[ByteArray.data_extract,Array.toList_extract,List.extract_eq_take_drop,hp];simp[DP]
 have e2:(ByteArray.extract s (s.size-6) s.size).data.toList=Rj 6 n:=by rw[ByteArray.data_extract,Array.toList_extract,List.extract_eq_take_drop,hp,<-DP,List.drop_left,ZM (by rw[anL];omega)]
 simp only[TG,e1,e2];simp[abv]
set_option maxHeartbeats 4000000
def aaM(n:Int):ae:=if n=1 then⟨#[116,114,117,101]⟩else⟨#[102,97,108,115,101]⟩
def A4(n:Int):ae:=⟨(Lib.decDigits n.toNat).toArray⟩
def alZ(v:kv):ae:=
 if v.kind=1 then aaM v.n else if v.kind=2 then A4 v.n else if v.kind=3 then abv v.n.toNat
 else if v.kind=4 then⟨#[34]⟩++(v.s++⟨#[34]⟩)else if v.kind=5 then⟨#[64]⟩++v.s else⟨#[110,117,108,108]⟩
theorem apQ(n:Int):(⟨(Lib.formatBool (decide (n=1))).toArray⟩:ae)=aaM n:=by
 unfold aaM;by_cases h:n=1
 .rw[Z3 h,Y7 h];decide
 .rw[Z9 h,Zp h];decide
theorem anG{n:Int}(h:0<=n):ae1 n=A4 n:=by
 obtain⟨m,rfl⟩:∃m:Nat,n=m:=⟨n.toNat,by omega⟩
 unfold ae1 A4;rw[Lib.itoa_nonneg];rfl
structure Mj(v:kv):Prop where
 e:pq v=0
 n:0<=v.n
theorem Mj.kinds{v:kv}(h:Mj v):0<=v.kind/\v.kind<=5/\v.n<=1152921504606846976/\v.s.size<=64:=by
 have:=h.e;have h0:=h.n;unfold pq at this;split at this
 .omega
 .rename_i hf;have hf:=YF.1 hf;split at this
  .omega
  .rename_i hb;have hs:v.kind<=3->v.s.size=0:=fun h=>by rw[hf.2.2.1 h];rfl
   refine⟨hf.1,hf.2.1,by omega,?_⟩;have:=hf.2.1;omega
theorem ape{v:kv}(h:Mj v):(alZ v).size<=100:=by
 obtain⟨h1,h2,h3,h4⟩:=h.kinds;have h0:=h.n;have hd:(Lib.decDigits v.n.toNat).length<=21:=anQ (by omega);have hq:(Lib.decDigits (v.n.toNat / 10^6)).length<=21:=anQ (by omega);unfold alZ;repeat' split
 .unfold aaM;split<;>decide
 .show(Lib.decDigits v.n.toNat).toArray.size<=100;rw[YB];omega
 .show(Lib.decDigits (v.n.toNat / 10^6)++46::Rj 6 v.n.toNat).toArray.size<=100;rw[YB,Z7,ZY,anL];omega
 ·((simp only[ZY,ZP,Z7,Z5,ZL,Mx,TN,TH,YB];omega))
 ·((simp only[ZY,ZP,Z7,Z5,ZL,Mx,TN,TH,YB];omega))
 .decide
theorem aqL(v:kv):Pure prog 302 [.agg v.cells] (sv ⟨#[110,117,108,108]⟩):=by
 refine aqt.p fun d=>?_;repeat'(first|exact .nil|refine .k ?_|refine .r1 ?_ ?_|(refine .m1 ?_ ?_;intro b)|fail)
 all_goals(try simp only[BL]at*)
 .exact Sx.Fin.intro Zs rfl
theorem apt(v:kv):Pure prog 303 [.agg v.cells] (sv (aaM v.n)):=by
 refine aqu.p fun d=>?_;repeat'(first|exact .nil|refine .k ?_|refine .r1 ?_ ?_|(refine .m1 ?_ ?_;intro b)|refine .an rfl (by intro ar;first|exact apR _|fail) ?_ ?_|fail)
 all_goals(try simp only[BL]at*)
 .exact Sx.Fin.intro Zs (bs (apQ v.n))
theorem aqb(v:kv)(h:Mj v):Pure prog 304 [.agg v.cells] (sv (A4 v.n)):=by
 have hk:=h.kinds;have h0:=h.n;refine aqv.p fun d=>?_;repeat'(first|exact .nil|refine .k ?_|refine .r1 ?_ ?_|(refine .m1 ?_ ?_;intro b)|refine .an rfl (by intro ar;first|exact anw _ (by first|omega|fail)|fail) ?_ ?_|fail)
 all_goals(try simp only[BL]at*)
 .exact Sx.Fin.intro Zs (bs (anG h0))
theorem apC(v:kv)(h:Mj v):Pure prog 305 [.agg v.cells] (sv (abv v.n.toNat)):=by
 have hk:=h.kinds;have h0:=h.n;have hd:=apA v.n.toNat (by omega);rw[show((v.n.toNat:Nat):Int)=v.n by omega]at hd;refine aqw.p fun d=>?_;repeat'(first|exact .nil|refine .k ?_|refine .r1 ?_ ?_|(refine .m1 ?_ ?_;intro b)|refine .an rfl (by intro ar;exact hd) ?_ ?_|fail)
 all_goals(try simp only[BL]at*)
 .exact Sx.Fin.intro Zs rfl
theorem aqZ(v:kv)(h:Mj v):Pure prog 306 [.agg v.cells] (sv (⟨#[34]⟩++(v.s++⟨#[34]⟩))):=by
 have hk:=h.kinds;refine aqx.p fun d=>?_;repeat'(first|exact .nil|refine .k ?_|refine .r1 ?_ ?_|(refine .m1 ?_ ?_;intro b)|fail)
 all_goals(try simp only[BL]at*)
 any_goals((simp only[ZY,ZP,Z7,Z5,ZL,Mx,TN,TH,YB];omega))
 .exact Sx.Fin.intro Zs (bs (anh _ _ _))
theorem aqA(v:kv)(h:Mj v):Pure prog 307 [.agg v.cells] (sv (⟨#[64]⟩++v.s)):=by
 have hk:=h.kinds;refine aqy.p fun d=>?_;repeat'(first|exact .nil|refine .k ?_|refine .r1 ?_ ?_|(refine .m1 ?_ ?_;intro b)|fail)
 all_goals(try simp only[BL]at*)
 any_goals((simp only[ZY,ZP,Z7,Z5,ZL,Mx,TN,TH,YB];omega))
 .exact Sx.Fin.intro Zs rfl
theorem Wk.Ue(vs:Array Value):Wk (.v (.agg vs)) (.agg (vs.toList.map .v)):=fun M x h=>by obtain rfl:=h.aC;have:=R.agg (M:=M) (vs.toList.map .v) vs.toList (by simp) (fun i h1 h2=>by simp only[Zv];exact .v _);simpa using this
theorem apS(v:kv)(h:Mj v):Pure prog 247 [.agg v.cells] (sv (alZ v)):=by
 have hk:=h.kinds;have he:=h.e;obtain⟨k,n,s⟩:=v;have cN:k=0\/k=1\/k=2\/k=3\/k=4\/k=5:=by have h1:=hk.1;have h2:=hk.2.1;simp only at h1 h2;omega
 rcases cN with rfl|rfl|rfl|rfl|rfl|rfl;all_goals refine aqp.p fun d=>?_
 repeat'(first|exact .nil|refine .k ?_|(refine .cd ?_ ?_<;>intro hc)|refine .r1 ?_ ?_|refine .l1 fun b=>?_|(refine .m1 ?_ ?_;intro b)|refine .an rfl (by intro ar;first|exact al2 ⟨_,n,s⟩|exact(aqL ⟨_,n,s⟩).wk (cj.cons (Wk.Ue _) cj.nil)|exact(apt ⟨_,n,s⟩).wk (cj.cons (Wk.Ue _) cj.nil)|exact(aqb _ h).wk (cj.cons (Wk.Ue _) cj.nil)|exact(apC _ h).wk (cj.cons (Wk.Ue _) cj.nil)|exact(aqZ _ h).wk (cj.cons (Wk.Ue _) cj.nil)|exact(aqA _ h).wk (cj.cons (Wk.Ue _) cj.nil)) ?_ ?_|refine .l3 fun b=>?_|refine .r6 ?_ ?_|refine .r7 ?_ ?_|fail)
 all_goals(try simp only[BL]at*)
 all_goals try(exfalso;exact hc he)
 all_goals exact Sx.Fin.intro Zs rfl
set_option maxHeartbeats 4000000
def EO(x:Ex):Int:=
 if x.kind=8 then 0 else if x.kind=9 then 1
 else if x.kind=6 then(if x.op=⟨#[45]⟩then 8 else if x.op=⟨#[110,111,116]⟩then 4 else 9)
 else if x.kind=7 then(if x.op=⟨#[111,114]⟩then 2 else if x.op=⟨#[97,110,100]⟩then 3 else if x.op=⟨#[43]⟩\/x.op=⟨#[45]⟩then 6 else if x.op=⟨#[42]⟩\/x.op=⟨#[47]⟩then 7 else 5)
 else 9
theorem aoU(x:Ex):0<=EO x/\EO x<=9:=by
 unfold EO;repeat' split
 all_goals omega
def amk(w:pJ):ae:=
 if w.kind=2 then⟨#[115,108,105,100,105,110,103,32]⟩++A4 w.size else if w.kind=3 then⟨#[116,117,109,98,108,105,110,103,32]⟩++A4 w.size
 else if w.kind=4 then⟨#[115,101,115,115,105,111,110,32]⟩++A4 w.size else⟨#[97,108,108]⟩
def ahy(x:Ex):ae:=if x.val.kind=5 then⟨#[64]⟩++(x.name++(⟨#[32,34]⟩++(x.val.s++⟨#[34]⟩)))else alZ x.val++alV x.unit
def par(s:ae):ae:=⟨#[40]⟩++(s++⟨#[41]⟩)
def xc(x:Ex)(T:Nat->ae)(i:Nat)(r:Int):ae:=if EO (x.args.getD i default)<r then par (T i)else T i
def iH(x:Ex)(T:Nat->ae):ae:=
 x.op++(⟨#[40]⟩++(x.table++((if x.op=bG then⟨#[]⟩else⟨#[44,32]⟩++T 0)++((if x.param=0 then⟨#[]⟩else⟨#[44,32]⟩++A4 x.param)
  ++(⟨#[44,32]⟩++(amk x.win++((if x.args.getD 1 default=ml then⟨#[]⟩else⟨#[32,119,104,101,114,101,32]⟩++T 1)++⟨#[41]⟩)))))))
def unT(x:Ex)(T:Nat->ae):ae:=
 if x.op=⟨#[45]⟩then⟨#[45]⟩++xc x T 0 8 else if x.op=⟨#[110,111,116]⟩then⟨#[110,111,116,32]⟩++xc x T 0 4 else⟨#[110,117,108,108,40]⟩++(T 0++⟨#[41]⟩)
def ahv(x:Ex):Int:=if EO x=5 then 6 else EO x
def aaA(x:Ex)(T:Nat->ae):ae:=xc x T 0 (ahv x)++(⟨#[32]⟩++(x.op++(⟨#[32]⟩++xc x T 1 (EO x+1))))
def ifT(x:Ex)(T:Nat->ae):ae:=⟨#[105,102,32]⟩++(T 0++(⟨#[32,116,104,101,110,32]⟩++(T 1++(⟨#[32,101,108,115,101,32]⟩++T 2))))
def abw(x:Ex)(T:Nat->ae):ae:=xc x T 0 1++(⟨#[32,100,101,102,97,117,108,116,32]⟩++xc x T 1 2)
def alL(x:Ex)(T:Nat->ae):ae:=
 if x.kind=1 then ahy x else if x.kind=4 then x.name++(⟨#[32,111,102,32,40]⟩++(T 0++⟨#[41]⟩))else if x.kind=5 then iH x T
 else if x.kind=6 then unT x T else if x.kind=7 then aaA x T else if x.kind=8 then ifT x T else if x.kind=9 then abw x T else x.name
mutual
def text:Ex->ae
 |.mk k o n t v u p w ks=>alL (.mk k o n t v u p w ks) (fun i=>(TX ks).getD i ⟨#[]⟩)
def TX:List Ex->List ae
 |[]=>[]
 |x::l=>text x::TX l
end
def tx(x:Ex)(i:Nat):ae:=(TX x.args).getD i ⟨#[]⟩
theorem ao8(x:Ex):text x=alL x (tx x):=by cases x;rfl
theorem ao7:∀(l:List Ex) (i:Nat),i<l.length->(TX l).getD i ⟨#[]⟩=text (l.getD i default)
 |[],_,h=>absurd h (by simp)|x::l,0,_=>rfl|x::l,i+1,h=>by have:=ao7 l i (by simpa using h);simpa[TX]using this
theorem aoe{x:Ex}{i:Nat}(h:i<x.args.length):tx x i=text (x.args.getD i default):=ao7 _ _ h
theorem aoY{l:List Ex}(h:0<l.length):(l.getD 0 default).size<=Ex.c8 l:=Ex.KZ (bN h)
theorem aod{l:List Ex}(h:1<l.length):(l.getD 0 default).size+(l.getD 1 default).size<=Ex.c8 l:=by
 match l,h with
 |a::b::l,_=>simp only[Ex.c8,List.getD_cons_zero,List.getD_cons_succ];omega
theorem aqU{l:List Ex}(h:2<l.length):(l.getD 0 default).size+(l.getD 1 default).size+(l.getD 2 default).size<=Ex.c8 l:=by
 match l,h with
 |a::b::c::l,_=>simp only[Ex.c8,List.getD_cons_zero,List.getD_cons_succ];omega
structure F4(x:Ex)(ins:Bool):Prop where
 nb:nS x ins
 nn:(x.args.length:Int)=j8 x
 sub:∀y∈x.args,form (ins||decide (x.kind=5)) y=true
 cn:x.kind=5->x.op=bG->x.args.getD 0 default=ml
theorem F4.of{x:Ex}{ins:Bool}(h:form ins x=true):F4 x ins:=by obtain⟨h1,h2,h3,h4⟩:=(mK ins x).1 h;exact⟨h1,h2,h3,h4⟩
theorem aq6{u:List ax}(h:dK u=0):u.length<=4/\∀f∈u,am8 f:=by
 unfold dK at h;split at h
 .omega
 .rename_i hl;refine⟨by omega,?_⟩;have:∀(l:List ax) (p:Option ae),iX p l=0->∀f∈l,am8 f:=by
   intro l
   induction l with
   |nil=>intro p _ f hf;cases hf|cons g l ih=>
    intro p hp f hf;rw[iX]at hp;split at hp
    .rename_i h0;rcases ZR.1 hf with rfl|hf
     .unfold jv at h0;split at h0
      .omega
      .rename_i hw;have hw:=YF.1 hw;split at h0
       .omega
       .exact⟨hw.2.1,by omega,by omega,hw.1⟩
     .exact ih _ hp f hf
    .rename_i h0;exact absurd hp h0
  exact this u none h
theorem aof{t:Ty}(h:kn t=0):t.unit.length<=4/\(∀f∈t.unit,am8 f)/\t.of.size<=24:=by
 unfold kn at h;split at h
 .omega
 .rename_i h3;split at h
  .omega
  .rename_i h70;have hu:dK t.unit=0:=YF.1 fun h'=>h70 (.inl h');obtain⟨h1,h2⟩:=aq6 hu;refine⟨h1,h2,?_⟩;by_cases hk:t.kind=5
   .have:Name t.of:=YF.1 fun h'=>h3 (.inr (.inr (.inr (.inl ⟨hk,h'⟩))));exact this.1.2.1
   .have:t.of=⟨#[]⟩:=YF.1 fun h'=>h3 (.inr (.inr (.inr (.inr ⟨hk,h'⟩))));rw[this];decide
theorem anW{n:Int}(h:n<=1152921504606846976):(A4 n).size<=21:=by show(Lib.decDigits n.toNat).toArray.size<=21;rw[YB];exact anQ (by omega)
theorem aqH{x:Ex}(h:wh x):(ahy x).size<=400:=by
 obtain⟨h1,h2,h3,h4⟩:=h;have hv:Mj x.val:=⟨h1,h2⟩
 have hk:=hv.kinds;have hs:=ape hv;obtain⟨hl,hu,ho⟩:=aof h3;have hu:(alV x.unit).size<=210:=anY hu hl;simp only at ho;unfold ahy;split
 ·((simp only[ZY,ZP,Z7,Z5,ZL,Mx,TN,TH,YB];omega))
 .simp only[Mx];omega
theorem apj{w:pJ}(h:yZ w):(amk w).size<=40:=by
 have:=@anW w.size (by unfold yZ at h;omega);unfold amk;repeat' split
 all_goals first|decide|((simp only[ZY,ZP,Z7,Z5,ZL,Mx,TN,TH,YB];omega))
theorem aoh:∀s∈qQ,s.size<=8:=by decide
theorem aoj:∀s∈pL,s.size<=8:=by decide
theorem anv{x:Ex}{T:Nat->ae}{i:Nat}{r:Int}:(xc x T i r).size<=(T i).size+2:=by
 unfold xc par;split
 ·((simp only[ZY,ZP,Z7,Z5,ZL,Mx,TN,TH,YB];omega))
 .omega
theorem apa(x:Ex):∀ins,form ins x=true->(text x).size<=500*x.size:=by
 induction x using Ex.ind with
 |h x ih=>
 intro ins hf;have h:=F4.of hf;have hT:∀i,i<x.args.length->(tx x i).size<=500*(x.args.getD i default).size:=fun i hi=>by rw[aoe hi];exact ih _ (bN hi) _ (h.sub _ (bN hi))
 have hs:=Ex.yJ x;have hb:=h.nb;have hn:=h.nn;have hn3:=hn;rw[ao8];unfold alL;unfold j8 at hn;by_cases h1:x.kind=1
 .rw[Z3 h1];have:=aqH (x:=x) (by unfold nS at hb;rwa [Z3 h1]at hb);omega
 rw[Z9 h1];by_cases h4:x.kind=4
 .rw[Z3 h4];rw[Z3 (.inl h4)]at hn;have hN:uf x:=by unfold nS at hb;rw[Z9 (by omega),Z9 (by omega),Z3 (.inr h4)]at hb;exact hb.2
  have h5:=hN.1.1.2.1;have h6:=hT 0 (by omega);have h7:=aoY (l:=x.args) (by omega)
  ((simp only[ZY,ZP,Z7,Z5,ZL,Mx,TN,TH,YB];omega))
 rw[Z9 h4];by_cases h5:x.kind=5
 .rw[Z3 h5];rw[Z9 (by omega),Z3 (.inl h5)]at hn;have hA:uR x:=by unfold nS at hb;rw[Z9 (by omega),Z9 (by omega),Z9 (by omega),Z3 h5]at hb;exact hb.2
  obtain⟨⟨y,hy,ho⟩,ht,hw,hp, -⟩:=hA;have e1:=aoh y hy;rw[<-ho]at e1;have e2:=ht.1.2.1;have e3:=apj hw
  have e4:(A4 x.param).size<=21:=anW (by unfold yr at hp;repeat' split at hp
                                         all_goals omega)
  have e6:=hT 0 (by omega);have e7:=hT 1 (by omega);have e8:=aod (l:=x.args) (by omega);have a1:(if x.op=bG then(⟨#[]⟩:ae)else⟨#[44,32]⟩++tx x 0).size<=2+(tx x 0).size:=by
   split
   .rw[TN];exact Z4 _
   .rw[Mx,TN];exact ZO _
  have a2:(if x.param=0 then(⟨#[]⟩:ae)else⟨#[44,32]⟩++A4 x.param).size<=23:=by
   split
   .decide
   .rw[Mx,TN];show 2+_<=_;omega
  have a3:(if x.args.getD 1 default=ml then(⟨#[]⟩:ae)else⟨#[32,119,104,101,114,101,32]⟩++tx x 1).size<=7+(tx x 1).size:=by
   split
   .rw[TN];exact Z4 _
   .rw[Mx,TN];exact ZO _
  unfold iH
  ((simp only[ZY,ZP,Z7,Z5,ZL,Mx,TN,TH,YB];omega))
 rw[Z9 h5];by_cases h6:x.kind=6
 .rw[Z3 h6];rw[Z3 (.inr h6)]at hn;have e6:=hT 0 (by omega);have e7:=aoY (l:=x.args) (by omega);have e8:=@anv x (tx x) 0 8;have e9:=@anv x (tx x) 0 4;unfold unT;repeat' split
  all_goals((simp only[ZY,ZP,Z7,Z5,ZL,Mx,TN,TH,YB];omega))
 rw[Z9 h6];by_cases h7:x.kind=7
 .rw[Z3 h7];rw[Z9 (by omega),Z3 (.inr (.inl h7))]at hn;have hB:∃y∈pL,x.op=y:=by unfold nS at hb;rw[Z9 (by omega),Z9 (by omega),Z9 (by omega),Z9 (by omega),Z9 (by omega),Z3 h7]at hb;exact hb.2
  obtain⟨y,hy,ho⟩:=hB;have e1:=aoj y hy;rw[<-ho]at e1;have e6:=hT 0 (by omega);have e7:=hT 1 (by omega);have e8:=aod (l:=x.args) (by omega);have e9:=@anv x (tx x) 0 (ahv x);have e10:=@anv x (tx x) 1 (EO x+1);unfold aaA
  ((simp only[ZY,ZP,Z7,Z5,ZL,Mx,TN,TH,YB];omega))
 rw[Z9 h7];by_cases h8:x.kind=8
 .rw[Z3 h8];rw[Z9 (by omega),Z9 (by omega),Z3 h8]at hn;have e6:=hT 0 (by omega);have e7:=hT 1 (by omega);have e5:=hT 2 (by omega);have e8:=aqU (l:=x.args) (by omega);unfold ifT
  ((simp only[ZY,ZP,Z7,Z5,ZL,Mx,TN,TH,YB];omega))
 rw[Z9 h8];by_cases h9:x.kind=9
 .rw[Z3 h9];rw[Z9 (by omega),Z3 (.inr (.inr h9))]at hn;have e6:=hT 0 (by omega);have e7:=hT 1 (by omega);have e8:=aod (l:=x.args) (by omega);have e9:=@anv x (tx x) 0 1;have e10:=@anv x (tx x) 1 2;unfold abw
  ((simp only[ZY,ZP,Z7,Z5,ZL,Mx,TN,TH,YB];omega))
 rw[Z9 h9];have hN:uf x:=by
  unfold nS at hb;rw[Z9 h1]at hb;split at hb
  .exact hb.2
  .split at hb
   .exact hb.2
   .rw[Z9 (by omega)]at hb;exact hb.elim
 have h5:=hN.1.1.2.1;omega
