/- The reference of the checker: types by name. -/
import Derived.Test.YtajimcniogfpcaaGreatDoorHa
import Derived.Test.YtajimcniogfpcaaGreatDoorFa
import Derived.Test.YtajimcniogfpcaaGreatDoorPn
import Derived.Test.YtajimcniogfpcaaGreatDoorAa
import Derived.Test.YtajimcniogfpcaaGreatDoorAt
import Derived.Test.YtajimcniogfpcaaGreatDoorHi
set_option linter.unusedSimpArgs false
set_option linter.unusedVariables false
set_option maxRecDepth 100000
set_option maxHeartbeats 4000000
namespace Go.Proofs.YtajimcniogfpcaaGreatDoor
open Go.Sx Go.Proofs Go.Tb
theorem ake(x y:Ty):Pure Tryz.prog 13 [.agg x.cells,.agg y.cells] (.v (.bool (decide (x.kind=y.kind∧x.unit=y.unit∧x.of=y.of)))):=by
 refine k13.p fun σ=> ?_
 repeat'(first|exact .nil|refine .k0 ?_|refine .k1 ?_|refine .k2 ?_|refine .k4 ?_|refine .k7 ?_|refine .r1 ?_ ?_|(refine .m1 ?_ ?_;intro b)|refine .an rfl (by intro aB;exact akh _ _) ?_ ?_|fail)
 all_goals(try simp only[BL]at *)
 rw[show(decide (x.kind=y.kind∧x.unit=y.unit∧x.of=y.of))=(decide (x.kind=y.kind) && decide (x.unit=y.unit) && decide (x.of=y.of)) by grind]
 exact Zw
end Go.Proofs.YtajimcniogfpcaaGreatDoor
namespace Go.Proofs.YtajimcniogfpcaaGreatDoor
open _root_.Go.Proofs.Tryz
open Go.Sx Go.Proofs Go.Tb Go.RowKit
structure DD(c:az):Prop where
 t:∀ t∈c.tables,t.Fits
 f:∀ f∈c.features++c.aT++c.past,f.Fits
def DH(x:dE):Prop:=vX x.table∧q9 x.feature∧x.name.size≤100
instance (x:dE):Decidable (DH x):=inferInstanceAs (Decidable (_∧_∧_))
theorem adK(x:dE)(ht:x.table.Fits)(hf:x.feature.Fits):Pure prog 6 [.agg x.cells] (.v (.bool (decide (DH x)))):=by
 refine k6.p fun σ=> ?_
 repeat'(first|exact .nil|refine .k0 ?_|refine .k1 ?_|refine .k2 ?_|refine .k4 ?_|refine .k7 ?_|refine .r1 ?_ ?_|(refine .m1 ?_ ?_;intro b)|refine .an rfl (by intro aB;first|exact PB _ ht|exact Pz _ hf) ?_ ?_|fail)
 all_goals(try simp only[BL]at *)
 all_goals
  refine Sx.Fin.intro Zs (bd ?_)
  unfold DH
  grind
def yB(c:az):Prop:=c.tables.length≤20∧c.features.length≤20∧c.aT.length≤20∧c.past.length≤20∧(∀ t∈c.tables,vX t)∧∀ f∈c.features++c.aT++c.past,q9 f
instance (c:az):Decidable (yB c):=by unfold yB;infer_instance
theorem adL(C:az)(gV:DD C):Pure prog 5 [.agg C.cells] (.v (.bool (decide (yB C)))):=by
 have uD:∀ f∈C.all,f.Fits:=gV.f
 refine k5.pc (fun d=>bif ([42]:List Nat).elem d then 3 else 0) fun σ=> ?_
 repeat'(first|exact .nil|refine .k0 ?_|refine .k1 ?_|refine .k2 ?_|refine .k4 ?_|refine .k6 ?_|refine .k7 ?_|refine .k9 ?_|(refine .cd ?_ ?_<;>(intro hc;skip))|refine .r1 ?_ ?_|(refine .m1 ?_ ?_;intro b)|(refine .m2 ?_ ?_;intro hlen)|fail)
 try any_goals(exact Zo)
 all_goals(try simp only[BL]at *)
 ·refine Sx.Fin.intro Zs (bf ?_)
  rintro⟨h1,h2,h3,h4,_⟩;omega
 rename_i cq
 clear hlen cq
 refine bO (fun n rg σ'=>∃ i:Nat,i≤C.tables.length∧n=C.tables.length-i∧(∀ j,j<i→vX (C.tables.getD j default))∧σ'=(1,b,aR.cells C.cells)::σ∧rg=[(1,.lp 1 b 0),(3,iv i)]) C.tables.length rfl ⟨_,_,Zr,Zs,0,ZL _,rfl,fun j hj=>absurd hj (by omega),rfl,rfl⟩ ?_
 rintro n _ _ ⟨i,hi,hn,hp,rfl,rfl⟩
 have c8:=hc
 clear hc
 repeat'(first|exact .nil|refine .k0 ?_|refine .k1 ?_|refine .k2 ?_|refine .k3 ?_|refine .k6 ?_|refine .k7 ?_|refine .k8 ?_|refine .k9 ?_|(refine .cd ?_ ?_<;>(intro hc;skip))|refine .r1 ?_ ?_|(refine .m2 ?_ ?_;intro hlen)|refine .t1 ?_ ?_ ?_|refine .u2 ?_ ?_ ?_ (fun b u c=> ?_)|refine .u3 ?_ ?_ (fun jE=> ?_) (fun eZ b u c=> ?_)|refine .an rfl (by intro aB;first|exact PB (C.tables.getD i default) (gV.t _ (dt (by(simp only[BL]at *;omega))))|fail) ?_ ?_|refine .r8 ?_ ?_|fail)
 try any_goals(exact Zo)
 all_goals(try simp only[BL]at *)
 any_goals exact Eh _
 any_goals(show _≤1000000;decide)
 any_goals(show _ * 248≤_;simp only[Z9,Z4,Z0];omega)
 ·refine Sx.Fin.intro Zs (bf ?_)
  rintro⟨_,_,_,_,h,_⟩
  exact hc (h _ (dt (by omega)))
 ·refine⟨C.tables.length-(i+1),by omega,_,_,Zr,Zs,i+1,by omega,rfl,iP hp hc,rfl,by rw[cu (n:=C.tables.length) (by omega) (by assumption)]⟩
 all_goals
  have cO:=oA (p:=vX) (l:=C.tables) (fun j hj=>hp j (by omega))
  clear hp hc hn hi hlen
  refine bO (fun n rg σ'=>∃ i:Nat,i≤C.all.length∧n=C.all.length-i∧(∀ j,j<i→q9 (C.all.getD j default))∧σ'=σ∧rg=[(4,.sl false 18 (C.all.map aj.cells)),(5,iv i)]) C.all.length rfl ?_ ?_
  ·refine⟨[(4,.sl false 18 (C.all.map aj.cells)),(5,iv (0:Nat))],σ,?_,Zs,0,ZL _,rfl,fun j hj=>absurd hj (by omega),rfl,rfl⟩
   refine .cons ?_ (.cons (Wk.refl _) .nil)
   first|exact .sE (by simp[az.all, *])|exact .LO (by simp[az.all, *])
  rintro n _ _ ⟨i,hi,hn,hp,rfl,rfl⟩
  repeat'(first|exact .nil|refine .k0 ?_|refine .k1 ?_|refine .k2 ?_|refine .k6 ?_|refine .k7 ?_|refine .k8 ?_|refine .k9 ?_|(refine .cd ?_ ?_<;>(intro hc;skip))|refine .r1 ?_ ?_|(refine .m2 ?_ ?_;intro hlen)|refine .t1 ?_ ?_ ?_|refine .an rfl (by intro aB;exact Pz (C.all.getD i default) (uD _ (dt (by(simp only[BL]at *;omega))))) ?_ ?_|fail)
  try any_goals(exact Zo)
  all_goals(try simp only[BL]at *)
  ·refine Sx.Fin.intro Zs (bf ?_)
   rintro⟨_,_,_,_,_,h⟩
   have h:∀ f∈C.all,q9 f:=h
   exact hc (h _ (dt (by omega)))
  ·refine⟨C.all.length-(i+1),by omega,_,_,Zr,Zs,i+1,by omega,rfl,iP hp hc,rfl,by rw[cu (n:=C.all.length) (by omega) (by assumption)]⟩
  ·have aeu:=oA (p:=q9) (l:=C.all) (fun j hj=>hp j (by omega))
   rw[YR (show yB C from⟨by omega,by omega,by omega,by omega,cO,aeu⟩)]
   exact Zw
theorem UJ(l:List aj):Pure prog 28 [.sl false 18 (l.map aj.cells),.sl false 18 (l.map aj.cells)] (.v (.bool true)):=by
 refine Se.p fun σ=> ?_
 repeat'(first|exact .nil|refine .k0 ?_|refine .k1 ?_|refine .k2 ?_|refine .k6 ?_|refine .k7 ?_|refine .k9 ?_|(refine .cd ?_ ?_<;>(intro hc;skip))|refine .r1 ?_ ?_|(refine .m2 ?_ ?_;intro hlen)|fail)
 all_goals(try simp only[BL]at *)
 ·exfalso;simp at hc
 clear hc
 refine bO (fun n rg σ'=>∃ i:Nat,i≤l.length∧n=l.length-i∧σ'=σ∧rg=[(0,.sl false 18 (l.map aj.cells)),(1,.sl false 18 (l.map aj.cells)),(5,iv i)]) l.length rfl ⟨_,_,Zr,Zs,0,ZL _,rfl,rfl,rfl⟩ ?_
 rintro n _ _ ⟨i,hi,hn,rfl,rfl⟩
 repeat'(first|exact .nil|refine .k0 ?_|refine .k1 ?_|refine .k2 ?_|refine .k5 ?_|refine .k6 ?_|refine .k7 ?_|refine .k8 ?_|refine .k9 ?_|(refine .cd ?_ ?_<;>(intro hc;skip))|refine .r1 ?_ ?_|(refine .m2 ?_ ?_;intro hlen)|refine .t1 ?_ ?_ ?_|refine .an rfl (by intro aB;exact aka _) ?_ ?_|fail)
 try any_goals(exact Zo)
 all_goals(try simp only[BL]at *)
 all_goals first|(exfalso;simp at hc;done)|(refine⟨l.length-(i+1),by omega,_,_,Zr,Zs,i+1,by omega,rfl,rfl,by rw[cu (n:=l.length) (by omega) (by assumption)]⟩)|(show Sx.Fin _ _ _ _;(refine Sx.Fin.wk Zs ?_;repeat' first|exact .refl _|fail);done)|fail
theorem aj9(c:az):Pure prog 8 [.agg c.cells,.agg c.cells] (.v (.bool true)):=by
 refine k8.p fun σ=> ?_
 repeat'(first|exact .nil|refine .k0 ?_|refine .k1 ?_|refine .k2 ?_|refine .k6 ?_|refine .k7 ?_|refine .k9 ?_|(refine .cd ?_ ?_<;>(intro hc;skip))|refine .r1 ?_ ?_|(refine .m1 ?_ ?_;intro b)|(refine .m2 ?_ ?_;intro hlen)|fail)
 all_goals(try simp only[BL]at *)
 ·exfalso;simp at hc
 clear hc
 rename_i b2 _
 refine bO (fun n rg σ'=>∃ i:Nat,i≤c.tables.length∧n=c.tables.length-i∧σ'=(3,b,aR.cells c.cells)::(2,b2,aR.cells c.cells)::σ∧rg=[(2,.lp 2 b2 0),(3,.lp 3 b 0),(5,iv i)]) c.tables.length rfl ⟨_,_,Zr,Zs,0,ZL _,rfl,rfl,rfl⟩ ?_
 rintro n _ _ ⟨i,hi,hn,rfl,rfl⟩
 repeat'(first|exact .nil|refine .k0 ?_|refine .k1 ?_|refine .k2 ?_|refine .k5 ?_|refine .k6 ?_|refine .k7 ?_|refine .k8 ?_|refine .k9 ?_|(refine .cd ?_ ?_<;>(intro hc;skip))|refine .r1 ?_ ?_|(refine .m2 ?_ ?_;intro hlen)|refine .t1 ?_ ?_ ?_|refine .an rfl (by intro aB;first|exact akd (c.tables.getD i default)|exact UJ _) ?_ ?_|fail)
 try any_goals(exact Zo)
 all_goals(try simp only[BL]at *)
 all_goals first|(exfalso;simp at hc;done)|(refine⟨c.tables.length-(i+1),by omega,_,_,Zr,Zs,i+1,by omega,rfl,rfl,by rw[cu (n:=c.tables.length) (by omega) (by assumption)]⟩)|(show Sx.Fin _ _ _ _;(refine Sx.Fin.wk Zs ?_;repeat' first|exact .refl _|fail);done)|fail
theorem aio{n:ae}{l:List aj}{j:Nat}(h:j<l.length):dO n (l.take (j+1))=dO n (l.take j)++(if(l.getD j default).name=n then[]else[l.getD j default]):=by
 rw[ZF h,x6,getD_eq h]
 congr 1
 unfold dO
 by_cases e:l[j].name=n<;>simp[e]
def yG(e t:Nat)(rows:List (List AV))(x:AV)(τ:Store):Prop:=(rows=[]∧x= .v (.slice none 0 0)∧τ=[])∨∃ b u c,x= .own e t b u c rows∧τ=[(t,b,.tail u c)]
theorem yG.wk{e t:Nat}{rows:List (List AV)}{x:AV}{τ:Store}(h:yG e t rows x τ):Wk x (.sl false e rows):=by
 rcases h with⟨rfl,rfl,_⟩|⟨b,u,c,rfl,_⟩
 ·exact .nil
 ·exact .own _
theorem yG.sub{e t:Nat}{rows:List (List AV)}{x:AV}{τ σ:Store}(h:yG e t rows x τ):Sx.Sub σ (τ++σ):=by
 rcases h with⟨_,_,rfl⟩|⟨b,u,c,_,rfl⟩
 ·exact .refl _
 ·exact .cons (.refl _)
theorem Tz{n:ae}{l:List aj}{j:Nat}(h:j<l.length):(¬(l.getD j default).name=n→(dO n (l.take (j+1))).map aj.cells=(dO n (l.take j)).map aj.cells++[(l.getD j default).cells])∧((l.getD j default).name=n→(dO n (l.take (j+1))).map aj.cells=(dO n (l.take j)).map aj.cells):=by
 rw[aio h,Y7]
 exact⟨fun e=>by rw[Z5 e];rfl,fun e=>by rw[ZW e];exact YX _⟩
theorem LM(A B:List aj)(n:ae)(h:dO n A=dO n B)(hA:A.length≤100000)(hB:B.length≤100000):Pure prog 11 [.sl false 18 (A.map aj.cells),.sl false 18 (B.map aj.cells),sv n] (.v (.bool true)):=by
 have hl:∀ (l:List aj) (i:Nat),(dO n (l.take i)).length≤l.length:=fun l i=>ZG (Xt _ _) (by simp;omega)
 refine k11.p fun σ=> ?_
 repeat'(first|exact .nil|refine .k0 ?_|refine .k1 ?_|refine .k2 ?_|refine .k6 ?_|refine .r1 ?_ ?_|fail)
 all_goals(try simp only[BL]at *)
 refine bO (fun m rg σ'=>∃ (i:Nat) (x:AV) (τ:Store),i≤A.length∧m=A.length-i∧yG 18 30 ((dO n (A.take i)).map aj.cells) x τ∧σ'=τ++σ∧rg=[(0,.sl false 18 (A.map aj.cells)),(1,.sl false 18 (B.map aj.cells)),(2,sv n),(7,x),(8,.v (.slice none 0 0)),(9,iv i)]) A.length rfl ⟨_,_,Zr,Zs,0,_,[],ZL _,rfl,.inl ⟨rfl,rfl,rfl⟩,rfl,rfl⟩ ?_
 rintro m _ _ ⟨i,x,τ,hi,hm,hx,rfl,rfl⟩
 rcases YO i A.length with ar|mR
 ·obtain⟨ia,fj⟩:=Tz (n:=n) ar
  have qn:=hl A i
  have KY:(i:Int)<(A.length:Int):=by omega
  rcases id hx with⟨h0,rfl,rfl⟩|⟨b1,u1,c1,rfl,rfl⟩
  all_goals
   repeat'(first|exact .nil|refine .k0 ?_|refine .k1 ?_|refine .k2 ?_|refine .k6 ?_|refine .k8 ?_|refine .k9 ?_|(refine .cd ?_ ?_<;>(intro hc;skip))|refine .r1 ?_ ?_|(refine .m2 ?_ ?_;intro hlen)|refine .t1 ?_ ?_ ?_|refine .u1 ?_ ?_ ?_ (fun b u c=> ?_)|refine .u2 ?_ ?_ ?_ (fun b u c=> ?_)|(show List.all _ _=true;rfl)|fail)
   try any_goals(exact Zo)
   all_goals(try simp only[BL]at *)
  any_goals(show(1:Nat)≤1000000;decide)
  any_goals(show 1 * 248≤_;decide)
  try any_goals(first|omega|(simp only[Z8,Z0,Z9,Z4,ZQ,di,cr,eL,ZS];omega))
  try any_goals exact Eh _
  all_goals first
   |(refine⟨A.length-(i+1),by omega,_,_,Zr,Zs,i+1,_,_,by omega,rfl,.inr ⟨b,u,c,?_,rfl⟩,rfl,by rw[cu (n:=A.length) (by omega) (by assumption)]⟩;rw[ia hc];first|(rw[h0];rfl)|rfl)
   |(refine⟨A.length-(i+1),by omega,_,_,Zr,Zs,i+1,_,_,by omega,rfl,?_,rfl,by rw[cu (n:=A.length) (by omega) (by assumption)]⟩;rw[fj hc];exact hx)
 ·refine abp (ak:=[(0,.sl false 18 (A.map aj.cells)),(1,.sl false 18 (B.map aj.cells)),(2,sv n),(7,.sl false 18 ((dO n B).map aj.cells)),(8,.v (.slice none 0 0)),(9,iv i)]) (σ':=σ) ?_ (.cons (Wk.refl _) (.cons (Wk.refl _) (.cons (Wk.refl _) (.cons (by rw[← h,← Zq mR];exact hx.wk) (.cons (Wk.refl _) (.cons (Wk.refl _) .nil)))))) hx.sub
  have hni:¬((i:Int)<(A.length:Int)):=by omega
  repeat'(first|exact .nil|refine .k0 ?_|refine .k1 ?_|refine .k2 ?_|refine .k6 ?_|refine .k8 ?_|refine .k9 ?_|(refine .cd ?_ ?_<;>(intro hc;skip))|refine .r1 ?_ ?_|(refine .m2 ?_ ?_;intro hlen)|refine .t1 ?_ ?_ ?_|fail)
  try any_goals(exact Zo)
  all_goals(try simp only[BL]at *)
  any_goals(exfalso;omega)
  clear hx hi hm
  refine bO (fun m rg σ'=>∃ (i:Nat) (x:AV) (τ:Store),i≤B.length∧m=B.length-i∧yG 18 50 ((dO n (B.take i)).map aj.cells) x τ∧σ'=τ++σ∧rg=[(1,.sl false 18 (B.map aj.cells)),(2,sv n),(7,.sl false 18 ((dO n B).map aj.cells)),(8,x),(10,iv i)]) B.length rfl ⟨_,_,Zr,Zs,0,_,[],ZL _,rfl,.inl ⟨rfl,rfl,rfl⟩,rfl,rfl⟩ ?_
  rintro m _ _ ⟨i,x,τ,hi,hm,hx,rfl,rfl⟩
  rcases YO i B.length with ar|mR
  ·obtain⟨ia,fj⟩:=Tz (n:=n) ar
   have qn:=hl B i
   have KY:(i:Int)<(B.length:Int):=by omega
   rcases id hx with⟨h0,rfl,rfl⟩|⟨b1,u1,c1,rfl,rfl⟩
   all_goals
    repeat'(first|exact .nil|refine .k0 ?_|refine .k1 ?_|refine .k2 ?_|refine .k6 ?_|refine .k8 ?_|refine .k9 ?_|(refine .cd ?_ ?_<;>(intro hc;skip))|refine .r1 ?_ ?_|(refine .m2 ?_ ?_;intro hlen)|refine .t1 ?_ ?_ ?_|refine .u1 ?_ ?_ ?_ (fun b u c=> ?_)|refine .u2 ?_ ?_ ?_ (fun b u c=> ?_)|(show List.all _ _=true;rfl)|fail)
    try any_goals(exact Zo)
    all_goals(try simp only[BL]at *)
   any_goals(show(1:Nat)≤1000000;decide)
   any_goals(show 1 * 248≤_;decide)
   try any_goals(first|omega|(simp only[Z8,Z0,Z9,Z4,ZQ,di,cr,eL,ZS];omega))
   try any_goals exact Eh _
   all_goals first
    |(refine⟨B.length-(i+1),by omega,_,_,Zr,Zs,i+1,_,_,by omega,rfl,.inr ⟨b,u,c,?_,rfl⟩,rfl,by rw[cu (n:=B.length) (by omega) (by assumption)]⟩;rw[ia hc];first|(rw[h0];rfl)|rfl)
    |(refine⟨B.length-(i+1),by omega,_,_,Zr,Zs,i+1,_,_,by omega,rfl,?_,rfl,by rw[cu (n:=B.length) (by omega) (by assumption)]⟩;rw[fj hc];exact hx)
  ·have hw:=hx.wk
   have hni:¬((i:Int)<(B.length:Int)):=by omega
   rw[Zq mR]at hw
   rcases id hx with⟨h0,rfl,rfl⟩|⟨b1,u1,c1,rfl,rfl⟩
   all_goals
    repeat'(first|exact .nil|refine .k0 ?_|refine .k1 ?_|refine .k2 ?_|refine .k6 ?_|refine .k7 ?_|refine .k8 ?_|refine .k9 ?_|(refine .cd ?_ ?_<;>(intro hc;skip))|refine .r1 ?_ ?_|(refine .m2 ?_ ?_;intro hlen)|refine .t1 ?_ ?_ ?_|refine .u1 ?_ ?_ ?_ (fun b u c=> ?_)|refine .u2 ?_ ?_ ?_ (fun b u c=> ?_)|refine .an rfl (by intro aB;(refine(UJ (dO n B)).wk (.cons (.refl _) (.cons hw .nil)))) ?_ ?_|(show List.all _ _=true;rfl)|fail)
    try any_goals(exact Zo)
    all_goals(try simp only[BL]at *)
   any_goals(exfalso;omega)
   all_goals exact Zw
set_option maxHeartbeats 16000000
theorem UK(t:Ty):Pure prog 13 [.agg t.cells,.agg t.cells] (.v (.bool true)):=by
 have:=ake t t
 rwa [YR ⟨rfl,rfl,rfl⟩]at this
theorem akc(t:aI):Pure prog 15 [.agg t.cells,.agg t.cells] (.v (.bool true)):=by
 refine k15.p fun σ=> ?_
 repeat'(first|exact .nil|refine .k0 ?_|refine .k1 ?_|refine .k2 ?_|refine .k4 ?_|refine .k6 ?_|refine .k7 ?_|refine .k9 ?_|(refine .cd ?_ ?_<;>(intro hc;skip))|refine .r1 ?_ ?_|(refine .m1 ?_ ?_;intro b)|(refine .m2 ?_ ?_;intro hlen)|fail)
 try any_goals(exact Zo)
 all_goals(try simp only[BL]at *)
 ·exfalso;simp at hc
 clear hc
 rename_i b2 _
 refine bO (fun n rg σ'=>∃ i:Nat,i≤t.fields.length∧n=t.fields.length-i∧σ'=(3,b,aR.cells t.cells)::(2,b2,aR.cells t.cells)::σ∧rg=[(2,.lp 2 b2 0),(3,.lp 3 b 0),(5,iv i)]) t.fields.length rfl ⟨_,_,Zr,Zs,0,ZL _,rfl,rfl,rfl⟩ ?_
 rintro n _ _ ⟨i,hi,hn,rfl,rfl⟩
 repeat'(first|exact .nil|refine .k0 ?_|refine .k1 ?_|refine .k2 ?_|refine .k3 ?_|refine .k4 ?_|refine .k5 ?_|refine .k6 ?_|refine .k7 ?_|refine .k8 ?_|refine .k9 ?_|(refine .cd ?_ ?_<;>(intro hc;skip))|refine .r1 ?_ ?_|(refine .m2 ?_ ?_;intro hlen)|refine .t1 ?_ ?_ ?_|refine .an rfl (by intro aB;exact UK (t.fields.getD i default).type) ?_ ?_|fail)
 try any_goals(exact Zo)
 all_goals(try simp only[BL]at *)
 all_goals first|(exfalso;exact hc trivial)|(refine⟨t.fields.length-(i+1),by omega,_,_,Zr,Zs,i+1,by omega,rfl,rfl,by rw[cu (n:=t.fields.length) (by omega) (by assumption)]⟩)|(show Sx.Fin _ _ _ _;(refine Sx.Fin.wk Zs ?_;repeat' first|exact .refl _|fail);done)|fail
theorem PD{f:aj}(h:q9 f)(hf:f.Fits):FB f:=by
 obtain⟨_,_,h3⟩:=h
 have h4:=Ek f.body 80 (by decide)
 have h5:=h4.2.2 h3
 have:=hf.n
 exact⟨by omega,by omega,hf.b⟩
theorem adO{c:az}(h:yB c)(hc:DD c):CB 20 c:=by
 obtain⟨h1,h2,h3,h4,_,h5⟩:=h
 exact⟨h1,h2,h3,h4,fun f hf=>PD (h5 f hf) (hc.f f hf)⟩
theorem abJ{n:Nat}{c:az}{x:dE}(h:CB n c)(hx:FB x.feature):CB (n+1) (gg c x).1:=by
 have hz:CB (n+1) gh:=⟨ZL _,ZL _,ZL _,ZL _,fun f hf=>nomatch hf⟩
 unfold gg
 split
 ·exact hz
 split
 ·exact hz
 split
 ·exact hz
 ·exact h.change hx
theorem alz(c:az)(x:dE)(gV:DD c)(hxt:x.table.Fits)(Ri:x.feature.Fits)(hE:Pure prog 4 [] (.v (.bool true))):Pure prog 3 [.agg c.cells,.agg x.cells] (.v (.bool true)):=by
 have hF:=adL c gV
 have hG:=adK x hxt Ri
 by_cases Ca:yB c∧DH x
 case neg=>
  refine k3.p fun σ=> ?_
  repeat'(first|exact .nil|refine .k0 ?_|refine .k1 ?_|refine .k2 ?_|refine .k4 ?_|refine .k7 ?_|refine .k9 ?_|(refine .cd ?_ ?_<;>(intro hc;skip))|refine .r1 ?_ ?_|(refine .m1 ?_ ?_;intro b)|refine .an rfl (by intro aB;first|exact hE|exact hF|exact hG|fail) ?_ ?_|fail)
  try any_goals(exact Zo)
  all_goals(try simp only[BL]at *)
  ·cases hc
  ·exact Zw
  ·exact absurd hc Ca
 obtain⟨Ca,QB⟩:=Ca
 rw[YR Ca]at hF
 rw[YR QB]at hG
 have B8:=adO Ca gV
 have Rh:=PD QB.2.1 Ri
 have hA:=N3 Gy FQ c x 20 (by decide) B8 Rh
 have aeQ:=abK c x
 have rM:=abJ B8 Rh
 generalize gg c x=r at *
 obtain⟨d,e⟩:=r
 rcases aeQ with⟨he,hd⟩|⟨he,hd⟩
 ·simp only at he hd
  subst hd
  refine k3.p fun σ=> ?_
  repeat'(first|exact .nil|refine .k0 ?_|refine .k1 ?_|refine .k2 ?_|refine .k5 ?_|refine .k7 ?_|refine .k9 ?_|(refine .cd ?_ ?_<;>(intro hc;first|exact kt hc (by assumption)|skip))|refine .r1 ?_ ?_|(refine .l1 ?_;intro b)|(refine .m1 ?_ ?_;intro b)|refine .an rfl (by intro aB;first|exact hE|exact hF|exact hG|exact hA|(refine(aj9 gh).wk ?_;(repeat' first|exact .refl _|exact .nil|refine .cons ?_ ?_|refine .agg ?_|fail);done)|fail) ?_ ?_|fail)
  all_goals(try simp only[BL]at *)
  all_goals first|(cases hc;done)|(exfalso;exact he (by assumption))|(refine Sx.Fin.wk Zs ?_;repeat' first|exact .refl _|fail)
 ·simp only at he hd rM
  subst he
  obtain⟨h1,h2,h3,h4,h5,h6,h7⟩:=hd
  have hK:=IE Gy FQ d (fun f hf=>ZG (rM.b f hf).s (by decide)) (rM.fit (by decide)) (by have:=rM.t;omega)
  rw[h1]at hK
  have hO:=LK d (rM.fit (by decide))
  have zS:=LM _ _ _ h3 (ZG B8.f (by decide)) (ZG rM.f (by decide))
  have xj:=LM _ _ _ h4 (ZG B8.d (by decide)) (ZG rM.d (by decide))
  have Kw:=LM _ _ _ h5 (ZG B8.p (by decide)) (ZG rM.p (by decide))
  have hI:∀ i,i<d.features.length→Pure prog 12 [.agg d.cells,sv (d.features.getD i default).cN,.agg (d.features.getD i default).body.row] (jq ((d.features.getD i default).type,0)):=fun i hi=>by
   have hm:=dt (l:=d.features) hi
   have:=Ry Gy FQ d (d.features.getD i default).cN (d.features.getD i default).body (ZG (rM.b _ (ZI _ (ZI _ hm))).s (by decide))
   rwa [h6 _ hm]at this
  generalize kN (deps d.features) (aL d.features)=ol at *
  rcases(show(x.kind=1∧j3 x=eS)∨(¬x.kind=1∧x.kind=2∧j3 x=x.feature.name)∨(¬x.kind=1∧¬x.kind=2∧j3 x=x.name) by unfold j3;grind)with⟨k1,hn⟩|⟨k1,k2,hn⟩|⟨k1,k2,hn⟩
  all_goals
   rw[hn]at zS xj Kw
   refine k3.p fun σ=> ?_
   repeat'(first|exact .nil|refine .k0 ?_|refine .k1 ?_|refine .k2 ?_|refine .k4 ?_|refine .k5 ?_|refine .k6 ?_|refine .k7 ?_|refine .k9 ?_|(refine .cd ?_ ?_<;>(intro hc;first|exact kt hc (by assumption)|skip))|refine .r1 ?_ ?_|(refine .l1 ?_;intro b)|(refine .m1 ?_ ?_;intro b)|refine .an rfl (by intro aB;first|exact hE|exact hF|exact hG|exact hA|exact hK|exact hO|exact zS|exact xj|exact Kw|fail) ?_ ?_|refine .r2 ?_ ?_|fail)
   try any_goals(exact Zo)
   all_goals(try simp only[BL]at *)
  any_goals(exfalso;first|(cases hc;done)|contradiction|omega|(rcases hc with hc|hc<;>first|exact hc trivial|omega))
  all_goals
   rename_i b2 b3 q1 q2 q3 q4 q5
   clear q1 q2 q3 q4 q5 hc zS xj Kw hK hO hE hF hG hA hn
   refine bO (fun m rg σ'=>∃ i:Nat,i≤d.features.length∧m=d.features.length-i∧σ'=(5,b,.cells d.cells)::(3,b3,.cells x.cells)::(2,b2,.cells c.cells)::σ∧rg=[(2,.lp 2 b2 0),(5,.lp 5 b 0),(8,iv i)]) d.features.length rfl ⟨_,_,Zr,Zs,0,ZL _,rfl,rfl,rfl⟩ ?_
   rintro m _ _ ⟨i,hi,hm,rfl,rfl⟩
   have Qh:=hI i
   have hS:=UK (d.features.getD i default).type
   repeat'(first|exact .nil|refine .k0 ?_|refine .k1 ?_|refine .k2 ?_|refine .k3 ?_|refine .k5 ?_|refine .k6 ?_|refine .k7 ?_|refine .k8 ?_|refine .k9 ?_|(refine .cd ?_ ?_<;>(intro hc;skip))|refine .r1 ?_ ?_|(refine .l1 ?_;intro b)|(refine .m2 ?_ ?_;intro hlen)|refine .t1 ?_ ?_ ?_|refine .an rfl (by intro aB;first|exact Qh (by(simp only[BL]at *;omega))|exact hS|fail) ?_ ?_|fail)
   try any_goals(exact Zo)
   all_goals(try simp only[BL]at *)
   ·exact absurd trivial hc
   ·exact⟨m-1,by omega,_,_,Zr,Zs,i+1,by omega,by omega,rfl,by rw[cu (n:=d.features.length) (by omega) (by assumption)]⟩
   clear hc hm hi Qh hS
   refine bO (fun m rg σ'=>∃ i:Nat,i≤c.tables.length∧m=c.tables.length-i∧σ'=(5,b,.cells d.cells)::(3,b3,.cells x.cells)::(2,b2,.cells c.cells)::σ∧rg=[(2,.lp 2 b2 0),(5,.lp 5 b 0),(11,iv i)]) c.tables.length rfl ⟨_,_,Zr,Zs,0,ZL _,rfl,rfl,rfl⟩ ?_
   rintro m _ _ ⟨i,hi,hm,rfl,rfl⟩
   have hTb:i<c.tables.length→Pure prog 14 [.agg d.cells,sv (c.tables.getD i default).name] (P1 (some (c.tables.getD i default))):=fun h=>by
    have:=akP d (c.tables.getD i default).name
    rwa [h7 _ (dt h)]at this
   have hS:=akc (c.tables.getD i default)
   repeat'(first|exact .nil|refine .k0 ?_|refine .k1 ?_|refine .k2 ?_|refine .k3 ?_|refine .k5 ?_|refine .k6 ?_|refine .k7 ?_|refine .k8 ?_|refine .k9 ?_|(refine .cd ?_ ?_<;>(intro hc;skip))|refine .r1 ?_ ?_|(refine .l1 ?_;intro b)|(refine .m2 ?_ ?_;intro hlen)|refine .t1 ?_ ?_ ?_|refine .an rfl (by intro aB;first|exact hS|exact hTb (by(simp only[BL]at *;omega))) ?_ ?_|fail)
   try any_goals(exact Zo)
   all_goals(try simp only[BL]at *)
   ·cases hc
   ·exact⟨m-1,by omega,_,_,Zr,Zs,i+1,by omega,by omega,rfl,by rw[cu (n:=c.tables.length) (by omega) (by assumption)]⟩
   ·exact Zw
end Go.Proofs.YtajimcniogfpcaaGreatDoor
