import Derived.Test.YtmemninechdogaaGreatDoorHa
import Derived.Test.YtmemninechdogaaGreatDoorAa
import Derived.Test.YtmemninechdogaaGreatDoorAt
set_option linter.all false
set_option maxRecDepth 100000
set_option maxHeartbeats 4000000
namespace Go.Proofs.YtmemninechdogaaGreatDoor
open _root_.Go.Proofs.Tryz
open Go.Sx Go.Proofs Go.Tb
theorem acS{z:Type}[Inhabited z]{p:z->Bool}{l:List z}{i:Nat}(hi:i<l.length)(h:∀j,j<i->p (l.getD j default)=false)(hn:p (l.getD i default)=true):l.find? p=some (l.getD i default):=by rw[getD_eq hi]at hn|-;rw[Ya];refine⟨hn,i,hi,rfl,fun j hj=>?_⟩;have:=h j hj;rw[getD_eq (Nat.lt_trans hj hi)]at this;simpa using this
theorem Ob{z:Type}[Inhabited z]{p:z->Bool}{l:List z}(h:∀j,j<l.length->p (l.getD j default)=false):l.find? p=none:=by rw[XD];intro x hx;obtain⟨j,hj,rfl⟩:=Zc hx;have:=h j hj;rw[getD_eq hj]at this;simpa using this
abbrev iB(c:ay)(aY:ae)(t:aO):List AV:=[.sl false 4 (c.tables.map aO.cells),.sl false 18 (c.features.map aj.cells),.sl false 18 (c.aD.map aj.cells),.sl false 18 (c.past.map aj.cells),sv aY,sv t.name,sv t.dh,.sl false 4 (t.fields.map cT.cells),iv t.aH]
abbrev yQ:List AV:=[iv 0,ej,sv s0]
abbrev y7:List AV:=[ej,ej,ej,ej,sv s0,sv s0,sv s0,ej,iv 0]
def oz(a b:Ty):Int:=if a.kind≠b.kind\/a.of≠b.of then 5 else if a.unit≠b.unit then 70 else 0
theorem MF(x y:Ty):Pure prog 63 [.agg x.cells,.agg y.cells] (iv (oz x y)):=by
 refine k63.p fun q=>?_;repeat'(first|exact .nil|refine .k0 ?_|refine .k1 ?_|refine .k2 ?_|refine .k4 ?_|refine .k7 ?_|refine .k9 ?_|(refine .cd ?_ ?_<;>intro hc)|refine .r1 ?_ ?_|(refine .m1 ?_ ?_;intro b)|refine .an rfl (by intro ar;exact E6 _ _) ?_ ?_|fail)
 try any_goals(exact Zo)
 all_goals(try simp only[BL]at*)
 .rw[show oz x y=5 from Z3 hc];exact Zw
 .rw[show oz x y=70 from(Z9 (by grind)).trans (Z3 hc)];exact Zw
 .rw[show oz x y=0 from(Z9 (by grind)).trans (Z9 (by grind))];exact Zw
theorem Tg(x y:Ty):Pure prog 35 [.agg x.cells,.agg y.cells] (.v (.bool (decide (x.kind=y.kind/\x.unit=y.unit/\x.of=y.of)))):=by
 refine k35.p fun q=>?_;repeat'(first|exact .nil|refine .k0 ?_|refine .k1 ?_|refine .k2 ?_|refine .k4 ?_|refine .k7 ?_|refine .r1 ?_ ?_|(refine .m1 ?_ ?_;intro b)|refine .an rfl (by intro ar;exact E6 _ _) ?_ ?_|fail)
 all_goals(try simp only[BL]at*)
 rw[show(decide (x.kind=y.kind/\x.unit=y.unit/\x.of=y.of))=(decide (x.kind=y.kind)&&decide (x.unit=y.unit)&&decide (x.of=y.of)) by grind];exact Zw
theorem acM(c:ay)(e0:ae)(t:aO)(n:ae):Pure prog 222 [.agg (iB c e0 t),sv n] (e9 (pV t.fields n)):=by
 refine afV.p fun q=>?_;repeat'(first|exact .nil|refine .k0 ?_|refine .k1 ?_|refine .k2 ?_|refine .k6 ?_|refine .r1 ?_ ?_|refine .l1 fun b=>?_|(refine .m1 ?_ ?_;intro b)|fail)
 all_goals(try simp only[BL]at*)
 rename_i b2;refine aP (fun m rg af=>∃i:Nat,i<=t.fields.length/\m=t.fields.length-i/\(∀j,j<i->¬(t.fields.getD j default).name=n)/\af=(4,b,aE.cells yQ)::(2,b2,aE.cells (iB c e0 t))::q/\rg=[(1,sv n),(2,.lp 2 b2 0),(4,.lp 4 b 0),(6,iv i)]) t.fields.length rfl ⟨_,_,Zr,Zs,0,Z4 _,rfl,fun j hj=>absurd hj (by omega),rfl,rfl⟩ ?_;rintro m _ _ ⟨i,hi,hm,hp,rfl,rfl⟩;repeat'(first|exact .nil|refine .k0 ?_|refine .k1 ?_|refine .k2 ?_|refine .k6 ?_|refine .k7 ?_|refine .k8 ?_|refine .k9 ?_|(refine .cd ?_ ?_<;>intro hc)|refine .r1 ?_ ?_|(refine .m2 ?_ ?_;intro hlen)|refine .t1 ?_ ?_ ?_|fail)
 try any_goals(exact Zo)
 all_goals(try simp only[BL]at*)
 .rw[show pV t.fields n=((t.fields.getD i default).type,0) by unfold pV zQ;rw[acS (p:=fun f:cT=>decide (f.name=n)) (by omega) (fun j hj=>Zp (hp j hj)) (Y7 hc)]];exact Zw
 .exact⟨m-1,by omega,_,_,Zr,Zs,i+1,by omega,by omega,dj hp hc,rfl,by rw[bj (n:=t.fields.length) (by omega) (by assumption)]⟩
 .rw[show pV t.fields n=(cH,4) by unfold pV zQ;rw[Ob (p:=fun f:cT=>decide (f.name=n)) fun j hj=>Zp (hp j (by omega))]];exact Zw
theorem acr(c:ay)(e0:ae)(t:aO)(n aY:ae):Pure prog 223 [.agg (iB c e0 t),sv n,sv aY] (e9 (kW c.features n aY)):=by
 refine afW.p fun q=>?_;repeat'(first|exact .nil|refine .k0 ?_|refine .k1 ?_|refine .k2 ?_|refine .k6 ?_|refine .r1 ?_ ?_|refine .l1 fun b=>?_|(refine .m1 ?_ ?_;intro b)|fail)
 all_goals(try simp only[BL]at*)
 rename_i b2;refine aP (fun m rg af=>∃i:Nat,i<=c.features.length/\m=c.features.length-i/\(∀j,j<i->¬(c.features.getD j default).name=n)/\af=(6,b,aE.cells yQ)::(3,b2,aE.cells (iB c e0 t))::q/\rg=[(1,sv n),(2,sv aY),(3,.lp 3 b2 0),(6,.lp 6 b 0),(8,iv i)]) c.features.length rfl ⟨_,_,Zr,Zs,0,Z4 _,rfl,fun j hj=>absurd hj (by omega),rfl,rfl⟩ ?_;rintro m _ _ ⟨i,hi,hm,hp,rfl,rfl⟩;have hF:i<c.features.length->(c.features.getD i default).name=n->kW c.features n aY=if(c.features.getD i default).dh=aY then((c.features.getD i default).type,0)else(cH,5):=fun h hn=>by unfold kW;rw[Oa h hn hp]
 repeat'(first|exact .nil|refine .k0 ?_|refine .k1 ?_|refine .k2 ?_|refine .k6 ?_|refine .k7 ?_|refine .k8 ?_|refine .k9 ?_|(refine .cd ?_ ?_<;>intro hc)|refine .r1 ?_ ?_|refine .l1 fun b=>?_|(refine .m2 ?_ ?_;intro hlen)|refine .t1 ?_ ?_ ?_|fail)
 try any_goals(exact Zo)
 all_goals(try simp only[BL]at*)
 .exact⟨m-1,by omega,_,_,Zr,Zs,i+1,by omega,by omega,dj hp hc,rfl,by rw[bj (n:=c.features.length) (by omega) (by assumption)]⟩
 .rw[hF (by omega) (by assumption),Z9 hc];exact Zw
 .rw[hF (by omega) (by assumption),Z3 hc];exact Zw
 .rw[show kW c.features n aY=(cH,4) by unfold kW findF;rw[Ob (p:=fun f:aj=>decide (f.name=n)) fun j hj=>Zp (hp j (by omega))]];exact Zw
def BR(c:ay)(e0:ae):Option aO->AV
 |none=>.aG [.agg y7,iv 4]|some t=>if t.dh=e0 then .aG [.agg (iB c s0 t),iv 0]else .aG [.agg y7,iv 5]
theorem amm(c:ay)(e0:ae)(t:aO)(n:ae):Pure prog 162 [.agg (iB c e0 t),sv n] (BR c e0 (lM c.tables n)):=by
 refine afz.p fun q=>?_;repeat'(first|exact .nil|refine .k0 ?_|refine .k1 ?_|refine .k2 ?_|refine .k6 ?_|refine .r1 ?_ ?_|refine .l1 fun b=>?_|(refine .m1 ?_ ?_;intro b)|fail)
 all_goals(try simp only[BL]at*)
 rename_i b2;refine aP (fun m rg af=>∃i:Nat,i<=c.tables.length/\m=c.tables.length-i/\(∀j,j<i->¬(c.tables.getD j default).name=n)/\af=(4,b,aE.cells y7)::(2,b2,aE.cells (iB c e0 t))::q/\rg=[(1,sv n),(2,.lp 2 b2 0),(4,.lp 4 b 0),(6,iv i)]) c.tables.length rfl ⟨_,_,Zr,Zs,0,Z4 _,rfl,fun j hj=>absurd hj (by omega),rfl,rfl⟩ ?_;rintro m _ _ ⟨i,hi,hm,hp,rfl,rfl⟩;have hF:i<c.tables.length->(c.tables.getD i default).name=n->BR c e0 (lM c.tables n)=if(c.tables.getD i default).dh=e0 then .aG [.agg (iB c s0 (c.tables.getD i default)),iv 0]else .aG [.agg y7,iv 5]:=fun h hn=>by rw[acU h hp hn];rfl
 repeat'(first|exact .nil|refine .k0 ?_|refine .k1 ?_|refine .k2 ?_|refine .k6 ?_|refine .k7 ?_|refine .k8 ?_|refine .k9 ?_|(refine .cd ?_ ?_<;>intro hc)|refine .r1 ?_ ?_|refine .l1 fun b=>?_|(refine .m2 ?_ ?_;intro hlen)|refine .t1 ?_ ?_ ?_|fail)
 try any_goals(exact Zo)
 all_goals(try simp only[BL]at*)
 .exact⟨m-1,by omega,_,_,Zr,Zs,i+1,by omega,by omega,dj hp hc,rfl,by rw[bj (n:=c.tables.length) (by omega) (by assumption)]⟩
 .rw[hF (by omega) (by assumption),Z9 hc];exact Zw
 .rw[hF (by omega) (by assumption),Z3 hc];exact Zw
 .rw[acV fun j hj=>hp j (by omega)];unfold BR;exact Zw
end Go.Proofs.YtmemninechdogaaGreatDoor
namespace Go.Proofs.YtmemninechdogaaGreatDoor
open Go.Sx Go.Proofs Go.Tb Go.RowKit
structure y9(c:ay):Prop where
 t:∀t∈c.tables,t.Fits
 f:∀f∈c.features++c.aD++c.past,f.Fits
def U2(x:dY):Prop:=uK x.table/\pB x.feature/\x.name.size<=100
instance (x:dY):Decidable (U2 x):=inferInstanceAs (Decidable (_/\_/\_))
def uJ(c:ay):Prop:=c.tables.length<=20/\c.features.length<=20/\c.aD.length<=20/\c.past.length<=20/\(∀t∈c.tables,uK t)/\∀f∈c.features++c.aD++c.past,pB f
instance (c:ay):Decidable (uJ c):=by unfold uJ;infer_instance
theorem acA(C:ay)(eY:y9 C):Pure Tryz.prog 6 [.agg C.cells] (.v (.bool (decide (uJ C)))):=by
 have vz:∀f∈C.all,f.Fits:=eY.f;refine k6.pc (fun d=>bif ([42]:List Nat).elem d then 3 else 0) fun q=>?_;repeat'(first|exact .nil|refine .k0 ?_|refine .k1 ?_|refine .k2 ?_|refine .k4 ?_|refine .k6 ?_|refine .k7 ?_|refine .k9 ?_|(refine .cd ?_ ?_<;>intro hc)|refine .r1 ?_ ?_|(refine .m1 ?_ ?_;intro b)|(refine .m2 ?_ ?_;intro hlen)|fail)
 try any_goals(exact Zo)
 all_goals(try simp only[BL]at*)
 .refine Sx.Fin.intro Zs (bf ?_);rintro⟨h1,h2,h3,h4,_⟩;omega
 rename_i bC;clear hlen bC;refine aP (fun n rg af=>∃i:Nat,i<=C.tables.length/\n=C.tables.length-i/\(∀j,j<i->uK (C.tables.getD j default))/\af=(1,b,aE.cells C.cells)::q/\rg=[(1,.lp 1 b 0),(3,iv i)]) C.tables.length rfl ⟨_,_,Zr,Zs,0,Z4 _,rfl,fun j hj=>absurd hj (by omega),rfl,rfl⟩ ?_;rintro n _ _ ⟨i,hi,hn,hp,rfl,rfl⟩;have bO:=hc;clear hc;repeat'(first|exact .nil|refine .k0 ?_|refine .k1 ?_|refine .k2 ?_|refine .k3 ?_|refine .k6 ?_|refine .k7 ?_|refine .k8 ?_|refine .k9 ?_|(refine .cd ?_ ?_<;>intro hc)|refine .r1 ?_ ?_|(refine .m2 ?_ ?_;intro hlen)|refine .t1 ?_ ?_ ?_|refine .u2 ?_ ?_ ?_ (fun b u c=>?_)|refine .u3 ?_ ?_ (fun PG=>?_) (fun lV b u c=>?_)|refine .an rfl (by intro ar;first|exact acD (C.tables.getD i default) (eY.t _ (bN (by(simp only[BL]at*;omega))))|fail) ?_ ?_|refine .r8 ?_ ?_|fail)
 try any_goals(exact Zo)
 all_goals(try simp only[BL]at*)
 any_goals exact Hr _
 any_goals(show _<=1000000;decide)
 any_goals(show _ * 248<=_;simp only[Z7,Z5,ZP];omega)
 .refine Sx.Fin.intro Zs (bf ?_);rintro⟨_,_,_,_,h,_⟩;exact hc (h _ (bN (by omega)))
 .refine⟨C.tables.length-(i+1),by omega,_,_,Zr,Zs,i+1,by omega,rfl,dj hp hc,rfl,by rw[bj (n:=C.tables.length) (by omega) (by assumption)]⟩
 all_goals
  have bW:=kj (p:=uK) (l:=C.tables) (fun j hj=>hp j (by omega));clear hp hc hn hi hlen;refine aP (fun n rg af=>∃i:Nat,i<=C.all.length/\n=C.all.length-i/\(∀j,j<i->pB (C.all.getD j default))/\af=q/\rg=[(4,.sl false 18 (C.all.map aj.cells)),(5,iv i)]) C.all.length rfl ?_ ?_
  .refine⟨[(4,.sl false 18 (C.all.map aj.cells)),(5,iv (0:Nat))],q,?_,Zs,0,Z4 _,rfl,fun j hj=>absurd hj (by omega),rfl,rfl⟩;refine .cons ?_ (.cons (Wk.refl _) .nil);first|exact .Db (by simp[ay.all, *])|exact .Kl (by simp[ay.all, *])
  rintro n _ _ ⟨i,hi,hn,hp,rfl,rfl⟩;repeat'(first|exact .nil|refine .k0 ?_|refine .k1 ?_|refine .k2 ?_|refine .k6 ?_|refine .k7 ?_|refine .k8 ?_|refine .k9 ?_|(refine .cd ?_ ?_<;>intro hc)|refine .r1 ?_ ?_|(refine .m2 ?_ ?_;intro hlen)|refine .t1 ?_ ?_ ?_|refine .an rfl (by intro ar;exact NZ (C.all.getD i default) (vz _ (bN (by(simp only[BL]at*;omega))))) ?_ ?_|fail)
  try any_goals(exact Zo)
  all_goals(try simp only[BL]at*)
  .refine Sx.Fin.intro Zs (bf ?_);rintro⟨_,_,_,_,_,h⟩;have h:∀f∈C.all,pB f:=h;exact hc (h _ (bN (by omega)))
  .refine⟨C.all.length-(i+1),by omega,_,_,Zr,Zs,i+1,by omega,rfl,dj hp hc,rfl,by rw[bj (n:=C.all.length) (by omega) (by assumption)]⟩
  .have adB:=kj (p:=pB) (l:=C.all) (fun j hj=>hp j (by omega));rw[Y7 (show uJ C from⟨by omega,by omega,by omega,by omega,bW,adB⟩)];exact Zw
theorem akQ(l:List aj):Pure Tryz.prog 38 [.sl false 18 (l.map aj.cells),.sl false 18 (l.map aj.cells)] (.v (.bool true)):=by
 refine QG.p fun q=>?_;repeat'(first|exact .nil|refine .k0 ?_|refine .k1 ?_|refine .k2 ?_|refine .k6 ?_|refine .k7 ?_|refine .k9 ?_|(refine .cd ?_ ?_<;>intro hc)|refine .r1 ?_ ?_|(refine .m2 ?_ ?_;intro hlen)|fail)
 all_goals(try simp only[BL]at*)
 .exfalso;simp at hc
 clear hc;refine aP (fun n rg af=>∃i:Nat,i<=l.length/\n=l.length-i/\af=q/\rg=[(0,.sl false 18 (l.map aj.cells)),(1,.sl false 18 (l.map aj.cells)),(5,iv i)]) l.length rfl ⟨_,_,Zr,Zs,0,Z4 _,rfl,rfl,rfl⟩ ?_;rintro n _ _ ⟨i,hi,hn,rfl,rfl⟩;repeat'(first|exact .nil|refine .k0 ?_|refine .k1 ?_|refine .k2 ?_|refine .k5 ?_|refine .k6 ?_|refine .k7 ?_|refine .k8 ?_|refine .k9 ?_|(refine .cd ?_ ?_<;>intro hc)|refine .r1 ?_ ?_|(refine .m2 ?_ ?_;intro hlen)|refine .t1 ?_ ?_ ?_|refine .an rfl (by intro ar;exact akP _) ?_ ?_|fail)
 try any_goals(exact Zo)
 all_goals(try simp only[BL]at*)
 all_goals first|(exfalso;simp at hc;done)|(refine⟨l.length-(i+1),by omega,_,_,Zr,Zs,i+1,by omega,rfl,rfl,by rw[bj (n:=l.length) (by omega) (by assumption)]⟩)|(show Sx.Fin _ _ _ _;(refine Sx.Fin.wk Zs ?_;repeat' first|exact .refl _|fail);done)|fail
theorem akM(c:ay):Pure Tryz.prog 13 [.agg c.cells,.agg c.cells] (.v (.bool true)):=by
 refine Qp.p fun q=>?_;repeat'(first|exact .nil|refine .k0 ?_|refine .k1 ?_|refine .k2 ?_|refine .k6 ?_|refine .k7 ?_|refine .k9 ?_|(refine .cd ?_ ?_<;>intro hc)|refine .r1 ?_ ?_|(refine .m1 ?_ ?_;intro b)|(refine .m2 ?_ ?_;intro hlen)|fail)
 all_goals(try simp only[BL]at*)
 .exfalso;simp at hc
 clear hc;rename_i b2 _;refine aP (fun n rg af=>∃i:Nat,i<=c.tables.length/\n=c.tables.length-i/\af=(3,b,aE.cells c.cells)::(2,b2,aE.cells c.cells)::q/\rg=[(2,.lp 2 b2 0),(3,.lp 3 b 0),(5,iv i)]) c.tables.length rfl ⟨_,_,Zr,Zs,0,Z4 _,rfl,rfl,rfl⟩ ?_;rintro n _ _ ⟨i,hi,hn,rfl,rfl⟩;repeat'(first|exact .nil|refine .k0 ?_|refine .k1 ?_|refine .k2 ?_|refine .k5 ?_|refine .k6 ?_|refine .k7 ?_|refine .k8 ?_|refine .k9 ?_|(refine .cd ?_ ?_<;>intro hc)|refine .r1 ?_ ?_|(refine .m2 ?_ ?_;intro hlen)|refine .t1 ?_ ?_ ?_|refine .an rfl (by intro ar;first|exact akS (c.tables.getD i default)|exact akQ _) ?_ ?_|fail)
 try any_goals(exact Zo)
 all_goals(try simp only[BL]at*)
 all_goals first|(exfalso;simp at hc;done)|(refine⟨c.tables.length-(i+1),by omega,_,_,Zr,Zs,i+1,by omega,rfl,rfl,by rw[bj (n:=c.tables.length) (by omega) (by assumption)]⟩)|(show Sx.Fin _ _ _ _;(refine Sx.Fin.wk Zs ?_;repeat' first|exact .refl _|fail);done)|fail
def Ce(e t:Nat)(rows:List (List AV))(x:AV)(s:Store):Prop:=(rows=[]/\x= .v (.slice none 0 0)/\s=[])\/∃b u c,x= .own e t b u c rows/\s=[(t,b,.tail u c)]
theorem Ce.wk{e t:Nat}{rows:List (List AV)}{x:AV}{s:Store}(h:Ce e t rows x s):Wk x (.sl false e rows):=by
 rcases h with⟨rfl,rfl,_⟩|⟨b,u,c,rfl,_⟩
 .exact .nil
 .exact .own _
theorem Ce.sub{e t:Nat}{rows:List (List AV)}{x:AV}{s q:Store}(h:Ce e t rows x s):Sx.Sub q (s++q):=by
 rcases h with⟨_,_,rfl⟩|⟨b,u,c,_,rfl⟩
 .exact .refl _
 .exact .cons (.refl _)
end Go.Proofs.YtmemninechdogaaGreatDoor
namespace Go.Proofs.YtmemninechdogaaGreatDoor
open Go.Sx Go.Proofs Go.Tb
def iA(n:ae):List aj->Int->Int
 |[],m=>m|g::l,m=>iA n l (if g.name=n then max m g.version else m)
theorem Bf(n:ae):∀(a b:List aj) (m:Int),iA n (a++b) m=iA n b (iA n a m)
 |[],b,m=>rfl|g::a,b,m=>Bf n a b _
theorem RH{n:ae}:∀{l:List aj} (m:Int),(∀g∈l,g.name≠n)->iA n l m=m
 |[],m,_=>rfl|g::l,m,h=>by rw[iA,Z9 (h g (by simp))];exact RH m fun x hx=>h x (by simp[hx])
theorem SA{n:ae}:∀{l:List aj} {v v':Int},(∀g∈l,1<=g.version/\g.version<=1099511627776)->lA n l v=some v'->v'=iA n l (v-1)+1
 |[],v,v',_,h=>by cases h;simp[iA]|g::l,v,v',hl,h=>by
  rw[lA]at h;split at h
  .cases h
  have hg:=hl g (by simp);have:=SA (fun x hx=>hl x (by simp[hx])) h;rw[this,iA]
  congr 2
  split
  .rw[show IntKind.i64.wrap (g.version+1)=g.version+1 by rw[IntKind.wrap_i64];omega];split<;>omega
  .rfl
theorem aep{l:List aj}{n:ae}(h:dN l n<0):∀g∈l,g.name≠n:=fun g hg e=>by
 unfold dN at h;rcases vf (fun x=>decide (x.name=n)) l 0 with⟨h1,h2⟩|⟨i,h3,h2,h1⟩
 .have:=XD.1 h1 g hg;simp[e]at this
 .rw[h2]at h;omega
theorem ac1{l:List aj}{k:Nat}{x:aj}(hl:∀g∈l,g.name≠x.name):findF (jL l k x) x.name=some x:=by unfold findF jL;rw[List.find?_append,XD.2 (fun g hg=>by simpa using hl g (YT hg)),Option.none_or,List.find?_cons,Y7 rfl]
theorem aeq{l:List aj}{k:Nat}{x:aj}(hk:k<=l.length)(hl:∀g∈l,g.name≠x.name):dN (jL l k x) x.name=(k:Int):=by
 have h:∀(a b:List aj) (o:Nat),(∀g∈a,g.name≠x.name)->firstIdx (fun f=>decide (f.name=x.name)) (a++x::b) o=((o+a.length:Nat):Int):=by
  intro a
  induction a with
  |nil=>intro b o _;simp[firstIdx]|cons g a ih=>intro b o hg;rw[ZB,firstIdx,Z9 (by simpa using hg g (by simp)),ih b (o+1) fun y hy=>hg y (by simp[hy])];simp;omega
 unfold dN jL;rw[h _ _ 0 fun g hg=>hl g (YT hg),ZL,Ys hk,ZH]
theorem abz{z:Type}{l:List z}{k:Nat}{x:z}(hk:k<=l.length):mE (jL l k x) k=l:=by
 unfold mE jL;have hl:(l.take k).length=k:=by rw[ZL,Ys hk]
 rw[Zg (by omega),ZM (by omega),List.drop_append,hl,Yy (by omega),Zf,show k+1-k=1 by omega,List.drop_one,List.tail_cons,Y9]
theorem adr(l:List aj)(n:ae):lO l n<=l.length:=List.findIdx_le_length
def zL:aj:=⟨eS,eS,⟨0,[],eS⟩,⟨0,eS,eS,eS,⟨0,0,eS⟩,[],0,⟨0,0⟩,[]⟩,0⟩
def oc:aO:=⟨eS,eS,[],0⟩
theorem aao{c:ay}{x:dY}(h:(cV c x).2=0):nX x/\(dZ c x).2=0/\iI (dZ c x).1=0/\cV c x=((dZ c x).1,0):=by
 unfold cV at*;split at h
 .cases h
 rename_i h1;split at h
 .rename_i h2;exact absurd h h2
 rename_i h2;split at h
 .rename_i h3;exact absurd h h3
 rename_i h3;refine⟨YF.1 h1,YF.1 h2,YF.1 h3,?_⟩;rw[Z9 h1,Z9 h2,Z9 h3]
theorem aiQ{c:ay}{f:aj}(hv:iI c=0)(D7:∀g∈c.features++c.aD++c.past,1<=g.version/\g.version<=1099511627776)(h:(cV c ⟨2,oc,f,eS⟩).2=0):
  f.version=0/\findF (cV c ⟨2,oc,f,eS⟩).1.aD f.name=some (f.gL (iA f.name (c.features++c.aD++c.past) 0+1))/\cV (cV c ⟨2,oc,f,eS⟩).1 ⟨2,oc,f,eS⟩=(ga,121)/\cV (cV c ⟨2,oc,f,eS⟩).1 ⟨5,oc,zL,f.name⟩=(c,0):=by
 obtain⟨hp,h2,h3,h4⟩:=aao h;rw[h4];have e:dZ c ⟨2,oc,f,eS⟩=nY c f:=rfl;rw[e]at h2 h3|-;unfold nY at h2;split at h2
 .cases h2
 rename_i g1;split at h2
 .cases h2
 rename_i g2;split at h2
 .rename_i g3;exact absurd h2 g3
 rename_i g3;split at h2
 .cases h2
 rename_i v PE;have hd:nY c f=({c with aD:=iW c.aD (f.gL v)},0):=by unfold nY;rw[Z9 g1,Z9 g2,Z9 g3,PE]
 rw[hd];have kO:∀g∈c.aD,g.name≠f.name:=aep (by omega);have jf:v=iA f.name (c.features++c.aD++c.past) 0+1:=by have:=SA (fun g hg=>D7 g (by simp only[ZI]at hg|-;rcases hg with h|h<;>simp[h])) PE;rw[this,Bf,Bf,Bf,RH (l:=c.aD) _ kO];simp
 have hk:=adr c.aD (f.gL v).name;have I6:dN (iW c.aD (f.gL v)) f.name=((lO c.aD (f.gL v).name:Nat):Int):=aeq (x:=f.gL v) hk kO;refine⟨YF.1 g1,by rw[<-jf];exact ac1 (x:=f.gL v) kO,?_,?_⟩
 .unfold cV;rw[Z9 (not_not_intro hp)];have:dZ ({c with aD:=iW c.aD (f.gL v)}:ay) ⟨2,oc,f,eS⟩=({c with aD:=iW c.aD (f.gL v)},121):=by show nY _ f=_;unfold nY;rw[Z9 g1,Z3 (by rw[I6];omega)]
  rw[this,Z3 (show(121:Int)≠0 by decide)]
 .unfold cV;rw[Z9 (not_not_intro (show nX ⟨5,oc,zL,f.name⟩from⟨.inr (.inr rfl),⟨rfl,rfl,rfl,rfl⟩,⟨rfl,rfl,rfl,rfl,rfl,rfl,rfl,rfl,rfl,rfl,⟨rfl,rfl,rfl⟩,rfl,rfl,⟨rfl,rfl⟩,rfl⟩⟩))];have:dZ ({c with aD:=iW c.aD (f.gL v)}:ay) ⟨5,oc,zL,f.name⟩=(c,0):=by show s9 _ f.name=_;unfold s9;rw[Z9 (by rw[I6];omega)];simp only[I6,Yk];rw[show mE (iW c.aD (f.gL v)) (lO c.aD (f.gL v).name)=c.aD from abz hk]
  rw[this,Z9 (show¬(0:Int)≠0 by decide),Z9 (by rw[hv];decide)]
end Go.Proofs.YtmemninechdogaaGreatDoor
namespace Go.Proofs.YtmemninechdogaaGreatDoor
open Go.Sx Go.Proofs Go.Tb Go.RowKit
theorem N3{f:aj}(h:pB f)(hf:f.Fits):FB f:=by obtain⟨_,_,h3⟩:=h;have h4:=Hu f.body 80 (by decide);have h5:=h4.2.2 h3;have:=hf.n;exact⟨by omega,by omega,hf.b⟩
theorem N2{c:ay}(h:uJ c)(hc:y9 c):CB 20 c:=by obtain⟨h1,h2,h3,h4,_,h5⟩:=h;exact⟨h1,h2,h3,h4,fun f hf=>N3 (h5 f hf) (hc.f f hf)⟩
theorem aan{n:Nat}{c:ay}{x:dY}(h:CB n c)(hx:FB x.feature):CB (n+1) (cV c x).1:=by
 have hz:CB (n+1) ga:=⟨Z4 _,Z4 _,Z4 _,Z4 _,fun f hf=>nomatch hf⟩
 unfold cV;split
 .exact hz
 split
 .exact hz
 split
 .exact hz
 .exact h.change hx
end Go.Proofs.YtmemninechdogaaGreatDoor
namespace Go.Proofs.YtmemninechdogaaGreatDoor
open Go.Sx Go.Proofs Go.Tb
theorem aaU{C:ay}(h:iI C=0):gY C=0:=by
 unfold iI at h;split at h
 .cases h
 split at h
 .rename_i h1;exact absurd h h1
 split at h
 .rename_i h1;exact absurd h h1
 .rename_i h1;exact YF.1 h1
def uQ(f:aj):Prop:=1<=f.version/\f.version<=1099511627776
theorem aiA{f:aj}(h:eU f=0):uQ f:=by
 unfold eU at h;split at h
 .cases h
 unfold uQ;grind
theorem Ut(n:Nat):∀{l:List aj} {p:Option ae} {vs:List (ae×Int)},(dG n p l vs).1=0->∀f∈l,uQ f
 |g::l,p,vs,h,f,hf=>by
  rw[dG]at h;split at h
  .rename_i h1;exact absurd h h1
  rename_i h1;split at h
  .cases h
  split at h
  .cases h
  rcases ZR.1 hf with rfl|hf
  .exact aiA (YF.1 h1)
  .exact Ut n h f hf
theorem aaV{C:ay}(h:iI C=0):∀g∈C.features++C.aD++C.past,uQ g:=by
 have h:=aaU h;have hs:∀{k n vs},ane C (k+1) n vs=0->(∀g∈LL C n,uQ g)/\ane C k (n+1) (dG n none (LL C n) vs).2=0:=fun {k n vs} h=>by
  rw[ane]at h;split at h
  .rename_i h1;exact absurd h h1
  .rename_i h1;exact⟨Ut n (YF.1 h1),h⟩
 obtain⟨h1,h⟩:=hs (show ane C 3 0 []=0 from h);obtain⟨h2,h⟩:=hs h;intro g hg;rcases ZI.1 hg with hg|hg
 .rcases ZI.1 hg with hg|hg
  .exact h1 g hg
  .exact h2 g hg
 .exact(hs h).1 g hg
theorem RF(n:ae):∀{l:List aj} {m:Int},0<=m->m<=1099511627776->(∀g∈l,uQ g)->0<=iA n l m/\iA n l m<=1099511627776
 |[],m,h1,h2,_=>⟨h1,h2⟩
 |g::l,m,h1,h2,h=>by
  have hg:=h g (by simp);unfold uQ at hg;rw[iA];refine RF n ?_ ?_ fun x hx=>h x (by simp[hx])
  .split<;>omega
  .split<;>omega
end Go.Proofs.YtmemninechdogaaGreatDoor
namespace Go.Proofs.YtmemninechdogaaGreatDoor
open Go.Sx Go.Proofs Go.Tb Go.RowKit
theorem RI(n:ae){l:List aj}{i:Nat}(h:i<l.length)(m:Int):iA n (l.take (i+1)) m=if(l.getD i default).name=n then max (iA n (l.take i) m) (l.getD i default).version else iA n (l.take i) m:=by rw[ZU h,Bf,getD_eq h];rfl
theorem ahI(a b:Int):(if false=true then if a<b then a else b else if a>b then a else b)=max b a:=by rw[Z9 (by decide)];split<;>omega
theorem ah6(C:ay)(n:ae)(hl:C.all.length<=1000):Pure Tryz.prog 12 [.agg C.cells,sv n] (iv (iA n C.all 0)):=by
 have qa:C.features.length+C.aD.length+C.past.length<=1000:=by simpa[ay.all,XK]using hl
 refine k12.pc (fun d=>bif ([8]:List Nat).elem d then 3 else 0) fun q=>?_;repeat'(first|exact .nil|refine .k0 ?_|refine .k1 ?_|refine .k2 ?_|refine .k3 ?_|refine .k6 ?_|refine .r1 ?_ ?_|(refine .m1 ?_ ?_;intro b)|refine .u2 ?_ ?_ ?_ (fun b u c=>?_)|refine .u3 ?_ ?_ (fun PG=>?_) (fun lV b u c=>?_)|refine .r8 ?_ ?_|fail)
 all_goals(try simp only[BL]at*)
 any_goals exact Hr _
 any_goals(show _<=1000000;decide)
 any_goals(show _ * 248<=_;simp only[Z7,Z5,ZP];omega)
 all_goals
  refine aP (fun m rg af=>∃i:Nat,i<=C.all.length/\m=C.all.length-i/\af=q/\rg=[(1,sv n),(5,.sl false 18 (C.all.map aj.cells)),(6,iv (iA n (C.all.take i) 0)),(7,iv i)]) C.all.length rfl ?_ ?_
  .refine⟨[(1,sv n),(5,.sl false 18 (C.all.map aj.cells)),(6,iv 0),(7,iv (0:Nat))],q,?_,Zs,0,Z4 _,rfl,rfl,rfl⟩;refine .cons (Wk.refl _) (.cons ?_ (.cons (Wk.refl _) (.cons (Wk.refl _) .nil)));first|exact .Db (by simp[ay.all, *])|exact .Kl (by simp[ay.all, *])
  rintro m _ _ ⟨i,hi,hm,rfl,rfl⟩;repeat'(first|exact .nil|refine .k0 ?_|refine .k1 ?_|refine .k2 ?_|refine .k6 ?_|refine .k7 ?_|refine .k8 ?_|refine .k9 ?_|(refine .cd ?_ ?_<;>intro hc)|refine .r1 ?_ ?_|(refine .m2 ?_ ?_;intro hlen)|refine .t1 ?_ ?_ ?_|fail)
  try any_goals(exact Zo)
  all_goals(try simp only[BL]at*)
  .refine⟨C.all.length-(i+1),by omega,_,_,Zr,Zs,i+1,by omega,rfl,rfl,?_⟩;rw[bj (n:=C.all.length) (by omega) (by assumption),ahI,RI n (by omega),Z3 hc]
  .refine⟨C.all.length-(i+1),by omega,_,_,Zr,Zs,i+1,by omega,rfl,rfl,?_⟩;rw[bj (n:=C.all.length) (by omega) (by assumption),RI n (by omega),Z9 hc]
  .rw[ZM (by omega)];exact Zw
end Go.Proofs.YtmemninechdogaaGreatDoor
set_option maxHeartbeats 8000000
namespace Go.Proofs.YtmemninechdogaaGreatDoor
open Go.Sx Go.Proofs Go.Tb
theorem akN(x:Ex):Sx.Pure Tryz.prog 36 [.agg x.row,.agg x.row] (.v (.bool true)):=by have:=Tf x x;rwa [Y7 rfl]at this
theorem akT(t:Ty):Sx.Pure Tryz.prog 35 [.agg t.cells,.agg t.cells] (.v (.bool true)):=by have:=Tg t t;rwa [Y7 ⟨rfl,rfl,rfl⟩]at this
theorem akO(f:aj):Sx.Pure Tryz.prog 11 [.agg f.cells,.agg f.cells] (.v (.bool true)):=by
 refine k11.p fun q=>?_;repeat'(first|exact .nil|refine .k0 ?_|refine .k1 ?_|refine .k2 ?_|refine .k4 ?_|refine .k7 ?_|refine .r1 ?_ ?_|(refine .m1 ?_ ?_;intro b)|refine .an rfl (by intro ar;first|exact akT _|exact akN _) ?_ ?_|fail)
 all_goals(try simp only[BL]at*)
 show Sx.Fin _ (AV.v (Value.bool true)) (AV.v (Value.bool true)) _;exact Zw
