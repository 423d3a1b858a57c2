import Derived.Test.YtmemninechdogaaGreatDoorHa
import Derived.Test.YtmemninechdogaaGreatDoorAa
import Derived.Test.YtmemninechdogaaGreatDoorAt
set_option linter.all false
set_option maxRecDepth 100000
set_option maxHeartbeats 4000000
namespace Go.Proofs.YtmemninechdogaaGreatDoor
open _root_.Go.Proofs.Tryz
open Go.Sx Go.Proofs Go.Tb
theorem acS{s:Type}[Inhabited s]{p:s->Bool}{l:List s}{i:Nat}(hi:i<l.length)(h:∀j,j<i->p (l.getD j default)=false)(hn:p (l.getD i default)=true):l.find? p=some (l.getD i default):=by rw[getD_eq hi]at hn|-;rw[Ya];grind
theorem Ob{s:Type}[Inhabited s]{p:s->Bool}{l:List s}(h:∀j,j<l.length->p (l.getD j default)=false):l.find? p=none:=by rw[XD];intro x hx;obtain⟨j,hj,rfl⟩:=Zc hx;grind
abbrev iB(c:ay)(aY:ae)(t:aO):List AV:=[.sl false 4 (c.tables.map aO.cells),.sl false 18 (c.features.map aj.cells),.sl false 18 (c.aD.map aj.cells),.sl false 18 (c.past.map aj.cells),sv aY,sv t.name,sv t.dh,.sl false 4 (t.fields.map wb.cells),iv t.aH]
abbrev yQ:List AV:=[iv 0,ej,sv s0]
abbrev y7:List AV:=[ej,ej,ej,ej,sv s0,sv s0,sv s0,ej,iv 0]
def oz(a b:Ty):Int:=if a.kind≠b.kind\/a.of≠b.of then 5 else if a.unit≠b.unit then 70 else 0
theorem MF(x y:Ty):Pure prog 63 [.agg x.cells,.agg y.cells] (iv (oz x y)):=by
 refine k63.p fun z=>?_;repeat'(first|exact .nil|refine .k ?_|grind|(refine .cd ?_ ?_<;>intro hc)|refine .r1 ?_ ?_|(refine .m1 ?_ ?_;intro b)|refine .an rfl (by intro ar;exact E6 _ _) ?_ ?_|fail)
 try grind
 all_goals(simp_all)
 .rw[show oz x y=5 from Z3 hc];exact Zw
 .rw[show oz x y=70 from(Z9 (by grind)).trans (Z3 hc)];exact Zw
 .rw[show oz x y=0 from(Z9 (by grind)).trans (Z9 (by grind))];exact Zw
theorem Tg(x y:Ty):Pure prog 35 [.agg x.cells,.agg y.cells] (.v (.bool (decide (x.kind=y.kind/\x.unit=y.unit/\x.of=y.of)))):=by
 refine k35.p fun z=>?_;repeat'(first|exact .nil|refine .k ?_|grind|refine .r1 ?_ ?_|(refine .m1 ?_ ?_;intro b)|refine .an rfl (by intro ar;exact E6 _ _) ?_ ?_|fail)
 rw[show(decide (x.kind=y.kind/\x.unit=y.unit/\x.of=y.of))=(decide (x.kind=y.kind)&&decide (x.unit=y.unit)&&decide (x.of=y.of)) by grind];exact Zw
theorem acM(c:ay)(e0:ae)(t:aO)(n:ae):Pure prog 222 [.agg (iB c e0 t),sv n] (Pe (pV t.fields n)):=by
 refine afV.p fun z=>?_;repeat'(first|exact .nil|refine .k ?_|refine .r1 ?_ ?_|refine .l1 fun b=>?_|(refine .m1 ?_ ?_;intro b)|fail)
 all_goals(try grind)
 rename_i b2;refine aP (fun m rg af=>∃i:Nat,i<=t.fields.length/\m=t.fields.length-i/\(∀j,j<i->¬(t.fields.getD j default).name=n)/\af=(4,b,aE.cells yQ)::(2,b2,aE.cells (iB c e0 t))::z/\rg=[(1,sv n),(2,.lp 2 b2 0),(4,.lp 4 b 0),(6,iv i)]) t.fields.length rfl ⟨_,_,Zr,Zs,0,Z4 _,rfl,fun j hj=>absurd hj (by omega),rfl,rfl⟩ ?_;rintro m _ _ ⟨i,hi,hm,hp,rfl,rfl⟩;repeat'(first|exact .nil|refine .k ?_|(refine .cd ?_ ?_<;>intro hc)|refine .r1 ?_ ?_|(refine .m2 ?_ ?_;intro hlen)|refine .t1 ?_ ?_ ?_|fail)
 try any_goals(exact Zo)
 all_goals(try simp only[BL]at*)
 .rw[show pV t.fields n=((t.fields.getD i default).type,0) by unfold pV zQ;rw[acS (p:=fun f:wb=>decide (f.name=n)) (by omega) (fun j hj=>Zp (hp j hj)) (Y7 hc)]];exact Zw
 .exact⟨m-1,by omega,_,_,Zr,Zs,i+1,by omega,by omega,dj hp hc,rfl,by rw[bj (n:=t.fields.length) (by omega) (by assumption)]⟩
 .rw[show pV t.fields n=(cH,4) by unfold pV zQ;rw[Ob (p:=fun f:wb=>decide (f.name=n)) fun j hj=>Zp (hp j (by omega))]];exact Zw
theorem acr(c:ay)(e0:ae)(t:aO)(n aY:ae):Pure prog 223 [.agg (iB c e0 t),sv n,sv aY] (Pe (kW c.features n aY)):=by
 refine afW.p fun z=>?_;repeat'(first|exact .nil|refine .k ?_|refine .r1 ?_ ?_|refine .l1 fun b=>?_|(refine .m1 ?_ ?_;intro b)|fail)
 all_goals(try grind)
 rename_i b2;refine aP (fun m rg af=>∃i:Nat,i<=c.features.length/\m=c.features.length-i/\(∀j,j<i->¬(c.features.getD j default).name=n)/\af=(6,b,aE.cells yQ)::(3,b2,aE.cells (iB c e0 t))::z/\rg=[(1,sv n),(2,sv aY),(3,.lp 3 b2 0),(6,.lp 6 b 0),(8,iv i)]) c.features.length rfl ⟨_,_,Zr,Zs,0,Z4 _,rfl,fun j hj=>absurd hj (by omega),rfl,rfl⟩ ?_;rintro m _ _ ⟨i,hi,hm,hp,rfl,rfl⟩;have hF:i<c.features.length->(c.features.getD i default).name=n->kW c.features n aY=if(c.features.getD i default).dh=aY then((c.features.getD i default).type,0)else(cH,5):=fun h hn=>by unfold kW;rw[Oa h hn hp]
 repeat'(first|exact .nil|refine .k ?_|(refine .cd ?_ ?_<;>intro hc)|refine .r1 ?_ ?_|refine .l1 fun b=>?_|(refine .m2 ?_ ?_;intro hlen)|refine .t1 ?_ ?_ ?_|fail)
 try any_goals(exact Zo)
 all_goals(try simp only[BL]at*)
 .exact⟨m-1,by omega,_,_,Zr,Zs,i+1,by omega,by omega,dj hp hc,rfl,by rw[bj (n:=c.features.length) (by omega) (by assumption)]⟩
 .rw[hF (by omega) (by assumption),Z9 hc];exact Zw
 .rw[hF (by omega) (by assumption),Z3 hc];exact Zw
 .rw[show kW c.features n aY=(cH,4) by unfold kW findF;rw[Ob (p:=fun f:aj=>decide (f.name=n)) fun j hj=>Zp (hp j (by omega))]];exact Zw
def BR(c:ay)(e0:ae):Option aO->AV
 |none=>.aG [.agg y7,iv 4]|some t=>if t.dh=e0 then .aG [.agg (iB c s0 t),iv 0]else .aG [.agg y7,iv 5]
theorem amm(c:ay)(e0:ae)(t:aO)(n:ae):Pure prog 162 [.agg (iB c e0 t),sv n] (BR c e0 (lM c.tables n)):=by
 refine afz.p fun z=>?_;repeat'(first|exact .nil|refine .k ?_|refine .r1 ?_ ?_|refine .l1 fun b=>?_|(refine .m1 ?_ ?_;intro b)|fail)
 all_goals(try grind)
 rename_i b2;refine aP (fun m rg af=>∃i:Nat,i<=c.tables.length/\m=c.tables.length-i/\(∀j,j<i->¬(c.tables.getD j default).name=n)/\af=(4,b,aE.cells y7)::(2,b2,aE.cells (iB c e0 t))::z/\rg=[(1,sv n),(2,.lp 2 b2 0),(4,.lp 4 b 0),(6,iv i)]) c.tables.length rfl ⟨_,_,Zr,Zs,0,Z4 _,rfl,fun j hj=>absurd hj (by omega),rfl,rfl⟩ ?_;rintro m _ _ ⟨i,hi,hm,hp,rfl,rfl⟩;have hF:i<c.tables.length->(c.tables.getD i default).name=n->BR c e0 (lM c.tables n)=if(c.tables.getD i default).dh=e0 then .aG [.agg (iB c s0 (c.tables.getD i default)),iv 0]else .aG [.agg y7,iv 5]:=fun h hn=>by rw[acU h hp hn];rfl
 repeat'(first|exact .nil|refine .k ?_|(refine .cd ?_ ?_<;>intro hc)|refine .r1 ?_ ?_|refine .l1 fun b=>?_|(refine .m2 ?_ ?_;intro hlen)|refine .t1 ?_ ?_ ?_|fail)
 try any_goals(exact Zo)
 all_goals(try simp only[BL]at*)
 .exact⟨m-1,by omega,_,_,Zr,Zs,i+1,by omega,by omega,dj hp hc,rfl,by rw[bj (n:=c.tables.length) (by omega) (by assumption)]⟩
 .rw[hF (by omega) (by assumption),Z9 hc];exact Zw
 .rw[hF (by omega) (by assumption),Z3 hc];exact Zw
 .rw[acV fun j hj=>hp j (by omega)];unfold BR;exact Zw
end Go.Proofs.YtmemninechdogaaGreatDoor
namespace Go.Proofs.YtmemninechdogaaGreatDoor
open Go.Sx Go.Proofs Go.Tb Go.RowKit
structure y9(c:ay):Prop where
 t:∀t∈c.tables,t.Fits
 f:∀f∈c.features++c.aD++c.past,f.Fits
def U2(x:dY):Prop:=uK x.table/\pB x.feature/\x.name.size<=100
instance (x:dY):Decidable (U2 x):=inferInstanceAs (Decidable (_/\_/\_))
def uJ(c:ay):Prop:=c.tables.length<=20/\c.features.length<=20/\c.aD.length<=20/\c.past.length<=20/\(∀t∈c.tables,uK t)/\∀f∈c.features++c.aD++c.past,pB f
instance (c:ay):Decidable (uJ c):=by unfold uJ;infer_instance
theorem acA(C:ay)(eY:y9 C):Pure Tryz.prog 6 [.agg C.cells] (.v (.bool (decide (uJ C)))):=by
 have vz:∀f∈C.all,f.Fits:=eY.f;refine k6.pc (fun d=>bif ([42]:List Nat).elem d then 3 else 0) fun z=>?_;repeat'(first|exact .nil|refine .k ?_|(refine .cd ?_ ?_<;>intro hc)|refine .r1 ?_ ?_|(refine .m1 ?_ ?_;intro b)|(refine .m2 ?_ ?_;intro hlen)|fail)
 try any_goals(exact Zo)
 all_goals(try simp only[BL]at*)
 .refine Sx.Fin.intro Zs (bf ?_);rintro⟨h1,h2,h3,h4,_⟩;omega
 rename_i bC;clear hlen bC;refine aP (fun n rg af=>∃i:Nat,i<=C.tables.length/\n=C.tables.length-i/\(∀j,j<i->uK (C.tables.getD j default))/\af=(1,b,aE.cells C.cells)::z/\rg=[(1,.lp 1 b 0),(3,iv i)]) C.tables.length rfl ⟨_,_,Zr,Zs,0,Z4 _,rfl,fun j hj=>absurd hj (by omega),rfl,rfl⟩ ?_;rintro n _ _ ⟨i,hi,hn,hp,rfl,rfl⟩;have bO:=hc;clear hc;repeat'(first|exact .nil|refine .k ?_|(refine .cd ?_ ?_<;>intro hc)|refine .r1 ?_ ?_|(refine .m2 ?_ ?_;intro hlen)|refine .t1 ?_ ?_ ?_|refine .u2 ?_ ?_ ?_ (fun b u c=>?_)|refine .u3 ?_ ?_ (fun PG=>?_) (fun lV b u c=>?_)|refine .an rfl (by intro ar;first|exact acD (C.tables.getD i default) (eY.t _ (bN (by(simp only[BL]at*;omega))))|fail) ?_ ?_|refine .r8 ?_ ?_|fail)
 try any_goals(exact Zo)
 all_goals(try simp only[BL]at*)
 any_goals exact Hr _
 any_goals(show _<=1000000;decide)
 any_goals(show _ * 248<=_;simp only[Z7,Z5,ZP];omega)
 .refine Sx.Fin.intro Zs (bf ?_);rintro⟨_,_,_,_,h,_⟩;exact hc (h _ (bN (by omega)))
 .refine⟨C.tables.length-(i+1),by omega,_,_,Zr,Zs,i+1,by omega,rfl,dj hp hc,rfl,by rw[bj (n:=C.tables.length) (by omega) (by assumption)]⟩
 all_goals
  have bW:=kj (p:=uK) (l:=C.tables) (fun j hj=>hp j (by omega));clear hp hc hn hi hlen;refine aP (fun n rg af=>∃i:Nat,i<=C.all.length/\n=C.all.length-i/\(∀j,j<i->pB (C.all.getD j default))/\af=z/\rg=[(4,.sl false 18 (C.all.map aj.cells)),(5,iv i)]) C.all.length rfl ?_ ?_
  .refine⟨[(4,.sl false 18 (C.all.map aj.cells)),(5,iv (0:Nat))],z,?_,Zs,0,Z4 _,rfl,fun j hj=>absurd hj (by omega),rfl,rfl⟩;refine .cons ?_ (.cons (Wk.refl _) .nil);first|exact .Db (by simp[ay.all, *])|exact .Kl (by simp[ay.all, *])
  rintro n _ _ ⟨i,hi,hn,hp,rfl,rfl⟩;repeat'(first|exact .nil|refine .k ?_|(refine .cd ?_ ?_<;>intro hc)|refine .r1 ?_ ?_|(refine .m2 ?_ ?_;intro hlen)|refine .t1 ?_ ?_ ?_|refine .an rfl (by intro ar;exact NZ (C.all.getD i default) (vz _ (bN (by(simp only[BL]at*;omega))))) ?_ ?_|fail)
  try any_goals(exact Zo)
  all_goals(try simp only[BL]at*)
  .refine Sx.Fin.intro Zs (bf ?_);rintro⟨_,_,_,_,_,h⟩;have h:∀f∈C.all,pB f:=h;exact hc (h _ (bN (by omega)))
  .refine⟨C.all.length-(i+1),by omega,_,_,Zr,Zs,i+1,by omega,rfl,dj hp hc,rfl,by rw[bj (n:=C.all.length) (by omega) (by assumption)]⟩
  .have adB:=kj (p:=pB) (l:=C.all) (fun j hj=>hp j (by omega));rw[Y7 (show uJ C from⟨by omega,by omega,by omega,by omega,bW,adB⟩)];exact Zw
theorem akQ(l:List aj):Pure Tryz.prog 38 [.sl false 18 (l.map aj.cells),.sl false 18 (l.map aj.cells)] (.v (.bool true)):=by
 refine QG.p fun z=>?_;repeat'(first|exact .nil|refine .k ?_|omega|refine .k ?_|(refine .cd ?_ ?_<;>intro hc)|refine .r1 ?_ ?_|(refine .m2 ?_ ?_;intro hlen)|fail)
 all_goals(try omega)
 .grind
 clear hc;refine aP (fun n rg af=>∃i:Nat,i<=l.length/\n=l.length-i/\af=z/\rg=[(0,.sl false 18 (l.map aj.cells)),(1,.sl false 18 (l.map aj.cells)),(5,iv i)]) l.length rfl ⟨_,_,Zr,Zs,0,Z4 _,rfl,rfl,rfl⟩ ?_;rintro n _ _ ⟨i,hi,hn,rfl,rfl⟩;repeat'(first|exact .nil|refine .k ?_|(refine .cd ?_ ?_<;>intro hc)|refine .r1 ?_ ?_|(refine .m2 ?_ ?_;intro hlen)|refine .t1 ?_ ?_ ?_|refine .an rfl (by intro ar;exact akP _) ?_ ?_|fail)
 try any_goals(exact Zo)
 all_goals(try simp only[BL]at*)
 all_goals first|(exfalso;simp at hc;done)|(refine⟨l.length-(i+1),by omega,_,_,Zr,Zs,i+1,by omega,rfl,rfl,by rw[bj (n:=l.length) (by omega) (by assumption)]⟩)|(show Sx.Fin _ _ _ _;(refine Sx.Fin.wk Zs ?_;repeat' first|exact .refl _|fail);done)|fail
theorem akM(c:ay):Pure Tryz.prog 13 [.agg c.cells,.agg c.cells] (.v (.bool true)):=by
 refine Qp.p fun z=>?_;repeat'(first|exact .nil|refine .k ?_|omega|refine .k ?_|(refine .cd ?_ ?_<;>intro hc)|refine .r1 ?_ ?_|(refine .m1 ?_ ?_;intro b)|(refine .m2 ?_ ?_;intro hlen)|fail)
 all_goals(try omega)
 .grind
 clear hc;rename_i b2 _;refine aP (fun n rg af=>∃i:Nat,i<=c.tables.length/\n=c.tables.length-i/\af=(3,b,aE.cells c.cells)::(2,b2,aE.cells c.cells)::z/\rg=[(2,.lp 2 b2 0),(3,.lp 3 b 0),(5,iv i)]) c.tables.length rfl ⟨_,_,Zr,Zs,0,Z4 _,rfl,rfl,rfl⟩ ?_;rintro n _ _ ⟨i,hi,hn,rfl,rfl⟩;repeat'(first|exact .nil|refine .k ?_|(refine .cd ?_ ?_<;>intro hc)|refine .r1 ?_ ?_|(refine .m2 ?_ ?_;intro hlen)|refine .t1 ?_ ?_ ?_|refine .an rfl (by intro ar;first|exact akS (c.tables.getD i default)|exact akQ _) ?_ ?_|fail)
 try any_goals(exact Zo)
 all_goals(try simp only[BL]at*)
 all_goals first|(exfalso;simp at hc;done)|(refine⟨c.tables.length-(i+1),by omega,_,_,Zr,Zs,i+1,by omega,rfl,rfl,by rw[bj (n:=c.tables.length) (by omega) (by assumption)]⟩)|(show Sx.Fin _ _ _ _;(refine Sx.Fin.wk Zs ?_;repeat' first|exact .refl _|fail);done)|fail
def Ce(e t:Nat)(rows:List (List AV))(x:AV)(X:Store):Prop:=(rows=[]/\x= .v (.slice none 0 0)/\X=[])\/∃b u c,x= .own e t b u c rows/\X=[(t,b,.tail u c)]
theorem Ce.wk{e t:Nat}{rows:List (List AV)}{x:AV}{X:Store}(h:Ce e t rows x X):Wk x (.sl false e rows):=by
 rcases h with⟨rfl,rfl,_⟩|⟨b,u,c,rfl,_⟩
 .exact .nil
 .exact .own _
theorem Ce.sub{e t:Nat}{rows:List (List AV)}{x:AV}{X z:Store}(h:Ce e t rows x X):Sx.Sub z (X++z):=by
 rcases h with⟨_,_,rfl⟩|⟨b,u,c,_,rfl⟩
 .exact .refl _
 .exact .cons (.refl _)
end Go.Proofs.YtmemninechdogaaGreatDoor
namespace Go.Proofs.YtmemninechdogaaGreatDoor
open Go.Sx Go.Proofs Go.Tb
theorem aep{l:List aj}{n:ae}(h:dN l n<0):∀g∈l,g.name≠n:=fun g hg e=>by
 unfold dN at h;rcases vf (fun x=>decide (x.name=n)) l 0 with⟨h1,h2⟩|⟨i,h3,h2,h1⟩
 .grind
 grind
theorem ac1{l:List aj}{k:Nat}{x:aj}(hl:∀g∈l,g.name≠x.name):findF (jL l k x) x.name=some x:=by unfold findF jL;grind
theorem aeq{l:List aj}{k:Nat}{x:aj}(hk:k<=l.length)(hl:∀g∈l,g.name≠x.name):dN (jL l k x) x.name=(k:Int):=by
 have h:∀(a b:List aj) (o:Nat),(∀g∈a,g.name≠x.name)->firstIdx (fun f=>decide (f.name=x.name)) (a++x::b) o=((o+a.length:Nat):Int):=by
  intro a
  induction a with
  |nil=>simp[firstIdx]|cons g a ih=>intro b o hg;rw[ZB,firstIdx,Z9 (by grind),ih b (o+1) fun y hy=>hg y (by simp[hy])];grind
 unfold dN jL;grind
theorem abz{s:Type}{l:List s}{k:Nat}{x:s}(hk:k<=l.length):mE (jL l k x) k=l:=by
 unfold mE jL;have hl:(l.take k).length=k:=by grind
 rw[Zg (by omega),ZM (by omega),List.drop_append,hl,Yy (by omega),Zf,show k+1-k=1 by omega,List.drop_one,List.tail_cons,Y9]
theorem adr(l:List aj)(n:ae):lO l n<=l.length:=List.findIdx_le_length
def zL:aj:=⟨eS,eS,⟨0,[],eS⟩,⟨0,eS,eS,eS,⟨0,0,eS⟩,[],0,⟨0,0⟩,[]⟩,0⟩
def oc:aO:=⟨eS,eS,[],0⟩
theorem aao{c:ay}{x:dY}(h:(cV c x).2=0):nX x/\(dZ c x).2=0/\iI (dZ c x).1=0/\cV c x=((dZ c x).1,0):=by unfold cV at*;grind
end Go.Proofs.YtmemninechdogaaGreatDoor
namespace Go.Proofs.YtmemninechdogaaGreatDoor
open Go.Sx Go.Proofs Go.Tb Go.RowKit
theorem N3{f:aj}(h:pB f)(hf:f.Fits):FB f:=by obtain⟨_,_,h3⟩:=h;have h4:=Hu f.body 80 (by decide);exact⟨by omega,by omega,hf.b⟩
theorem N2{c:ay}(h:uJ c)(hc:y9 c):CB 20 c:=by obtain⟨h1,h2,h3,h4,_,h5⟩:=h;exact⟨h1,h2,h3,h4,fun f hf=>N3 (h5 f hf) (hc.f f hf)⟩
theorem aan{n:Nat}{c:ay}{x:dY}(h:CB n c)(hx:FB x.feature):CB (n+1) (cV c x).1:=by
 have hz:CB (n+1) ga:=⟨Z4 _,Z4 _,Z4 _,Z4 _,fun f hf=>nomatch hf⟩
 unfold cV;split
 .exact hz
 split
 .exact hz
 split
 .exact hz
 .exact h.change hx
end Go.Proofs.YtmemninechdogaaGreatDoor
namespace Go.Proofs.YtmemninechdogaaGreatDoor
open Go.Sx Go.Proofs Go.Tb
theorem aoP{a b c:ae}(h:c6 b a=false)(k:c6 c b=false):c6 c a=false:=by
 cases e:c6 c a with
 |false=>rfl|true=>
  cases e2:c6 b c with
  |true=>rw[E4 e2 e]at h;grind|false=>have:=KR e2 k;grind
def ann(n:Nat)(l:List aj):Prop:=l.Pairwise fun a b=>c6 b.name a.name=false/\(n<2->c6 a.name b.name=true)
theorem apg(n:Nat):∀{l:List aj} {p:Option ae} {vs:List (ae×Int)},(dG n p l vs).1=0->(∀q,p=some q->∀f∈l,c6 f.name q=false/\(n<2->c6 q f.name=true))/\ann n l
 |[],p,vs,h=>⟨fun _ _ _ h=>(by cases h),List.Pairwise.nil⟩
 |g::l,p,vs,h=>by
  rw[dG]at h;split at h
  .grind
  split at h
  .cases h
  rename_i h2;split at h
  .cases h
  obtain⟨g1,g2⟩:=apg n h;have hq:∀q,p=some q->c6 g.name q=false/\(n<2->c6 q g.name=true):=fun q hq=>by
   subst hq;have e:c6 g.name q=false:=Bool.eq_false_iff.2 fun e=>h2 (.inl e);refine⟨e,fun hn=>?_⟩;cases e2:c6 q g.name with
   |true=>rfl|false=>exact absurd (.inr ⟨hn,(KR e2 e).symm⟩) h2
  refine⟨fun q oV f hf=>?_,X2.2 ⟨fun f hf=>g1 _ rfl f hf,g2⟩⟩;have h1:=hq q oV;rcases ZR.1 hf with rfl|hf
  .exact h1
  .have h2:=g1 _ rfl f hf;exact⟨aoP h1.1 h2.1,fun hn=>E4 (h1.2 hn) (h2.2 hn)⟩
theorem aaU{C:ay}(h:iI C=0):gY C=0:=by unfold iI at h;grind
theorem apu{C:ay}(h:iI C=0):ann 0 C.features/\ann 1 C.aD/\ann 2 C.past:=by
 have h:=aaU h;have hs:∀{k n vs},ane C (k+1) n vs=0->ann n (LL C n)/\ane C k (n+1) (dG n none (LL C n) vs).2=0:=fun {k n vs} h=>by
  rw[ane]at h;split at h
  .grind
  .rename_i h1;exact⟨(apg n (YF.1 h1)).2,h⟩
 obtain⟨h1,h⟩:=hs (show ane C 3 0 []=0 from h);obtain⟨h2,h⟩:=hs h;exact⟨h1,h2,(hs h).1⟩
theorem aox{n:ae}{b:List aj}(hb:∀g∈b,c6 n g.name=true):∀{a:List aj},(∀g∈a,c6 n g.name=false)->lO (a++b) n=a.length
 |[],_=>by
  cases b with
  |nil=>rfl|cons g b=>unfold lO;grind
 |g::a,ha=>by have:=aox hb (a:=a) fun x hx=>ha x (by simp[hx]);unfold lO at*;grind
theorem aoS{n:ae}{l:List aj}{m:Nat}(hm:m<2)(hl:ann m l)(h:0<=dN l n):(∀g∈mE l (dN l n).toNat,g.name≠n)/\lO (mE l (dN l n).toNat) n=(dN l n).toNat/\(dN l n).toNat<=(mE l (dN l n).toNat).length/\jL (mE l (dN l n).toNat) (dN l n).toNat (l.getD (dN l n).toNat default)=l/\(l.getD (dN l n).toNat default).name=n:=by
 obtain⟨hk,hn⟩:=JJ h;generalize (dN l n).toNat=k at*;have hx:l.drop k=l.getD k default::l.drop (k+1):=by simp_all
 generalize l.getD k default=x at*;have hta:(l.take k).length=k:=by grind
 have he:l=l.take k++x::l.drop (k+1):=by rw[<-hx,Y9]
 unfold ann at hl;rw[he,Xv,X2]at hl;obtain⟨_,⟨h2,_⟩,h3⟩:=hl;have ha:∀g∈l.take k,c6 g.name n=true:=fun g hg=>hn ▸ (h3 g hg x (by simp)).2 hm;have hb:∀g∈l.drop (k+1),c6 n g.name=true:=fun g hg=>hn ▸ (h2 g hg).2 hm;refine⟨fun g hg e=>?_,?_,?_,?_,hn⟩
 .unfold mE at hg;grind
 .unfold mE;rw[aox hb fun g hg=>E2 (ha g hg),hta]
 .unfold mE;rw[Z7,hta];omega
 .unfold mE jL;rw[Zg (by omega),ZM (by omega),List.drop_append,hta,Yy (by omega),Zf,Nat.sub_self,List.drop_zero,<-he]
theorem aoa{n:ae}:∀{l:List aj} (k:Nat) (o:Int),(∀g∈l,g.name≠n)->gn n l k o=o
 |[],_,_,_=>rfl|g::l,k,o,h=>by rw[gn,Z9 (h g (by simp))];exact aoa _ _ fun x hx=>h x (by simp[hx])
theorem aoG{n:ae}{x:aj}(hx:x.name=n){b:List aj}(hb:∀g∈b,g.name≠n):∀(a:List aj) (k:Nat) (o:Int),gn n (a++x::b) k o=((k+a.length:Nat):Int)
 |[],k,o=>by rw[Zf,gn,Z3 hx,aoa _ _ hb];rfl|g::a,k,o=>by rw[ZB,gn,aoG hx hb a];grind
theorem aop{n:ae}:∀{l:List aj},ann 2 l->∀g∈l.drop (lO l n),c6 n g.name=true
 |[],_,g,hg=>by cases hg|x::l,hl,g,hg=>by
  obtain⟨h1,h2⟩:=X2.1 hl;unfold lO at hg;rw[List.findIdx_cons]at hg;cases e:c6 n x.name with
  |true=>
   rw[e]at hg;rcases ZR.1 hg with rfl|hg
   .exact e
   .cases e2:c6 n g.name with
    |true=>rfl|false=>rw[aoP (h1 g hg).1 e2]at e;grind
  |false=>rw[e]at hg;exact aop h2 g hg
theorem aoH{n:ae}{l:List aj}(hl:ann 2 l){x:aj}(hx:x.name=n):gn n (iW l x) 0 (-1)=((lO l n:Nat):Int):=by unfold iW jL;rw[hx,aoG hx fun g hg e=>?_,ZL,Ys (adr l n),ZH];have:=aop hl g hg;rw[e,qy]at this;grind
theorem aqa{l:List aj}{n:ae}(h:∀g∈l,g.name≠n):dN l n= -1:=by
 rcases vf (fun x=>decide (x.name=n)) l 0 with⟨_,h2⟩|⟨i,h3,_,h1⟩
 .exact h2
 grind
def swC(n:ae):dY:=⟨3,oc,zL,n⟩
def rbC(n:ae):dY:=⟨4,oc,zL,n⟩
theorem aoT{k:Int}(hk:k=3\/k=4\/k=5)(n:ae):nX ⟨k,oc,zL,n⟩:=by unfold nX;rw[Z9 (show¬k=1 by omega),Z9 (show¬k=2 by omega)];exact⟨hk,⟨rfl,rfl,rfl,rfl⟩,⟨rfl,rfl,rfl,rfl,rfl,rfl,rfl,rfl,rfl,rfl,⟨rfl,rfl,rfl⟩,rfl,rfl,⟨rfl,rfl⟩,rfl⟩⟩
theorem aoi{c:ay}{x:dY}(hp:nX x){d:ay}{e:Int}(he:e≠0)(h:dZ c x=(d,e)):cV c x=(ga,e):=by unfold cV;grind
theorem apo{c:ay}{x:dY}(hp:nX x){d:ay}(hd:iI d=0)(h:dZ c x=(d,0)):cV c x=(d,0):=by unfold cV;grind
theorem aqP{c:ay}{n:ae}(hv:iI c=0):(dN c.aD n<0->cV c (swC n)=(ga,4))/\(0<=dN c.aD n->(cV c (swC n)).2=0->
  findF (cV c (swC n)).1.features n=some (c.aD.getD (dN c.aD n).toNat default)/\(0<=dN c.features n->cV (cV c (swC n)).1 (rbC n)=(c,0))/\(dN c.features n<0->(∀g∈c.past,g.name≠n)->cV (cV c (swC n)).1 (rbC n)=(ga,140))):=by
 have hp3:nX (swC n):=aoT (.inl rfl) n;have hp4:nX (rbC n):=aoT (.inr (.inl rfl)) n;have e3:∀d,dZ d (swC n)=xp d n:=fun d=>rfl;have e4:∀d,dZ d (rbC n)=yB d n:=fun d=>rfl;obtain⟨of,od,op⟩:=apu hv;refine⟨fun h=>aoi hp3 (d:=c) (by decide) (by rw[e3];unfold xp;grind),fun h h0=>?_⟩;obtain⟨_,h2,h3,h4⟩:=aao h0;rw[h4];rw[e3]at h2 h3|-;obtain⟨d1,d2,d3,d4,d5⟩:=aoS (by decide) od h;unfold xp;rw[Z9 (by omega)];generalize (dN c.aD n).toNat=i at*;generalize c.aD.getD i default=dr at*;subst d5;by_cases hf:0<=dN c.features dr.name
 .rw[Z3 hf];obtain⟨f1,f2,f3,f4,f5⟩:=aoS (by decide) of hf;simp only;generalize (dN c.features dr.name).toNat=k at*;generalize c.features.getD k default=fe at*;have hfx:iW (mE c.features k) dr=jL (mE c.features k) k dr:=by unfold iW;grind
  have I6:dN (jL (mE c.features k) k dr) dr.name=(k:Int):=aeq f3 f1;refine⟨ac1 f1,fun _=>apo hp4 hv ?_,fun h=>absurd hf (by omega)⟩;rw[e4,hfx];unfold yB;rw[Z9 (by grind),Z9 (by rw[aoH op f5,aqa d1];omega)];simp only[I6,aoH op f5,Yk];have g1:(jL (mE c.features k) k dr).getD k default=dr:=by unfold jL;grind
  have g2:(iW c.past fe).getD (lO c.past dr.name) default=fe:=by
   unfold iW jL;rw[f5];have hl:(c.past.take (lO c.past dr.name)).length=lO c.past dr.name:=by rw[ZL,Ys (adr _ _)]
   grind
  have g3:iW (mE c.aD i) dr=c.aD:=by unfold iW;grind
  have g4:iW (mE c.features k) fe=c.features:=by unfold iW;rw[f5,f2,f4]
  have g5:mE (iW c.past fe) (lO c.past dr.name)=c.past:=by unfold iW;rw[f5,abz (adr _ _)]
  rw[g1,g2,g5,abz f3,g3,g4]
 .rw[Z9 hf];have hn:=aep (l:=c.features) (n:=dr.name) (by omega);refine⟨ac1 hn,fun h=>absurd h hf,fun _ apZ=>aoi hp4 (d:={c with aD:=mE c.aD i,features:=iW c.features dr}) (by decide) ?_⟩;rw[e4];unfold yB;have I6:dN (iW c.features dr) dr.name=((lO c.features dr.name:Nat):Int):=aeq (adr _ _) hn;rw[Z9 (by rw[I6];omega),Z3 (.inl (by rw[aoa _ _ apZ];decide))]
set_option maxHeartbeats 8000000
theorem akN(x:Ex):Sx.Pure Tryz.prog 36 [.agg x.row,.agg x.row] (.v (.bool true)):=by have:=Tf x x;rwa [Y7 rfl]at this
theorem akT(t:Ty):Sx.Pure Tryz.prog 35 [.agg t.cells,.agg t.cells] (.v (.bool true)):=by have:=Tg t t;rwa [Y7 ⟨rfl,rfl,rfl⟩]at this
theorem akO(f:aj):Sx.Pure Tryz.prog 11 [.agg f.cells,.agg f.cells] (.v (.bool true)):=by
 refine k11.p fun z=>?_;repeat'(first|exact .nil|refine .k ?_|grind|refine .r1 ?_ ?_|(refine .m1 ?_ ?_;intro b)|refine .an rfl (by intro ar;first|exact akT _|exact akN _) ?_ ?_|fail)
 all_goals(simp_all)
 exact Zw
