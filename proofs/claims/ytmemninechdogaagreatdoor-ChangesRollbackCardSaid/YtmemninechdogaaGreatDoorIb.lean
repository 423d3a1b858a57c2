import Derived.Test.YtmemninechdogaaGreatDoorIa
set_option linter.all false
set_option maxRecDepth 100000
set_option maxHeartbeats 16000000
namespace Go.Proofs.YtmemninechdogaaGreatDoor
open _root_.Go.Proofs.Tryz
open Go.Sx Go.Proofs Go.Tb
def RY:ae:=⟨#[115,117,109]⟩
def RV:ae:=⟨#[109,101,97,110]⟩
def RX:ae:=⟨#[113,117,97,110,116,105,108,101]⟩
def RT:ae:=⟨#[100,101,99,97,121]⟩
def RW:ae:=⟨#[109,105,110]⟩
def RU:ae:=⟨#[109,97,120]⟩
theorem aiv(x:Ex)(A B:Ty)(ho:∃y∈qQ,x.op=y):Pure prog 224 [.agg x.row,.agg A.cells,.agg B.cells] (Pe (iE x.op A B)):=by
 simp only[Ex.dX x]at*;refine afX.p fun σ=>?_;repeat'(first|exact .nil|refine .k ?_|omega|refine .k ?_|(refine .cd ?_ ?_<;>(intro hc;first|grind|skip))|refine .r1 ?_ ?_|refine .l1 fun b=>?_|(refine .m1 ?_ ?_;intro b)|refine .an rfl (by intro ar;first|exact Ey _|(refine(Bj [RY,RV,RX,RT] x.op).wk ?_;(repeat' first|exact .refl _|refine .cons ?_ ?_|exact .sl|fail);done)|(refine(Bj [RW,RU] x.op).wk ?_;(repeat' first|exact .refl _|refine .cons ?_ ?_|exact .sl|fail);done)) ?_ ?_|fail)
 try any_goals(exact Zo)
 all_goals(try simp only[BL]at*)
 all_goals try(show _<=1000000;decide)
 all_goals have ha:x.op∈qQ:=by obtain⟨y,hy,e⟩:=ho;rw[e];exact hy
 all_goals clear ho
 all_goals generalize x.op=o at*
 all_goals simp only[qQ,ZR,Yj,or_false,RY,RV,RX,RT,RW,RU,exists_eq_right,exists_eq_right']at*
 all_goals first
  |(rw[show iE o A B=(cH,5)from by unfold iE;grind];(refine Sx.Fin.wk Zs ?_;repeat' first|exact .refl _|exact .nil|refine .cons ?_ ?_|refine .aG ?_|refine .agg ?_|fail);done)
  |(rw[show iE o A B=(⟨2,[],s0⟩,0)from by unfold iE;grind];(refine Sx.Fin.wk Zs ?_;repeat' first|exact .refl _|exact .nil|refine .cons ?_ ?_|refine .aG ?_|refine .agg ?_|fail);done)
  |(rw[show iE o A B=(⟨3,A.unit,s0⟩,0)from by unfold iE;grind];(refine Sx.Fin.wk Zs ?_;repeat' first|exact .refl _|fail);done)
  |(rw[show iE o A B=(A,0)from by unfold iE;grind];(refine Sx.Fin.wk Zs ?_;repeat' first|exact .refl _|fail);done)
def pG:Prop:=∀a b:List ax,Sx.Pure prog 277 [.sl false 2 (a.map ax.cells),.sl false 2 (b.map ax.cells)] (sj (eV a b 1))
def pF:Prop:=∀a b:List ax,Sx.Pure prog 278 [.sl false 2 (a.map ax.cells),.sl false 2 (b.map ax.cells)] (sj (eV a b (-1)))
theorem aay(hT:pG)(hO:pF)(o:ae)(A B:Ty)(ho:∃y∈pL,o=y):Pure prog 225 [sv o,.agg A.cells,.agg B.cells] (Pe (eB o A B)):=by
 unfold pG at hT;unfold pF at hO;refine afY.p fun σ=>?_;repeat'(first|exact .nil|refine .k ?_|(refine .cd ?_ ?_<;>(intro hc;first|exact kf hc (by assumption)|skip))|refine .r1 ?_ ?_|refine .l1 fun b=>?_|(refine .m1 ?_ ?_;intro b)|refine .an rfl (by intro ar;first|exact Ey _|exact E6 _ _|exact Tg _ _|exact hT _ _|exact hO _ _) ?_ ?_|fail)
 try any_goals(exact Zo)
 all_goals(try simp only[BL]at*)
 all_goals have ha:o∈pL:=by obtain⟨y,hy,e⟩:=ho;rw[e];exact hy
 all_goals clear ho hT hO
 all_goals simp only[pL,ZR,Yj,or_false]at ha
 all_goals first
  |(rw[show eB o A B=(cH,5)from by unfold eB kZ lq lg lj ka j9 lh la kY lr;grind [Num]];(refine Sx.Fin.wk Zs ?_;repeat' first|exact .refl _|exact .nil|refine .cons ?_ ?_|refine .aG ?_|refine .agg ?_|fail);done)
  |(rw[show eB o A B=(Fx,0)from by unfold eB kZ lq lg lj ka j9 lh la kY lr;grind [Num]];(refine Sx.Fin.wk Zs ?_;repeat' first|exact .refl _|exact .nil|refine .cons ?_ ?_|refine .aG ?_|refine .agg ?_|fail);done)
  |(rw[show eB o A B=(cH,70)from by unfold eB kZ lq lg lj ka j9 lh la kY lr;grind [Num]];(refine Sx.Fin.wk Zs ?_;repeat' first|exact .refl _|exact .nil|refine .cons ?_ ?_|refine .aG ?_|refine .agg ?_|fail);done)
  |(rw[show eB o A B=(⟨2,A.unit,s0⟩,0)from by unfold eB kZ lq lg lj ka j9 lh la kY lr;grind [Num]];(refine Sx.Fin.wk Zs ?_;repeat' first|exact .refl _|refine .cons ?_ ?_|refine .aG ?_|refine .agg ?_|fail);done)
  |(rw[show eB o A B=(⟨3,A.unit,s0⟩,0)from by unfold eB kZ lq lg lj ka j9 lh la kY lr;grind [Num]];(refine Sx.Fin.wk Zs ?_;repeat' first|exact .refl _|fail);done)
  |(rw[show eB o A B=(⟨2,(eV A.unit B.unit 1).1,s0⟩,0)from by unfold eB kZ lq lg lj ka j9 lh la kY lr;grind [Num]];(refine Sx.Fin.wk Zs ?_;repeat' first|exact .refl _|fail);done)
  |(rw[show eB o A B=(⟨3,(eV A.unit B.unit 1).1,s0⟩,0)from by unfold eB kZ lq lg lj ka j9 lh la kY lr;grind [Num]];(refine Sx.Fin.wk Zs ?_;repeat' first|exact .refl _|fail);done)
  |(rw[show eB o A B=(⟨3,(eV A.unit B.unit (-1)).1,s0⟩,0)from by unfold eB kZ lq lg lj ka j9 lh la kY lr;grind [Num]];(refine Sx.Fin.wk Zs ?_;repeat' first|exact .refl _|fail);done)
theorem ade{ins:Bool}{x:Ex}(h:form ins x=true):(x.kind=5->∃y∈qQ,x.op=y)/\(x.kind=6->∃y∈uC,x.op=y)/\(x.kind=7->∃y∈pL,x.op=y):=by
 obtain⟨h1,_,_⟩:=(mK ins x).1 h;unfold nS at h1;refine⟨fun hk=>?_,fun hk=>?_,fun hk=>?_⟩
 .rw[Z9 (by omega),Z9 (by omega),Z9 (by omega),Z3 hk]at h1;exact h1.2.1
 .grind
 grind
def qz(C:ay)(e0:ae):Option aO->List AV
 |none=>iB C e0 F2|some t=>iB C s0 t
theorem KU(a b:Ty):po a b=if oz a b≠0 then(cH,oz a b)else(b,0):=by
 unfold po oz;by_cases h1:a.kind≠b.kind\/a.of≠b.of
 .grind
 .by_cases h2:a.unit≠b.unit
  .grind
  .have:a=b:=by cases a;simp_all
   grind
section
variable {C:ay}{e0:ae}{tb:Option aO}{x:Ex}{l:List Ty}
theorem aim(h:x.kind=1):gW C e0 tb x l=(⟨x.val.kind,x.unit,x.name⟩,0):=Z3 h
theorem ain{t:aO}(h:x.kind=2):gW C e0 (some t) x l=pV t.fields x.name:=by unfold gW;rw[Z9 (by omega),Z3 h]
theorem aio(h:x.kind=3):gW C e0 tb x l=kW C.features x.name e0:=by unfold gW;rw[Z9 (by omega),Z9 (by omega),Z3 h]
theorem R8(h:x.kind=4):gW C e0 tb x l=if(l.getD 0 default).kind=5 then kW C.features x.name (l.getD 0 default).of else(cH,5):=by unfold gW;grind
theorem aip(h:x.kind=5):gW C e0 tb x l=iE x.op (l.getD 0 default) (l.getD 1 default):=by unfold gW;grind
theorem aiq(h:x.kind=6):gW C e0 tb x l=lD x.op (l.getD 0 default):=by unfold gW;grind
theorem air(h:x.kind=7):gW C e0 tb x l=eB x.op (l.getD 0 default) (l.getD 1 default):=by unfold gW;grind
theorem Ke(h:x.kind=8):gW C e0 tb x l=if(l.getD 0 default).kind=1 then(if oz (l.getD 1 default) (l.getD 2 default)≠0 then(cH,oz (l.getD 1 default) (l.getD 2 default))else(l.getD 2 default,0))else(cH,5):=by unfold gW;rw[Z9 (by omega),Z9 (by omega),Z9 (by omega),Z9 (by omega),Z9 (by omega),Z9 (by omega),Z9 (by omega),Z3 h,KU]
theorem R9(h:x.kind=9):gW C e0 tb x l=if oz (l.getD 0 default) (l.getD 1 default)≠0 then(cH,oz (l.getD 0 default) (l.getD 1 default))else(l.getD 1 default,0):=by unfold gW;rw[Z9 (by omega),Z9 (by omega),Z9 (by omega),Z9 (by omega),Z9 (by omega),Z9 (by omega),Z9 (by omega),Z9 (by omega),KU]
end
theorem Sa(hT:pG)(hO:pF)(C:ay)(e0:ae)(tb:Option aO)(x:Ex)(hf:form tb.isSome x=true)(l:List Ty)(hl:l.length=x.args.length):Pure prog 163 [.agg (qz C e0 tb),.agg x.row,nk l] (Pe (gW C e0 tb x l)):=by
 have jG:=tn hf;have ei:=ade hf;have hA:=fun(h:x.kind=5)=>aiv x (l.getD 0 default) (l.getD 1 default) (ei.1 h);have hB:=fun(h:x.kind=7)=>aay hT hO x.op (l.getD 0 default) (l.getD 1 default) (ei.2.2 h);simp only[Ex.dX x]at hA|-;cases tb
 all_goals
  unfold qz;simp only[Xk,Option.isSome_some,reduceCtorEq,Xr,and_false,false_or,Bool.true_eq_false,ZT,Yg]at jG;refine afA.p fun σ=>?_;repeat'(first|exact .nil|refine .k ?_|(refine .cd ?_ ?_<;>intro hc)|refine .r1 ?_ ?_|refine .l1 fun b=>?_|(refine .m1 ?_ ?_;intro b)|(refine .m2 ?_ ?_;intro hlen)|refine .t1 ?_ ?_ ?_|refine .an rfl (by intro ar;first|exact acM C _ _ _|exact acr C _ _ _ _|exact hA (by(simp only[BL]at*;omega))|exact Ey _|exact hB (by(simp only[BL]at*;omega))|exact MF _ _) ?_ ?_|fail)
  try any_goals(exact Zo)
  all_goals(try simp only[BL]at*)
  all_goals clear hA hB
  all_goals first
   |(rw[aim (by assumption)];(refine Sx.Fin.wk Zs ?_;repeat' first|exact .refl _|fail);done)
   |(exfalso;omega)
   |(rw[ain (by assumption)];(refine Sx.Fin.wk Zs ?_;repeat' first|exact .refl _|fail);done)
   |(rw[aio (by assumption)];(refine Sx.Fin.wk Zs ?_;repeat' first|exact .refl _|fail);done)
   |(rw[R8 (by assumption),Z9 hc];(refine Sx.Fin.wk Zs ?_;repeat' first|exact .refl _|exact .nil|refine .cons ?_ ?_|refine .aG ?_|refine .agg ?_|fail);done)
   |(rw[R8 (by assumption),Z3 hc];(refine Sx.Fin.wk Zs ?_;repeat' first|exact .refl _|fail);done)
   |(rw[aip (by assumption)];(refine Sx.Fin.wk Zs ?_;repeat' first|exact .refl _|fail);done)
   |(rw[air (by assumption)];(refine Sx.Fin.wk Zs ?_;repeat' first|exact .refl _|fail);done)
   |(rw[Ke (by assumption),Z9 hc];(refine Sx.Fin.wk Zs ?_;repeat' first|exact .refl _|exact .nil|refine .cons ?_ ?_|refine .aG ?_|refine .agg ?_|fail);done)
   |(have h3:l.length=3:=by omega
     have e1:IntKind.i64.wrap ((l.length:Int)-1)=2:=by rw[h3];rfl
     have e2:IntKind.i64.wrap ((2:Int)-1)=1:=rfl;simp only[e1,e2,Int.reduceToNat]at hc|-;first
      |(show(0:Int)<=_/\_;omega)
      |(rw[Ke (by omega),Z3 (by assumption),Z3 hc];(refine Sx.Fin.wk Zs ?_;repeat' first|exact .refl _|exact .nil|refine .cons ?_ ?_|refine .aG ?_|refine .agg ?_|fail);done)
      |(rw[Ke (by omega),Z3 (by assumption),Z9 (by rw[hc];simp)];(refine Sx.Fin.wk Zs ?_;repeat' first|exact .refl _|fail);done))
   |(have h3:l.length=2:=by omega
     have e1:IntKind.i64.wrap ((l.length:Int)-1)=1:=by rw[h3];rfl
     have e2:IntKind.i64.wrap ((1:Int)-1)=0:=rfl;simp only[e1,e2,Int.reduceToNat]at hc|-;first
      |(show(0:Int)<=_/\_;omega)
      |(rw[R9 (by omega),Z3 hc];(refine Sx.Fin.wk Zs ?_;repeat' first|exact .refl _|exact .nil|refine .cons ?_ ?_|refine .aG ?_|refine .agg ?_|fail);done)
      |(rw[R9 (by omega),Z9 (by rw[hc];simp)];(refine Sx.Fin.wk Zs ?_;repeat' first|exact .refl _|fail);done))
   |(have h3:l.length=2:=by omega
     have e1:IntKind.i64.wrap ((l.length:Int)-1)=1:=by rw[h3];rfl
     have e2:IntKind.i64.wrap ((1:Int)-1)=0:=rfl;simp only[e1,e2]
     show(0:Int)<=_/\_;omega)
   |(have ha:x.op∈uC:=by obtain⟨y,hy,e⟩:=ei.2.1 (by omega);rw[e];exact hy
     rw[aiq (by omega)];simp only[uC,ZR,Yj,or_false]at ha;clear ei jG;generalize l.getD 0 default=A at*;first
      |(rw[show lD x.op A=(cH,5)from by unfold lD;grind];(refine Sx.Fin.wk Zs ?_;repeat' first|exact .refl _|exact .nil|refine .cons ?_ ?_|refine .aG ?_|refine .agg ?_|fail);done)
      |(rw[show lD x.op A=(A,0)from by unfold lD;grind];(refine Sx.Fin.wk Zs ?_;repeat' first|exact .refl _|fail);done)
      |(rw[show lD x.op A=(⟨1,[],s0⟩,0)from by unfold lD;grind];(refine Sx.Fin.wk Zs ?_;repeat' first|exact .refl _|exact .nil|refine .cons ?_ ?_|refine .aG ?_|refine .agg ?_|fail);done))
   |skip
def F6(rows:List (List AV))(y:AV)(U:Store):Prop:=(rows=[]/\y=ej/\U=[])\/∃b u c,y= .own 3 53 b u c rows/\U=[(53,b,.tail u c)]
theorem Oy{L:List Ty}{y:AV}{U:Store}(h:F6 (L.map Ty.cells) y U):Wk y (nk L):=by
 rcases h with⟨hE,rfl,rfl⟩|⟨b,u,c,rfl,rfl⟩
 .rw[Yn.1 hE];exact .nil
 .exact .own _
def Cd(C:ay)(e0:ae)(x:Ex):Prop:=∀tb,form tb.isSome x=true->Sx.Pure prog 119 [.agg (qz C e0 tb),.agg x.row] (Pe (inf C e0 x tb))
theorem aeD(hT:pG)(hO:pF)(C:ay)(e0:ae)(x:Ex)(ih:∀i,i<x.args.length->Cd C e0 (x.args.getD i default))(tb:Option aO)(hf:form tb.isSome x=true)(hk:¬x.kind=5):Pure prog 119 [.agg (qz C e0 tb),.agg x.row] (Pe (inf C e0 x tb)):=by
 have jG:=tn hf;have gO:=Sa hT hO C e0 tb x hf;have IB:x.args.length<=3:=by omega
 have mO:∀i,i<x.args.length->form tb.isSome (x.args.getD i default)=true:=fun i hi=>by have:=((mK _ x).1 hf).2.2.1 _ (bN hi);rwa [Zp hk,Xm]at this
 have hA0:=fun(i:Nat) (h:i<x.args.length)=>ih i h tb (mO i h);have dy:mW C e0 tb x=(tb,0):=Z9 hk;rw[Ea,dy];have hS:∃e1 t1,qz C e0 tb=iB C e1 t1:=by cases tb;exact⟨_,_,rfl⟩;exact⟨_,_,rfl⟩
 obtain⟨e1,t1,hS⟩:=hS;rw[hS]at gO hA0|-;clear hS;simp only[Ex.dX x]at gO|-;refine Ef.p fun σ=>?_;repeat'(first|exact .nil|refine .k ?_|(refine .cd ?_ ?_<;>intro hc)|refine .r1 ?_ ?_|refine .l1 fun b=>?_|(refine .m1 ?_ ?_;intro b)|fail)
 all_goals(try simp only[BL]at*)
 .exact absurd hc hk
 rename_i b2 b3 b4
 rename Nat=>b6
 refine aP (fun m rg af=>∃(i:Nat) (L:List Ty) (y:AV) (U:Store),i<=x.args.length/\m=x.args.length-i/\L.length=i/\dW C e0 x.args (tb)=(L++(dW C e0 (x.args.drop i) (tb)).1,(dW C e0 (x.args.drop i) (tb)).2)/\F6 (L.map Ty.cells) y U/\af=U++(6,b6,aE.cells (iB C e1 t1))::(4,b4,aE.cells yQ)::(3,b3,aE.cells x.lay)::(2,b2,aE.cells (iB C e1 t1))::σ/\rg=[(2,.lp 2 b2 0),(3,.lp 3 b3 0),(4,.lp 4 b4 0),(6,.lp 6 b6 0),(9,y),(10,iv i)]) x.args.length rfl ⟨_,_,Zr,Zs,0,[],_,_,Z4 _,rfl,rfl,rfl,.inl ⟨rfl,rfl,rfl⟩,rfl,rfl⟩ ?_;rintro m _ _ ⟨i,L,y,U,hi,hm,hL,iP,hG,rfl,rfl⟩;have hW:=Oy hG;have bV:=fun(h:L.length=x.args.length)=>(gO L h).wk (.cons (.refl _) (.cons (.refl _) (.cons hW .nil)));have hA:=hA0 i;have hd:=fun(h:i<x.args.length) TB=>A0 C e0 h TB;rcases hG with⟨hE,rfl,rfl⟩|⟨b7,u7,c7,rfl,rfl⟩
 all_goals
  repeat'(first|exact .nil|refine .k ?_|(refine .cd ?_ ?_<;>intro hc)|refine .r1 ?_ ?_|refine .l1 fun b=>?_|(refine .m2 ?_ ?_;intro hlen)|refine .t1 ?_ ?_ ?_|refine .u1 ?_ ?_ ?_ (fun b u c=>?_)|refine .u2 ?_ ?_ ?_ (fun b u c=>?_)|refine .an rfl (by intro ar;first|exact hA (by(simp only[BL]at*;omega))|exact bV (by(simp only[BL]at*;omega))) ?_ ?_|(show List.all _ _=true;rfl)|fail)
  try any_goals(exact Zo)
  all_goals(try simp only[BL]at*)
  all_goals try(show _<=1000000;simp only[ZY,ZP];omega)
  all_goals try(show _ * _<=_;simp only[Z5,ZY,ZP];omega)
  all_goals first
   |(show Sx.Fin _ _ _ _
     have bp:i<x.args.length:=by omega
     rw[iP,hd bp,Z3 hc,zO hc];exact Zw;done)
   |(show Sx.Fin _ _ _ _
     have bp:i=x.args.length:=by omega
     subst bp
     rw[iP,YM,dW,zP];exact Zw;done)
   |(have bp:i<x.args.length:=by omega
     refine⟨m-1,by omega,_,[(53,b,.tail u c)]++(6,b6,aE.cells (iB C e1 t1))::(4,b4,aE.cells yQ)::(3,b3,aE.cells x.lay)::(2,b2,aE.cells (iB C e1 t1))::σ,Zr,Zs,i+1,L++[(inf C e0 (x.args.getD i default) (tb)).1],_,_,by omega,by omega,by simp[hL],?_,.inr ⟨b,u,c,?_,rfl⟩,rfl,by rw[bj (n:=50) (by omega) (by decide)]⟩
     .rw[iP,hd bp,Z9 (by rw[hc];simp)];simp
     .rw[Zl];first|rfl|(rw[hE];rfl))
theorem amg(C:ay)(e0:ae):BR C e0 none= .aG [.agg y7,iv 4]:=rfl
theorem amh(C:ay)(e0:ae)(t:aO):BR C e0 (some t)=if t.dh=e0 then .aG [.agg (iB C s0 t),iv 0]else .aG [.agg y7,iv 5]:=rfl
theorem aeC(hT:pG)(hO:pF)(C:ay)(e0:ae)(x:Ex)(ih:∀i,i<x.args.length->Cd C e0 (x.args.getD i default))(hf:form false x=true)(hk:x.kind=5):Pure prog 119 [.agg (qz C e0 none),.agg x.row] (Pe (inf C e0 x none)):=by
 have jG:=tn hf;have gO:=Sa hT hO C e0 none x hf;have IB:x.args.length<=3:=by omega
 have mO:∀t:aO,∀i,i<x.args.length->form (some t).isSome (x.args.getD i default)=true:=fun t i hi=>by have:=((mK _ x).1 hf).2.2.1 _ (bN hi);rwa [Y7 hk,Bool.or_true]at this
 rw[Ea];have dy:mW C e0 none x=match lM C.tables x.table with
  |none=>(none,4)
  |some t=>if t.dh=e0 then(some t,0)else(none,5):=Z3 hk
 rw[dy];clear dy;have vv:=amm C e0 F2 x.table;cases hF:lM C.tables x.table with
 |none=>
  rw[hF,amg]at vv;show Pure _ _ _ (Pe (nB C e0 none x 4 (dW C e0 x.args none)));rw[show nB C e0 none x 4 (dW C e0 x.args none)=(cH,4)from Z3 (by decide)];unfold qz;simp only[Ex.dX x]at gO|-;refine Ef.p fun σ=>?_;repeat'(first|exact .nil|refine .k ?_|(refine .cd ?_ ?_<;>intro hc)|refine .r1 ?_ ?_|refine .l1 fun b=>?_|(refine .m1 ?_ ?_;intro b)|refine .an rfl (by intro ar;first|exact vv|fail) ?_ ?_|fail)
  all_goals(try simp only[BL]at*)
  all_goals first|(show Sx.Fin _ _ _ _;(refine Sx.Fin.wk Zs ?_;repeat' first|exact .refl _|exact .nil|refine .cons ?_ ?_|refine .aG ?_|refine .agg ?_|fail);done)|(exfalso;omega)
 |some t=>
  rw[hF,amh]at vv;show Pure _ _ _ (Pe (nB C e0 none x (if t.dh=e0 then(some t,(0:Int))else(none,5)).2 (dW C e0 x.args (if t.dh=e0 then(some t,(0:Int))else(none,5)).1)));by_cases he:t.dh=e0
  rotate_left
  .rw[Z9 he]at vv;rw[Z9 he,show nB C e0 none x 5 (dW C e0 x.args none)=(cH,5)from Z3 (by decide)];unfold qz;simp only[Ex.dX x]at gO|-;refine Ef.p fun σ=>?_;repeat'(first|exact .nil|refine .k ?_|(refine .cd ?_ ?_<;>intro hc)|refine .r1 ?_ ?_|refine .l1 fun b=>?_|(refine .m1 ?_ ?_;intro b)|refine .an rfl (by intro ar;first|exact vv|fail) ?_ ?_|fail)
   all_goals(try simp only[BL]at*)
   all_goals first|(show Sx.Fin _ _ _ _;(refine Sx.Fin.wk Zs ?_;repeat' first|exact .refl _|exact .nil|refine .cons ?_ ?_|refine .aG ?_|refine .agg ?_|fail);done)|(exfalso;omega)
  rw[Z3 he]at vv;rw[Z3 he];have hA0:=fun(i:Nat) (h:i<x.args.length)=>ih i h (some t) (mO t i h);unfold qz at gO hA0|-;simp only[Ex.dX x]at gO|-;clear hF;refine Ef.p fun σ=>?_;repeat'(first|exact .nil|refine .k ?_|(refine .cd ?_ ?_<;>intro hc)|refine .r1 ?_ ?_|refine .l1 fun b=>?_|(refine .m1 ?_ ?_;intro b)|refine .an rfl (by intro ar;first|exact vv|fail) ?_ ?_|fail)
  all_goals(try simp only[BL]at*)
  .exact absurd trivial hc
  rotate_left
  .exact absurd hk hc
  rename_i b2 b3 b4 b6 _;refine aP (fun m rg af=>∃(i:Nat) (L:List Ty) (y:AV) (U:Store),i<=x.args.length/\m=x.args.length-i/\L.length=i/\dW C e0 x.args (some t)=(L++(dW C e0 (x.args.drop i) (some t)).1,(dW C e0 (x.args.drop i) (some t)).2)/\F6 (L.map Ty.cells) y U/\af=U++(6,b6,aE.cells (iB C s0 t))::(4,b4,aE.cells yQ)::(3,b3,aE.cells x.lay)::(2,b2,aE.cells (iB C e0 F2))::σ/\rg=[(2,.lp 2 b2 0),(3,.lp 3 b3 0),(4,.lp 4 b4 0),(6,.lp 6 b6 0),(9,y),(10,iv i)]) x.args.length rfl ⟨_,_,Zr,Zs,0,[],_,_,Z4 _,rfl,rfl,rfl,.inl ⟨rfl,rfl,rfl⟩,rfl,rfl⟩ ?_;rintro m _ _ ⟨i,L,y,U,hi,hm,hL,iP,hG,rfl,rfl⟩;have hW:=Oy hG;have bV:=fun(h:L.length=x.args.length)=>(gO L h).wk (.cons (.refl _) (.cons (.refl _) (.cons hW .nil)));have hA:=hA0 i;have hd:=fun(h:i<x.args.length) TB=>A0 C e0 h TB;rcases hG with⟨hE,rfl,rfl⟩|⟨b7,u7,c7,rfl,rfl⟩
  all_goals
   repeat'(first|exact .nil|refine .k ?_|(refine .cd ?_ ?_<;>intro hc)|refine .r1 ?_ ?_|refine .l1 fun b=>?_|(refine .m2 ?_ ?_;intro hlen)|refine .t1 ?_ ?_ ?_|refine .u1 ?_ ?_ ?_ (fun b u c=>?_)|refine .u2 ?_ ?_ ?_ (fun b u c=>?_)|refine .an rfl (by intro ar;first|exact hA (by(simp only[BL]at*;omega))|exact bV (by(simp only[BL]at*;omega))) ?_ ?_|(show List.all _ _=true;rfl)|fail)
   try any_goals(exact Zo)
   all_goals(try simp only[BL]at*)
   all_goals try(show _<=1000000;simp only[ZY,ZP];omega)
   all_goals try(show _ * _<=_;simp only[Z5,ZY,ZP];omega)
   all_goals first
    |(show Sx.Fin _ _ _ _
      have bp:i<x.args.length:=by omega
      rw[iP,hd bp,Z3 hc,zO hc];exact Zw;done)
    |(show Sx.Fin _ _ _ _
      have bp:i=x.args.length:=by omega
      subst bp
      rw[iP,YM,dW,zP];exact Zw;done)
    |(have bp:i<x.args.length:=by omega
      refine⟨m-1,by omega,_,[(53,b,.tail u c)]++(6,b6,aE.cells (iB C s0 t))::(4,b4,aE.cells yQ)::(3,b3,aE.cells x.lay)::(2,b2,aE.cells (iB C e0 F2))::σ,Zr,Zs,i+1,L++[(inf C e0 (x.args.getD i default) (some t)).1],_,_,by omega,by omega,by simp[hL],?_,.inr ⟨b,u,c,?_,rfl⟩,rfl,by rw[bj (n:=50) (by omega) (by decide)]⟩
      .rw[iP,hd bp,Z9 (by rw[hc];simp)];simp
      .rw[Zl];first|rfl|(rw[hE];rfl))
theorem P9(hT:pG)(hO:pF)(C:ay)(e0:ae):∀(n:Nat) (x:Ex),x.size<=n->Cd C e0 x
 |0,x,h=>by cases x;simp[Ex.size]at h|n+1,x,h=>fun tb hf=>by
  have ih:∀i,i<x.args.length->Cd C e0 (x.args.getD i default):=fun i hi=>P9 hT hO C e0 n _ (by have:=Ex.BD x hi;omega);by_cases hk:x.kind=5
  .have h5:tb=none:=by
    rcases tn hf with h|h|h|h|h|h|h|h|h;all_goals first|omega|skip
    simp_all
   subst h5;exact aeC hT hO C e0 x ih hf hk
  .exact aeD hT hO C e0 x ih tb hf hk
theorem aeE(hT:pG)(hO:pF)(C:ay)(e0:ae)(x:Ex)(hs:x.size<=100000):Pure prog 62 [.agg C.cells,sv e0,.agg x.row] (Pe (rH C e0 x)):=by
 have hS:=Tl x hs;have hI:=fun(h:shape x=0)=>P9 hT hO C e0 x.size x (ZO _) none (Tm h);unfold rH;generalize inf C e0 x none=r at*;generalize shape x=sh at*;unfold qz at hI;simp only[Ex.dX x]at hS hI|-;refine k62.p fun σ=>?_;repeat'(first|exact .nil|refine .k ?_|(refine .cd ?_ ?_<;>intro hc)|refine .r1 ?_ ?_|refine .l1 fun b=>?_|(refine .m1 ?_ ?_;intro b)|refine .an rfl (by intro ar;first|exact hS|(refine(hI (by(grind))).wk ?_;(repeat' first|exact .refl _|exact .nil|refine .cons ?_ ?_|refine .agg ?_|fail);done)) ?_ ?_|fail)
 all_goals(try simp only[BL]at*)
 .rw[Z3 hc];exact Zw
 .rw[Z9 (by rw[hc];simp)];exact Zw
theorem acy(hT:pG)(hO:pF)(C:ay)(f:aj)(hs:f.body.size<=100000):Pure prog 30 [.agg C.cells,.agg f.cells] (iv (mJ C f)):=by
 have hI:=aeE hT hO C f.dh f.body hs;unfold mJ;rw[KU];generalize rH C f.dh f.body=r at*;refine k30.p fun σ=>?_;repeat'(first|exact .nil|refine .k ?_|simp_all|refine .k ?_|(refine .cd ?_ ?_<;>intro hc)|refine .r1 ?_ ?_|refine .l1 fun b=>?_|(refine .m1 ?_ ?_;intro b)|refine .an rfl (by intro ar;first|exact ug _|exact FA _|exact hI|exact MF _ _) ?_ ?_|fail)
 try any_goals(exact Zo)
 all_goals(try simp only[BL]at*)
 all_goals
  refine Sx.Fin.intro Zs (bi ?_);grind
theorem alA(C:ay)(hs:pH C):Pure prog 27 [.agg C.cells] (iv (bE none C.tables)):=by
 refine k27.p fun σ=>?_;repeat'(first|exact .nil|refine .k ?_|refine .r1 ?_ ?_|(refine .m1 ?_ ?_;intro b)|fail)
 all_goals(try grind)
 refine aP (fun m rg af=>∃i:Nat,i<=C.tables.length/\m=C.tables.length-i/\bE none C.tables=bE (rR C.tables i) (C.tables.drop i)/\af=(1,b,.cells C.cells)::σ/\rg=[(1,.lp 1 b 0),(3,iv i)]) C.tables.length rfl ⟨_,_,Zr,Zs,0,Z4 _,rfl,rfl,rfl,rfl⟩ ?_;rintro m _ _ ⟨i,hi,hm,hL,rfl,rfl⟩;have bp:i<=maxLen:=by unfold maxLen;have:=hs.t;omega
 have kP:=Sb (l:=C.tables) (i:=i) (s:=(C.tables.getD i default).name) bp;repeat'(first|exact .nil|refine .k ?_|(refine .cd ?_ ?_<;>intro hc)|refine .r1 ?_ ?_|(refine .m2 ?_ ?_;intro hlen)|refine .t1 ?_ ?_ ?_|refine .an rfl (by intro ar;exact aly _) ?_ ?_|fail)
 try any_goals(exact Zo)
 all_goals(try simp only[BL]at*)
 .rw[show bE none C.tables=iD (C.tables.getD i default) by rw[hL,yO (by omega),Z3 hc]];exact Zw
 .rw[show bE none C.tables=1 by rw[hL,yO (by omega),Z9 (by grind),Z3 (kP.1 hc)]];exact Zw
 .have nJ:¬gr 0 (rR C.tables i) (C.tables.getD i default).name:=fun h=>by
   have h2:=kP.2 h;rcases hc with hc|⟨bC,bO⟩
   .exact hc h2.1
   .rcases h2.2 with h3|h3
    .rw[bC]at h3;cases h3
    .exact bO h3
  exact⟨m-1,by omega,_,_,Zr,Zs,i+1,by omega,by omega,by rw[hL,yO (by omega),Z9 (by grind),Z9 nJ],rfl,by rw[bj (n:=C.tables.length) (by omega) (by assumption)]⟩
 .intro h;unfold maxLen at bp;rw[bn (by omega)];omega
 .rw[show bE none C.tables=0 by rw[hL,show i=C.tables.length by omega,YM,bE]];exact Zw
theorem aiy(f:aj)(hs:f.body.size<=100000):Pure prog 29 [.agg f.cells] (iv (eU f)):=by
 have hS:=Tl f.body hs;unfold eU;refine k29.p fun σ=>?_;repeat'(first|exact .nil|refine .k ?_|grind|(refine .cd ?_ ?_<;>intro hc)|refine .r1 ?_ ?_|(refine .m1 ?_ ?_;intro b)|refine .an rfl (by intro ar;first|exact ug _|exact FA _|exact hS) ?_ ?_|fail)
 try any_goals(exact Zo)
 all_goals(try simp only[BL]at*)
 all_goals
  refine Sx.Fin.intro Zs (bi ?_);grind
theorem ama(C:ay)(hs:pH C):Pure prog 28 [.agg C.cells] (.sl false 18 (C.all.map aj.cells)):=by
 have h1:=hs.f;have h2:=hs.d;have h3:=hs.p;refine k28.pc (fun d=>if d=4 then 3 else 0) fun σ=>?_;repeat'(first|exact .nil|refine .k ?_|refine .r1 ?_ ?_|(refine .m1 ?_ ?_;intro b)|refine .u2 ?_ ?_ ?_ (fun b u c=>?_)|refine .u3 ?_ ?_ (fun PG=>?_) (fun lV b u c=>?_)|refine .r8 ?_ ?_|fail)
 all_goals(try grind)
 all_goals try(grind)
 all_goals try(grind)
 all_goals try(show List.all _ _=true;rw[List.all_map,ZA];intro y _;rfl)
 all_goals
  have bW:C.all.map aj.cells=C.features.map aj.cells++C.aD.map aj.cells++C.past.map aj.cells:=by unfold ay.all;rw[Zl,Zl]
  rw[bW];try rw[‹List.map aj.cells C.features=[]›]
  try rw[‹List.map aj.cells C.aD=[]›]
  try rw[‹List.map aj.cells C.past=[]›]
  simp only[Zf,Y5];refine Sx.Fin.wk Zs ?_;first|exact .own _|exact Wk.Db rfl
set_option maxHeartbeats 4000000
def pg(C:ay)(n:Nat):Nat:=if n=0 then 0 else if n=1 then C.features.length else C.features.length+C.aD.length
def jg(f:aj):ae×Int:=(f.name,f.version)
structure eE(C:ay)(i n j:Nat):Prop where
 hn:n<=2
 hj:j<=(LL C n).length
 hi:i=pg C n+j
 hv:gY C=if(dG n (gu (LL C n) j) ((LL C n).drop j) ((C.all.take i).map jg)).1≠0 then(dG n (gu (LL C n) j) ((LL C n).drop j) ((C.all.take i).map jg)).1 else ane C (2-n) (n+1) (dG n (gu (LL C n) j) ((LL C n).drop j) ((C.all.take i).map jg)).2
theorem eE.start(C:ay):eE C 0 0 0:=⟨by omega,by omega,rfl,rfl⟩
theorem eE.over{C:ay}{i n j:Nat}(h:eE C i n j)(hj:j=(LL C n).length)(hn:n<2):eE C i (n+1) 0:=by
 obtain⟨h1,h2,h3,h4⟩:=h;subst hj;rw[YM,dG,Z9 (by simp)]at h4;refine⟨by omega,Z4 _,?_,?_⟩
 .have jH:n=0\/n=1:=by omega
  rcases jH with rfl|rfl
  .rw[h3];unfold pg LL;simp
  .assumption
 .rw[h4,show 2-n=(2-(n+1))+1 by omega,ane];rfl
theorem eE.end_{C:ay}{i j:Nat}(h:eE C i 2 j)(hj:j=(LL C 2).length):gY C=0:=by obtain⟨h1,h2,h3,h4⟩:=h;subst hj;rw[YM,dG,Z9 (by simp)]at h4;rw[h4];rfl
theorem zo(C:ay):C.all.length=C.features.length+C.aD.length+C.past.length:=by unfold ay.all;simp[XK]
theorem eE.JL{C:ay}{i n j:Nat}(h:eE C i n j)(hi:i<C.all.length):∃n j,eE C i n j/\j<(LL C n).length:=by
 have hl:=zo C;have key:∀k n j,2-n<=k->eE C i n j->∃n j,eE C i n j/\j<(LL C n).length:=by
  intro k
  induction k with
  |zero=>
   intro n j hk h;have hn:n=2:=by have:=h.hn;omega
   have h3:=h.hi;have:(LL C 2).length=C.past.length:=rfl;unfold pg at h3;grind
  |succ k ih=>
   intro n j hk h;by_cases hj:j<(LL C n).length
   .grind
   .by_cases hn:n<2
    .exact ih (n+1) 0 (by omega) (h.over (by have:=h.hj;omega) hn)
    grind
 exact key (2-n) n j (ZO _) h
theorem eE.done{C:ay}{n j:Nat}(h:eE C C.all.length n j):gY C=0:=by
 have hl:=zo C;have key:∀k n j,2-n<=k->eE C C.all.length n j->gY C=0:=by
  intro k
  induction k with
  |zero=>
   intro n j hk h;have hn:n=2:=by have:=h.hn;omega
   subst hn;refine h.end_ ?_;have h3:=h.hi;have h4:(LL C 2).length=C.past.length:=rfl;unfold pg at h3;grind
  |succ k ih=>
   intro n j hk h;by_cases hn:n<2
   .refine ih (n+1) 0 (by omega) (h.over ?_ hn);have h3:=h.hi;have h5:=h.hj;have jH:n=0\/n=1:=by omega
    rcases jH with rfl|rfl
    .have h4:(LL C 0).length=C.features.length:=rfl;unfold pg at h3;grind
    .have h4:(LL C 1).length=C.aD.length:=rfl;unfold pg at h3;grind
   grind
 exact key (2-n) n j (ZO _) h
theorem pW{T:Type}(a b:List T)(d:T){k:Nat}:(a++b).getD k d=if k<a.length then a.getD k d else b.getD (k-a.length) d:=by grind
theorem eE.get{C:ay}{i n j:Nat}(h:eE C i n j)(hj:j<(LL C n).length):i<C.all.length/\C.all.getD i default=(LL C n).getD j default:=by
 have hl:=zo C;have h3:=h.hi;have jH:n=0\/n=1\/n=2:=by have:=h.hn;omega
 unfold pg at h3;rcases jH with rfl|rfl|rfl
 .have h4:LL C 0=C.features:=rfl;unfold ay.all;grind
 .have h4:LL C 1=C.aD:=rfl;unfold ay.all;grind
 .have h4:LL C 2=C.past:=rfl;unfold ay.all;grind
theorem eE.step{C:ay}{i n j:Nat}(h:eE C i n j)(hj:j<(LL C n).length):
  (eU (C.all.getD i default)≠0->gY C=eU (C.all.getD i default))/\
  (eU (C.all.getD i default)=0->gr n (gu (LL C n) j) (C.all.getD i default).name->gY C=1)/\
  (eU (C.all.getD i default)=0->¬gr n (gu (LL C n) j) (C.all.getD i default).name->iM ((C.all.take i).map jg) (jg (C.all.getD i default))=true->gY C=121)/\
  (eU (C.all.getD i default)=0->¬gr n (gu (LL C n) j) (C.all.getD i default).name->iM ((C.all.take i).map jg) (jg (C.all.getD i default))=false->eE C (i+1) n (j+1)):=by
 obtain⟨hi,hg⟩:=h.get hj;have hv:=h.hv;have hT:=FM n hj ((C.all.take i).map jg);rw[<-hg]at hT;refine⟨fun h1=>?_,fun h1 h2=>?_,fun h1 h2 h3=>?_,fun h1 h2 h3=>?_⟩
 .grind
 .grind
 .rw[Z9 (by grind),Z9 h2,Z3 (show iM ((C.all.take i).map jg) ((C.all.getD i default).name,(C.all.getD i default).version)=true from h3)]at hT;grind
 .rw[Z9 (by grind),Z9 h2,Z9 (show¬iM ((C.all.take i).map jg) ((C.all.getD i default).name,(C.all.getD i default).version)=true from by rw[show iM ((C.all.take i).map jg) ((C.all.getD i default).name,(C.all.getD i default).version)=false from h3];simp)]at hT;rw[hT]at hv;refine⟨h.hn,hj,by have:=h.hi;omega,?_⟩;rw[hv,ZU hi,Zl,List.map_singleton,← getD_eq hi];rfl
theorem eE.first{C:ay}{i n j:Nat}(h:eE C i n j)(hj:j<(LL C n).length):(i=0\/i=C.features.length\/i=C.features.length+C.aD.length)↔j=0:=by
 have h3:=h.hi;have jH:n=0\/n=1\/n=2:=by have:=h.hn;omega
 unfold pg at h3;rcases jH with rfl|rfl|rfl
 .have h4:(LL C 0).length=C.features.length:=rfl;grind
 .have h4:(LL C 1).length=C.aD.length:=rfl;grind
 grind
theorem eE.past{C:ay}{i n j:Nat}(h:eE C i n j)(hj:j<(LL C n).length):i<C.features.length+C.aD.length↔n<2:=by
 have h3:=h.hi;have jH:n=0\/n=1\/n=2:=by have:=h.hn;omega
 unfold pg at h3;rcases jH with rfl|rfl|rfl
 .have h4:(LL C 0).length=C.features.length:=rfl;grind
 .have h4:(LL C 1).length=C.aD.length:=rfl;grind
 grind
theorem eE.prev{C:ay}{i n j:Nat}(h:eE C i n j)(hj:j<(LL C n).length)(h0:0<j):C.all.getD (i-1) default=(LL C n).getD (j-1) default:=by
 have h3:=h.hi;have jH:n=0\/n=1\/n=2:=by have:=h.hn;omega
 unfold pg at h3;rcases jH with rfl|rfl|rfl
 .have h4:LL C 0=C.features:=rfl;unfold ay.all;grind
 .have h4:LL C 1=C.aD:=rfl;unfold ay.all;grind
 .have h4:LL C 2=C.past:=rfl;unfold ay.all;grind
theorem eE.ord{C:ay}{i n j:Nat}(h:eE C i n j)(hj:j<(LL C n).length)(s:ae):gr n (gu (LL C n) j) s↔¬(i=0\/i=C.features.length\/i=C.features.length+C.aD.length)/\(c6 s (C.all.getD (i-1) default).name=true\/(i<C.features.length+C.aD.length/\s=(C.all.getD (i-1) default).name)):=by
 rw[h.first hj,h.past hj];unfold gu;by_cases h0:j=0
 .unfold gr;grind
 .rw[Z9 h0,h.prev hj (by omega)];unfold gr;grind
theorem TT{C:ay}{i:Nat}(hi:i<=C.all.length)(f:aj):iM ((C.all.take i).map jg) (jg f)=true↔∃k,k<i/\(C.all.getD k default).name=f.name/\(C.all.getD k default).version=f.version:=by
 rw[Dx,Ze];constructor
 .rintro⟨g,hg,e⟩;obtain⟨k,hk,rfl⟩:=List.mem_take_iff_getElem.1 hg;refine⟨k,by omega,?_⟩;unfold jg at e;grind
 .rintro⟨k,hk,h1,h2⟩;refine⟨C.all.getD k default,Rs hk hi,?_⟩;unfold jg;grind
set_option maxHeartbeats 16000000
theorem aaZ(hT:pG)(hO:pF)(C:ay)(hs:pH C)(eY:C.Fits):Pure prog 8 [.agg C.cells] (iv (iI C)):=by
 have OZ:=alA C hs;have O0:=ama C hs;have OU:=fun(i:Nat) (h:i<C.all.length)=>aiy (C.all.getD i default) (ZD (hs.b _ (bN h)) (by decide));have oE:=fun(i:Nat) (h:i<C.features.length)=>acy hT hO C (C.features.getD i default) (ZD (hs.b _ (Ga (n:=0) (show C.features.getD i default∈LL C 0 from bN h))) (by decide));have hY:=abq C hs eY;have hl:=zo C;have h1:=hs.f;have h2:=hs.d;have h3:=hs.p;have hw:IntKind.i64.wrap ((C.features.length:Int)+(C.aD.length:Int))=(C.features.length:Int)+(C.aD.length:Int):=bn (by omega);unfold iI;generalize lJ (deps C.features) (bX C.features)=Y at*;refine k8.p fun σ=>?_
 rename Store=>σ
 repeat'(first|exact .nil|refine .k ?_|(refine .cd ?_ ?_<;>intro hc)|refine .r1 ?_ ?_|(refine .m1 ?_ ?_;intro b)|(refine .m2 ?_ ?_;intro hlen)|refine .an rfl (by intro ar;first|exact OZ|exact O0|fail) ?_ ?_|fail)
 try any_goals((intro ar;first|(simp_all;done)|fail))
 all_goals(try simp only[BL]at*)
 .refine Sx.Fin.intro Zs (bi ?_);rw[Z3 (by grind)]
 .have Jb:¬(C.tables.length>16\/C.features.length>32\/C.aD.length>32\/C.past.length>32):=by grind
  refine Sx.Fin.intro Zs (bi ?_);rw[Z9 Jb,Z3 hc]
 have Jb:¬(C.tables.length>16\/C.features.length>32\/C.aD.length>32\/C.past.length>32):=by grind
 rw[Z9 Jb,Z9 (by rw[hc];simp)];rw[hw];refine aP (fun m rg af=>∃i n j:Nat,eE C i n j/\i<=C.all.length/\m=C.all.length-i/\af=(1,b,.cells C.cells)::σ/\rg=[(1,.lp 1 b 0),(4,.sl false 18 (C.all.map aj.cells)),(5,iv ((C.features.length:Int)+C.aD.length)),(6,iv i)]) C.all.length rfl ⟨_,_,Zr,Zs,0,0,0,eE.start C,Z4 _,rfl,rfl,rfl⟩ ?_;rintro m _ _ ⟨i,n,j,hA,hi,hm,rfl,rfl⟩;have Iw:=fun h:i<C.all.length=>OU i h;have DS:0<i->(IntKind.i64.wrap ((i:Int)-1)).toNat=i-1:=fun h=>by rw[bn (by omega)];omega
 repeat'(first|exact .nil|refine .k ?_|(refine .cd ?_ ?_<;>intro hc)|refine .r1 ?_ ?_|(refine .m2 ?_ ?_;intro hlen)|refine .t1 ?_ ?_ ?_|refine .an rfl (by intro ar;first|exact Iw (by(simp only[BL]at*;omega))|fail) ?_ ?_|fail)
 try any_goals((intro ar;first|(simp_all;done)|fail))
 all_goals(try simp only[BL]at*)
 .obtain⟨n',j',hA,hj⟩:=hA.JL (by omega);rw[(hA.step hj).1 hc,Z3 hc];exact Zw
 .have h0:eU (C.all.getD i default)=0:=by assumption
  obtain⟨n',j',hA,hj⟩:=hA.JL (by omega);rw[DS (by omega)]at hc;rw[(hA.step hj).2.1 h0 ((hA.ord hj _).2 ⟨by omega,by rcases hc.2 with h|h;exact .inl h;exact .inr ⟨by omega,h.2⟩⟩),Z3 (by decide)];exact Zw
 .have h0:eU (C.all.getD i default)=0:=by assumption
  obtain⟨n',j',hA,hj⟩:=hA.JL (by omega);have kO:¬gr n' (gu (LL C n') j') (C.all.getD i default).name:=fun h=>by
   obtain⟨g1,g2⟩:=(hA.ord hj _).1 h;rcases hc with hc|⟨bC,bO⟩
   .omega
   .rw[DS (by omega)]at bC bO;rcases g2 with g|⟨g3,g4⟩
    .unfold c6 at g;rw[bC]at g;cases g
    .rcases bO with h2|h2
     .omega
     .exact h2 g4
  have bp:i<C.all.length:=by omega
  clear hc Iw DS OU oE hY OZ O0;refine aP (fun m rg af=>∃k:Nat,k<=i/\m=i-k/\(∀q,q<k->¬((C.all.getD q default).name=(C.all.getD i default).name/\(C.all.getD q default).version=(C.all.getD i default).version))/\af=(1,b,.cells C.cells)::σ/\rg=[(1,.lp 1 b 0),(4,.sl false 18 (C.all.map aj.cells)),(5,iv ((C.features.length:Int)+C.aD.length)),(6,iv i),(8,iv k)]) i rfl ⟨_,_,Zr,Zs,0,Z4 _,rfl,fun q hq=>absurd hq (by omega),rfl,rfl⟩ ?_;rintro m2 _ _ ⟨k,hk,fg,hq,rfl,rfl⟩;repeat'(first|exact .nil|refine .k ?_|(refine .cd ?_ ?_<;>intro hc)|refine .r1 ?_ ?_|refine .t1 ?_ ?_ ?_|fail)
  try any_goals((intro ar;first|(simp_all;done)|(simp only[BL]at*;omega)))
  all_goals(try simp only[BL]at*)
  .rw[(hA.step hj).2.2.1 h0 kO ((TT (by omega) _).2 ⟨k,by omega,hc⟩),Z3 (by decide)];exact Zw
  .refine⟨i-(k+1),by omega,_,_,Zr,Zs,k+1,by omega,rfl,fun q AK=>?_,rfl,by rw[bn (by omega)];rfl⟩;by_cases e:q=k
   .subst e;rintro⟨e1,e2⟩;rcases hc with hc|hc;exact hc e1;exact hc e2
   .exact hq q (by omega)
  .have DL:k=i:=by omega
   subst DL;have hnt:iM ((C.all.take k).map jg) (jg (C.all.getD k default))=false:=by rw[<-X8,TT (by omega)];rintro⟨q,AK,h⟩;exact hq q AK h
   exact⟨C.all.length-(k+1),by omega,_,_,Zr,Zs,k+1,n',j'+1,(hA.step hj).2.2.2 h0 kO hnt,by omega,rfl,rfl,by rw[bn (by omega)];rfl⟩
 .intro h;rw[bn (by omega)];omega
 .intro h;rw[bn (by omega)];omega
 have hve:gY C=0:=by
  have hiL:i=C.all.length:=by omega
  subst hiL;exact hA.done
 rw[hve,Z9 (by simp)];clear hA Iw DS hm hi;refine aP (fun m rg af=>∃i:Nat,i<=C.features.length/\m=C.features.length-i/\jw C C.features=jw C (C.features.drop i)/\af=(1,b,.cells C.cells)::σ/\rg=[(1,.lp 1 b 0),(9,iv i)]) C.features.length rfl ⟨_,_,Zr,Zs,0,Z4 _,rfl,rfl,rfl,rfl⟩ ?_;rintro m _ _ ⟨i,hi,hm,hL,rfl,rfl⟩;have hF:=oE i;have IA:Y.length=0↔Y=[]:=Yi;repeat'(first|exact .nil|refine .k ?_|(refine .cd ?_ ?_<;>intro hc)|refine .r1 ?_ ?_|(refine .m2 ?_ ?_;intro hlen)|refine .t1 ?_ ?_ ?_|refine .an rfl (by intro ar;first|exact hF (by(simp only[BL]at*;omega))|exact hY) ?_ ?_|fail)
 try any_goals((intro ar;first|(simp_all;done)|fail))
 all_goals(try simp only[BL]at*)
 .rw[show jw C C.features=mJ C (C.features.getD i default) by rw[hL,C4 C (by omega),Z3 hc],Z3 hc];exact Zw
 .exact⟨m-1,by omega,_,_,Zr,Zs,i+1,by omega,by omega,by rw[hL,C4 C (by omega),Z9 (by grind)],rfl,by rw[bj (n:=C.features.length) (by omega) (by assumption)]⟩
 all_goals have h1:jw C C.features=0:=by rw[hL,show i=C.features.length by omega,YM,jw]
 all_goals rw[h1,Z9 (by simp)]
 .rw[Z3 (fun h=>by subst h;simp at hc)];exact Zw
 .rw[Z9 (fun h=>h (IA.1 (by omega)))];exact Zw
end Go.Proofs.YtmemninechdogaaGreatDoor
set_option maxHeartbeats 4000000
namespace Go.Sx
open Go.RowKit Go.Proofs
inductive sL(b o n c:Nat)(rows:List (List AV)):ag->ag->Prop
 |nil:sL b o n c rows [] []
 |m {i t:Nat} {r r':ag} (h:sL b o n c rows r r'):sL b o n c rows ((i,.ms t b o n c)::r) ((i,.sl false 1 rows)::r')
 |same {i:Nat} {x:AV} {r r':ag} (h:sL b o n c rows r r'):sL b o n c rows ((i,x)::r) ((i,x)::r')
theorem sL.lk{b o n c:Nat}{rows:List (List AV)}{r r':ag}(h:sL b o n c rows r r')(i:Nat):lk r' i=lk r i\/∃t,lk r i= .ms t b o n c/\lk r' i= .sl false 1 rows:=by
 induction h with
 |nil=>grind| @m j t _ _ _ ih=>simp only[Sx.lk];grind| @same j x _ _ _ ih=>simp only[Sx.lk];grind
theorem Cp{P:Program}[Glob P]{N:Nat}{cfg:Nat->Nat}{Q:Exit->ag->Store->Prop}{a:AC}{k:List Fr}{rg al:ag}{σ af:Store}{t b n c:Nat}{pre ls post:List AV}(hs:qM t b (pre++ls++post) σ af)(hn:n=ls.length)(hc:n<=c/\c<=maxLen)(hr:sL b pre.length n c (ls.map fun x=>[x]) rg al)(h:WK P N cfg Q a k al af):WK P N cfg Q a k rg σ:=by
 refine⟨⟨rfl,?_⟩⟩;intro cd iu M w0 a w hI hR hN hD;obtain⟨M',vs,hM,bg,di,AN⟩:=(hI.perm hs.perm).freeze;refine uY (h.h.h cd iu M' w0 a w bg (fun i=>?_) hN hD) fun _ _ _ ⟨M2,bK,aK,h1,h2⟩=>⟨M2,bK,aK,hM.trans h1,h2⟩
 have h1:=(hR i).mono hM;rcases hr.lk i with e|⟨t',e1,e2⟩
 .grind
 .rw[e1]at h1;rw[e2,h1.pd,hn];have hl:(ls.map fun x=>[x]).length=ls.length:=Z5 _;have:=R.sl (M:=M') false 1 (ls.map fun x=>[x]) b pre.length c (fun k=>vs.getD (pre.length+k) default) (fun i hi=>by grind) (fun k hk=>?_) (fun i hi j hj=>?_) (by grind) hc.2
  .grind
  .have cN:pre.length+k<vs.length:=by rw[← di.1];grind
   grind
  .rw[hl]at hi;have I7:j=0:=by grind
   subst I7;have cN:pre.length+i<vs.length:=by rw[← di.1];grind
   have hx:pre.length+i<(pre++ls++post).length:=by grind
   have h3:=di.2 (pre.length+i) hx cN;grind
end Go.Sx
namespace Go.Proofs.YtmemninechdogaaGreatDoor
open _root_.Go.Proofs.Tryz
open Go.Sx Go.Proofs Go.Tb Go.RowKit
def EV(x:Int):List AV:=[iv x]
abbrev cD(l:List Int):List (List AV):=l.map EV
theorem KH(l:List Int):cD l=(l.map iv).map fun x=>[x]:=by rw[Yu];rfl
theorem Qk{M M':Mem}{w0:Base}{w w':World}{σ:Store}{t b u c:Nat}{l:List Int}{v:Value}(hI:Sx.Inv prog M w0 σ w)(bg:Sx.Inv prog M' ⟨w,M⟩ [(t,b,.tail u c)] w')(hv:R M' (.own 1 t b u c (cD l)) v)(hn:l≠[])(L:Nat):
  ∃(pre:List AV) (cap:Nat) (post:List AV),v= .slice (some ⟨b,pre.length,none⟩) l.length cap/\l.length<=cap/\cap<=maxLen/\Sx.Inv prog M w0 ((L,b,.cells (pre++l.map iv++post))::σ) w':=by
 obtain⟨off,cap,cs,rfl,hr,h4,h5,h6,h8⟩:=hv.pe;have hl:(cD l).length=l.length:=by grind
 rw[hl]at h4 h6;have hb:Below w.heap.size w w':=⟨bg.os,bg.tape,bg.output,bg.size,bg.old⟩
 have h1:=hI.after hb;obtain⟨hg,hN,cur,ty,hh,bY,huc⟩:=bg.st _ ZK;have hlen:0<l.length:=X4.2 hn;have hu:off+l.length*1=u/\off+cap*1<=c:=by grind
 have Am:∀o,M b o=none:=fun o=>by
  cases h:M b o with
  |none=>rfl|some v=>have:=World.block_lt_of_cell? _ _ (hI.bZ b o v h);grind
 refine⟨List.replicate off .any,cap,List.replicate (c-u) .any,by grind,h4,h5,h1.os,h1.tape,h1.output,h1.size,h1.old,h1.bZ,fun e he=>?_,?_,h1.gl,h1.gw,h1.bm⟩
 .rcases ZR.1 he with rfl|he
  .refine⟨ZD hI.size hg,Am,cur,ty,hh,?_,fun i g1 g2=>?_⟩
   .grind
   .by_cases i1:i<off
    .have e:(List.replicate off AV.any++l.map iv++List.replicate (c-u) AV.any)[i]= .any:=by grind
     rw[e];exact .any _
    .by_cases i2:i-off<l.length
     .have e:(List.replicate off AV.any++l.map iv++List.replicate (c-u) AV.any)[i]=iv l[i-off]:=by rw[YI (by simp;omega),YS (by simp;omega)];simp
      rw[e];have hk:i-off<(cD l).length*1:=by rw[hl];omega
      have h9:=bg.bZ _ _ _ (hr.mem (i-off) hk);have h7:=hr.rel (i-off) (by omega) 0 (by simp[EV]);simp only[EV,Zv,Yq,Yt,Yr]at h7;rw[show off+(i-off)=i by omega,pO hh,h7.aC]at h9;have Di:cur.toList[i]= .int .i64 l[i-off]:=by have:=(ZW.1 h9).2;simpa using this
      rw[Di];exact .v _
     .have e:(List.replicate off AV.any++l.map iv++List.replicate (c-u) AV.any)[i]= .any:=by rw[YS (by simp;omega),List.getElem_replicate]
      rw[e];exact .any _
  .exact h1.st e he
 .simp only[Zz,YQ];refine⟨fun h=>?_,h1.nd⟩;obtain⟨e,he,heq⟩:=Ze.1 h;have:=hI.ub he;simp at hg;omega
theorem ak8{f:FuncId}{ys:List AV}{l:List Int}(h:Sx.Spec prog f ys [] fun r af=>∃t b u c,r= .ret (.own 1 t b u c (cD l))/\Sub [(t,b,.tail u c)] af)(hn:l≠[])(L:Nat)(σ:Store):
  Sx.Spec prog f ys σ fun r af=>∃(b cap:Nat) (pre post:List AV),l.length<=cap/\cap<=maxLen/\r= .ret (.ms L b pre.length l.length cap)/\af=(L,b,.cells (pre++l.map iv++post))::σ:=by
 intro M w0 w cs hI hR;refine(h M ⟨w,M⟩ w cs (Ec hI) hR).mono fun e w' ⟨M',r,af,hM,bg,hr,t,b,u,c,e1,hs⟩=>?_;subst e1;cases e with
 |returned v=>obtain⟨pre,cap,post,hv,bC,bO,gD⟩:=Qk hI (bg.sub hs) hr hn L;refine⟨M,_,_,Mem.le.refl _,gD,?_,b,cap,pre,post,bC,bO,rfl,rfl⟩;rw[hv];exact .ms _ _ _ _ _
 |_=>exact hr.elim
theorem WE{N:Nat}{cfg:Nat->Nat}{Q:Exit->ag->Store->Prop}{a:AC}{k:List Fr}{rg:ag}{σ:Store}(l:List Int)(j i:Nat)(y:Value)(L:Nat)(hn:l≠[])
  (h:WK prog N cfg (fun e al af=>e= .normal/\lk al j= .v y/\∃t b u c,lk al i= .own 1 t b u c (cD l)/\Sub [(t,b,.tail u c)] af) a [] rg [])
  (h2:∀b cap pre post,l.length<=cap->cap<=maxLen->FK prog N cfg Q .normal k [(j,.v y),(i,.ms L b (List.length pre) l.length cap)] ((L,b,.cells (pre++l.map iv++post))::σ)):WK prog N cfg Q a k rg σ:=by
 refine⟨⟨rfl,?_⟩⟩;intro cd iu M w0 a w hI hR hN hD;refine uY (h.h.h cd iu M ⟨w,M⟩ a w (Ec hI) hR hN hD) fun e a' w' ⟨M',al,af,hM,bg,lQ,hN',Dk,hq⟩=>?_;obtain⟨rfl,hj,t,b,u,c,hi,hs⟩:=hq;have h3:=lQ i;rw[hi]at h3;have h4:=lQ j;rw[hj]at h4;obtain⟨pre,cap,post,hv,bC,bO,gD⟩:=Qk hI (bg.sub hs) h3 hn L;refine⟨M,_,_,Mem.le.refl _,gD,fun x=>?_,hN',Dk,(h2 b cap pre post bC bO).h⟩;simp only[lk];cases e1:Nat.beq j x with
 |true=>rw[<-Z0 e1,h4.aC];exact .v _|false=>
  cases e2:Nat.beq i x with
  |true=>rw[<-Z0 e2,hv];exact .ms _ _ _ _ _|false=>exact .any _
end Go.Proofs.YtmemninechdogaaGreatDoor
namespace Go.Proofs.YtmemninechdogaaGreatDoor
open _root_.Go.Proofs.Tryz
open Go.Sx Go.Proofs Go.Tb
def qV:Int->List Int->Int
 |m,[]=>m|m,d::l=>qV ((d+m) / 65536) l
def jq:Int->List Int->List Int
 |_,[]=>[]
 |m,d::l=>(d+m)%65536::jq ((d+m) / 65536) l
theorem MS:∀(l:List Int) (m x:Int),qV m (l++[x])=(x+qV m l) / 65536
 |[],_,_=>rfl|d::l,m,x=>MS l _ x
theorem MP:∀(l:List Int) (m x:Int),jq m (l++[x])=jq m l++[(x+qV m l)%65536]
 |[],_,_=>rfl|d::l,m,x=>Zk (_::·) (MP l _ x)
theorem MO:∀(l:List Int) (m:Int),(jq m l).length=l.length
 |[],_=>rfl|d::l,m=>Zk (·+1) (MO l _)
theorem MR:∀(l:List Int) (m:Int),(∀x∈l, -1099511627776<=x/\x<=1099511627776)->(-1099511627776<=m/\m<=1099511627776)->-1099511627776<=qV m l/\qV m l<=1099511627776
 |[],_,_,h=>h|d::l,m,hl,h=>MR l _ (fun x hx=>hl x (ZN _ hx)) (by have:=hl d ZK;omega)
def aJ:Nat->Int->List Int
 |0,_=>[]
 |n+1,z=>z%65536::aJ n (z / 65536)
def qn:Nat->Int->Int
 |0,z=>z|n+1,z=>qn n (z / 65536)
theorem fK:∀(n:Nat) (z:Int),(aJ n z).length=n
 |0,_=>rfl|n+1,z=>Zk (·+1) (fK n _)
theorem G8:∀(n:Nat) (z:Int),aJ (n+1) z=aJ n z++[qn n z%65536]
 |0,_=>rfl|n+1,z=>Zk (_::·) (G8 n _)
theorem Ky:∀(n:Nat) (z:Int),qn (n+1) z=qn n z / 65536
 |0,_=>rfl|n+1,z=>Ky n _
theorem j1:∀(n:Nat) (z:Int),∀x∈aJ n z,0<=x/\x<65536
 |0,_,x,h=>nomatch h|n+1,z,x,h=>by
  rcases ZR.1 h with rfl|h
  .omega
  .exact j1 n _ x h
theorem Kx:∀(n:Nat) (z:Int),0<=z/\z<18446744073709551616->0<=qn n z/\qn n z<18446744073709551616
 |0,_,h=>h|n+1,z,h=>Kx n _ (by omega)
theorem S4(a b:List Int):cD (a++b)=cD a++cD b:=Zl
def jR(lab:Nat)(rows:List (List AV))(x:AV)(U:Store):Prop:=(rows=[]/\x=ej/\U=[])\/∃b u c,x= .own 1 lab b u c rows/\U=[(lab,b,.tail u c)]
theorem jR.z{lab:Nat}:jR lab [] ej []:=.inl ⟨rfl,rfl,rfl⟩
theorem jR.s{lab b u c:Nat}{rows rows':List (List AV)}(h:rows'=rows):jR lab rows (.own 1 lab b u c rows') [(lab,b,.tail u c)]:=.inr ⟨b,u,c,by rw[h],rfl⟩
theorem Ld(A:Int):A.tdiv 65536=if 0<=A then A / 65536 else -((-A) / 65536):=by
 split
 .grind
 .rw[<-Xu (by omega),Int.neg_tdiv,Int.neg_neg]
theorem BJ(A:Int):A.tmod 65536=if 0<=A then A%65536 else -((-A)%65536):=by
 split
 .grind
 .rw[<-XZ (by omega),Int.neg_tmod,Int.neg_neg]
theorem ac6{A:Int}(h1: -2199023255552<=A)(h2:A<=2199023255552)(h:A.tmod 65536<0):IntKind.i64.wrap (A.tmod 65536+65536)=A%65536/\IntKind.i64.wrap (IntKind.i64.wrap (A.tdiv 65536)-1)=A / 65536:=by
 rw[BJ]at h;rw[BJ,Ld];split at h
 .omega
 .rw[Z9 ‹_›,Z9 ‹_›,bn (by omega),bn (n:= -(-A / 65536)) (by omega),bn (by omega)];omega
theorem ac7{A:Int}(h1: -2199023255552<=A)(h2:A<=2199023255552)(h:¬A.tmod 65536<0):A.tmod 65536=A%65536/\IntKind.i64.wrap (A.tdiv 65536)=A / 65536:=by
 rw[BJ]at h;rw[BJ,Ld];split at h
 .rw[Z3 ‹_›,Z3 ‹_›,bn (by omega)];omega
 .rw[Z9 ‹_›,Z9 ‹_›,bn (by omega)];omega
theorem CC(d:List Int)(hl:d.length=8)(hb:∀x∈d, -1099511627776<=x/\x<=1099511627776):Pure prog 392 [.sl false 1 (cD d)] (.sl false 1 (cD (jq 0 d))):=by
 refine ag2.p fun σ=>?_;repeat'(first|exact .nil|refine .k ?_|refine .r1 ?_ ?_|fail)
 all_goals(try simp only[BL]at*)
 refine aP (fun m rg af=>∃(i:Nat) (x:AV) (U:Store),i<=8/\m=8-i/\jR 30 (cD (jq 0 (d.take i))) x U/\af=U++σ/\rg=[(0,.sl false 1 (cD d)),(3,x),(4,iv (qV 0 (d.take i))),(5,iv i)]) 8 rfl ⟨_,_,Zr,Zs,0,_,_,Z4 _,rfl,jR.z,rfl,rfl⟩ ?_;rintro m _ _ ⟨i,x,U,hi,hm,hR,rfl,rfl⟩;have hM:=MR (d.take i) 0 (fun x hx=>hb x (YT hx)) (by omega);have hA:i<8->∃A,d.getD i default+qV 0 (d.take i)=A/\IntKind.i64.wrap A=A/\qV 0 (d.take (i+1))=A / 65536/\jq 0 (d.take (i+1))=jq 0 (d.take i)++[A%65536]/\-2199023255552<=A/\A<=2199023255552:=fun h=>by
  have hx:=hb _ (bN (l:=d) (i:=i) (by omega));refine⟨_,rfl,bn (by omega),?_,?_,by omega,by omega⟩
  .rw[ZU (by omega),<-getD_eq (by omega),MS]
  .rw[ZU (by omega),<-getD_eq (by omega),MP]
 rcases hR with⟨hE,rfl,rfl⟩|⟨b3,u3,c3,rfl,rfl⟩
 all_goals
  repeat'(first|exact .nil|refine .k ?_|(refine .cd ?_ ?_<;>intro hc)|refine .r1 ?_ ?_|refine .t1 ?_ ?_ ?_|refine .u1 ?_ ?_ ?_ (fun b u c=>?_)|refine .u2 ?_ ?_ ?_ (fun b u c=>?_)|(show List.all _ _=true;rfl)|fail)
  try any_goals((intro ar;first|(simp_all;done)|fail))
  all_goals(try simp only[BL]at*)
  all_goals try(show(_:Nat)<=_;simp only[Z5,MO,ZL,ZY,ZP];omega)
 any_goals
  obtain⟨A,e0,e1,e4,e5,h1,h2⟩:=hA (by omega);clear hA;simp only[e0,e1]at hc|-;first|(obtain⟨g1,g2⟩:=ac6 h1 h2 hc;rw[g1,g2])|(obtain⟨g1,g2⟩:=ac7 h1 h2 hc;rw[g1,g2])
  refine⟨m-1,by omega,_,_,Zr,Zs,i+1,_,_,by omega,by omega,jR.s ?_,rfl,by rw[e4,bn (by omega)];rfl⟩;rw[e5,S4];first|(rw[hE];rfl)|rfl
 all_goals
  rw[show d.take i=d from ZM (by omega)]at*
 .rw[hE];exact Zw
 .exact Zw
abbrev uv(n:Int):AV:=.v (.int .u64 n)
theorem abL(z:Int):cD (aJ 4 z)≠[]:=by simp[aJ]
theorem CU{q:Int}(h:0<=q/\q<18446744073709551616):IntKind.i64.wrap (q.tmod 65536)=q%65536/\IntKind.u64.wrap (q.tdiv 65536)=q / 65536:=by rw[BJ,Ld,Z3 h.1,Z3 h.1,bn (by omega),IntKind.wrap_u64];omega
theorem EW{a b:List Int}{x:Int}(h:a=b++[x]):cD a=cD b++[EV x]:=by rw[h,S4];rfl
theorem Nh(hi lo:Int)(AA:0<=lo/\lo<18446744073709551616)(σ:Store):Sx.Spec prog 390 [.agg [iv hi,uv lo]] σ fun r af=>∃t b u c,r= .ret (.own 1 t b u c (cD (aJ 4 lo++aJ 4 (IntKind.u64.wrap hi))))/\Sx.Sub ((t,b,.tail u c)::σ) af:=by
 have Aq:0<=IntKind.u64.wrap hi/\IntKind.u64.wrap hi<18446744073709551616:=by rw[IntKind.wrap_u64];omega
 refine ag0.s ?_;repeat'(first|exact .nil|refine .k ?_|refine .r1 ?_ ?_|(refine .m1 ?_ ?_;intro b)|fail)
 all_goals(simp_all)
 generalize IntKind.u64.wrap hi=h2 at*;refine aP (fun m rg af=>∃(i:Nat) (x:AV) (U:Store),i<=4/\m=4-i/\jR 22 (cD (aJ i lo)) x U/\af=U++σ/\rg=[(3,x),(4,uv (qn i lo)),(5,uv h2),(6,iv i)]) 4 rfl ⟨_,_,Zr,Zs,0,_,_,Z4 _,rfl,jR.z,rfl,rfl⟩ ?_;rintro m _ _ ⟨i,x,U,hi,hm,hR,rfl,rfl⟩;have hq:=Kx i lo AA;have DG:=G8 i lo;rcases hR with⟨hE,rfl,rfl⟩|⟨b3,u3,c3,rfl,rfl⟩
 all_goals
  repeat'(first|exact .nil|refine .k ?_|(refine .cd ?_ ?_<;>intro hc)|refine .r1 ?_ ?_|refine .u1 ?_ ?_ ?_ (fun b u c=>?_)|refine .u2 ?_ ?_ ?_ (fun b u c=>?_)|(show List.all _ _=true;rfl)|fail)
  try any_goals((intro ar;first|(simp_all;done)|fail))
  all_goals(try simp only[BL]at*)
  all_goals try(show(_:Nat)<=_;simp only[Z5,fK,ZY,ZP];omega)
  .have e:=EW DG;rw[(CU hq).1,(CU hq).2,<-Ky];refine⟨m-1,by omega,_,_,Zr,Zs,i+1,_,_,by omega,by omega,jR.s ?_,rfl,by rw[bn (by omega)];rfl⟩;rw[e];first|(rw[hE];rfl)|rfl
  .have Ar:i=4:=by omega
   subst Ar
   first|exact absurd hE (abL lo)|(
    clear hq DG;refine aP (fun m rg af=>∃(i:Nat) (b u c:Nat),i<=4/\m=4-i/\af=(22,b,.tail u c)::σ/\rg=[(3,.own 1 22 b u c (cD (aJ 4 lo++aJ i h2))),(5,uv (qn i h2)),(7,iv i)]) 4 rfl ⟨_,_,Zr,Zs,0,_,_,_,Z4 _,rfl,rfl,by rw[show aJ 0 h2=[]from rfl,Y5];rfl⟩ ?_;rintro m _ _ ⟨i,b3,u3,c3,hi,hm,rfl,rfl⟩;have hq:=Kx i h2 Aq;have DG:=G8 i h2;repeat'(first|exact .nil|refine .k ?_|(refine .cd ?_ ?_<;>intro hc)|refine .r1 ?_ ?_|refine .u2 ?_ ?_ ?_ (fun b u c=>?_)|(show List.all _ _=true;rfl)|fail)
    try any_goals((intro ar;first|(simp_all;done)|fail))
    all_goals(try simp only[BL]at*)
    all_goals try(show(_:Nat)<=_;simp only[Z5,Z7,fK,ZY,ZP];omega)
    .have e:=EW (a:=aJ 4 lo++aJ (i+1) h2) (b:=aJ 4 lo++aJ i h2) (by rw[DG,<-Zq]);rw[(CU hq).1,(CU hq).2,<-Ky];exact⟨m-1,by omega,_,_,Zr,Zs,i+1,_,_,_,by omega,by omega,rfl,by rw[bn (n:=(i:Int)+1) (by omega),e];rfl⟩
    .have Ar:i=4:=by omega
     subst Ar
     exact⟨_,_,_,_,rfl,.same (.refl _)⟩)
theorem aiX{f:FuncId}{ys:List AV}{l:List Int}(h:∀σ,Sx.Spec prog f ys σ fun r af=>∃t b u c,r= .ret (.own 1 t b u c (cD l))/\Sx.Sub ((t,b,.tail u c)::σ) af):Pure prog f ys (.sl false 1 (cD l)):=
 ⟨fun σ M w0 w cs hI hR=>(h σ M w0 w cs hI hR).mono fun e w' ⟨M',r,af,hM,bg,hr,t,b,u,c,e1,hs⟩=>by
  subst e1;refine⟨M',.ret (.sl false 1 (cD l)),σ,hM,bg.sub (Sx.Sub.trans (.cons (.refl _)) hs),?_,rfl,rfl⟩;cases e with
  |returned v=>exact Sx.R.Si hr false|_=>exact hr.elim⟩
theorem G9(n m:Nat):∀(z:Int),aJ (n+m) z=aJ n z++aJ m (qn n z):=by
 induction n with
 |zero=>intro z;rw[ZH];rfl|succ n ih=>intro z;rw[Nat.add_right_comm];exact Zk (_::·) (ih _)
theorem Nd(z:Int):aJ 4 (z%18446744073709551616)=aJ 4 z:=by simp only[aJ,Z2,Zn];refine⟨by omega,by omega,by omega,by omega⟩
theorem Nf{z:Int}(h: -1000<=z/\z<=1000):aJ 4 (dO z)++aJ 4 (IntKind.u64.wrap (eI z))=aJ 8 z:=by rw[IntKind.wrap_u64,Nd,show dO z=z%18446744073709551616 from rfl,Nd,G9 4 4 z];simp only[qn];unfold eI;grind
theorem Ng{z:Int}(h: -1000<=z/\z<=1000)(L:Nat)(σ:Store):Sx.Spec prog 390 [wA z] σ fun r af=>∃(b cap:Nat) (pre post:List AV),8<=cap/\cap<=maxLen/\r= .ret (.ms L b pre.length 8 cap)/\af=(L,b,.cells (pre++(aJ 8 z).map iv++post))::σ:=by have h1:=ak8 (Nh (eI z) (dO z) (by unfold dO;omega) []) (by simp[aJ]) L σ;rw[Nf h,fK]at h1;grind
theorem CV{z:Int}(h: -1000<=z/\z<=1000):Pure prog 390 [wA z] (.sl false 1 (cD (aJ 8 z))):=by have h1:=aiX (Nh (eI z) (dO z) (by unfold dO;omega));rw[Nf h]at h1;grind
theorem Ez{n:Int}(hn: -1000<=n/\n<=1000):Pure prog 377 [iv n] (wA n):=by
 refine agX.p fun σ=>?_;repeat'(first|exact .nil|refine .k ?_|(refine .cd ?_ ?_<;>(intro hc))|refine .r1 ?_ ?_|refine .l1 fun b=>?_|fail)
 all_goals
  first|rw[show wA n= .agg [iv (-1),uv (dO n)] by unfold wA eI;grind]|rw[show wA n= .agg [iv 0,uv (dO n)] by unfold wA eI;grind]
  exact Zw
def jm:List Int->Int
 |[]=>0|d::l=>d+65536*jm l
theorem Ls:∀(n:Nat) (z:Int),jm (aJ n z)=z-qn n z*65536^n
 |0,z=>by simp[jm,aJ,qn]|n+1,z=>by simp only[jm,aJ,qn,Ls n,Int.pow_succ];grind
theorem Lr:∀(l:List Int),(∀x∈l,0<=x/\x<65536)->0<=jm l/\jm l<65536^l.length
 |[],_=>by simp[jm]|d::l,h=>by have h1:=h d ZK;have h2:=Lr l fun x hx=>h x (ZN _ hx);simp only[jm,ZY,Int.pow_succ];omega
theorem Uf{l:List Int}{m:Nat}(h:m<l.length):jm (l.drop m)=l.getD m default+65536*jm (l.drop (m+1)):=by rw[List.drop_eq_getElem_cons h,getD_eq h];rfl
theorem ahC(d:List Int)(hl:d.length=8)(hb:∀x∈d,0<=x/\x<65536):Pure prog 391 [.sl false 1 (cD d)] (.agg [iv (IntKind.i64.wrap (jm (d.drop 4))),uv (jm (d.take 4))]):=by
 refine ag1.p fun σ=>?_;repeat'(first|exact .nil|refine .k ?_|refine .r1 ?_ ?_|refine .l1 fun b=>?_|fail)
 all_goals(try grind)
 refine aP (fun m rg af=>m<=4/\af=(2,b,.cells [iv 0,uv 0])::σ/\rg=[(0,.sl false 1 (cD d)),(2,.lp 2 b 0),(3,uv (jm ((d.take 4).drop m))),(4,uv (jm ((d.drop 4).drop m))),(5,iv ((m:Int)-1))]) 4 rfl ⟨_,_,Zr,Zs,ZO _,rfl,by rw[Yy (by grind),Yy (by grind)];rfl⟩ ?_;rintro m _ _ ⟨hm,rfl,rfl⟩;have kJ:=Lr ((d.take 4).drop m) fun x hx=>hb x (YT (YP hx));have hbh:=Lr ((d.drop 4).drop m) fun x hx=>hb x (YP (YP hx));repeat'(first|exact .nil|refine .k ?_|(refine .cd ?_ ?_<;>intro hc)|refine .r1 ?_ ?_|refine .t1 ?_ ?_ ?_|fail)
 try any_goals((intro ar;(simp only[BL]at*;omega)))
 all_goals(try simp only[BL]at*)
 .obtain⟨k,rfl⟩:∃k,m=k+1:=⟨m-1,by omega⟩
  have hk:k<4:=by omega
  have e1:=Uf (l:=d.take 4) (m:=k) (by simp;omega);have e2:=Uf (l:=d.drop 4) (m:=k) (by simp;omega);rw[show((k+1:Nat):Int)-1=k by omega,bn (n:=(k:Int)+4) (by omega),bn (n:=(k:Int)-1) (by omega),show(k:Int).toNat=k from rfl,show((k:Int)+4).toNat=k+4 by omega];have g1:(d.take 4).getD k default=d.getD k default:=by simp[Z1,YV,hk]
  have g2:(d.drop 4).getD k default=d.getD (k+4) default:=by simp[Z1,Nat.add_comm]
  rw[g1]at e1;rw[g2]at e2;have kU:=hb _ (bN (l:=d) (i:=k) (by omega));have eu:=hb _ (bN (l:=d) (i:=k+4) (by omega));have hp:(65536:Int)^(3-k)<=281474976710656:=by
   have:k=0\/k=1\/k=2\/k=3:=by omega
   rcases this with rfl|rfl|rfl|rfl<;>decide
  have oQ:(List.drop (k+1) (List.take 4 d)).length=3-k:=by simp;omega
  have qa:(List.drop (k+1) (List.drop 4 d)).length=3-k:=by simp;omega
  rw[oQ]at kJ;rw[qa]at hbh;refine⟨k,by omega,_,_,Zr,Zs,by omega,rfl,?_⟩;rw[e1,e2];generalize jm (List.drop (k+1) (List.take 4 d))=A at*;generalize jm (List.drop (k+1) (List.drop 4 d))=B at*;simp only[IntKind.wrap_u64];have hA:A<281474976710656:=by omega
  have hB:B<281474976710656:=by omega
  clear hp oQ qa;rw[show(A*65536%18446744073709551616+d.getD k default%18446744073709551616)%18446744073709551616=d.getD k default+65536*A by omega,show(B*65536%18446744073709551616+d.getD (k+4) default%18446744073709551616)%18446744073709551616=d.getD (k+4) default+65536*B by omega]
 .rw[bn (by omega)];omega
 .rw[show m=0 by omega];exact Zw
theorem Ry{z:Int}(h: -1000<=z/\z<=1000):Pure prog 391 [.sl false 1 (cD (aJ 8 z))] (wA z):=by
 have h1:=ahC (aJ 8 z) (fK _ _) (j1 _ _);have e1:jm ((aJ 8 z).take 4)=dO z:=by rw[G9 4 4 z,Y2 (fK _ _),Ls];simp only[qn];unfold dO;omega
 have e2:IntKind.i64.wrap (jm ((aJ 8 z).drop 4))=eI z:=by rw[G9 4 4 z,List.drop_left' (fK _ _),Ls,IntKind.wrap_i64];simp only[qn];unfold eI;omega
 grind
theorem MN:∀(n:Nat) (a b s:Int),jq (s-a-b) (List.zipWith (·+·) (aJ n a) (aJ n b))=aJ n s
 |0,_,_,_=>rfl|n+1,a,b,s=>by simp only[aJ,List.zipWith_cons_cons,jq];rw[show(a%65536+b%65536+(s-a-b)) / 65536=s / 65536-a / 65536-b / 65536 by omega,MN n,show(a%65536+b%65536+(s-a-b))%65536=s%65536 by omega]
theorem GQ:∀(n:Nat) (a b s:Int),jq (s-a+b) (List.zipWith (·- ·) (aJ n a) (aJ n b))=aJ n s
 |0,_,_,_=>rfl|n+1,a,b,s=>by simp only[aJ,List.zipWith_cons_cons,jq];rw[show(a%65536-b%65536+(s-a+b)) / 65536=s / 65536-a / 65536+b / 65536 by omega,GQ n,show(a%65536-b%65536+(s-a+b))%65536=s%65536 by omega]
theorem MQ:∀(n:Nat) (a s:Int),jq (s-2*a) ((aJ n a).map (2 * ·))=aJ n s
 |0,_,_=>rfl|n+1,a,s=>by simp only[aJ,Zz,jq];rw[show(2*(a%65536)+(s-2*a)) / 65536=s / 65536-2*(a / 65536) by omega,MQ n,show(2*(a%65536)+(s-2*a))%65536=s%65536 by omega]
theorem Ia{pre ls post:List AV}{i:Nat}{y:AV}(h:ls[i]? =some y):(pre++ls++post)[pre.length+i]? =some y:=by obtain⟨hi,_⟩:=ZG.1 h;rw[Zq,X1 (by omega),Nat.add_sub_cancel_left,YR hi,h]
theorem Ki{pre ls post:List AV}{i:Nat}{y:AV}(h:i<ls.length):over (pre++ls++post) (pre.length+i) [y]=pre++ls.set i y++post/\pre.length+i+1<=(pre++ls++post).length:=by
 refine⟨?_,by simp;omega⟩;unfold over;have e1:(pre++ls++post).take (pre.length+i)=pre++ls.take i:=by rw[Zq,List.take_length_add_append,Zg (by omega)]
 have e2:(pre++ls++post).drop (pre.length+i+[y].length)=ls.drop (i+1)++post:=by rw[Zq,Y1,XK,List.drop_length_add_append,List.drop_append_of_le_length (by omega)]
 rw[e1,e2,List.set_eq_take_append_cons_drop,Z3 h];simp
def kV(l l':List Int)(i:Nat):List Int:=l'.take i++l.drop i
theorem Rt{l l':List Int}{i:Nat}(h:i<l.length)(h':i<l'.length):((kV l l' i).map iv)[i]? =some (iv (l.getD i default)):=by unfold kV;rw[X6,X1 (by simp;omega),ZL,Ys (by omega),Nat.sub_self,YE,Yr,ZX h,getD_eq h];rfl
theorem Rv{l l':List Int}{i:Nat}(h:i<l.length)(h':i<l'.length):((kV l l' i).map iv).set i (iv (l'.getD i default))=(kV l l' (i+1)).map iv:=by unfold kV;rw[<-List.map_set,List.set_append_right _ _ (by simp;omega),ZL,Ys (by omega),Nat.sub_self,List.drop_eq_getElem_cons h,Zh,ZU h',<-getD_eq h',Zq];rfl
theorem Ru{l l':List Int}{i:Nat}(h:l'.length=l.length)(hi:i<=l.length):(kV l l' i).length=l.length:=by unfold kV;simp;omega
theorem F1{f:Int->Int->Int}:∀(l l':List Int),∀z∈List.zipWith f l l',∃x∈l,∃y∈l',z=f x y
 |[],_,z,h=>by simp at h|_::_,[],z,h=>by simp at h|x::l,y::l',z,h=>by
  rw[List.zipWith_cons_cons]at h;rcases ZR.1 h with rfl|h
  .exact⟨x,ZK,y,ZK,rfl⟩
  .obtain⟨x',hx,y',hy,e⟩:=F1 l l' z h;exact⟨x',ZN _ hx,y',ZN _ hy,e⟩
theorem LS{f:Int->Int->Int}{l l':List Int}{i:Nat}(h:i<l.length)(h':i<l'.length):(List.zipWith f l l').getD i default=f (l.getD i default) (l'.getD i default):=by rw[getD_eq (by rw[List.length_zipWith];omega),getD_eq h,getD_eq h',List.getElem_zipWith]
theorem WX{n k:Int}(ha: -1000<=n/\n<=1000)(hb: -1000<=k/\k<=1000)(hs: -1000<=n+k/\n+k<=1000):Pure prog 378 [wA n,wA k] (wA (n+k)):=by
 have hM:=Ry hs;have hC:=CC (List.zipWith (·+·) (aJ 8 n) (aJ 8 k)) (by simp[fK]) (fun x hx=>by
  obtain⟨y,hy,z,hz,rfl⟩:=F1 _ _ _ hx;have h1:=j1 _ _ _ hy;have h2:=j1 _ _ _ hz
  omega)
 have h0:=MN 8 n k (n+k);rw[show n+k-n-k=0 by omega]at h0;rw[h0]at hC;refine agY.p fun σ=>?_;repeat'(first|exact .nil|refine .k ?_|refine .r1 ?_ ?_|refine .l1 fun b=>?_|(refine .m1 ?_ ?_;intro b)|fail)
 all_goals(try simp only[BL]at*)
 refine uP rfl (Ng ha 50 _) OB.nil (fun x af hR=>?_) (fun ch af hR=>?_)
 rotate_left
 .obtain⟨_,_,_,_,_,_,h,_⟩:=hR;cases h
 obtain⟨bx,cap,pre,post,bC,bO,e1,e2⟩:=hR;cases e1;subst e2;repeat'(first|exact .nil|refine .k ?_|refine .r1 ?_ ?_|fail)
 refine .an rfl (fun _=>CV hb) ?_ ?_;repeat'(first|exact .nil|refine .k ?_|refine .r1 ?_ ?_|fail)
 have ct:(aJ 8 n).length=8:=fK _ _;have vZ:(aJ 8 k).length=8:=fK _ _;have lX:=j1 8 n;have AX:=j1 8 k;have oY:(List.zipWith (·+·) (aJ 8 n) (aJ 8 k)).length=8:=by rw[List.length_zipWith,ct,vZ];rfl
 have tU:=fun(i:Nat) (h:i<8)=>LS (f:=(·+·)) (l:=aJ 8 n) (l':=aJ 8 k) (i:=i) (by omega) (by omega);generalize aJ 8 n=X at*;generalize aJ 8 k=Y at*;generalize hZ:List.zipWith (·+·) X Y=Z at*;refine aP (fun m rg af=>∃(i:Nat),i<=8/\m=8-i/\af=(50,bx,.cells (pre++(kV X Z i).map iv++post))::(4,b,.cells [iv 0,uv 0])::σ/\rg=[(4,.lp 4 b 0),(5,.ms 50 bx pre.length 8 cap),(6,.sl false 1 (cD Y)),(7,iv i)]) 8 rfl ⟨_,_,Zr,Zs,0,Z4 _,rfl,rfl,rfl⟩ ?_;rintro m _ _ ⟨i,hi,hm,rfl,rfl⟩;repeat'((fail_if_success (show WK _ _ _ _ (.bh (⟨some 28,_,_⟩::_)) _ _ _));(first|exact .nil|refine .k ?_|(refine .cd ?_ ?_<;>intro hc)|refine .r1 ?_ ?_|refine .r8 ?_ ?_|fail))
 all_goals(try simp only[BL]at*)
 .omega
 .refine Mq (y:=iv (X.getD i default)) rfl rfl rfl (by rw[Yt];exact Ia (Rt (by omega) (by omega))) rfl OB.nil ?_;repeat'(first|exact .nil|refine .k ?_|refine .r1 ?_ ?_|refine .t1 ?_ ?_ ?_|refine .r8 ?_ ?_|fail)
  try any_goals((intro ar;first|(simp_all;done)|fail))
  all_goals(try simp only[BL]at*)
  .omega
  have hw:IntKind.i64.wrap (X.getD i default+Y.getD i default)=Z.getD i default:=by have h1:=lX _ (bN (l:=X) (i:=i) (by omega));have h2:=AX _ (bN (l:=Y) (i:=i) (by omega));rw[tU i (by omega),bn (by omega)]
  refine Mr (cs':=pre++(kV X Z (i+1)).map iv++post) rfl rfl rfl rfl rfl (by rw[Yt,<-Rv (by omega) (by omega),hw];exact Ki (by rw[Z5,Ru (by omega) (by omega)];omega)) rfl OB.nil ?_;repeat'(first|exact .nil|refine .k ?_|refine .r1 ?_ ?_|fail)
  exact⟨m-1,by omega,_,_,Zr,Zs,i+1,by omega,by omega,rfl,by rw[bn (by omega)];rfl⟩
 .rw[show i=8 by omega,show kV X Z 8=Z by unfold kV;rw[ZM (by omega),Yy (by omega),Y5]];refine Cp (ls:=Z.map iv) (by repeat' first|exact .here|fail) (by rw[Z5,oY]) ⟨bC,bO⟩ (.same (.m .nil)) ?_;rw[<-KH];repeat'(first|exact .nil|refine .k ?_|refine .r1 ?_ ?_|fail)
  refine .an rfl (fun _=>hC) ?_ ?_;repeat'(first|exact .nil|fail)
  refine .an rfl (fun _=>hM) ?_ ?_;repeat'(first|exact .nil|refine .k ?_|refine .r1 ?_ ?_|fail)
  exact Zw
theorem alp{n k:Int}(ha: -1000<=n/\n<=1000)(hb: -1000<=k/\k<=1000)(hs: -1000<=n-k/\n-k<=1000):Pure prog 408 [wA n,wA k] (wA (n-k)):=by
 have hM:=Ry hs;have hC:=CC (List.zipWith (·- ·) (aJ 8 n) (aJ 8 k)) (by simp[fK]) (fun x hx=>by
  obtain⟨y,hy,z,hz,rfl⟩:=F1 _ _ _ hx;have h1:=j1 _ _ _ hy;have h2:=j1 _ _ _ hz
  omega)
 have h0:=GQ 8 n k (n-k);rw[show n-k-n+k=0 by omega]at h0;rw[h0]at hC;refine ag8.p fun σ=>?_;repeat'(first|exact .nil|refine .k ?_|refine .r1 ?_ ?_|refine .l1 fun b=>?_|(refine .m1 ?_ ?_;intro b)|fail)
 all_goals(try simp only[BL]at*)
 refine uP rfl (Ng ha 50 _) OB.nil (fun x af hR=>?_) (fun ch af hR=>?_)
 rotate_left
 .obtain⟨_,_,_,_,_,_,h,_⟩:=hR;cases h
 obtain⟨bx,cap,pre,post,bC,bO,e1,e2⟩:=hR;cases e1;subst e2;repeat'(first|exact .nil|refine .k ?_|refine .r1 ?_ ?_|fail)
 refine .an rfl (fun _=>CV hb) ?_ ?_;repeat'(first|exact .nil|refine .k ?_|refine .r1 ?_ ?_|fail)
 have ct:(aJ 8 n).length=8:=fK _ _;have vZ:(aJ 8 k).length=8:=fK _ _;have lX:=j1 8 n;have AX:=j1 8 k;have oY:(List.zipWith (·- ·) (aJ 8 n) (aJ 8 k)).length=8:=by rw[List.length_zipWith,ct,vZ];rfl
 have tU:=fun(i:Nat) (h:i<8)=>LS (f:=(·- ·)) (l:=aJ 8 n) (l':=aJ 8 k) (i:=i) (by omega) (by omega);generalize aJ 8 n=X at*;generalize aJ 8 k=Y at*;generalize hZ:List.zipWith (·- ·) X Y=Z at*;refine aP (fun m rg af=>∃(i:Nat),i<=8/\m=8-i/\af=(50,bx,.cells (pre++(kV X Z i).map iv++post))::(4,b,.cells [iv 0,uv 0])::σ/\rg=[(4,.lp 4 b 0),(5,.ms 50 bx pre.length 8 cap),(6,.sl false 1 (cD Y)),(7,iv i)]) 8 rfl ⟨_,_,Zr,Zs,0,Z4 _,rfl,rfl,rfl⟩ ?_;rintro m _ _ ⟨i,hi,hm,rfl,rfl⟩;repeat'((fail_if_success (show WK _ _ _ _ (.bh (⟨some 28,_,_⟩::_)) _ _ _));(first|exact .nil|refine .k ?_|(refine .cd ?_ ?_<;>intro hc)|refine .r1 ?_ ?_|refine .r8 ?_ ?_|fail))
 all_goals(try simp only[BL]at*)
 .omega
 .refine Mq (y:=iv (X.getD i default)) rfl rfl rfl (by rw[Yt];exact Ia (Rt (by omega) (by omega))) rfl OB.nil ?_;repeat'(first|exact .nil|refine .k ?_|refine .r1 ?_ ?_|refine .t1 ?_ ?_ ?_|refine .r8 ?_ ?_|fail)
  try any_goals((intro ar;first|(simp_all;done)|fail))
  all_goals(try simp only[BL]at*)
  .omega
  have hw:IntKind.i64.wrap (X.getD i default-Y.getD i default)=Z.getD i default:=by have h1:=lX _ (bN (l:=X) (i:=i) (by omega));have h2:=AX _ (bN (l:=Y) (i:=i) (by omega));rw[tU i (by omega),bn (by omega)]
  refine Mr (cs':=pre++(kV X Z (i+1)).map iv++post) rfl rfl rfl rfl rfl (by rw[Yt,<-Rv (by omega) (by omega),hw];exact Ki (by rw[Z5,Ru (by omega) (by omega)];omega)) rfl OB.nil ?_;repeat'(first|exact .nil|refine .k ?_|refine .r1 ?_ ?_|fail)
  exact⟨m-1,by omega,_,_,Zr,Zs,i+1,by omega,by omega,rfl,by rw[bn (by omega)];rfl⟩
 .rw[show i=8 by omega,show kV X Z 8=Z by unfold kV;rw[ZM (by omega),Yy (by omega),Y5]];refine Cp (ls:=Z.map iv) (by repeat' first|exact .here|fail) (by rw[Z5,oY]) ⟨bC,bO⟩ (.same (.m .nil)) ?_;rw[<-KH];repeat'(first|exact .nil|refine .k ?_|refine .r1 ?_ ?_|fail)
  refine .an rfl (fun _=>hC) ?_ ?_;repeat'(first|exact .nil|fail)
  refine .an rfl (fun _=>hM) ?_ ?_;repeat'(first|exact .nil|refine .k ?_|refine .r1 ?_ ?_|fail)
  exact Zw
theorem ah4{n:Int}(hn: -1000<=n/\n<=1000):Pure prog 404 [wA n] (wA (-n)):=by
 have h0:=Ez (n:=0) (by omega);have h1:=alp (n:=0) (k:=n) (by omega) hn (by omega);rw[Int.zero_sub]at h1;refine ag7.p fun σ=>?_;repeat'(first|exact .nil|refine .k ?_|refine .r1 ?_ ?_|refine .l1 fun b=>?_|(refine .m1 ?_ ?_;intro b)|refine .an rfl (by intro ar;first|exact h0|exact h1|fail) ?_ ?_|fail)
 all_goals(try simp only[BL]at*)
 exact Zw
theorem Tp{n:Int}(hn: -1000<=n/\n<=1000):Pure prog 393 [wA n] (.sl false 1 (cD (aJ 8 n.natAbs))):=by
 have h0:=ah4 hn;have h1:=CV (z:= -n) (by omega);have h2:=CV hn;refine ag3.p fun σ=>?_;repeat'(first|exact .nil|refine .k ?_|(refine .cd ?_ ?_<;>intro hc)|refine .r1 ?_ ?_|(refine .m1 ?_ ?_;intro b)|refine .an rfl (by intro ar;first|exact h0|exact h1|exact h2|fail) ?_ ?_|fail)
 all_goals(try simp only[BL]at*)
 .rw[show(n.natAbs:Int)= -n by unfold eI at hc;split at hc<;>omega];exact Zw
 .rw[show(n.natAbs:Int)=n by unfold eI at hc;split at hc<;>omega];exact Zw
def sY(a b:List Int):Nat->Bool
 |0=>false|m+1=>if a.getD m default=b.getD m default then sY a b m else decide (a.getD m default<b.getD m default)
theorem GH(a b:List Int)(ha:a.length=8)(hb:b.length=8):Pure prog 395 [.sl false 1 (cD a),.sl false 1 (cD b)] (.v (.bool (sY a b 8))):=by
 refine ag5.p fun σ=>?_;repeat'(first|exact .nil|refine .k ?_|refine .r1 ?_ ?_|fail)
 all_goals(try simp only[BL]at*)
 refine aP (fun m rg af=>m<=8/\sY a b 8=sY a b m/\af=σ/\rg=[(0,.sl false 1 (cD a)),(1,.sl false 1 (cD b)),(5,iv ((m:Int)-1))]) 8 rfl ⟨_,_,Zr,Zs,ZO _,rfl,rfl,rfl⟩ ?_;rintro m _ _ ⟨hm,hp,rfl,rfl⟩;repeat'(first|exact .nil|refine .k ?_|(refine .cd ?_ ?_<;>intro hc)|refine .r1 ?_ ?_|refine .t1 ?_ ?_ ?_|fail)
 try any_goals((intro ar;(simp only[BL]at*;omega)))
 all_goals(try simp only[BL]at*)
 .obtain⟨j,rfl⟩:∃j,m=j+1:=⟨m-1,by omega⟩
  rw[show(((j+1:Nat):Int)-1).toNat=j by omega]at hc|-;rw[hp,show sY a b (j+1)=_ from Z9 hc];exact Zw
 .obtain⟨j,rfl⟩:∃j,m=j+1:=⟨m-1,by omega⟩
  rw[show(((j+1:Nat):Int)-1).toNat=j by omega]at hc;exact⟨j,by omega,_,_,Zr,Zs,by omega,by rw[hp];exact Z3 hc,rfl,by rw[bn (by omega),show((j+1:Nat):Int)-1-1=j-1 by omega]⟩
 .rw[hp,show m=0 by omega];exact Zw
theorem ahK{n k:Int}:Pure prog 396 [.sl false 1 (cD (aJ 8 n)),.sl false 1 (cD (aJ 8 k))] (.sl false 1 (cD (aJ 8 (n-k)))):=by
 have hC:=CC (List.zipWith (·- ·) (aJ 8 n) (aJ 8 k)) (by simp[fK]) (fun x hx=>by
  obtain⟨y,hy,z,hz,rfl⟩:=F1 _ _ _ hx;have h1:=j1 _ _ _ hy;have h2:=j1 _ _ _ hz
  omega)
 have h0:=GQ 8 n k (n-k);rw[show n-k-n+k=0 by omega]at h0;rw[h0]at hC;refine ag6.p fun σ=>?_;repeat'(first|exact .nil|refine .k ?_|refine .r1 ?_ ?_|fail)
 all_goals(try simp only[BL]at*)
 have ct:(aJ 8 n).length=8:=fK _ _;have vZ:(aJ 8 k).length=8:=fK _ _;have lX:=j1 8 n;have AX:=j1 8 k;have oY:(List.zipWith (·- ·) (aJ 8 n) (aJ 8 k)).length=8:=by rw[List.length_zipWith,ct,vZ];rfl
 have tU:=fun(i:Nat) (h:i<8)=>LS (f:=(·- ·)) (l:=aJ 8 n) (l':=aJ 8 k) (i:=i) (by omega) (by omega);generalize aJ 8 n=X at*;generalize aJ 8 k=Y at*;generalize hZ:List.zipWith (·- ·) X Y=Z at*;refine aP (fun m rg af=>∃(i:Nat) (x:AV) (U:Store),i<=8/\m=8-i/\jR 22 (cD (Z.take i)) x U/\af=U++σ/\rg=[(0,.sl false 1 (cD X)),(1,.sl false 1 (cD Y)),(5,x),(6,iv i)]) 8 rfl ⟨_,_,Zr,Zs,0,_,_,Z4 _,rfl,jR.z,rfl,rfl⟩ ?_;rintro m _ _ ⟨i,x,U,hi,hm,hR,rfl,rfl⟩;rcases hR with⟨hE,rfl,rfl⟩|⟨b3,u3,c3,rfl,rfl⟩
 all_goals
  repeat'(first|exact .nil|refine .k ?_|(refine .cd ?_ ?_<;>intro hc)|refine .r1 ?_ ?_|refine .t1 ?_ ?_ ?_|refine .u1 ?_ ?_ ?_ (fun b u c=>?_)|refine .u2 ?_ ?_ ?_ (fun b u c=>?_)|(show List.all _ _=true;rfl)|fail)
  try any_goals((intro ar;first|(simp_all;done)|fail))
  all_goals(try simp only[BL]at*)
  all_goals try(show(_:Nat)<=_;simp only[Z5,ZL,ZY,ZP];omega)
  .have h1:=lX _ (bN (l:=X) (i:=i) (by omega));have h2:=AX _ (bN (l:=Y) (i:=i) (by omega));have e:=EW (a:=Z.take (i+1)) (b:=Z.take i) (by rw[ZU (by omega),<-getD_eq (by omega),tU i (by omega)]);rw[bn (n:=X.getD i default-Y.getD i default) (by omega)];refine⟨m-1,by omega,_,_,Zr,Zs,i+1,_,_,by omega,by omega,jR.s ?_,rfl,by rw[bn (by omega)];rfl⟩;rw[e];first|(rw[hE];rfl)|rfl
  .have tG:Z.take i=Z:=ZM (by omega)
   first|(have h:=Zk List.length hE;rw[tG,Z5,oY]at h;cases h;done)|(
    rw[tG];refine .an rfl (fun _=>hC.wk ?_) ?_ ?_
    .repeat' first|exact .refl _|refine .cons ?_ ?_|exact .own _
    repeat'(first|exact .nil|refine .k ?_|refine .r1 ?_ ?_|fail)
    exact Zw)
theorem T3{n k:Int}(hk:k=0\/k=1):Pure prog 394 [.sl false 1 (cD (aJ 8 n)),iv k] (.sl false 1 (cD (aJ 8 (2*n+k)))):=by
 have ct:(aJ 8 n).length=8:=fK _ _;have lX:=j1 8 n;have hC:=CC (((aJ 8 n).map (2 * ·)).set 0 (2*(aJ 8 n).getD 0 default+k)) (by simp[fK]) (fun x hx=>by
  rcases List.mem_or_eq_of_mem_set hx with hx|rfl
  .obtain⟨y,hy,rfl⟩:=Ze.1 hx;have h1:=lX _ hy;omega
  .have h1:=lX _ (bN (l:=aJ 8 n) (i:=0) (by omega))
   omega)
 have h0:jq 0 (((aJ 8 n).map (2 * ·)).set 0 (2*(aJ 8 n).getD 0 default+k))=aJ 8 (2*n+k):=by show jq 0 ((2*(n%65536)+k)::(aJ 7 (n / 65536)).map (2 * ·))=_;have:=MQ 7 (n / 65536) ((2*n+k) / 65536);simp only[jq];rw[show(2*(n%65536)+k+0) / 65536=(2*n+k) / 65536-2*(n / 65536) by omega,this,show(2*(n%65536)+k+0)%65536=(2*n+k)%65536 by omega];rfl
 rw[h0]at hC;have oY:((aJ 8 n).map (2 * ·)).length=8:=by rw[Z5,ct]
 have tU:∀i,i<8->((aJ 8 n).map (2 * ·)).getD i default=2*(aJ 8 n).getD i default:=fun i h=>by rw[getD_eq (by omega),getD_eq (by omega),Zv]
 generalize aJ 8 n=X at*;generalize hZ:X.map (2 * ·)=Z at*;refine ag4.p fun σ=>?_;repeat'((fail_if_success (show WK _ _ _ _ (.seq (.bh (⟨some 6,_,_⟩::_)) _) _ _ _));(first|exact .nil|refine .k ?_|refine .r1 ?_ ?_|fail))
 refine WE Z 1 5 (.int .i64 k) 50 (by intro e;rw[e]at oY;cases oY) ?_ fun b cap pre post bC bO=>?_
 .repeat'(first|exact .nil|refine .k ?_|refine .r1 ?_ ?_|fail)
  refine aP (fun m rg af=>∃(i:Nat) (x:AV) (U:Store),i<=8/\m=8-i/\jR 18 (cD (Z.take i)) x U/\af=U/\rg=[(0,.sl false 1 (cD X)),(1,iv k),(5,x),(6,iv i)]) 8 rfl ⟨_,_,Zr,Zs,0,_,_,Z4 _,rfl,jR.z,rfl,rfl⟩ ?_;rintro m _ _ ⟨i,x,U,hi,hm,hR,rfl,rfl⟩;rcases hR with⟨hE,rfl,rfl⟩|⟨b3,u3,c3,rfl,rfl⟩
  all_goals
   repeat'(first|exact .nil|refine .k ?_|(refine .cd ?_ ?_<;>intro hc)|refine .r1 ?_ ?_|refine .t1 ?_ ?_ ?_|refine .u1 ?_ ?_ ?_ (fun b u c=>?_)|refine .u2 ?_ ?_ ?_ (fun b u c=>?_)|(show List.all _ _=true;rfl)|fail)
   try any_goals((intro ar;first|(simp_all;done)|fail))
   all_goals(try simp only[BL]at*)
   all_goals try(show(_:Nat)<=_;simp only[Z5,ZL,ZY,ZP];omega)
   .have h1:=lX _ (bN (l:=X) (i:=i) (by omega));have e:=EW (a:=Z.take (i+1)) (b:=Z.take i) (by rw[ZU (by omega),<-getD_eq (by omega),tU i (by omega)]);rw[bn (n:=2*X.getD i default) (by omega)];refine⟨m-1,by omega,_,_,Zr,Zs,i+1,_,_,by omega,by omega,jR.s ?_,rfl,by rw[bn (by omega)];rfl⟩;rw[e];first|(rw[hE];rfl)|rfl
   .have tG:Z.take i=Z:=ZM (by omega)
    first|(have h:=Zk List.length hE;rw[tG,Z5,oY]at h;cases h;done)|(
     rw[tG]
     exact⟨trivial,rfl,_,_,_,_,rfl,.refl _⟩)
 .repeat'((fail_if_success (show WK _ _ _ _ (.bh (⟨some 26,_,_⟩::_)) _ _ _));(first|exact .nil|refine .k ?_|refine .r1 ?_ ?_|refine .r8 ?_ ?_|fail))
  .omega
  have h1:=lX _ (bN (l:=X) (i:=0) (by omega));have ew:=tU 0 (by omega);refine Gm (y:=iv (Z.getD 0 default)) rfl rfl rfl (Ia (i:=0) (by rw[X6,ZX (by omega),getD_eq (by omega)];rfl)) OB.nil ?_;repeat'((fail_if_success (show WK _ _ _ _ (.bh (⟨some 26,_,_⟩::_)) _ _ _));(first|exact .nil|refine .k ?_|refine .r1 ?_ ?_|refine .r8 ?_ ?_|fail))
  all_goals try any_goals((intro ar;fail))
  .omega
  refine Cn (cs':=pre++(Z.set 0 (2*X.getD 0 default+k)).map iv++post) rfl rfl rfl rfl rfl (by rw[ew,bn (by omega),List.map_set];exact Ki (i:=0) (by rw[Z5];omega)) OB.nil ?_;repeat'((fail_if_success (show WK _ _ _ _ (.bh (⟨some 26,_,_⟩::_)) _ _ _));(first|refine .k ?_|fail))
  refine Cp (ls:=(Z.set 0 (2*X.getD 0 default+k)).map iv) (by repeat' first|exact .here|fail) (by rw[Z5,XB]) ⟨bC,bO⟩ (.m .nil) ?_;rw[<-KH];repeat'(first|exact .nil|refine .k ?_|refine .r1 ?_ ?_|fail)
  refine .an rfl (fun _=>hC) ?_ ?_;repeat'(first|exact .nil|refine .k ?_|refine .r1 ?_ ?_|fail)
  exact Zw
theorem abK{A:Nat}(h:A<=1000):aJ 8 (A:Int)=[(A:Int),0,0,0,0,0,0,0]:=by simp only[aJ,Z2,Zn];refine⟨by omega,by omega,by omega,by omega,by omega,by omega,by omega,by omega⟩
theorem aaC{A i:Nat}(h:A<=1000)(hi:i<128):((aJ 8 (A:Int)).getD (i / 16) default / 2^(i%16))%2=((A / 2^i%2:Nat):Int):=by
 rw[abK h];by_cases h16:i<16
 .rw[show i / 16=0 by omega,show i%16=i by omega];show((A:Int) / 2^i)%2=_
  norm_cast
 .have hp:(2:Nat)^16<=2^i:=Nat.pow_le_pow_right (by decide) (by omega);rw[Nat.div_eq_of_lt (a:=A) (by omega)];have:i / 16=1\/i / 16=2\/i / 16=3\/i / 16=4\/i / 16=5\/i / 16=6\/i / 16=7:=by omega
  rcases this with e|e|e|e|e|e|e<;>(rw[e];show(0 / _:Int)%2=_;rw[Int.zero_ediv];rfl)
theorem ab0{n:Int}(hn: -1000<=n/\n<=1000):Pure prog 379 [wA n,iv 1] (.aG [iv n,.v (.bool true)]):=by
 have h0:=Tp hn;have h1:=Ez (n:=1) (by omega);have h2:=Tp (n:=1) (by omega);rw[show((1:Int).natAbs:Int)=1 from rfl]at h2;have oH:=T3 (n:=0) (k:=0) (.inl rfl);have OY:=T3 (n:=0) (k:=1) (.inr rfl);have hM:=ahK (n:=1) (k:=1);rw[show(2*0+0:Int)=0 from rfl]at oH;rw[show(2*0+1:Int)=1 from rfl]at OY;rw[show(1-1:Int)=0 from rfl]at hM;have vi:=GH (aJ 8 0) (aJ 8 1) (fK _ _) (fK _ _);have OM:=GH (aJ 8 1) (aJ 8 1) (fK _ _) (fK _ _);have Ij:=GH (aJ 8 1) (aJ 8 0) (fK _ _) (fK _ _);rw[show sY (aJ 8 0) (aJ 8 1) 8=true by decide]at vi;rw[show sY (aJ 8 1) (aJ 8 1) 8=false by decide]at OM;rw[show sY (aJ 8 1) (aJ 8 0) 8=false by decide]at Ij;have hA:n.natAbs<=1000:=by omega
 have O7:=fun i (hi:i<128)=>aaC (i:=i) hA hi;have DE:=j1 8 (n.natAbs:Int);have iN:=fK 8 (n.natAbs:Int);generalize aJ 8 (n.natAbs:Int)=D at*;obtain⟨i0,q1,q2,q3,q4⟩:∃i0,prog.info? 3=some i0/\i0.zero=some (.int .i64 0)/\i0.size=1/\i0.bytes=8:=⟨_,rfl,rfl,rfl,rfl⟩
 have e:∀i:Nat,i<128->(D.getD (IntKind.i64.wrap ((((i+1:Nat):Int)-1).tdiv 16)).toNat default / 2^((((i+1:Nat):Int)-1).tmod 16).toNat).tmod 2=((n.natAbs / 2^i%2:Nat):Int):=fun i hi=>by have h9:=DE _ (bN (l:=D) (i:=i / 16) (by omega));rw[show(((i+1:Nat):Int)-1)=(i:Int) by omega,Xu (by omega),XZ (a:=(i:Int)) (by omega),bn (by omega),show((i:Int) / 16).toNat=i / 16 by omega,show((i:Int)%16).toNat=i%16 by omega,XZ (Int.ediv_nonneg h9.1 (Int.le_of_lt (Int.pow_pos (by decide)))),O7 i (by omega)]
 have e2:∀i:Nat,0<=(((i+1:Nat):Int)-1).tmod 16/\(((i+1:Nat):Int)-1).tmod 16<=64:=fun i=>by rw[show(((i+1:Nat):Int)-1)=(i:Int) by omega,XZ (a:=(i:Int)) (by omega)];omega
 have e3:∀i:Nat,i<128->0<=IntKind.i64.wrap ((((i+1:Nat):Int)-1).tdiv 16)/\IntKind.i64.wrap ((((i+1:Nat):Int)-1).tdiv 16)<D.length:=fun i hi=>by rw[show(((i+1:Nat):Int)-1)=(i:Int) by omega,Xu (by omega),bn (by omega)];omega
 refine agZ.p fun σ=>?_;repeat'(first|exact .nil|refine .k ?_|(refine .cd ?_ ?_<;>intro hc)|refine .r1 ?_ ?_|(refine .m1 ?_ ?_;intro b)|refine .an rfl (by intro ar;first|exact h0|exact h1|exact h2|fail) ?_ ?_|fail)
 all_goals(try simp only[BL]at*)
 .exact absurd hc (by decide)
 refine Mn rfl q1 q2 rfl q3 OB.nil (by rw[q4];decide) (by decide) fun b2=>?_;repeat'((fail_if_success (show WK _ _ _ _ (.seq (.bh (⟨some 10,_,_⟩::_)) _) _ _ _));(first|exact .nil|refine .k ?_|refine .r1 ?_ ?_|fail))
 refine Cp (pre:=[]) (ls:=List.replicate 8 (iv 0)) (post:=[]) (n:=8) (c:=8) qM.here rfl ⟨ZO _,by decide⟩ (.same (.same (.same (.same (.m (.same .nil)))))) ?_;rw[show(List.replicate 8 (iv 0)).map (fun x=>[x])=cD (aJ 8 0) by simp[aJ];rfl];repeat'(first|exact .nil|refine .k ?_|refine .r1 ?_ ?_|fail)
 refine aP (fun m rg af=>m<=128/\af=(2,b,.cells [iv (eI n),.v (.int .u64 (dO n))])::σ/\rg=[(1,iv 1),(2,.lp 2 b 0),(6,.sl false 1 (cD D)),(7,.sl false 1 (cD (aJ 8 1))),(8,.sl false 1 (cD (aJ 8 0))),(9,iv ((n.natAbs / 2^m:Nat):Int)),(10,iv ((m:Int)-1))]) 128 rfl ⟨_,_,Zr,Zs,ZO _,rfl,by rw[Nat.div_eq_of_lt (Nat.lt_of_le_of_lt hA (by decide))];rfl⟩ ?_;rintro m _ _ ⟨hm,rfl,rfl⟩;cases m with
 |zero=>
  repeat'(first|exact .nil|refine .k ?_|(refine .cd ?_ ?_<;>(intro hc;first|exact kt hc (by assumption)|skip))|refine .r1 ?_ ?_|refine .t1 ?_ ?_ ?_|refine .an rfl (by intro ar;first|exact oH|exact vi|exact Ij|fail) ?_ ?_|fail)
  try any_goals((intro ar;first|(simp_all;done)|fail))
  all_goals(try simp only[BL]at*)
  .exact absurd hc (by decide)
  .exact absurd hc (by decide)
  .rw[Nat.pow_zero,Nat.div_one]at hc;omega
  .rw[Nat.pow_zero,Nat.div_one];have az:n<0:=by
    by_cases h:n<0
    .exact h
    .rw[show eI n=0 from Z9 h]at hc;exact absurd hc (by decide)
   rw[bn (by omega),show(0:Int)-n.natAbs=n by omega];exact Zw
  .rw[Nat.pow_zero,Nat.div_one];have az:0<=n:=by
    by_cases h:n<0
    .rw[show eI n= -1 from Z3 h]at hc;exact absurd hc (by decide)
    .omega
   rw[show(n.natAbs:Int)=n by omega];exact Zw
 |succ i=>
  repeat'(first|exact .nil|refine .k ?_|(refine .cd ?_ ?_<;>intro hc)|refine .r1 ?_ ?_|refine .t1 ?_ ?_ ?_|refine .an rfl (by intro ar;first|exact oH|exact vi|exact Ij|fail) ?_ ?_|fail)
  try any_goals((intro ar;first|(simp_all;done)|fail))
  all_goals(try simp only[BL]at*)
  all_goals try(exfalso;omega)
  .exact e2 i
  .rw[e i (by omega)];have hQ:n.natAbs / 2^i=2*(n.natAbs / 2^(i+1))+n.natAbs / 2^i%2:=by rw[Nat.pow_succ,<-Nat.div_div_eq_div_mul];omega
   have OV:n.natAbs / 2^i<=1000:=ZD (Nat.div_le_self _ _) hA;have hB:n.natAbs / 2^i%2=0\/n.natAbs / 2^i%2=1:=by omega
   clear e O7 hA e2 e3;generalize n.natAbs / 2^i%2=B at*;generalize hq:n.natAbs / 2^i=q at*;generalize n.natAbs / 2^(i+1)=q1 at*;rcases hB with rfl|rfl
   all_goals
    have w1:IntKind.i64.wrap (2*(q1:Int))=2*(q1:Int):=bn (by omega);have w2:IntKind.i64.wrap (2*(q1:Int)+1)=2*(q1:Int)+1:=bn (by omega);repeat'(first|exact .nil|refine .k ?_|(refine .cd ?_ ?_<;>intro hc)|refine .r1 ?_ ?_|refine .an rfl (by intro ar;first|exact oH|exact OY|exact vi|exact OM|exact hM) ?_ ?_|fail)
    all_goals first
     |exact absurd hc (by decide)
     |exact absurd ‹(!false)=false› (by decide)
     |(have h9:=Yl hc;simp only[w1,w2]at h9;omega)
     |exact⟨i,by omega,_,_,Zr,Zs,by omega,rfl,by rw[hq,hQ];simp only[w1,w2];rw[bn (by omega),show((i+1:Nat):Int)-1-1=i-1 by omega];simp⟩
  .exact e3 i (by omega)
end Go.Proofs.YtmemninechdogaaGreatDoor
namespace Go.Sx
section
variable {P:Program}[Glob P]{cfg:Nat->Nat}{K:ag->Store->Prop}{E:List PanicEntry->Store->Prop}{σ:Store}{l:List CI}{d:Nat}{xr:XR}{ps:List Prop}{og:Option Bool}
theorem Gl{t:TypeId}{ah bytes:Nat}{z:List Value}{x y:Operand}{w:AV}{rows:List (List AV)}(h:wa xr none [x,y]=some (og,[.v (.slice none 0 0),w],ps))(hw:dH ah w=some rows)(aw:OB ps)(hn:rows=[])
  (k:VX P cfg l K E ((d,.s (.v (.slice none 0 0)))::xr) σ):VX P cfg (⟨some d,.append t ah bytes z x y,none⟩::l) K E xr σ:=by
 obtain⟨_,he⟩:=cC h;unfold wa gX at h;obtain⟨bD,h',_,_⟩:=ie h;have cO:og=none:=by split at h'<;>cases h';rfl
 subst cO;have:=he aw rfl;simp only[aL,Z2,Zn]at this;constructor;simp only[fb,cE,ak,this.1,this.2,hw];exact⟨by rw[hn];simp,fun _=>k.h,fun e=>absurd hn e⟩
end
end Go.Sx
namespace Go.Proofs.YtmemninechdogaaGreatDoor
open _root_.Go.Proofs.Tryz
open Go.Sx Go.Proofs Go.Tb
def qp(l:List ax):List ae:=l.foldl (fun a f=>dm a f.name) []
theorem ah9{l:List ax}{i:Nat}(h:i<l.length):qp (l.take (i+1))=dm (qp (l.take i)) (l.getD i default).name:=by unfold qp;rw[ZU h,List.foldl_append,<-getD_eq h];rfl
theorem Dc:∀(l:List ax) (a:List ae),bI a->bI (l.foldl (fun a f=>dm a f.name) a)/\(∀x,x∈l.foldl (fun a f=>dm a f.name) a↔x∈a\/x∈l.map ax.name)/\(l.foldl (fun a f=>dm a f.name) a).length<=a.length+l.length
 |[],a,h=>⟨h,fun x=>by simp,ZO _⟩
 |f::l,a,h=>by
  obtain⟨h1,h2,h3⟩:=Dc l (dm a f.name) (yw h);refine⟨h1,fun x=>?_,?_⟩
  .rw[List.foldl_cons,h2,wy,Zz,ZR];constructor
   .rintro((h|h)|h)
    .exact .inr (.inl h)
    .exact .inl h
    .exact .inr (.inr h)
   .rintro(h|h|h)
    .exact .inl (.inr h)
    .exact .inl (.inl h)
    .exact .inr h
  .have:=Bq a f.name;rw[List.foldl_cons,ZY];omega
theorem RJ(l:List ax):qp l=gK (l.map ax.name):=qA (Dc l [] qB).1 (yM _) fun x=>by rw[yL];exact((Dc l [] qB).2.1 x).trans (by simp)
theorem RM(l:List ax):(qp l).length<=l.length:=by have:=(Dc l [] qB).2.2;simpa[qp]using this
theorem RB(l:List ax)(hl:l.length<=8):Pure prog 359 [.sl false 2 (l.map ax.cells)] (dJ (gK (l.map ax.name))):=by
 refine agR.p fun σ=>?_;repeat'(first|exact .nil|refine .k ?_|refine .r1 ?_ ?_|fail)
 all_goals(try simp only[BL]at*)
 refine aP (fun n rg af=>∃i:Nat,i<=l.length/\n=l.length-i/\af=σ/\rg=[(0,.sl false 2 (l.map ax.cells)),(3,dJ (qp (l.take i))),(4,iv i)]) l.length rfl ⟨_,_,Zr,Zs,0,Z4 _,rfl,rfl,rfl⟩ ?_;rintro n _ _ ⟨i,hi,hn,rfl,rfl⟩;have gj:=fun(h:i<l.length)=>ah9 (l:=l) h;have OT:(qp (l.take i)).length<=8:=by have:=RM (l.take i);rw[ZL]at this;omega
 have oN:i=l.length->qp (l.take i)=gK (l.map ax.name):=fun h=>by rw[h,Yb,RJ]
 generalize qp (l.take i)=N at*;repeat'(first|exact .nil|refine .k ?_|(refine .cd ?_ ?_<;>intro hc)|refine .r1 ?_ ?_|(refine .m2 ?_ ?_;intro hlen)|fail)
 all_goals(try simp only[BL]at*)
 rotate_left
 .rw[oN (by omega)];exact Zw
 have bp:i<l.length:=by omega
 have gj:=gj bp;clear oN;generalize hs:(l.getD i default).name=s at*
 rename Store=>σ
 refine aP (fun m rg af=>∃k:Nat,k<=N.length/\m=N.length-k/\(∀j,j<k->c6 (N.getD j default) s=true)/\af=σ/\rg=[(0,.sl false 2 (l.map ax.cells)),(3,dJ N),(4,iv i),(5,iv k)]) N.length rfl ⟨_,_,Zr,Zs,0,Z4 _,rfl,fun j hj=>absurd hj (by omega),rfl,rfl⟩ ?_;rintro m _ _ ⟨k,hk,hm,hp,rfl,rfl⟩;repeat'((fail_if_success (show VX _ _ (⟨some 51,_,_⟩::_) _ _ _ _));(first|exact .nil|refine .k ?_|(refine .cd ?_ ?_<;>intro hc)|refine .r1 ?_ ?_|refine .t1 ?_ ?_ ?_|refine .t2 ?_ ?_ ?_|refine .r2 ?_ ?_|fail))
 try any_goals((intro ar;first|(simp_all;done)|fail))
 all_goals(try simp only[BL]at*)
 all_goals try rw[hs]at hc
 .exact⟨N.length-(k+1),by omega,_,_,Zr,Zs,k+1,by omega,rfl,dj hp hc.2,rfl,by rw[bj (n:=N.length) (by omega) (by unfold maxLen;omega)]⟩
 all_goals have AG:=Ku hk hp (fun hk h=>by rename_i h1;first|(rcases h1 with h1|h1;exact h1 (by omega);unfold c6 at h;rw[<-hs]at h;rw[h1]at h;cases h)|fail)
 .have e:=Bp N s;rw[AG,Z3 ⟨by omega,hc.2⟩]at e;exact⟨l.length-(i+1),by omega,_,_,Zr,Zs,i+1,by omega,rfl,rfl,by rw[gj,e,bj (n:=l.length) (by omega) (by assumption)]⟩
 .have e:=Bp N s;rw[AG,Z9 (by rintro⟨h1,h2⟩;rcases hc with h|h;exact h (by omega);exact h h2)]at e;by_cases h0:k=0
  .subst h0;refine Gl rfl rfl OB.nil (by rfl) ?_;repeat'(first|exact .nil|refine .k ?_|refine .r1 ?_ ?_|refine .t1 ?_ ?_ ?_|refine .t3 ?_ ?_ ?_|refine .u1 ?_ ?_ ?_ (fun b u c=>?_)|refine .u2 ?_ ?_ ?_ (fun b u c=>?_)|fail)
   try any_goals((intro ar;first|(simp_all;done)|fail))
   all_goals(try simp only[BL]at*)
   all_goals try(show(_:Nat)<=_;simp only[Z7,Z5,ZL,YZ,ZY,ZP];omega)
   .exact Fl _
   .have e2:[[AV.v (.string s)]]++(N.drop 0).map dq=(dm N s).map dq:=by rw[e];simp[dq]
    rw[hs,e2,bj (n:=l.length) (by omega) (by assumption)];exact⟨l.length-(i+1),by omega,[(0,.sl false 2 (l.map ax.cells)),(3,dJ (dm N s)),(4,iv ((i+1:Nat):Int))],_,Zr,Zs,i+1,by omega,rfl,rfl,by rw[gj]⟩
  .repeat'(first|exact .nil|refine .k ?_|refine .r1 ?_ ?_|refine .t1 ?_ ?_ ?_|refine .t3 ?_ ?_ ?_|refine .u1 ?_ ?_ ?_ (fun b u c=>?_)|refine .u2 ?_ ?_ ?_ (fun b u c=>?_)|(show List.all _ _=true;rfl)|fail)
   try any_goals((intro ar;first|(simp_all;done)|fail))
   all_goals(try simp only[BL]at*)
   all_goals try(show(_:Nat)<=_;simp only[Z7,Z5,ZL,YZ,ZY,ZP];omega)
   .exact Fl _
   .have e2:(N.take k).map dq++[[AV.v (.string s)]]++(N.drop k).map dq=(dm N s).map dq:=by rw[e];simp[dq]
    rw[hs,e2,bj (n:=l.length) (by omega) (by assumption)];exact⟨l.length-(i+1),by omega,[(0,.sl false 2 (l.map ax.cells)),(3,dJ (dm N s)),(4,iv ((i+1:Nat):Int))],_,Zr,Zs,i+1,by omega,rfl,rfl,by rw[gj]⟩
theorem acg{l:List ax}{s:ae}{i:Nat}(h:i<l.length):bU (l.take (i+1)) s=bU (l.take i) s+if(l.getD i default).name=s then(l.getD i default).exp else 0:=by
 unfold bU;rw[ZU h,<-getD_eq h,X0,Zl,List.sum_append];generalize l.getD i default=f;by_cases h2:f.name=s
 .simp[h2]
 .simp[h2]
abbrev zJ(n:Int):AV:=.aG [iv (if n>8\/n< -8 then 0 else n),.v (.bool (decide ¬(n>8\/n< -8)))]
theorem ach(l:List ax)(s:ae)(hb:∀f∈l, -8<=f.exp/\f.exp<=8)(hl:l.length<=8):Pure prog 360 [.sl false 2 (l.map ax.cells),sv s] (zJ (bU l s)):=by
 have h0:=Ez (n:=0) (by omega);have hD: -1000<=bU l s/\bU l s<=1000:=by have h1:=xv s l hb;omega
 refine agS.p fun σ=>?_;repeat'(first|exact .nil|refine .k ?_|refine .r1 ?_ ?_|refine .l1 fun b=>?_|refine .an rfl (by intro ar;first|exact h0|fail) ?_ ?_|fail)
 all_goals(try simp only[BL]at*)
 refine aP (fun m rg af=>∃i:Nat,i<=l.length/\m=l.length-i/\af=(6,b,.cells [iv (eI (bU (l.take i) s)),.v (.int .u64 (dO (bU (l.take i) s)))])::σ/\rg=[(0,.sl false 2 (l.map ax.cells)),(1,sv s),(6,.lp 6 b 0),(7,iv i)]) l.length rfl ⟨_,_,Zr,Zs,0,Z4 _,rfl,rfl,rfl⟩ ?_;rintro m _ _ ⟨i,hi,hm,rfl,rfl⟩;have vj:i<l.length->-1000<=(l.getD i default).exp/\(l.getD i default).exp<=1000:=fun h=>by have:=hb _ (bN h);omega
 have z6:i<l.length->-1000<=bU (l.take i) s/\bU (l.take i) s<=1000:=fun _=>by have h1:=xv s (l.take i) fun f hf=>hb f (YT hf);rw[ZL]at h1;omega
 have Dl:i<l.length->-1000<=bU (l.take i) s+(l.getD i default).exp/\bU (l.take i) s+(l.getD i default).exp<=1000:=fun h=>by have h1:=xv s (l.take i) fun f hf=>hb f (YT hf);have:=hb _ (bN h);rw[ZL]at h1;omega
 have gj:=fun h:i<l.length=>acg (s:=s) h;have oN:i=l.length->bU (l.take i) s=bU l s:=fun h=>by rw[h,Yb]
 repeat'(first|exact .nil|refine .k ?_|(refine .cd ?_ ?_<;>intro hc)|refine .r1 ?_ ?_|(refine .m2 ?_ ?_;intro hlen)|refine .t1 ?_ ?_ ?_|refine .an rfl (by intro ar;first|exact Ez (vj (by(simp only[BL]at*;omega)))|exact WX (z6 (by(simp only[BL]at*;omega))) (vj (by(simp only[BL]at*;omega))) (Dl (by(simp only[BL]at*;omega)))|fail) ?_ ?_|fail)
 try any_goals((intro ar;first|(simp_all;done)|fail))
 all_goals(try simp only[BL]at*)
 .rw[show bU (l.take i) s+(l.getD i default).exp=bU (l.take (i+1)) s by rw[gj (by omega),Z3 hc]];exact⟨l.length-(i+1),by omega,_,_,Zr,Zs,i+1,by omega,rfl,rfl,by rw[bj (n:=l.length) (by omega) (by assumption)]⟩
 .rw[show bU (l.take i) s=bU (l.take (i+1)) s by rw[gj (by omega),Z9 hc,Int.add_zero]];exact⟨l.length-(i+1),by omega,_,_,Zr,Zs,i+1,by omega,rfl,rfl,by rw[bj (n:=l.length) (by omega) (by assumption)]⟩
 .rw[oN (by omega)];refine .an rfl (fun _=>ab0 hD) .nil ?_;clear gj oN Dl vj z6;obtain⟨v,hv⟩:∃v,bU l s=v:=⟨_,rfl⟩
  rw[hv];rw[hv]at hD;repeat'(first|exact .nil|refine .k ?_|(refine .cd ?_ ?_<;>intro hc)|refine .r1 ?_ ?_|refine .an rfl (by intro ar;exact NT _) ?_ ?_|fail)
  all_goals(try simp only[BL]at*)
  .rw[show zJ v= .aG [iv 0,.v (.bool false)] by unfold zJ;rw[Z3 (by omega),Zp (by omega)]];exact Zw
  .rw[show zJ v= .aG [iv v,.v (.bool true)] by unfold zJ;rw[Z9 (by omega),Y7 (by omega)]];exact Zw
theorem aif(l:List ax)(hw:∀f∈l,Word f.name)(hb:∀f∈l, -8<=f.exp/\f.exp<=8)(hl:l.length<=8):Pure prog 331 [.sl false 2 (l.map ax.cells)] (sj (rQ l)):=by
 refine agK.p fun σ=>?_;repeat'(first|exact .nil|refine .k ?_|refine .r1 ?_ ?_|fail)
 all_goals(try simp only[BL]at*)
 refine aP (fun m rg af=>∃i:Nat,i<=l.length/\m=l.length-i/\af=σ/\rg=[(0,.sl false 2 (l.map ax.cells)),(4,iv i)]) l.length rfl ⟨_,_,Zr,Zs,0,Z4 _,rfl,rfl,rfl⟩ ?_;rintro m _ _ ⟨i,hi,hm,rfl,rfl⟩;repeat'(first|exact .nil|refine .k ?_|(refine .cd ?_ ?_<;>intro hc)|refine .r1 ?_ ?_|(refine .m2 ?_ ?_;intro hlen)|refine .t1 ?_ ?_ ?_|refine .an rfl (by intro ar;first|exact UJ _|exact RB l hl|fail) ?_ ?_|fail)
 try any_goals((intro ar;first|(simp_all;done)|fail))
 all_goals(try simp only[BL]at*)
 .exact absurd (hw _ (bN (by omega))) hc
 .exact⟨l.length-(i+1),by omega,_,_,Zr,Zs,i+1,by omega,rfl,rfl,by rw[bj (n:=l.length) (by omega) (by assumption)]⟩
 have vn:rQ l=if∃n∈gK (l.map ax.name),bU l n>8\/bU l n< -8 then([],70)else if(nA l (gK (l.map ax.name))).length>4 then([],2)else(nA l (gK (l.map ax.name)),0):=rfl
 have OT:(gK (l.map ax.name)).length<=8:=by rw[<-RJ];have:=RM l;omega
 generalize gK (l.map ax.name)=N at*
 rename Store=>σ
 refine aP (fun m rg af=>∃(i:Nat) (x:AV) (U:Store),i<=N.length/\m=N.length-i/\(∀n∈N.take i,¬(bU l n>8\/bU l n< -8))/\fq 54 ((nA l (N.take i)).map ax.cells) x U/\af=U++σ/\rg=[(0,.sl false 2 (l.map ax.cells)),(6,dJ N),(7,x),(8,iv i)]) N.length rfl ⟨_,_,Zr,Zs,0,_,_,Z4 _,rfl,(fun n h=>by cases h),fq.z,rfl,rfl⟩ ?_;rintro m2 _ _ ⟨i,x,U,hi,hm,hP,hR,rfl,rfl⟩;have eg:(nA l (N.take i)).length<=8:=ZD (NQ _ _) (by rw[ZL];omega);have gj:=fun(h:i<N.length)=>NR (l:=l) h;have Ab:i<N.length->¬(bU l (N.getD i default)>8\/bU l (N.getD i default)< -8)->∀n∈N.take (i+1),¬(bU l n>8\/bU l n< -8):=fun h h1 n hn=>by
  rw[ZU h,<-getD_eq h,ZI,Zd]at hn;rcases hn with hn|rfl
  .exact hP n hn
  .exact h1
 rcases hR with⟨hE,rfl,rfl⟩|⟨b3,u3,c3,rfl,rfl⟩
 all_goals
  repeat'(first|exact .nil|refine .k ?_|(refine .cd ?_ ?_<;>intro hc)|refine .r1 ?_ ?_|(refine .m2 ?_ ?_;intro hlen)|refine .t1 ?_ ?_ ?_|refine .u1 ?_ ?_ ?_ (fun b u c=>?_)|refine .u2 ?_ ?_ ?_ (fun b u c=>?_)|refine .an rfl (by intro ar;first|exact RB l hl|exact ach l _ hb hl) ?_ ?_|refine .r8 ?_ ?_|(show List.all _ _=true;rfl)|fail)
  try any_goals((intro ar;first|(simp_all;done)|fail))
  all_goals(try simp only[BL]at*)
  .rw[vn,Z3 ⟨N.getD i default,bN (by omega),Classical.not_not.1 hc⟩];refine Sx.Fin.wk Zs (.aG (.cons .nil (.cons (.refl _) .nil)))
  .show _<=1000000;simp only[ZY,ZP];omega
  .show _ * _<=_;simp only[Z5,ZY,ZP];omega
  .have oT:¬(bU l (N.getD i default)>8\/bU l (N.getD i default)< -8):=by assumption
   rw[Z9 oT]at hc|-;refine⟨m2-1,by omega,_,_,Zr,Zs,i+1,_,_,by omega,by omega,Ab (by omega) oT,fq.s ?_,rfl,by rw[bj (n:=N.length) (by omega) (by unfold maxLen;omega)]⟩;rw[gj (by omega),Z3 hc,Zl];first|(rw[hE];rfl)|rfl
  .have oT:¬(bU l (N.getD i default)>8\/bU l (N.getD i default)< -8):=by assumption
   rw[Z9 oT]at hc;refine⟨m2-1,by omega,_,_,Zr,Zs,i+1,_,_,by omega,by omega,Ab (by omega) oT,?_,rfl,by rw[bj (n:=N.length) (by omega) (by unfold maxLen;omega)]⟩;rw[gj (by omega),Z9 (by rw[hc];simp),Y5];first|exact fq.n hE|exact fq.s rfl
  .have fL:N.take i=N:=ZM (by omega);rw[fL]at hP;try rw[fL]at hE
   try rw[fL]at hc
   try rw[fL]
   rw[vn,Z9 (by rintro⟨n,hn,dC⟩;exact hP n hn dC)];first
    |exact absurd hc (by decide)
    |(rw[Z3 (by omega)];refine Sx.Fin.wk Zs (.aG (.cons .nil (.cons (.refl _) .nil))))
  .have fL:N.take i=N:=ZM (by omega);rw[fL]at hP;try rw[fL]at hE
   try rw[fL]at hc
   try rw[fL]
   rw[vn,Z9 (by rintro⟨n,hn,dC⟩;exact hP n hn dC)];first
    |(rw[Yn.1 hE,Z9 (by decide)];refine Sx.Fin.wk Zs (.aG (.cons .nil (.cons (.refl _) .nil)));done)
    |(rw[Z9 (by omega)];(refine Sx.Fin.wk Zs ?_;repeat' first|exact .refl _|refine .cons ?_ ?_|refine .aG ?_|exact .own _))
theorem aeZ(q:List ax)(hb:∀f∈q, -8<=f.exp/\f.exp<=8)(hl:q.length<=8):Pure prog 332 [.sl false 2 (q.map ax.cells)] (.sl false 2 ((q.map (gq (-1))).map ax.cells)):=by
 refine agL.p fun σ=>?_;repeat'(first|exact .nil|refine .k ?_|refine .r1 ?_ ?_|fail)
 all_goals(try simp only[BL]at*)
 refine aP (fun m rg af=>∃(i:Nat) (x:AV) (U:Store),i<=q.length/\m=q.length-i/\fq 25 (((q.map (gq (-1))).take i).map ax.cells) x U/\af=U++σ/\rg=[(0,.sl false 2 (q.map ax.cells)),(3,x),(4,iv i)]) q.length rfl ⟨_,_,Zr,Zs,0,_,_,Z4 _,rfl,fq.z,rfl,rfl⟩ ?_;rintro m _ _ ⟨i,x,U,hi,hm,hR,rfl,rfl⟩;rcases hR with⟨hE,rfl,rfl⟩|⟨b3,u3,c3,rfl,rfl⟩
 all_goals
  repeat'(first|exact .nil|refine .k ?_|(refine .cd ?_ ?_<;>intro hc)|refine .r1 ?_ ?_|(refine .m2 ?_ ?_;intro hlen)|refine .t1 ?_ ?_ ?_|refine .u1 ?_ ?_ ?_ (fun b u c=>?_)|refine .u2 ?_ ?_ ?_ (fun b u c=>?_)|(show List.all _ _=true;rfl)|fail)
  try any_goals((intro ar;first|(simp_all;done)|fail))
  all_goals(try simp only[BL]at*)
  all_goals try(show(_:Nat)<=_;simp only[Z5,ZL,ZY,ZP];omega)
  .have rm:=hb _ (bN (l:=q) (i:=i) (by omega));rw[show IntKind.i64.wrap (0-(q.getD i default).exp)= -1*(q.getD i default).exp by rw[bn (by omega)];omega];refine⟨m-1,by omega,_,_,Zr,Zs,i+1,_,_,by omega,by omega,fq.s ?_,rfl,by rw[bj (n:=q.length) (by omega) (by assumption)]⟩;have bp:i<q.length:=by omega
   rw[show(q.map (gq (-1))).take (i+1)=(q.map (gq (-1))).take i++[gq (-1) (q.getD i default)] by rw[ZU (by rw[Z5];exact bp),Zv,<-getD_eq bp],Zl];first|(rw[hE];rfl)|rfl
  .have tG:(q.map (gq (-1))).take i=q.map (gq (-1)):=ZM (by rw[Z5];omega);first
    |(rw[show(q.map (gq (-1))).map ax.cells=[] by rw[<-tG];exact hE];(refine Sx.Fin.wk Zs ?_;repeat' first|exact .nil|fail);done)
    |(rw[tG];(refine Sx.Fin.wk Zs ?_;repeat' exact .own _);done)
theorem amn{a:List ax}(h:a=[]):Wk ej (.sl false 2 (a.map ax.cells)):=by rw[h];exact .nil
theorem TY:pG:=by
 intro a d;refine ago.p fun σ=>?_;repeat'((fail_if_success (show WK _ _ _ _ (.bh (⟨some 18,_,_⟩::_)) _ _ _));(first|exact .nil|refine .k ?_|(refine .cd ?_ ?_<;>intro hc)|refine .r1 ?_ ?_|refine .an rfl (by intro ar;exact Lp _) ?_ ?_|fail))
 all_goals(try simp only[BL]at*)
 .rw[show eV a d 1=([],dK a)from Z3 hc];refine Sx.Fin.wk Zs (.aG (.cons .nil (.cons (.refl _) .nil)))
 .have ha:dK a=0:=by assumption
  rw[show eV a d 1=([],dK d)from by unfold eV;rw[Z9 (by rw[ha];simp),Z3 hc]];refine Sx.Fin.wk Zs (.aG (.cons .nil (.cons (.refl _) .nil)))
 have ha:dK a=0:=by assumption
 have hb:dK d=0:=by assumption
 have hP:eV a d 1=rQ (a++d):=by
  unfold eV;rw[Z9 (by rw[ha];simp),Z9 (by rw[hb];simp)]
  congr 2
  refine(List.map_congr_left fun f _=>?_).trans (List.map_id d);show(⟨f.name,1*f.exp⟩:ax)=f;rw[Int.one_mul]
 obtain⟨oK,lR⟩:=yT ha;obtain⟨rm,dC⟩:=yT hb;have hN:=aif (a++d) (fun f hf=>by rcases ZI.1 hf with hf|hf;exact(lR f hf).1;exact(dC f hf).1) (fun f hf=>by rcases ZI.1 hf with hf|hf;exact(lR f hf).2;exact(dC f hf).2) (by rw[Z7];omega);rw[hP];clear hP hc ha hb;repeat'((fail_if_success (show VX _ _ (⟨some 20,_,_⟩::_) _ _ _ _));(first|exact .nil|refine .k ?_|refine .r1 ?_ ?_|fail))
 by_cases h1:a=[]
 .refine Gl rfl rfl OB.nil (by rw[h1];rfl) ?_;repeat'((fail_if_success (show VX _ _ (⟨some 22,_,_⟩::_) _ _ _ _));(first|exact .nil|refine .r1 ?_ ?_|fail))
  by_cases h2:d=[]
  .refine Gl rfl rfl OB.nil (by rw[h2];rfl) ?_;repeat'(first|exact .nil|refine .k ?_|refine .r1 ?_ ?_|fail)
   refine .an rfl (fun _=>hN.wk (.cons (amn (by rw[h1,h2];rfl)) .nil)) .nil ?_;repeat'(first|exact .nil|refine .k ?_|refine .r1 ?_ ?_|fail)
   exact Zw
  .repeat'(first|exact .nil|refine .k ?_|refine .r1 ?_ ?_|refine .u1 ?_ ?_ ?_ (fun b u c=>?_)|fail)
   try any_goals((intro ar;first|(simp_all;done)|fail))
   all_goals(try simp only[BL]at*)
   all_goals try(show(_:Nat)<=_;simp only[Z5];omega)
   rw[h1,Zf]at hN|-;refine .an rfl (fun _=>hN.wk (.cons (.own _) .nil)) .nil ?_;repeat'(first|exact .nil|refine .k ?_|refine .r1 ?_ ?_|fail)
   exact Zw
 .repeat'(first|exact .nil|refine .k ?_|refine .r1 ?_ ?_|refine .u1 ?_ ?_ ?_ (fun b u c=>?_)|refine .u2 ?_ ?_ ?_ (fun b u c=>?_)|fail)
  try any_goals((intro ar;first|(simp_all;done)|fail))
  all_goals(try simp only[BL]at*)
  all_goals try(show(_:Nat)<=_;simp only[Z5];omega)
  .rw[List.all_map,ZA];intro y _;rfl
  rw[<-Zl];refine .an rfl (fun _=>hN.wk (.cons (.own _) .nil)) .nil ?_;repeat'(first|exact .nil|refine .k ?_|refine .r1 ?_ ?_|fail)
  exact Zw
theorem aeV(q:List ax):dK (q.map (gq (-1)))=dK q:=by
 have key:∀(l:List ax) (p:Option ae),iX p (l.map (gq (-1)))=iX p l:=by
  intro l
  induction l with
  |nil=>intro p;rfl|cons f l ih=>
   intro p;have e:jv p (gq (-1) f)=jv p f:=by
    unfold jv;show(if¬Word f.name then 1 else if -1*f.exp=0\/ -1*f.exp>8\/ -1*f.exp< -8 then 70 else _)=_;have e2:(-1*f.exp=0\/ -1*f.exp>8\/ -1*f.exp< -8)↔(f.exp=0\/f.exp>8\/f.exp< -8):=by omega
    simp only[e2];rfl
   rw[Zz,iX,iX,e,ih];rfl
 unfold dK;rw[Z5,key]
theorem aiw:pF:=by
 intro a d;have hb:=fun h:dK d=0=>fun f hf=>((yT h).2 f hf).2;have hl:=fun h:dK d=0=>ZD (yT h).1 (by decide:4<=8);refine agp.p fun σ=>?_;repeat'(first|exact .nil|refine .k ?_|(refine .cd ?_ ?_<;>intro hc)|refine .r1 ?_ ?_|refine .an rfl (by intro ar;first|exact Lp _|exact aeZ _ (hb (by(simp only[BL]at*;omega))) (hl (by(simp only[BL]at*;omega)))|exact TY _ _) ?_ ?_|fail)
 all_goals(try simp only[BL]at*)
 .rw[show eV a d (-1)=([],dK a)from Z3 hc];refine Sx.Fin.wk Zs (.aG (.cons .nil (.cons (.refl _) .nil)))
 .have ha:dK a=0:=by assumption
  rw[show eV a d (-1)=([],dK d)from by unfold eV;rw[Z9 (by rw[ha];simp),Z3 hc]];refine Sx.Fin.wk Zs (.aG (.cons .nil (.cons (.refl _) .nil)))
 .have ha:dK a=0:=by assumption
  rw[show eV a d (-1)=eV a (d.map (gq (-1))) 1 from by
   unfold eV;rw[aeV];simp only[ha,hc,ne_eq,not_true_eq_false,YU,Yu]
   congr 2
   refine List.map_congr_left fun f _=>?_;show(⟨f.name, -1*f.exp⟩:ax)=⟨f.name,1*(-1*f.exp)⟩
   rw[Int.one_mul]]
  exact Zw
