/- The reference of the checker: types by name. -/
import Derived.Test.YtomhopcnkicknaaGreatDoorHa
import Derived.Test.YtomhopcnkicknaaGreatDoorPl
import Derived.Test.YtomhopcnkicknaaGreatDoorGa
set_option linter.unusedSimpArgs false
set_option linter.unusedVariables false
set_option maxRecDepth 100000
set_option maxHeartbeats 4000000
namespace Go.Proofs.YtomhopcnkicknaaGreatDoor
open _root_.Go.Proofs.Tryz
open Go.Sx Go.Proofs Go.Tb
theorem abY{α:Type}[Inhabited α]{p:α→Bool}{l:List α}{i:Nat}(hi:i<l.length)(h:∀ j,j<i→p (l.getD j default)=false)(hn:p (l.getD i default)=true):l.find? p=some (l.getD i default):=by
 rw[getD_eq hi]at hn ⊢
 rw[YM]
 refine⟨hn,i,hi,rfl,fun j hj=> ?_⟩
 have:=h j hj
 rw[getD_eq (Nat.lt_trans hj hi)]at this
 simpa using this
theorem LW{α:Type}[Inhabited α]{p:α→Bool}{l:List α}(h:∀ j,j<l.length→p (l.getD j default)=false):l.find? p=none:=by
 rw[XG]
 intro x hx
 obtain⟨j,hj,rfl⟩:=Zj hx
 have:=h j hj
 rw[getD_eq hj]at this
 simpa using this
abbrev gF(c:az)(jK:ae)(t:aP):List AV:=[.sl false 4 (c.tables.map aP.cells),.sl false 18 (c.features.map aj.cells),.sl false 18 (c.bn.map aj.cells),.sl false 18 (c.past.map aj.cells),sv jK,sv t.name,sv t.cv,.sl false 4 (t.fields.map bZ.cells),iv t.bY]
abbrev wW:List AV:=[iv 0,dM,sv s0]
abbrev xy:List AV:=[dM,dM,dM,dM,sv s0,sv s0,sv s0,dM,iv 0]
def mR(a b:Ty):Int:=if a.kind≠b.kind∨a.of≠b.of then 5 else if a.unit≠b.unit then 70 else 0
theorem Ku(x y:Ty):Pure prog 74 [.agg x.cells,.agg y.cells] (iv (mR x y)):=by
 refine k74.p fun σ=> ?_
 repeat'(first|exact .nil|refine .k0 ?_|refine .k1 ?_|refine .k2 ?_|refine .k4 ?_|refine .k7 ?_|refine .k9 ?_|(refine .cd ?_ ?_<;>(intro hc;skip))|refine .r1 ?_ ?_|(refine .m1 ?_ ?_;intro b)|refine .an rfl (by intro aq;exact Dq _ _) ?_ ?_|fail)
 try any_goals(exact Zo)
 all_goals(try simp only[BL]at *)
 ·rw[show mR x y=5 from Z3 hc];exact Zw
 ·rw[show mR x y=70 from(Z6 (by grind)).trans (Z3 hc)];exact Zw
 ·rw[show mR x y=0 from(Z6 (by grind)).trans (Z6 (by grind))];exact Zw
theorem aLs(x y:Ty):Pure prog 235 [.agg x.cells,.agg y.cells] (.v (.bool (decide (x.kind=y.kind∧x.unit=y.unit∧x.of=y.of)))):=by
 refine afp.p fun σ=> ?_
 repeat'(first|exact .nil|refine .k0 ?_|refine .k1 ?_|refine .k2 ?_|refine .k4 ?_|refine .k7 ?_|refine .r1 ?_ ?_|(refine .m1 ?_ ?_;intro b)|refine .an rfl (by intro aq;exact Dq _ _) ?_ ?_|fail)
 all_goals(try simp only[BL]at *)
 rw[show(decide (x.kind=y.kind∧x.unit=y.unit∧x.of=y.of))=(decide (x.kind=y.kind) && decide (x.unit=y.unit) && decide (x.of=y.of)) by grind]
 exact Zw
theorem abT(c:az)(e0:ae)(t:aP)(n:ae):Pure prog 209 [.agg (gF c e0 t),sv n] (eF (ov t.fields n)):=by
 refine afa.p fun σ=> ?_
 repeat'(first|exact .nil|refine .k0 ?_|refine .k1 ?_|refine .k2 ?_|refine .k6 ?_|refine .r1 ?_ ?_|(refine .l1 ?_;intro b)|(refine .m1 ?_ ?_;intro b)|fail)
 all_goals(try simp only[BL]at *)
 rename_i b2
 refine aH (fun m rg af=>∃ i:Nat,i≤t.fields.length∧m=t.fields.length-i∧(∀ j,j<i→¬(t.fields.getD j default).name=n)∧af=(4,b,aG.cells wW)::(2,b2,aG.cells (gF c e0 t))::σ∧rg=[(1,sv n),(2,.lp 2 b2 0),(4,.lp 4 b 0),(6,iv i)]) t.fields.length rfl ⟨_,_,Zr,Zs,0,Z1 _,rfl,fun j hj=>absurd hj (by omega),rfl,rfl⟩ ?_
 rintro m _ _ ⟨i,hi,hm,hp,rfl,rfl⟩
 repeat'(first|exact .nil|refine .k0 ?_|refine .k1 ?_|refine .k2 ?_|refine .k6 ?_|refine .k7 ?_|refine .k8 ?_|refine .k9 ?_|(refine .cd ?_ ?_<;>(intro hc;skip))|refine .r1 ?_ ?_|(refine .m2 ?_ ?_;intro hlen)|refine .t1 ?_ ?_ ?_|fail)
 try any_goals(exact Zo)
 all_goals(try simp only[BL]at *)
 ·rw[show ov t.fields n=((t.fields.getD i default).type,0) by unfold ov x9;rw[abY (p:=fun f:bZ=>decide (f.name=n)) (by omega) (fun j hj=>ZA (hp j hj)) (Zd hc)]];exact Zw
 ·exact⟨m-1,by omega,_,_,Zr,Zs,i+1,by omega,by omega,dp hp hc,rfl,by rw[aO (n:=t.fields.length) (by omega) (by assumption)]⟩
 ·rw[show ov t.fields n=(cC,4) by unfold ov x9;rw[LW (p:=fun f:bZ=>decide (f.name=n)) fun j hj=>ZA (hp j (by omega))]];exact Zw
theorem abB(c:az)(e0:ae)(t:aP)(n jK:ae):Pure prog 210 [.agg (gF c e0 t),sv n,sv jK] (eF (jX c.features n jK)):=by
 refine afb.p fun σ=> ?_
 repeat'(first|exact .nil|refine .k0 ?_|refine .k1 ?_|refine .k2 ?_|refine .k6 ?_|refine .r1 ?_ ?_|(refine .l1 ?_;intro b)|(refine .m1 ?_ ?_;intro b)|fail)
 all_goals(try simp only[BL]at *)
 rename_i b2
 refine aH (fun m rg af=>∃ i:Nat,i≤c.features.length∧m=c.features.length-i∧(∀ j,j<i→¬(c.features.getD j default).name=n)∧af=(6,b,aG.cells wW)::(3,b2,aG.cells (gF c e0 t))::σ∧rg=[(1,sv n),(2,sv jK),(3,.lp 3 b2 0),(6,.lp 6 b 0),(8,iv i)]) c.features.length rfl ⟨_,_,Zr,Zs,0,Z1 _,rfl,fun j hj=>absurd hj (by omega),rfl,rfl⟩ ?_
 rintro m _ _ ⟨i,hi,hm,hp,rfl,rfl⟩
 have hF:i<c.features.length→(c.features.getD i default).name=n→jX c.features n jK=if(c.features.getD i default).cv=jK then((c.features.getD i default).type,0)else(cC,5):=fun h hn=>by
  unfold jX;rw[LV h hn hp]
 repeat'(first|exact .nil|refine .k0 ?_|refine .k1 ?_|refine .k2 ?_|refine .k6 ?_|refine .k7 ?_|refine .k8 ?_|refine .k9 ?_|(refine .cd ?_ ?_<;>(intro hc;skip))|refine .r1 ?_ ?_|(refine .l1 ?_;intro b)|(refine .m2 ?_ ?_;intro hlen)|refine .t1 ?_ ?_ ?_|fail)
 try any_goals(exact Zo)
 all_goals(try simp only[BL]at *)
 ·exact⟨m-1,by omega,_,_,Zr,Zs,i+1,by omega,by omega,dp hp hc,rfl,by rw[aO (n:=c.features.length) (by omega) (by assumption)]⟩
 ·rw[hF (by omega) (by assumption),Z6 hc];exact Zw
 ·rw[hF (by omega) (by assumption),Z3 hc];exact Zw
 ·rw[show jX c.features n jK=(cC,4) by unfold jX findF;rw[LW (p:=fun f:aj=>decide (f.name=n)) fun j hj=>ZA (hp j (by omega))]];exact Zw
def Ax(c:az)(e0:ae):Option aP→AV
 |none=> .aE [.agg xy,iv 4]
 |some t=>if t.cv=e0 then .aE [.agg (gF c s0 t),iv 0]else .aE [.agg xy,iv 5]
theorem aM2(c:az)(e0:ae)(t:aP)(n:ae):Pure prog 166 [.agg (gF c e0 t),sv n] (Ax c e0 (mU c.tables n)):=by
 refine aeG.p fun σ=> ?_
 repeat'(first|exact .nil|refine .k0 ?_|refine .k1 ?_|refine .k2 ?_|refine .k6 ?_|refine .r1 ?_ ?_|(refine .l1 ?_;intro b)|(refine .m1 ?_ ?_;intro b)|fail)
 all_goals(try simp only[BL]at *)
 rename_i b2
 refine aH (fun m rg af=>∃ i:Nat,i≤c.tables.length∧m=c.tables.length-i∧(∀ j,j<i→¬(c.tables.getD j default).name=n)∧af=(4,b,aG.cells xy)::(2,b2,aG.cells (gF c e0 t))::σ∧rg=[(1,sv n),(2,.lp 2 b2 0),(4,.lp 4 b 0),(6,iv i)]) c.tables.length rfl ⟨_,_,Zr,Zs,0,Z1 _,rfl,fun j hj=>absurd hj (by omega),rfl,rfl⟩ ?_
 rintro m _ _ ⟨i,hi,hm,hp,rfl,rfl⟩
 have hF:i<c.tables.length→(c.tables.getD i default).name=n→Ax c e0 (mU c.tables n)=if(c.tables.getD i default).cv=e0 then .aE [.agg (gF c s0 (c.tables.getD i default)),iv 0]else .aE [.agg xy,iv 5]:=fun h hn=>by
  rw[ab0 h hp hn];rfl
 repeat'(first|exact .nil|refine .k0 ?_|refine .k1 ?_|refine .k2 ?_|refine .k6 ?_|refine .k7 ?_|refine .k8 ?_|refine .k9 ?_|(refine .cd ?_ ?_<;>(intro hc;skip))|refine .r1 ?_ ?_|(refine .l1 ?_;intro b)|(refine .m2 ?_ ?_;intro hlen)|refine .t1 ?_ ?_ ?_|fail)
 try any_goals(exact Zo)
 all_goals(try simp only[BL]at *)
 ·exact⟨m-1,by omega,_,_,Zr,Zs,i+1,by omega,by omega,dp hp hc,rfl,by rw[aO (n:=c.tables.length) (by omega) (by assumption)]⟩
 ·rw[hF (by omega) (by assumption),Z6 hc];exact Zw
 ·rw[hF (by omega) (by assumption),Z3 hc];exact Zw
 ·rw[ab1 fun j hj=>hp j (by omega)];unfold Ax;exact Zw
set_option maxHeartbeats 16000000
def Pc:ae:=⟨#[115,117,109]⟩
def O9:ae:=⟨#[109,101,97,110]⟩
def Pb:ae:=⟨#[113,117,97,110,116,105,108,101]⟩
def O7:ae:=⟨#[100,101,99,97,121]⟩
def Pa:ae:=⟨#[109,105,110]⟩
def O8:ae:=⟨#[109,97,120]⟩
theorem ahf(x:Ex)(A B:Ty)(ho:∃ y∈oe,x.op=y):Pure prog 211 [.agg x.row,.agg A.cells,.agg B.cells] (eF (gG x.op A B)):=by
 simp only[Ex.bP x]at *
 refine afc.p fun σ=> ?_
 repeat'(first|exact .nil|refine .k0 ?_|refine .k1 ?_|refine .k2 ?_|refine .k4 ?_|refine .k6 ?_|refine .k7 ?_|refine .k9 ?_|(refine .cd ?_ ?_<;>(intro hc;first|exact kf hc (by assumption)|skip))|refine .r1 ?_ ?_|(refine .l1 ?_;intro b)|(refine .m1 ?_ ?_;intro b)|refine .an rfl (by intro aq;first|exact C2 _|(refine(zV [Pc,O9,Pb,O7] x.op).wk ?_;(repeat' first|exact .refl _|refine .cons ?_ ?_|exact .sl|fail);done)|(refine(zV [Pa,O8] x.op).wk ?_;(repeat' first|exact .refl _|refine .cons ?_ ?_|exact .sl|fail);done)) ?_ ?_|fail)
 try any_goals(exact Zo)
 all_goals(try simp only[BL]at *)
 all_goals try(show _≤1000000;decide)
 all_goals have ha:x.op∈oe:=by obtain⟨y,hy,e⟩:=ho;rw[e];exact hy
 all_goals clear ho
 all_goals generalize x.op=o at *
 all_goals simp only[oe,ZQ,Yt,or_false,Pc,O9,Pb,O7,Pa,O8,exists_eq_right,exists_eq_right']at *
 all_goals first
  |(rw[show gG o A B=(cC,5)from by unfold gG;grind];(refine Sx.Fin.wk Zs ?_;repeat' first|exact .refl _|exact .nil|refine .cons ?_ ?_|refine .aE ?_|refine .agg ?_|fail);done)
  |(rw[show gG o A B=(⟨2,[],s0⟩,0)from by unfold gG;grind];(refine Sx.Fin.wk Zs ?_;repeat' first|exact .refl _|exact .nil|refine .cons ?_ ?_|refine .aE ?_|refine .agg ?_|fail);done)
  |(rw[show gG o A B=(⟨3,A.unit,s0⟩,0)from by unfold gG;grind];(refine Sx.Fin.wk Zs ?_;repeat' first|exact .refl _|fail);done)
  |(rw[show gG o A B=(A,0)from by unfold gG;grind];(refine Sx.Fin.wk Zs ?_;repeat' first|exact .refl _|fail);done)
def ob:Prop:=∀ a b:List ar,Sx.Pure prog 236 [.sl false 2 (a.map ar.cells),.sl false 2 (b.map ar.cells)] (qy (eA a b 1))
def oa:Prop:=∀ a b:List ar,Sx.Pure prog 237 [.sl false 2 (a.map ar.cells),.sl false 2 (b.map ar.cells)] (qy (eA a b (-1)))
theorem WC(hT:ob)(hO:oa)(o:ae)(A B:Ty)(ho:∃ y∈lg,o=y):Pure prog 212 [sv o,.agg A.cells,.agg B.cells] (eF (dZ o A B)):=by
 unfold ob at hT
 unfold oa at hO
 refine afd.p fun σ=> ?_
 repeat'(first|exact .nil|refine .k0 ?_|refine .k1 ?_|refine .k2 ?_|refine .k4 ?_|refine .k6 ?_|refine .k7 ?_|refine .k9 ?_|(refine .cd ?_ ?_<;>(intro hc;first|exact kf hc (by assumption)|skip))|refine .r1 ?_ ?_|(refine .l1 ?_;intro b)|(refine .m1 ?_ ?_;intro b)|refine .an rfl (by intro aq;first|exact C2 _|exact Dq _ _|exact aLs _ _|exact hT _ _|exact hO _ _) ?_ ?_|fail)
 try any_goals(exact Zo)
 all_goals(try simp only[BL]at *)
 all_goals have ha:o∈lg:=by obtain⟨y,hy,e⟩:=ho;rw[e];exact hy
 all_goals clear ho hT hO
 all_goals simp only[lg,ZQ,Yt,or_false]at ha
 all_goals first
  |(rw[show dZ o A B=(cC,5)from by unfold dZ j0 j5 j2 j4 jw jv j3 j1 jZ j6;grind [Num]];(refine Sx.Fin.wk Zs ?_;repeat' first|exact .refl _|exact .nil|refine .cons ?_ ?_|refine .aE ?_|refine .agg ?_|fail);done)
  |(rw[show dZ o A B=(DF,0)from by unfold dZ j0 j5 j2 j4 jw jv j3 j1 jZ j6;grind [Num]];(refine Sx.Fin.wk Zs ?_;repeat' first|exact .refl _|exact .nil|refine .cons ?_ ?_|refine .aE ?_|refine .agg ?_|fail);done)
  |(rw[show dZ o A B=(cC,70)from by unfold dZ j0 j5 j2 j4 jw jv j3 j1 jZ j6;grind [Num]];(refine Sx.Fin.wk Zs ?_;repeat' first|exact .refl _|exact .nil|refine .cons ?_ ?_|refine .aE ?_|refine .agg ?_|fail);done)
  |(rw[show dZ o A B=(⟨2,A.unit,s0⟩,0)from by unfold dZ j0 j5 j2 j4 jw jv j3 j1 jZ j6;grind [Num]];(refine Sx.Fin.wk Zs ?_;repeat' first|exact .refl _|refine .cons ?_ ?_|refine .aE ?_|refine .agg ?_|fail);done)
  |(rw[show dZ o A B=(⟨3,A.unit,s0⟩,0)from by unfold dZ j0 j5 j2 j4 jw jv j3 j1 jZ j6;grind [Num]];(refine Sx.Fin.wk Zs ?_;repeat' first|exact .refl _|fail);done)
  |(rw[show dZ o A B=(⟨2,(eA A.unit B.unit 1).1,s0⟩,0)from by unfold dZ j0 j5 j2 j4 jw jv j3 j1 jZ j6;grind [Num]];(refine Sx.Fin.wk Zs ?_;repeat' first|exact .refl _|fail);done)
  |(rw[show dZ o A B=(⟨3,(eA A.unit B.unit 1).1,s0⟩,0)from by unfold dZ j0 j5 j2 j4 jw jv j3 j1 jZ j6;grind [Num]];(refine Sx.Fin.wk Zs ?_;repeat' first|exact .refl _|fail);done)
  |(rw[show dZ o A B=(⟨3,(eA A.unit B.unit (-1)).1,s0⟩,0)from by unfold dZ j0 j5 j2 j4 jw jv j3 j1 jZ j6;grind [Num]];(refine Sx.Fin.wk Zs ?_;repeat' first|exact .refl _|fail);done)
set_option maxHeartbeats 16000000
theorem aci{ins:Bool}{x:Ex}(h:form ins x=true):(x.kind=5→∃ y∈oe,x.op=y)∧(x.kind=6→∃ y∈qz,x.op=y)∧(x.kind=7→∃ y∈lg,x.op=y):=by
 obtain⟨h1,_,_⟩:=(lD ins x).1 h
 unfold gm at h1
 refine⟨fun hk=> ?_,fun hk=> ?_,fun hk=> ?_⟩
 ·rw[Z6 (by omega),Z6 (by omega),Z6 (by omega),Z3 hk]at h1;exact h1.2.1
 ·rw[Z6 (by omega),Z6 (by omega),Z6 (by omega),Z6 (by omega),Z3 hk]at h1;exact h1.2
 ·rw[Z6 (by omega),Z6 (by omega),Z6 (by omega),Z6 (by omega),Z6 (by omega),Z3 hk]at h1;exact h1.2
def o4(C:az)(e0:ae):Option aP→List AV
 |none=>gF C e0 D9
 |some t=>gF C s0 t
theorem IA(a b:Ty):nP a b=if mR a b≠0 then(cC,mR a b)else(b,0):=by
 unfold nP mR
 by_cases h1:a.kind≠b.kind∨a.of≠b.of
 ·simp only[Z3 h1];rfl
 ·by_cases h2:a.unit≠b.unit
  ·simp only[Z6 h1,Z3 h2];rfl
  ·simp only[Z6 h1,Z6 h2]
   have:a=b:=by
    cases a;cases b
    simp only[not_or,Classical.not_not]at h1 h2
    simp only[Ty.mk.injEq]
    exact⟨h1.1,h2,h1.2⟩
   rw[this];rfl
section
variable {C:az}{e0:ae}{tb:Option aP}{x:Ex}{l:List Ty}
theorem ag1(h:x.kind=1):ga C e0 tb x l=(⟨x.val.kind,x.unit,x.name⟩,0):=Z3 h
theorem ag2{t:aP}(h:x.kind=2):ga C e0 (some t) x l=ov t.fields x.name:=by unfold ga;rw[Z6 (by omega),Z3 h]
theorem ag3(h:x.kind=3):ga C e0 tb x l=jX C.features x.name e0:=by unfold ga;rw[Z6 (by omega),Z6 (by omega),Z3 h]
theorem Po(h:x.kind=4):ga C e0 tb x l=if(l.getD 0 default).kind=5 then jX C.features x.name (l.getD 0 default).of else(cC,5):=by unfold ga;rw[Z6 (by omega),Z6 (by omega),Z6 (by omega),Z3 h]
theorem ag4(h:x.kind=5):ga C e0 tb x l=gG x.op (l.getD 0 default) (l.getD 1 default):=by unfold ga;rw[Z6 (by omega),Z6 (by omega),Z6 (by omega),Z6 (by omega),Z3 h]
theorem ag5(h:x.kind=6):ga C e0 tb x l=ke x.op (l.getD 0 default):=by unfold ga;rw[Z6 (by omega),Z6 (by omega),Z6 (by omega),Z6 (by omega),Z6 (by omega),Z3 h]
theorem ag6(h:x.kind=7):ga C e0 tb x l=dZ x.op (l.getD 0 default) (l.getD 1 default):=by unfold ga;rw[Z6 (by omega),Z6 (by omega),Z6 (by omega),Z6 (by omega),Z6 (by omega),Z6 (by omega),Z3 h]
theorem HY(h:x.kind=8):ga C e0 tb x l=if(l.getD 0 default).kind=1 then(if mR (l.getD 1 default) (l.getD 2 default)≠0 then(cC,mR (l.getD 1 default) (l.getD 2 default))else(l.getD 2 default,0))else(cC,5):=by
 unfold ga;rw[Z6 (by omega),Z6 (by omega),Z6 (by omega),Z6 (by omega),Z6 (by omega),Z6 (by omega),Z6 (by omega),Z3 h,IA]
theorem Pp(h:x.kind=9):ga C e0 tb x l=if mR (l.getD 0 default) (l.getD 1 default)≠0 then(cC,mR (l.getD 0 default) (l.getD 1 default))else(l.getD 1 default,0):=by
 unfold ga;rw[Z6 (by omega),Z6 (by omega),Z6 (by omega),Z6 (by omega),Z6 (by omega),Z6 (by omega),Z6 (by omega),Z6 (by omega),IA]
end
theorem Pq(hT:ob)(hO:oa)(C:az)(e0:ae)(tb:Option aP)(x:Ex)(hf:form tb.isSome x=true)(l:List Ty)(hl:l.length=x.args.length):Pure prog 167 [.agg (o4 C e0 tb),.agg x.row,lV l] (eF (ga C e0 tb x l)):=by
 have nj:=q9 hf
 have cO:=aci hf
 have hA:=fun(h:x.kind=5)=>ahf x (l.getD 0 default) (l.getD 1 default) (cO.1 h)
 have hB:=fun(h:x.kind=7)=>WC hT hO x.op (l.getD 0 default) (l.getD 1 default) (cO.2.2 h)
 simp only[Ex.bP x]at hA ⊢
 cases tb
 all_goals
  unfold o4
  simp only[XI,Option.isSome_some,reduceCtorEq,false_and,and_false,false_or,Bool.true_eq_false,ZG,true_and]at nj
  refine aeH.p fun σ=> ?_
  repeat'(first|exact .nil|refine .k0 ?_|refine .k1 ?_|refine .k2 ?_|refine .k3 ?_|refine .k4 ?_|refine .k5 ?_|refine .k6 ?_|refine .k7 ?_|refine .k9 ?_|(refine .cd ?_ ?_<;>(intro hc;skip))|refine .r1 ?_ ?_|(refine .l1 ?_;intro b)|(refine .m1 ?_ ?_;intro b)|(refine .m2 ?_ ?_;intro hlen)|refine .t1 ?_ ?_ ?_|refine .an rfl (by intro aq;first|exact abT C _ _ _|exact abB C _ _ _ _|exact hA (by(simp only[BL]at *;omega))|exact C2 _|exact hB (by(simp only[BL]at *;omega))|exact Ku _ _) ?_ ?_|fail)
  try any_goals(exact Zo)
  all_goals(try simp only[BL]at *)
  all_goals clear hA hB
  all_goals first
   |(rw[ag1 (by assumption)];(refine Sx.Fin.wk Zs ?_;repeat' first|exact .refl _|fail);done)
   |(exfalso;omega)
   |(rw[ag2 (by assumption)];(refine Sx.Fin.wk Zs ?_;repeat' first|exact .refl _|fail);done)
   |(rw[ag3 (by assumption)];(refine Sx.Fin.wk Zs ?_;repeat' first|exact .refl _|fail);done)
   |(rw[Po (by assumption),Z6 hc];(refine Sx.Fin.wk Zs ?_;repeat' first|exact .refl _|exact .nil|refine .cons ?_ ?_|refine .aE ?_|refine .agg ?_|fail);done)
   |(rw[Po (by assumption),Z3 hc];(refine Sx.Fin.wk Zs ?_;repeat' first|exact .refl _|fail);done)
   |(rw[ag4 (by assumption)];(refine Sx.Fin.wk Zs ?_;repeat' first|exact .refl _|fail);done)
   |(rw[ag6 (by assumption)];(refine Sx.Fin.wk Zs ?_;repeat' first|exact .refl _|fail);done)
   |(rw[HY (by assumption),Z6 hc];(refine Sx.Fin.wk Zs ?_;repeat' first|exact .refl _|exact .nil|refine .cons ?_ ?_|refine .aE ?_|refine .agg ?_|fail);done)
   |(have h3:l.length=3:=by omega
     have e1:IntKind.i64.wrap ((l.length:Int)-1)=2:=by rw[h3];rfl
     have e2:IntKind.i64.wrap ((2:Int)-1)=1:=rfl
     simp only[e1,e2,Int.reduceToNat]at hc ⊢
     first
      |(show(0:Int)≤_∧_;omega)
      |(rw[HY (by omega),Z3 (by assumption),Z3 hc];(refine Sx.Fin.wk Zs ?_;repeat' first|exact .refl _|exact .nil|refine .cons ?_ ?_|refine .aE ?_|refine .agg ?_|fail);done)
      |(rw[HY (by omega),Z3 (by assumption),Z6 (by rw[hc];simp)];(refine Sx.Fin.wk Zs ?_;repeat' first|exact .refl _|fail);done))
   |(have h3:l.length=2:=by omega
     have e1:IntKind.i64.wrap ((l.length:Int)-1)=1:=by rw[h3];rfl
     have e2:IntKind.i64.wrap ((1:Int)-1)=0:=rfl
     simp only[e1,e2,Int.reduceToNat]at hc ⊢
     first
      |(show(0:Int)≤_∧_;omega)
      |(rw[Pp (by omega),Z3 hc];(refine Sx.Fin.wk Zs ?_;repeat' first|exact .refl _|exact .nil|refine .cons ?_ ?_|refine .aE ?_|refine .agg ?_|fail);done)
      |(rw[Pp (by omega),Z6 (by rw[hc];simp)];(refine Sx.Fin.wk Zs ?_;repeat' first|exact .refl _|fail);done))
   |(have h3:l.length=2:=by omega
     have e1:IntKind.i64.wrap ((l.length:Int)-1)=1:=by rw[h3];rfl
     have e2:IntKind.i64.wrap ((1:Int)-1)=0:=rfl
     simp only[e1,e2]
     show(0:Int)≤_∧_;omega)
   |(have ha:x.op∈qz:=by obtain⟨y,hy,e⟩:=cO.2.1 (by omega);rw[e];exact hy
     rw[ag5 (by omega)]
     simp only[qz,ZQ,Yt,or_false]at ha
     clear cO nj
     generalize l.getD 0 default=A at *
     first
      |(rw[show ke x.op A=(cC,5)from by unfold ke;grind];(refine Sx.Fin.wk Zs ?_;repeat' first|exact .refl _|exact .nil|refine .cons ?_ ?_|refine .aE ?_|refine .agg ?_|fail);done)
      |(rw[show ke x.op A=(A,0)from by unfold ke;grind];(refine Sx.Fin.wk Zs ?_;repeat' first|exact .refl _|fail);done)
      |(rw[show ke x.op A=(⟨1,[],s0⟩,0)from by unfold ke;grind];(refine Sx.Fin.wk Zs ?_;repeat' first|exact .refl _|exact .nil|refine .cons ?_ ?_|refine .aE ?_|refine .agg ?_|fail);done))
   |skip
set_option maxHeartbeats 16000000
def Ef(rows:List (List AV))(y:AV)(τ:Store):Prop:=(rows=[]∧y=dM∧τ=[])∨∃ b u c,y= .own 3 53 b u c rows∧τ=[(53,b,.tail u c)]
theorem Mf{L:List Ty}{y:AV}{τ:Store}(h:Ef (L.map Ty.cells) y τ):Wk y (lV L):=by
 rcases h with⟨hE,rfl,rfl⟩|⟨b,u,c,rfl,rfl⟩
 ·rw[Ym.1 hE];exact .nil
 ·exact .own _
def AX(C:az)(e0:ae)(x:Ex):Prop:=∀ tb,form tb.isSome x=true→Sx.Pure prog 120 [.agg (o4 C e0 tb),.agg x.row] (eF (inf C e0 x tb))
theorem adz(hT:ob)(hO:oa)(C:az)(e0:ae)(x:Ex)(ih:∀ i,i<x.args.length→AX C e0 (x.args.getD i default))(tb:Option aP)(hf:form tb.isSome x=true)(hk:¬x.kind=5):Pure prog 120 [.agg (o4 C e0 tb),.agg x.row] (eF (inf C e0 x tb)):=by
 have nj:=q9 hf
 have ik:=Pq hT hO C e0 tb x hf
 have FT:x.args.length≤3:=by omega
 have tn:∀ i,i<x.args.length→form tb.isSome (x.args.getD i default)=true:=fun i hi=>by
  have:=((lD _ x).1 hf).2.2.1 _ (bu hi)
  rwa [ZA hk,Bool.or_false]at this
 have hA0:=fun(i:Nat) (h:i<x.args.length)=>ih i h tb (tn i h)
 have dq:lK C e0 tb x=(tb,0):=Z6 hk
 rw[CC,dq]
 have hS:∃ e1 t1,o4 C e0 tb=gF C e1 t1:=by cases tb;exact⟨_,_,rfl⟩;exact⟨_,_,rfl⟩
 obtain⟨e1,t1,hS⟩:=hS
 rw[hS]at ik hA0 ⊢
 clear hS
 simp only[Ex.bP x]at ik ⊢
 refine CH.p fun σ=> ?_
 repeat'(first|exact .nil|refine .k0 ?_|refine .k1 ?_|refine .k2 ?_|refine .k6 ?_|refine .k9 ?_|(refine .cd ?_ ?_<;>(intro hc;skip))|refine .r1 ?_ ?_|(refine .l1 ?_;intro b)|(refine .m1 ?_ ?_;intro b)|fail)
 all_goals(try simp only[BL]at *)
 ·exact absurd hc hk
 rename_i b2 b3 b4
 rename Nat=>b6
 refine aH (fun m rg af=>∃ (i:Nat) (L:List Ty) (y:AV) (τ:Store),i≤x.args.length∧m=x.args.length-i∧L.length=i∧dG C e0 x.args (tb)=(L++(dG C e0 (x.args.drop i) (tb)).1,(dG C e0 (x.args.drop i) (tb)).2)∧Ef (L.map Ty.cells) y τ∧af=τ++(6,b6,aG.cells (gF C e1 t1))::(4,b4,aG.cells wW)::(3,b3,aG.cells x.lay)::(2,b2,aG.cells (gF C e1 t1))::σ∧rg=[(2,.lp 2 b2 0),(3,.lp 3 b3 0),(4,.lp 4 b4 0),(6,.lp 6 b6 0),(9,y),(10,iv i)]) x.args.length rfl ⟨_,_,Zr,Zs,0,[],_,_,Z1 _,rfl,rfl,rfl,.inl ⟨rfl,rfl,rfl⟩,rfl,rfl⟩ ?_
 rintro m _ _ ⟨i,L,y,τ,hi,hm,hL,gR,hG,rfl,rfl⟩
 have hW:=Mf hG
 have fh:=fun(h:L.length=x.args.length)=>(ik L h).wk (.cons (.refl _) (.cons (.refl _) (.cons hW .nil)))
 have hA:=hA0 i
 have hd:=fun(h:i<x.args.length) TB=>zE C e0 h TB
 rcases hG with⟨hE,rfl,rfl⟩|⟨b7,u7,c7,rfl,rfl⟩
 all_goals
  repeat'(first|exact .nil|refine .k0 ?_|refine .k1 ?_|refine .k2 ?_|refine .k3 ?_|refine .k6 ?_|refine .k7 ?_|refine .k8 ?_|refine .k9 ?_|(refine .cd ?_ ?_<;>(intro hc;skip))|refine .r1 ?_ ?_|(refine .l1 ?_;intro b)|(refine .m2 ?_ ?_;intro hlen)|refine .t1 ?_ ?_ ?_|refine .u1 ?_ ?_ ?_ (fun b u c=> ?_)|refine .u2 ?_ ?_ ?_ (fun b u c=> ?_)|refine .an rfl (by intro aq;first|exact hA (by(simp only[BL]at *;omega))|exact fh (by(simp only[BL]at *;omega))) ?_ ?_|(show List.all _ _=true;rfl)|fail)
  try any_goals(exact Zo)
  all_goals(try simp only[BL]at *)
  all_goals try(show _≤1000000;simp only[Z8,Z5];omega)
  all_goals try(show _ * _≤_;simp only[Z7,Z8,Z5];omega)
  all_goals first
   |(show Sx.Fin _ _ _ _
     have bp:i<x.args.length:=by omega
     rw[gR,hd bp,Z3 hc,x7 hc];exact Zw;done)
   |(show Sx.Fin _ _ _ _
     have bp:i=x.args.length:=by omega
     subst bp
     rw[gR,Y2,dG,x8];exact Zw;done)
   |(have bp:i<x.args.length:=by omega
     refine⟨m-1,by omega,_,[(53,b,.tail u c)]++(6,b6,aG.cells (gF C e1 t1))::(4,b4,aG.cells wW)::(3,b3,aG.cells x.lay)::(2,b2,aG.cells (gF C e1 t1))::σ,Zr,Zs,i+1,L++[(inf C e0 (x.args.getD i default) (tb)).1],_,_,by omega,by omega,by simp[hL],?_,.inr ⟨b,u,c,?_,rfl⟩,rfl,by rw[aO (n:=50) (by omega) (by decide)]⟩
     ·rw[gR,hd bp,Z6 (by rw[hc];simp)];simp
     ·rw[Zz];first|rfl|(rw[hE];rfl))
theorem aMV(C:az)(e0:ae):Ax C e0 none= .aE [.agg xy,iv 4]:=rfl
theorem aMW(C:az)(e0:ae)(t:aP):Ax C e0 (some t)=if t.cv=e0 then .aE [.agg (gF C s0 t),iv 0]else .aE [.agg xy,iv 5]:=rfl
theorem ady(hT:ob)(hO:oa)(C:az)(e0:ae)(x:Ex)(ih:∀ i,i<x.args.length→AX C e0 (x.args.getD i default))(hf:form false x=true)(hk:x.kind=5):Pure prog 120 [.agg (o4 C e0 none),.agg x.row] (eF (inf C e0 x none)):=by
 have nj:=q9 hf
 have ik:=Pq hT hO C e0 none x hf
 have FT:x.args.length≤3:=by omega
 have tn:∀ t:aP,∀ i,i<x.args.length→form (some t).isSome (x.args.getD i default)=true:=fun t i hi=>by
  have:=((lD _ x).1 hf).2.2.1 _ (bu hi)
  rwa [Zd hk,Bool.or_true]at this
 rw[CC]
 have dq:lK C e0 none x=match mU C.tables x.table with
  |none=>(none,4)
  |some t=>if t.cv=e0 then(some t,0)else(none,5):=Z3 hk
 rw[dq]
 clear dq
 have td:=aM2 C e0 D9 x.table
 cases hF:mU C.tables x.table with
 |none=>
  rw[hF,aMV]at td
  show Pure _ _ _ (eF (mq C e0 none x 4 (dG C e0 x.args none)))
  rw[show mq C e0 none x 4 (dG C e0 x.args none)=(cC,4)from Z3 (by decide)]
  unfold o4
  simp only[Ex.bP x]at ik ⊢
  refine CH.p fun σ=> ?_
  repeat'(first|exact .nil|refine .k0 ?_|refine .k1 ?_|refine .k2 ?_|refine .k6 ?_|refine .k7 ?_|refine .k9 ?_|(refine .cd ?_ ?_<;>(intro hc;skip))|refine .r1 ?_ ?_|(refine .l1 ?_;intro b)|(refine .m1 ?_ ?_;intro b)|refine .an rfl (by intro aq;first|exact td|fail) ?_ ?_|fail)
  all_goals(try simp only[BL]at *)
  all_goals first|(show Sx.Fin _ _ _ _;(refine Sx.Fin.wk Zs ?_;repeat' first|exact .refl _|exact .nil|refine .cons ?_ ?_|refine .aE ?_|refine .agg ?_|fail);done)|(exfalso;omega)
 |some t=>
  rw[hF,aMW]at td
  show Pure _ _ _ (eF (mq C e0 none x (if t.cv=e0 then(some t,(0:Int))else(none,5)).2 (dG C e0 x.args (if t.cv=e0 then(some t,(0:Int))else(none,5)).1)))
  by_cases he:t.cv=e0
  rotate_left
  ·rw[Z6 he]at td
   rw[Z6 he,show mq C e0 none x 5 (dG C e0 x.args none)=(cC,5)from Z3 (by decide)]
   unfold o4
   simp only[Ex.bP x]at ik ⊢
   refine CH.p fun σ=> ?_
   repeat'(first|exact .nil|refine .k0 ?_|refine .k1 ?_|refine .k2 ?_|refine .k6 ?_|refine .k7 ?_|refine .k9 ?_|(refine .cd ?_ ?_<;>(intro hc;skip))|refine .r1 ?_ ?_|(refine .l1 ?_;intro b)|(refine .m1 ?_ ?_;intro b)|refine .an rfl (by intro aq;first|exact td|fail) ?_ ?_|fail)
   all_goals(try simp only[BL]at *)
   all_goals first|(show Sx.Fin _ _ _ _;(refine Sx.Fin.wk Zs ?_;repeat' first|exact .refl _|exact .nil|refine .cons ?_ ?_|refine .aE ?_|refine .agg ?_|fail);done)|(exfalso;omega)
  rw[Z3 he]at td
  rw[Z3 he]
  have hA0:=fun(i:Nat) (h:i<x.args.length)=>ih i h (some t) (tn t i h)
  unfold o4 at ik hA0 ⊢
  simp only[Ex.bP x]at ik ⊢
  clear hF
  refine CH.p fun σ=> ?_
  repeat'(first|exact .nil|refine .k0 ?_|refine .k1 ?_|refine .k2 ?_|refine .k6 ?_|refine .k7 ?_|refine .k9 ?_|(refine .cd ?_ ?_<;>(intro hc;skip))|refine .r1 ?_ ?_|(refine .l1 ?_;intro b)|(refine .m1 ?_ ?_;intro b)|refine .an rfl (by intro aq;first|exact td|fail) ?_ ?_|fail)
  all_goals(try simp only[BL]at *)
  ·exact absurd trivial hc
  rotate_left
  ·exact absurd hk hc
  rename_i b2 b3 b4 b6 _
  refine aH (fun m rg af=>∃ (i:Nat) (L:List Ty) (y:AV) (τ:Store),i≤x.args.length∧m=x.args.length-i∧L.length=i∧dG C e0 x.args (some t)=(L++(dG C e0 (x.args.drop i) (some t)).1,(dG C e0 (x.args.drop i) (some t)).2)∧Ef (L.map Ty.cells) y τ∧af=τ++(6,b6,aG.cells (gF C s0 t))::(4,b4,aG.cells wW)::(3,b3,aG.cells x.lay)::(2,b2,aG.cells (gF C e0 D9))::σ∧rg=[(2,.lp 2 b2 0),(3,.lp 3 b3 0),(4,.lp 4 b4 0),(6,.lp 6 b6 0),(9,y),(10,iv i)]) x.args.length rfl ⟨_,_,Zr,Zs,0,[],_,_,Z1 _,rfl,rfl,rfl,.inl ⟨rfl,rfl,rfl⟩,rfl,rfl⟩ ?_
  rintro m _ _ ⟨i,L,y,τ,hi,hm,hL,gR,hG,rfl,rfl⟩
  have hW:=Mf hG
  have fh:=fun(h:L.length=x.args.length)=>(ik L h).wk (.cons (.refl _) (.cons (.refl _) (.cons hW .nil)))
  have hA:=hA0 i
  have hd:=fun(h:i<x.args.length) TB=>zE C e0 h TB
  rcases hG with⟨hE,rfl,rfl⟩|⟨b7,u7,c7,rfl,rfl⟩
  all_goals
   repeat'(first|exact .nil|refine .k0 ?_|refine .k1 ?_|refine .k2 ?_|refine .k3 ?_|refine .k6 ?_|refine .k7 ?_|refine .k8 ?_|refine .k9 ?_|(refine .cd ?_ ?_<;>(intro hc;skip))|refine .r1 ?_ ?_|(refine .l1 ?_;intro b)|(refine .m2 ?_ ?_;intro hlen)|refine .t1 ?_ ?_ ?_|refine .u1 ?_ ?_ ?_ (fun b u c=> ?_)|refine .u2 ?_ ?_ ?_ (fun b u c=> ?_)|refine .an rfl (by intro aq;first|exact hA (by(simp only[BL]at *;omega))|exact fh (by(simp only[BL]at *;omega))) ?_ ?_|(show List.all _ _=true;rfl)|fail)
   try any_goals(exact Zo)
   all_goals(try simp only[BL]at *)
   all_goals try(show _≤1000000;simp only[Z8,Z5];omega)
   all_goals try(show _ * _≤_;simp only[Z7,Z8,Z5];omega)
   all_goals first
    |(show Sx.Fin _ _ _ _
      have bp:i<x.args.length:=by omega
      rw[gR,hd bp,Z3 hc,x7 hc];exact Zw;done)
    |(show Sx.Fin _ _ _ _
      have bp:i=x.args.length:=by omega
      subst bp
      rw[gR,Y2,dG,x8];exact Zw;done)
    |(have bp:i<x.args.length:=by omega
      refine⟨m-1,by omega,_,[(53,b,.tail u c)]++(6,b6,aG.cells (gF C s0 t))::(4,b4,aG.cells wW)::(3,b3,aG.cells x.lay)::(2,b2,aG.cells (gF C e0 D9))::σ,Zr,Zs,i+1,L++[(inf C e0 (x.args.getD i default) (some t)).1],_,_,by omega,by omega,by simp[hL],?_,.inr ⟨b,u,c,?_,rfl⟩,rfl,by rw[aO (n:=50) (by omega) (by decide)]⟩
      ·rw[gR,hd bp,Z6 (by rw[hc];simp)];simp
      ·rw[Zz];first|rfl|(rw[hE];rfl))
theorem NV(hT:ob)(hO:oa)(C:az)(e0:ae):∀ (n:Nat) (x:Ex),x.size≤n→AX C e0 x
 |0,x,h=>by cases x;simp[Ex.size]at h
 |n+1,x,h=>fun tb hf=>by
  have ih:∀ i,i<x.args.length→AX C e0 (x.args.getD i default):=fun i hi=>NV hT hO C e0 n _ (by have:=Ex.Ah x hi;omega)
  by_cases hk:x.kind=5
  ·have h5:tb=none:=by
    rcases q9 hf with h|h|h|h|h|h|h|h|h
    all_goals first|omega|skip
    cases tb with
    |none=>rfl
    |some t=>exact absurd h.2.1 (by simp)
   subst h5
   exact ady hT hO C e0 x ih hf hk
  ·exact adz hT hO C e0 x ih tb hf hk
set_option maxHeartbeats 16000000
theorem adA(hT:ob)(hO:oa)(C:az)(e0:ae)(x:Ex)(hs:x.size≤100000):Pure prog 73 [.agg C.cells,sv e0,.agg x.row] (eF (p3 C e0 x)):=by
 have hS:=IB x hs
 have hI:=fun(h:shape x=0)=>NV hT hO C e0 x.size x (ZR _) none (Qq h)
 unfold p3
 generalize inf C e0 x none=r at *
 generalize shape x=sh at *
 unfold o4 at hI
 simp only[Ex.bP x]at hS hI ⊢
 refine k73.p fun σ=> ?_
 repeat'(first|exact .nil|refine .k0 ?_|refine .k1 ?_|refine .k2 ?_|refine .k7 ?_|refine .k9 ?_|(refine .cd ?_ ?_<;>(intro hc;skip))|refine .r1 ?_ ?_|(refine .l1 ?_;intro b)|(refine .m1 ?_ ?_;intro b)|refine .an rfl (by intro aq;first|exact hS|(refine(hI (by(simp only[BL]at *;omega))).wk ?_;(repeat' first|exact .refl _|exact .nil|refine .cons ?_ ?_|refine .agg ?_|fail);done)) ?_ ?_|fail)
 all_goals(try simp only[BL]at *)
 ·rw[Z3 hc];exact Zw
 ·rw[Z6 (by rw[hc];simp)];exact Zw
theorem abI(hT:ob)(hO:oa)(C:az)(f:aj)(hs:f.body.size≤100000):Pure prog 42 [.agg C.cells,.agg f.cells] (iv (oq C f)):=by
 have hI:=adA hT hO C f.cv f.body hs
 unfold oq
 rw[IA]
 generalize p3 C f.cv f.body=r at *
 refine k42.p fun σ=> ?_
 repeat'(first|exact .nil|refine .k0 ?_|refine .k1 ?_|refine .k2 ?_|refine .k4 ?_|refine .k7 ?_|refine .k9 ?_|(refine .cd ?_ ?_<;>(intro hc;skip))|refine .r1 ?_ ?_|(refine .l1 ?_;intro b)|(refine .m1 ?_ ?_;intro b)|refine .an rfl (by intro aq;first|exact nH _|exact wX _|exact hI|exact Ku _ _) ?_ ?_|fail)
 try any_goals(exact Zo)
 all_goals(try simp only[BL]at *)
 all_goals
  refine Sx.Fin.intro Zs (bi ?_)
  grind
set_option maxHeartbeats 16000000
theorem aMa(C:az)(hs:Small C):Pure prog 40 [.agg C.cells] (iv (bG none C.tables)):=by
 refine k40.p fun σ=> ?_
 repeat'(first|exact .nil|refine .k0 ?_|refine .k1 ?_|refine .k2 ?_|refine .k6 ?_|refine .r1 ?_ ?_|(refine .m1 ?_ ?_;intro b)|fail)
 all_goals(try simp only[BL]at *)
 refine aH (fun m rg af=>∃ i:Nat,i≤C.tables.length∧m=C.tables.length-i∧bG none C.tables=bG (qk C.tables i) (C.tables.drop i)∧af=(1,b,.cells C.cells)::σ∧rg=[(1,.lp 1 b 0),(3,iv i)]) C.tables.length rfl ⟨_,_,Zr,Zs,0,Z1 _,rfl,rfl,rfl,rfl⟩ ?_
 rintro m _ _ ⟨i,hi,hm,hL,rfl,rfl⟩
 have bp:i≤maxLen:=by unfold maxLen;have:=hs.t;omega
 have jR:=Pr (l:=C.tables) (i:=i) (s:=(C.tables.getD i default).name) bp
 repeat'(first|exact .nil|refine .k0 ?_|refine .k1 ?_|refine .k2 ?_|refine .k3 ?_|refine .k4 ?_|refine .k5 ?_|refine .k6 ?_|refine .k7 ?_|refine .k8 ?_|refine .k9 ?_|(refine .cd ?_ ?_<;>(intro hc;skip))|refine .r1 ?_ ?_|(refine .m2 ?_ ?_;intro hlen)|refine .t1 ?_ ?_ ?_|refine .an rfl (by intro aq;exact IM _) ?_ ?_|fail)
 try any_goals(exact Zo)
 all_goals(try simp only[BL]at *)
 ·rw[show bG none C.tables=dN (C.tables.getD i default) by rw[hL,wT (by omega),Z3 hc]];exact Zw
 ·rw[show bG none C.tables=1 by rw[hL,wT (by omega),Z6 (by grind),Z3 (jR.1 hc)]];exact Zw
 ·have kN:¬fB 0 (qk C.tables i) (C.tables.getD i default).name:=fun h=>by
   have h2:=jR.2 h
   rcases hc with hc|⟨cW,dj⟩
   ·exact hc h2.1
   ·rcases h2.2 with h3|h3
    ·rw[cW]at h3;cases h3
    ·exact dj h3
  exact⟨m-1,by omega,_,_,Zr,Zs,i+1,by omega,by omega,by rw[hL,wT (by omega),Z6 (by grind),Z6 kN],rfl,by rw[aO (n:=C.tables.length) (by omega) (by assumption)]⟩
 ·intro h;unfold maxLen at bp;rw[aM (by omega)];omega
 ·rw[show bG none C.tables=0 by rw[hL,show i=C.tables.length by omega,Y2,bG]];exact Zw
theorem ahj(f:aj)(hs:f.body.size≤100000):Pure prog 41 [.agg f.cells] (iv (dW f)):=by
 have hS:=IB f.body hs
 unfold dW
 refine k41.p fun σ=> ?_
 repeat'(first|exact .nil|refine .k0 ?_|refine .k1 ?_|refine .k2 ?_|refine .k4 ?_|refine .k7 ?_|refine .k9 ?_|(refine .cd ?_ ?_<;>(intro hc;skip))|refine .r1 ?_ ?_|(refine .m1 ?_ ?_;intro b)|refine .an rfl (by intro aq;first|exact nH _|exact wX _|exact hS) ?_ ?_|fail)
 try any_goals(exact Zo)
 all_goals(try simp only[BL]at *)
 all_goals
  refine Sx.Fin.intro Zs (bi ?_)
  grind
set_option maxHeartbeats 16000000
theorem RP(C:az)(hs:Small C):Pure prog 18 [.agg C.cells] (.sl false 18 (C.all.map aj.cells)):=by
 have h1:=hs.f
 have h2:=hs.d
 have h3:=hs.p
 refine k18.pc (fun d=>if d=4 then 3 else 0) fun σ=> ?_
 repeat'(first|exact .nil|refine .k0 ?_|refine .k1 ?_|refine .k2 ?_|refine .k7 ?_|refine .r1 ?_ ?_|(refine .m1 ?_ ?_;intro b)|refine .u2 ?_ ?_ ?_ (fun b u c=> ?_)|refine .u3 ?_ ?_ (fun hr0=> ?_) (fun yX b u c=> ?_)|refine .r8 ?_ ?_|fail)
 all_goals(try simp only[BL]at *)
 all_goals try(show _≤1000000;decide)
 all_goals try(show _ * _≤_;simp only[Z7,Z9,Z5];omega)
 all_goals try(show List.all _ _=true;rw[List.all_map,Zx];intro y _;rfl)
 all_goals
  have cH:C.all.map aj.cells=C.features.map aj.cells++C.bn.map aj.cells++C.past.map aj.cells:=by unfold az.all;rw[Zz,Zz]
  rw[cH]
  try rw[‹List.map aj.cells C.features=[]›]
  try rw[‹List.map aj.cells C.bn=[]›]
  try rw[‹List.map aj.cells C.past=[]›]
  simp only[Y0,Zb]
  refine Sx.Fin.wk Zs ?_
  first|exact .own _|exact Wk.Fh rfl
set_option maxHeartbeats 4000000
def nK(C:az)(n:Nat):Nat:=if n=0 then 0 else if n=1 then C.features.length else C.features.length+C.bn.length
def iB(f:aj):ae×Int:=(f.name,f.version)
structure ei(C:az)(i n j:Nat):Prop where
 hn:n≤2
 hj:j≤(LL C n).length
 hi:i=nK C n+j
 hv:gW C=if(dy n (fC (LL C n) j) ((LL C n).drop j) ((C.all.take i).map iB)).1≠0 then(dy n (fC (LL C n) j) ((LL C n).drop j) ((C.all.take i).map iB)).1 else pb C (2-n) (n+1) (dy n (fC (LL C n) j) ((LL C n).drop j) ((C.all.take i).map iB)).2
theorem ei.start(C:az):ei C 0 0 0:=⟨by omega,by omega,rfl,rfl⟩
theorem ei.over{C:az}{i n j:Nat}(h:ei C i n j)(hj:j=(LL C n).length)(hn:n<2):ei C i (n+1) 0:=by
 obtain⟨h1,h2,h3,h4⟩:=h
 subst hj
 rw[Y2,dy,Z6 (by simp)]at h4
 refine⟨by omega,Z1 _,?_,?_⟩
 ·have im:n=0∨n=1:=by omega
  rcases im with rfl|rfl
  ·rw[h3];unfold nK LL;simp
  ·rw[h3];unfold nK LL;simp
 ·rw[h4,show 2-n=(2-(n+1))+1 by omega,pb]
  rfl
theorem ei.end_{C:az}{i j:Nat}(h:ei C i 2 j)(hj:j=(LL C 2).length):gW C=0:=by
 obtain⟨h1,h2,h3,h4⟩:=h
 subst hj
 rw[Y2,dy,Z6 (by simp)]at h4
 rw[h4];rfl
theorem uQ(C:az):C.all.length=C.features.length+C.bn.length+C.past.length:=by unfold az.all;simp[XJ]
theorem ei.G7{C:az}{i n j:Nat}(h:ei C i n j)(hi:i<C.all.length):∃ n j,ei C i n j∧j<(LL C n).length:=by
 have hl:=uQ C
 have key:∀ k n j,2-n≤k→ei C i n j→∃ n j,ei C i n j∧j<(LL C n).length:=by
  intro k
  induction k with
  |zero=>
   intro n j hk h
   have hn:n=2:=by have:=h.hn;omega
   subst hn
   refine⟨2,j,h,?_⟩
   have h3:=h.hi
   have:(LL C 2).length=C.past.length:=rfl
   unfold nK at h3
   simp at h3
   omega
  |succ k ih=>
   intro n j hk h
   by_cases hj:j<(LL C n).length
   ·exact⟨n,j,h,hj⟩
   ·by_cases hn:n<2
    ·exact ih (n+1) 0 (by omega) (h.over (by have:=h.hj;omega) hn)
    ·exact ih n j (by omega) h
 exact key (2-n) n j (ZR _) h
theorem ei.done{C:az}{n j:Nat}(h:ei C C.all.length n j):gW C=0:=by
 have hl:=uQ C
 have key:∀ k n j,2-n≤k→ei C C.all.length n j→gW C=0:=by
  intro k
  induction k with
  |zero=>
   intro n j hk h
   have hn:n=2:=by have:=h.hn;omega
   subst hn
   refine h.end_ ?_
   have h3:=h.hi
   have h4:(LL C 2).length=C.past.length:=rfl
   unfold nK at h3
   simp at h3
   omega
  |succ k ih=>
   intro n j hk h
   by_cases hn:n<2
   ·refine ih (n+1) 0 (by omega) (h.over ?_ hn)
    have h3:=h.hi
    have h5:=h.hj
    have im:n=0∨n=1:=by omega
    rcases im with rfl|rfl
    ·have h4:(LL C 0).length=C.features.length:=rfl
     unfold nK at h3
     simp at h3
     omega
    ·have h4:(LL C 1).length=C.bn.length:=rfl
     unfold nK at h3
     simp at h3
     omega
   ·exact ih n j (by omega) h
 exact key (2-n) n j (ZR _) h
theorem ox{α:Type}(a b:List α)(d:α){k:Nat}:(a++b).getD k d=if k<a.length then a.getD k d else b.getD (k-a.length) d:=by
 simp only[ZY]
 by_cases h:k<a.length
 ·rw[Z3 h,Y7 h]
 ·rw[Z6 h,YA (by omega)]
theorem ei.get{C:az}{i n j:Nat}(h:ei C i n j)(hj:j<(LL C n).length):i<C.all.length∧C.all.getD i default=(LL C n).getD j default:=by
 have hl:=uQ C
 have h3:=h.hi
 have im:n=0∨n=1∨n=2:=by have:=h.hn;omega
 unfold nK at h3
 rcases im with rfl|rfl|rfl
 ·have h4:LL C 0=C.features:=rfl
  rw[h4]at hj ⊢
  simp at h3
  subst h3
  refine⟨by omega,?_⟩
  unfold az.all
  rw[ox,Z3 (by simp;omega),ox,Z3 hj]
 ·have h4:LL C 1=C.bn:=rfl
  rw[h4]at hj ⊢
  simp at h3
  subst h3
  refine⟨by omega,?_⟩
  unfold az.all
  rw[ox,Z3 (by simp;omega),ox,Z6 (by omega),Nat.add_sub_cancel_left]
 ·have h4:LL C 2=C.past:=rfl
  rw[h4]at hj ⊢
  simp at h3
  subst h3
  refine⟨by omega,?_⟩
  unfold az.all
  rw[ox,Z6 (by simp),Z9,Nat.add_sub_cancel_left]
theorem ei.step{C:az}{i n j:Nat}(h:ei C i n j)(hj:j<(LL C n).length):
  (dW (C.all.getD i default)≠0→gW C=dW (C.all.getD i default))∧
  (dW (C.all.getD i default)=0→fB n (fC (LL C n) j) (C.all.getD i default).name→gW C=1)∧
  (dW (C.all.getD i default)=0→¬fB n (fC (LL C n) j) (C.all.getD i default).name→gQ ((C.all.take i).map iB) (iB (C.all.getD i default))=true→gW C=121)∧
  (dW (C.all.getD i default)=0→¬fB n (fC (LL C n) j) (C.all.getD i default).name→gQ ((C.all.take i).map iB) (iB (C.all.getD i default))=false→ei C (i+1) n (j+1)):=by
 obtain⟨hi,hg⟩:=h.get hj
 have hv:=h.hv
 have hT:=DL n hj ((C.all.take i).map iB)
 rw[← hg]at hT
 generalize dy n (fC (LL C n) j) ((LL C n).drop j) ((C.all.take i).map iB)=T at *
 refine⟨fun h1=> ?_,fun h1 h2=> ?_,fun h1 h2 h3=> ?_,fun h1 h2 h3=> ?_⟩
 ·rw[Z3 h1]at hT;rw[hT]at hv;rw[hv];exact Z3 h1
 ·rw[Z6 (by rw[h1];simp),Z3 h2]at hT;rw[hT]at hv;rw[hv];exact Z3 (by simp)
 ·rw[Z6 (by rw[h1];simp),Z6 h2,Z3 (show gQ ((C.all.take i).map iB) ((C.all.getD i default).name,(C.all.getD i default).version)=true from h3)]at hT;rw[hT]at hv;rw[hv];exact Z3 (by simp)
 ·rw[Z6 (by rw[h1];simp),Z6 h2,Z6 (show¬gQ ((C.all.take i).map iB) ((C.all.getD i default).name,(C.all.getD i default).version)=true from by rw[show gQ ((C.all.take i).map iB) ((C.all.getD i default).name,(C.all.getD i default).version)=false from h3];simp)]at hT
  rw[hT]at hv
  refine⟨h.hn,hj,by have:=h.hi;omega,?_⟩
  rw[hv,ZV hi,Zz,List.map_singleton,← getD_eq hi]
  rfl
theorem ei.first{C:az}{i n j:Nat}(h:ei C i n j)(hj:j<(LL C n).length):(i=0∨i=C.features.length∨i=C.features.length+C.bn.length)↔j=0:=by
 have h3:=h.hi
 have im:n=0∨n=1∨n=2:=by have:=h.hn;omega
 unfold nK at h3
 rcases im with rfl|rfl|rfl
 ·have h4:(LL C 0).length=C.features.length:=rfl
  simp at h3;omega
 ·have h4:(LL C 1).length=C.bn.length:=rfl
  simp at h3;omega
 ·have h4:(LL C 2).length=C.past.length:=rfl
  simp at h3;omega
theorem ei.past{C:az}{i n j:Nat}(h:ei C i n j)(hj:j<(LL C n).length):i<C.features.length+C.bn.length↔n<2:=by
 have h3:=h.hi
 have im:n=0∨n=1∨n=2:=by have:=h.hn;omega
 unfold nK at h3
 rcases im with rfl|rfl|rfl
 ·have h4:(LL C 0).length=C.features.length:=rfl
  simp at h3;omega
 ·have h4:(LL C 1).length=C.bn.length:=rfl
  simp at h3;omega
 ·have h4:(LL C 2).length=C.past.length:=rfl
  simp at h3;omega
theorem ei.prev{C:az}{i n j:Nat}(h:ei C i n j)(hj:j<(LL C n).length)(h0:0<j):C.all.getD (i-1) default=(LL C n).getD (j-1) default:=by
 have h2:ei C (i-1) n (j-1)→_:=fun h=>(h.get (by omega)).2
 have hl:=uQ C
 have h3:=h.hi
 have im:n=0∨n=1∨n=2:=by have:=h.hn;omega
 unfold nK at h3
 rcases im with rfl|rfl|rfl
 ·have h4:LL C 0=C.features:=rfl
  rw[h4]at hj ⊢
  simp at h3
  unfold az.all
  rw[ox,Z3 (by simp;omega),ox,Z3 (by omega),h3]
 ·have h4:LL C 1=C.bn:=rfl
  rw[h4]at hj ⊢
  simp at h3
  unfold az.all
  rw[ox,Z3 (by simp;omega),ox,Z6 (by omega),show i-1-C.features.length=j-1 by omega]
 ·have h4:LL C 2=C.past:=rfl
  rw[h4]at hj ⊢
  simp at h3
  unfold az.all
  rw[ox,Z6 (by simp;omega),Z9,show i-1-(C.features.length+C.bn.length)=j-1 by omega]
theorem ei.ord{C:az}{i n j:Nat}(h:ei C i n j)(hj:j<(LL C n).length)(s:ae):fB n (fC (LL C n) j) s↔¬(i=0∨i=C.features.length∨i=C.features.length+C.bn.length)∧(ct s (C.all.getD (i-1) default).name=true∨(i<C.features.length+C.bn.length∧s=(C.all.getD (i-1) default).name)):=by
 rw[h.first hj,h.past hj]
 unfold fC
 by_cases h0:j=0
 ·rw[Z3 h0];unfold fB;simp[h0]
 ·rw[Z6 h0,h.prev hj (by omega)]
  unfold fB
  simp[h0]
theorem Q0{C:az}{i:Nat}(hi:i≤C.all.length)(f:aj):gQ ((C.all.take i).map iB) (iB f)=true↔∃ k,k<i∧(C.all.getD k default).name=f.name∧(C.all.getD k default).version=f.version:=by
 rw[BV,Y9]
 constructor
 ·rintro⟨g,hg,e⟩
  obtain⟨k,hk,rfl⟩:=Yc.1 hg
  refine⟨k,by omega,?_⟩
  rw[getD_eq (by omega)]
  unfold iB at e
  simp only[YH]at e
  exact e
 ·rintro⟨k,hk,h1,h2⟩
  refine⟨C.all.getD k default,CU hk hi,?_⟩
  unfold iB
  rw[h1,h2]
set_option maxHeartbeats 16000000
theorem W0(hT:ob)(hO:oa)(C:az)(hs:Small C)(gC:C.Fits):Pure prog 16 [.agg C.cells] (iv (iM C)):=by
 have MB:=aMa C hs
 have MD:=RP C hs
 have Mx:=fun(i:Nat) (h:i<C.all.length)=>ahj (C.all.getD i default) (ZJ (Bb hs (bu h)) (by decide))
 have mX:=fun(i:Nat) (h:i<C.features.length)=>abI hT hO C (C.features.getD i default) (ZJ (Bb hs (Ej (n:=0) (show C.features.getD i default∈LL C 0 from bu h))) (by decide))
 have hY:=aaf C hs gC
 have hl:=uQ C
 have h1:=hs.f
 have h2:=hs.d
 have h3:=hs.p
 have hw:IntKind.i64.wrap ((C.features.length:Int)+(C.bn.length:Int))=(C.features.length:Int)+(C.bn.length:Int):=aM (by omega)
 unfold iM
 generalize gM (deps C.features) (aQ C.features)=Y at *
 refine k16.p fun σ=> ?_
 rename Store=>σ
 repeat'(first|exact .nil|refine .k0 ?_|refine .k1 ?_|refine .k2 ?_|refine .k4 ?_|refine .k6 ?_|refine .k7 ?_|refine .k9 ?_|(refine .cd ?_ ?_<;>(intro hc;skip))|refine .r1 ?_ ?_|(refine .m1 ?_ ?_;intro b)|(refine .m2 ?_ ?_;intro hlen)|refine .an rfl (by intro aq;first|exact MB|exact MD|fail) ?_ ?_|fail)
 try any_goals((intro aq;first|(simp_all;done)|fail))
 all_goals(try simp only[BL]at *)
 ·refine Sx.Fin.intro Zs (bi ?_)
  rw[Z3 (by grind)]
 ·have Gi:¬(C.tables.length>16∨C.features.length>32∨C.bn.length>32∨C.past.length>32):=by grind
  refine Sx.Fin.intro Zs (bi ?_)
  rw[Z6 Gi,Z3 hc]
 have Gi:¬(C.tables.length>16∨C.features.length>32∨C.bn.length>32∨C.past.length>32):=by grind
 rw[Z6 Gi,Z6 (by rw[hc];simp)]
 rw[hw]
 refine aH (fun m rg af=>∃ i n j:Nat,ei C i n j∧i≤C.all.length∧m=C.all.length-i∧af=(1,b,.cells C.cells)::σ∧rg=[(1,.lp 1 b 0),(4,.sl false 18 (C.all.map aj.cells)),(5,iv ((C.features.length:Int)+C.bn.length)),(6,iv i)]) C.all.length rfl ⟨_,_,Zr,Zs,0,0,0,ei.start C,Z1 _,rfl,rfl,rfl⟩ ?_
 rintro m _ _ ⟨i,n,j,hA,hi,hm,rfl,rfl⟩
 have FN:=fun h:i<C.all.length=>Mx i h
 have Ck:0<i→(IntKind.i64.wrap ((i:Int)-1)).toNat=i-1:=fun h=>by rw[aM (by omega)];omega
 repeat'(first|exact .nil|refine .k0 ?_|refine .k1 ?_|refine .k2 ?_|refine .k3 ?_|refine .k4 ?_|refine .k5 ?_|refine .k6 ?_|refine .k7 ?_|refine .k8 ?_|refine .k9 ?_|(refine .cd ?_ ?_<;>(intro hc;skip))|refine .r1 ?_ ?_|(refine .m2 ?_ ?_;intro hlen)|refine .t1 ?_ ?_ ?_|refine .an rfl (by intro aq;first|exact FN (by(simp only[BL]at *;omega))|fail) ?_ ?_|fail)
 try any_goals((intro aq;first|(simp_all;done)|fail))
 all_goals(try simp only[BL]at *)
 ·obtain⟨n',j',hA,hj⟩:=hA.G7 (by omega)
  rw[(hA.step hj).1 hc,Z3 hc];exact Zw
 ·have h0:dW (C.all.getD i default)=0:=by assumption
  obtain⟨n',j',hA,hj⟩:=hA.G7 (by omega)
  rw[Ck (by omega)]at hc
  rw[(hA.step hj).2.1 h0 ((hA.ord hj _).2 ⟨by omega,by rcases hc.2 with h|h;exact .inl h;exact .inr ⟨by omega,h.2⟩⟩),Z3 (by decide)];exact Zw
 ·have h0:dW (C.all.getD i default)=0:=by assumption
  obtain⟨n',j',hA,hj⟩:=hA.G7 (by omega)
  have nu:¬fB n' (fC (LL C n') j') (C.all.getD i default).name:=fun h=>by
   obtain⟨g1,g2⟩:=(hA.ord hj _).1 h
   rcases hc with hc|⟨cW,dj⟩
   ·omega
   ·rw[Ck (by omega)]at cW dj
    rcases g2 with g|⟨g3,g4⟩
    ·unfold ct at g;rw[cW]at g;cases g
    ·rcases dj with h2|h2
     ·omega
     ·exact h2 g4
  have bp:i<C.all.length:=by omega
  clear hc FN Ck Mx mX hY MB MD
  refine aH (fun m rg af=>∃ k:Nat,k≤i∧m=i-k∧(∀ q,q<k→¬((C.all.getD q default).name=(C.all.getD i default).name∧(C.all.getD q default).version=(C.all.getD i default).version))∧af=(1,b,.cells C.cells)::σ∧rg=[(1,.lp 1 b 0),(4,.sl false 18 (C.all.map aj.cells)),(5,iv ((C.features.length:Int)+C.bn.length)),(6,iv i),(8,iv k)]) i rfl ⟨_,_,Zr,Zs,0,Z1 _,rfl,fun q hq=>absurd hq (by omega),rfl,rfl⟩ ?_
  rintro m2 _ _ ⟨k,hk,js,hq,rfl,rfl⟩
  repeat'(first|exact .nil|refine .k0 ?_|refine .k1 ?_|refine .k2 ?_|refine .k3 ?_|refine .k4 ?_|refine .k5 ?_|refine .k6 ?_|refine .k7 ?_|refine .k8 ?_|refine .k9 ?_|(refine .cd ?_ ?_<;>(intro hc;skip))|refine .r1 ?_ ?_|refine .t1 ?_ ?_ ?_|fail)
  try any_goals((intro aq;first|(simp_all;done)|(simp only[BL]at *;omega)))
  all_goals(try simp only[BL]at *)
  ·rw[(hA.step hj).2.2.1 h0 nu ((Q0 (by omega) _).2 ⟨k,by omega,hc⟩),Z3 (by decide)];exact Zw
  ·refine⟨i-(k+1),by omega,_,_,Zr,Zs,k+1,by omega,rfl,fun q yV=> ?_,rfl,by rw[aM (by omega)];rfl⟩
   by_cases e:q=k
   ·subst e;rintro⟨e1,e2⟩;rcases hc with hc|hc;exact hc e1;exact hc e2
   ·exact hq q (by omega)
  ·have B8:k=i:=by omega
   subst B8
   have hnt:gQ ((C.all.take k).map iB) (iB (C.all.getD k default))=false:=by
    rw[← Yi,Q0 (by omega)]
    rintro⟨q,yV,h⟩
    exact hq q yV h
   exact⟨C.all.length-(k+1),by omega,_,_,Zr,Zs,k+1,n',j'+1,(hA.step hj).2.2.2 h0 nu hnt,by omega,rfl,rfl,by rw[aM (by omega)];rfl⟩
 ·intro h;rw[aM (by omega)];omega
 ·intro h;rw[aM (by omega)];omega
 have hve:gW C=0:=by
  have hiL:i=C.all.length:=by omega
  subst hiL
  exact hA.done
 rw[hve,Z6 (by simp)]
 clear hA FN Ck hm hi
 refine aH (fun m rg af=>∃ i:Nat,i≤C.features.length∧m=C.features.length-i∧jm C C.features=jm C (C.features.drop i)∧af=(1,b,.cells C.cells)::σ∧rg=[(1,.lp 1 b 0),(9,iv i)]) C.features.length rfl ⟨_,_,Zr,Zs,0,Z1 _,rfl,rfl,rfl,rfl⟩ ?_
 rintro m _ _ ⟨i,hi,hm,hL,rfl,rfl⟩
 have hF:=mX i
 have FQ:Y.length=0↔Y=[]:=XE
 repeat'(first|exact .nil|refine .k0 ?_|refine .k1 ?_|refine .k2 ?_|refine .k5 ?_|refine .k6 ?_|refine .k7 ?_|refine .k8 ?_|refine .k9 ?_|(refine .cd ?_ ?_<;>(intro hc;skip))|refine .r1 ?_ ?_|(refine .m2 ?_ ?_;intro hlen)|refine .t1 ?_ ?_ ?_|refine .an rfl (by intro aq;first|exact hF (by(simp only[BL]at *;omega))|exact hY) ?_ ?_|fail)
 try any_goals((intro aq;first|(simp_all;done)|fail))
 all_goals(try simp only[BL]at *)
 ·rw[show jm C C.features=oq C (C.features.getD i default) by rw[hL,aNB C (by omega),Z3 hc],Z3 hc];exact Zw
 ·exact⟨m-1,by omega,_,_,Zr,Zs,i+1,by omega,by omega,by rw[hL,aNB C (by omega),Z6 (by grind)],rfl,by rw[aO (n:=C.features.length) (by omega) (by assumption)]⟩
 all_goals have h1:jm C C.features=0:=by rw[hL,show i=C.features.length by omega,Y2,jm]
 all_goals rw[h1,Z6 (by simp)]
 ·rw[Z3 (fun h=>by subst h;simp at hc)];exact Zw
 ·rw[Z6 (fun h=>h (FQ.1 (by omega)))];exact Zw
end Go.Proofs.YtomhopcnkicknaaGreatDoor
