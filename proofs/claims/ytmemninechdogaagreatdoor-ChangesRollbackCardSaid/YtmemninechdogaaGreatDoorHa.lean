import Derived.Test.YtmemninechdogaaGreatDoorGa
set_option linter.all false
namespace Go.Sx
open Go.RowKit Go.Proofs
inductive qM(t b:Nat)(xs:List AV):Store->Store->Prop
 |here {z:Store}:qM t b xs ((t,b,.cells xs)::z) z
 |there {e:Nat×Nat×aE} {z af:Store} (h:qM t b xs z af):qM t b xs (e::z) (e::af)
theorem qM.perm{t b:Nat}{xs:List AV}{z af:Store}(h:qM t b xs z af):List.Perm z ((t,b,.cells xs)::af):=by
 induction h with
 |here=>simp_all|there _ ih=>exact(ih.cons _).trans (.swap _ _ _)
inductive om(b:Nat)(xs:List AV):ag->ag->Prop
 |nil:om b xs [] []
 |p0 {i t:Nat} {r r':ag} (h:om b xs r r'):om b xs ((i,.lp t b 0)::r) ((i,.pc xs)::r')
 |pt {i t o:Nat} {r r':ag} (h:om b xs r r'):om b xs ((i,.lp t b o)::r) ((i,.pc (xs.drop o))::r')
 |same {i:Nat} {x:AV} {r r':ag} (h:om b xs r r'):om b xs ((i,x)::r) ((i,x)::r')
theorem om.lk{b:Nat}{xs:List AV}{r r':ag}(h:om b xs r r')(i:Nat):lk r' i=lk r i\/∃t o,lk r i= .lp t b o/\lk r' i= .pc (xs.drop o):=by
 induction h with
 |nil=>grind| @p0 j t _ _ _ ih=>simp only[Sx.lk];grind| @pt j t o _ _ _ ih=>simp only[Sx.lk];grind| @same j x _ _ _ ih=>simp only[Sx.lk];grind
section
variable {P:Program}[Glob P]{M:Mem}{w0:Base}{w:World}{z:Store}
theorem RL.pc{b o:Nat}{xs:List AV}{vs:List Value}(hR:RL M xs vs)(hc:∀k (h:k<vs.length),M b k=some vs[k]):R M (.pc (xs.drop o)) (.pointer (some ⟨b,o,none⟩)):=by
 refine .pc _ b o (fun k=>vs.getD (o+k) default) (fun k hk=>?_) (fun k hk=>?_)
 .have cN:o+k<vs.length:=by rw[← hR.1];grind
  grind
 .have kN:o+k<xs.length:=by grind
  have cN:o+k<vs.length:=by rw[← hR.1];grind
  rw[List.getElem_drop,Z1,ZX cN];exact hR.2 _ kN cN
end
theorem SW.HY{P:Program}[Glob P]{N:Nat}{s:SC}{Q:Exit->ag->Store->Prop}{rg al:ag}{z af:Store}{t b:Nat}{xs:List AV}(hs:qM t b xs z af)(hr:om b xs rg al)(h:SW P N s Q al af):SW P N s Q rg z:=by
 intro c hc M w0 a w hI hR hN hD;obtain⟨M',vs,hM,bg,di,AN⟩:=(hI.perm hs.perm).freeze;refine uY (h c hc M' w0 a w bg (fun i=>?_) hN hD) fun _ _ _ ⟨M2,bK,aK,h1,h2⟩=>⟨M2,bK,aK,hM.trans h1,h2⟩
 have h1:=(hR i).mono hM;rcases hr.lk i with e|⟨t',o,e1,e2⟩
 .grind
 .rw[e1]at h1;rw[e2];have h2:=h1.pb;rw[h2];exact RL.pc di AN
theorem sR{P:Program}[Glob P]{N:Nat}{cfg:Nat->Nat}{Q:Exit->ag->Store->Prop}{a:AC}{k:List Fr}{rg al:ag}{z af:Store}(t b:Nat){xs:List AV}(hs:qM t b xs z af)(hr:om b xs rg al)(h:WK P N cfg Q a k al af):WK P N cfg Q a k rg z:=⟨⟨rfl,SW.HY hs hr h.h.h⟩⟩
end Go.Sx
set_option maxRecDepth 100000
set_option maxHeartbeats 4000000
namespace Go.Proofs.YtmemninechdogaaGreatDoor
open _root_.Go.Proofs.Tryz
open Go.Sx Go.Proofs Go.Tb
def cH:Ty:=⟨0,[],s0⟩
abbrev Pe(t:Ty×Int):AV:=.aG [.agg t.1.cells,iv t.2]
abbrev fj(c:ay)(aY:ae)(fld:AV):List AV:=[.sl false 4 (c.tables.map aO.cells),.sl false 18 (c.features.map aj.cells),.sl false 18 (c.aD.map aj.cells),.sl false 18 (c.past.map aj.cells),sv aY,fld]
theorem j2(e:Int):Pure prog 184 [iv e] (Pe (cH,e)):=by
 refine afL.p fun z=>?_;repeat'(first|exact .nil|refine .k ?_|refine .r1 ?_ ?_|refine .l1 fun b=>?_|fail)
 exact Zw
def po(a b:Ty):Ty×Int:=if a.kind≠b.kind\/a.of≠b.of then(cH,5)else if a.unit≠b.unit then(cH,70)else(a,0)
theorem Ub(a b:List ax):Pure prog 186 [.sl false 2 (a.map ax.cells),.sl false 2 (b.map ax.cells)] (.v (.bool (decide (a=b)))):=by
 refine afM.p fun z=>?_;repeat'(first|exact .nil|refine .k ?_|refine .r1 ?_ ?_|refine .an rfl (by intro ar;exact ND _ _) ?_ ?_|fail)
 exact Zw
theorem KT(x y:Ty):Pure prog 135 [.agg x.cells,.agg y.cells] (Pe (po x y)):=by
 refine afn.p fun z=>?_;repeat'(first|exact .nil|refine .k ?_|grind|(refine .cd ?_ ?_<;>intro hc)|refine .r1 ?_ ?_|refine .l1 fun b=>?_|(refine .m1 ?_ ?_;intro b)|refine .an rfl (by intro ar;first|exact Ub _ _|exact j2 _) ?_ ?_|fail)
 try any_goals(exact Zo)
 all_goals(try simp only[BL]at*)
 .rw[show po x y=(cH,5)from Z3 (by simpa using hc)];exact Zw
 .rw[show po x y=(cH,70)from(Z9 (by grind)).trans (Z3 hc)];exact Zw
 .rw[show po x y=(x,0)from(Z9 (by grind)).trans (Z9 (by grind))];exact Zw
theorem ahW(x:aj)(n:ae):Pure prog 361 [.agg x.cells,.pc [sv n]] (.v (.bool (decide (x.name=n)))):=by
 refine agT.p fun z=>?_;repeat'(first|exact .nil|refine .k ?_|refine .r1 ?_ ?_|(refine .m1 ?_ ?_;intro b)|fail)
 .exact Sx.Fin.intro Zs rfl
theorem aew(fs:List aj)(n:ae):Pure prog 80 [.sl false 18 (fs.map aj.cells),.cl 361 [] [.pc [sv n]]] (iv (firstIdx (fun x=>decide (x.name=n)) fs 0)):=by
 refine JW.p fun z=>?_;repeat'(first|exact .nil|refine .k ?_|refine .r1 ?_ ?_|(refine .m2 ?_ ?_;intro hlen)|fail)
 all_goals(simp_all)
 refine aP (fun m rg af=>∃i:Nat,i<=fs.length/\m=fs.length-i/\(∀j,j<i->¬(fs.getD j default).name=n)/\af=z/\rg=[(0,.sl false 18 (fs.map aj.cells)),(1,.cl 361 [] [.pc [sv n]]),(7,iv fs.length),(8,iv i)]) fs.length rfl ⟨_,_,Zr,Zs,0,Z4 _,rfl,fun j hj=>absurd hj (by omega),rfl,rfl⟩ ?_;rintro m _ _ ⟨i,hi,hn,hp,rfl,rfl⟩;repeat'(first|exact .nil|refine .k ?_|(refine .cd ?_ ?_<;>intro hc)|refine .r1 ?_ ?_|refine .t1 ?_ ?_ ?_|refine .an rfl (by intro ar;exact ahW _ _) ?_ ?_|fail)
 try any_goals(exact Zo)
 all_goals(try simp only[BL]at*)
 .rw[q8 (p:=fun x:aj=>decide (x.name=n)) (l:=fs) (k:=0) (i:=i) (fun j hj=>Zp (hp j hj)) (by omega) (Y7 hc),ZH];exact Zw
 .refine⟨fs.length-(i+1),by omega,_,_,Zr,Zs,i+1,by omega,rfl,dj hp hc,rfl,by rw[bj (n:=fs.length) (by omega) (by assumption)]⟩
 .rw[q9 (fun y hy=>Zp (kj (p:=fun y:aj=>¬y.name=n) (fun j hj=>hp j (by omega)) y hy))];exact Zw
def kW(fs:List aj)(n aY:ae):Ty×Int:=match findF fs n with
 |none=>(cH,4)
 |some f=>if f.dh=aY then(f.type,0)else(cH,5)
theorem ac3{fs:List aj}{n:ae}:(findF fs n=none/\firstIdx (fun x=>decide (x.name=n)) fs 0= -1)\/∃i:Nat,i<fs.length/\firstIdx (fun x=>decide (x.name=n)) fs 0=(i:Int)/\findF fs n=some (fs.getD i default):=by
 rcases vf (fun x=>decide (x.name=n)) fs 0 with h|⟨i,h1,h2,h3⟩
 .exact .inl h
 .exact .inr ⟨i,h1,by grind,h3⟩
theorem RA(c:ay)(e0 n aY:ae):Pure prog 334 [.agg (fj c e0 (.v .nilFunc)),sv n,sv aY] (Pe (kW c.features n aY)):=by
 have hi:=aew c.features n;unfold kW;rcases ac3 (fs:=c.features) (n:=n)with⟨h1,h2⟩|⟨i,h0,h2,h1⟩
 all_goals
  rw[h2]at hi;rw[h1];refine agM.p fun z=>?_;refine .k ?_;refine .k ?_;repeat'((fail_if_success (show WK _ _ _ _ _ _ _ _));(first|exact .nil|refine .k ?_|refine .r1 ?_ ?_|refine .l1 fun b=>?_|(refine .m1 ?_ ?_;intro b)|fail))
  refine .k ?_;rename_i b3 b4;refine sR 4 b4 (.there .here) (.same (.same (.p0 (.same .nil)))) ?_;repeat'(first|exact .nil|refine .k ?_|(refine .cd ?_ ?_<;>intro hc)|refine .r1 ?_ ?_|refine .t1 ?_ ?_ ?_|refine .an rfl (by intro ar;first|exact hi|exact j2 _) ?_ ?_|fail)
  try any_goals(exact Zo)
  all_goals(try simp only[BL]at*)
  simp_all
 .exact Zw
 .exfalso;omega
 .exfalso;omega
 .exfalso;omega
 .rw[Z9 hc];exact Zw
 .rw[Z3 hc];exact Zw
abbrev nk(l:List Ty):AV:=.sl false 3 (l.map Ty.cells)
def gg:Option aO->AV
 |none=>.v .nilFunc|some t=>.cl 237 [] [.pc t.cells]
theorem ahA(c:ay)(e0:ae)(tb:Option aO)(x:Ex)(l:List Ty):Pure prog 282 [.agg (fj c e0 (gg tb)),.agg x.row,nk l] (Pe (⟨x.val.kind,x.unit,x.name⟩,0)):=by
 cases tb
 all_goals
  refine agr.p fun z=>?_;repeat'(first|exact .nil|refine .k ?_|refine .r1 ?_ ?_|refine .l1 fun b=>?_|(refine .m1 ?_ ?_;intro b)|fail)
  all_goals exact Zw
theorem acz(c:ay)(e0:ae)(x:Ex)(l:List Ty):Pure prog 284 [.agg (fj c e0 (.v .nilFunc)),.agg x.row,nk l] (Pe (kW c.features x.name e0)):=by
 have hn:=RA c e0 x.name e0;refine agt.p fun z=>?_;repeat'(first|exact .nil|refine .k ?_|refine .r1 ?_ ?_|refine .l1 fun b=>?_|(refine .m1 ?_ ?_;intro b)|refine .an rfl (by intro ar;omega) ?_ ?_|fail)
 exact Zw
theorem ahB(c:ay)(e0:ae)(x:Ex)(l:List Ty)(hl:0<l.length):Pure prog 285 [.agg (fj c e0 (.v .nilFunc)),.agg x.row,nk l] (Pe (if(l.getD 0 default).kind=5 then kW c.features x.name (l.getD 0 default).of else(cH,5))):=by
 have hn:=RA c e0 x.name (l.getD 0 default).of;generalize kW c.features x.name (l.getD 0 default).of=r at*;refine agu.p fun z=>?_;repeat'(first|exact .nil|refine .k ?_|(refine .cd ?_ ?_<;>intro hc)|refine .r1 ?_ ?_|refine .l1 fun b=>?_|(refine .m1 ?_ ?_;intro b)|refine .t1 ?_ ?_ ?_|refine .an rfl (by intro ar;first|exact hn|exact j2 _|fail) ?_ ?_|fail)
 try grind
 all_goals(try simp only[BL]at*)
 all_goals try(show(0:Int)<=_/\_;omega)
 all_goals first|(rw[Z9 hc];(refine Sx.Fin.wk Zs ?_;repeat' first|exact .refl _|fail);done)|(rw[Z3 hc];(refine Sx.Fin.wk Zs ?_;repeat' first|exact .refl _|fail);done)
theorem aa0(c:ay)(e0:ae)(tb:Option aO)(x:Ex)(l:List Ty)(hl:l.length=3):Pure prog 289 [.agg (fj c e0 (gg tb)),.agg x.row,nk l] (Pe (if(l.getD 0 default).kind=1 then po (l.getD 1 default) (l.getD 2 default)else(cH,5))):=by
 cases tb
 all_goals
  refine agy.p fun z=>?_;repeat'(first|exact .nil|refine .k ?_|(refine .cd ?_ ?_<;>intro hc)|refine .r1 ?_ ?_|refine .l1 fun b=>?_|(refine .m1 ?_ ?_;intro b)|refine .t1 ?_ ?_ ?_|refine .an rfl (by intro ar;first|exact j2 _|exact KT _ _|fail) ?_ ?_|fail)
  try any_goals(exact Zo)
  all_goals(try simp only[BL]at*)
  all_goals try(show(0:Int)<=_/\_;omega)
  all_goals first|(rw[Z9 hc];(refine Sx.Fin.wk Zs ?_;repeat' first|exact .refl _|fail);done)|(rw[Z3 hc];(refine Sx.Fin.wk Zs ?_;repeat' first|exact .refl _|fail);done)
theorem acq(c:ay)(e0:ae)(tb:Option aO)(x:Ex)(l:List Ty)(hl:l.length=2):Pure prog 290 [.agg (fj c e0 (gg tb)),.agg x.row,nk l] (Pe (po (l.getD 0 default) (l.getD 1 default))):=by
 cases tb
 all_goals
  refine agz.p fun z=>?_;repeat'(first|exact .nil|refine .k ?_|refine .r1 ?_ ?_|refine .l1 fun b=>?_|(refine .m1 ?_ ?_;intro b)|refine .t1 ?_ ?_ ?_|refine .an rfl (by intro ar;first|exact KT _ _|fail) ?_ ?_|fail)
  all_goals(simp_all)
  all_goals exact Zw
def ail(o:ae)(l:List ae):Prop:=o∈l
instance (o:ae)(l:List ae):Decidable (ail o l):=inferInstanceAs (Decidable (o∈l))
def iE(o:ae)(a b:Ty):Ty×Int:=
 if b.kind≠1 then(cH,5)else if o=(⟨#[99,111,117,110,116]⟩:ae)\/o=(⟨#[100,105,115,116,105,110,99,116]⟩:ae)then(⟨2,[],s0⟩,0)else if o=(⟨#[102,105,114,115,116]⟩:ae)\/o=(⟨#[108,97,115,116]⟩:ae)then(a,0)else if(o=(⟨#[109,105,110]⟩:ae)\/o=(⟨#[109,97,120]⟩:ae))/\a.kind=4 then(a,0)
 else if¬Num a then(cH,5)else if o=(⟨#[109,101,97,110]⟩:ae)\/o=(⟨#[100,101,99,97,121]⟩:ae)then(⟨3,a.unit,s0⟩,0)else(a,0)
def lD(o:ae)(a:Ty):Ty×Int:=
 if o=(⟨#[45]⟩:ae)/\Num a then(a,0)else if o=(⟨#[110,117,108,108]⟩:ae)\/(o=(⟨#[110,111,116]⟩:ae)/\a.kind=1)then(⟨1,[],s0⟩,0)else(cH,5)
theorem aae(c:ay)(e0:ae)(x:Ex)(l:List Ty)(hl:l.length=2):Pure prog 286 [.agg (fj c e0 (.v .nilFunc)),.agg x.row,nk l] (Pe (iE x.op (l.getD 0 default) (l.getD 1 default))):=by
 refine agv.p fun z=>?_;repeat'(first|exact .nil|refine .k ?_|(refine .cd ?_ ?_<;>(intro hc;first|exact kf hc (by assumption)|skip))|refine .r1 ?_ ?_|refine .l1 fun b=>?_|(refine .m1 ?_ ?_;intro b)|refine .t1 ?_ ?_ ?_|refine .an rfl (by intro ar;first|exact j2 _|exact Ed _) ?_ ?_|fail)
 try any_goals(exact Zo)
 all_goals(try simp only[BL]at*)
 all_goals try(show(0:Int)<=_/\_;omega)
 all_goals clear hl
 all_goals generalize l.getD 0 default=A at*
 all_goals generalize l.getD 1 default=B at*
 all_goals first
  |(rw[show iE x.op A B=(cH,5)from by unfold iE;grind];(refine Sx.Fin.wk Zs ?_;repeat' first|exact .refl _|refine .cons ?_ ?_|refine .aG ?_|refine .agg ?_|fail);done)
  |(rw[show iE x.op A B=(A,0)from by unfold iE;grind];(refine Sx.Fin.wk Zs ?_;repeat' first|exact .refl _|refine .cons ?_ ?_|refine .aG ?_|refine .agg ?_|fail);done)
  |(rw[show iE x.op A B=(⟨2,[],s0⟩,0)from by unfold iE;grind];(refine Sx.Fin.wk Zs ?_;repeat' first|exact .refl _|exact .nil|refine .cons ?_ ?_|refine .aG ?_|refine .agg ?_|fail);done)
  |(rw[show iE x.op A B=(⟨3,A.unit,s0⟩,0)from by unfold iE;grind];(refine Sx.Fin.wk Zs ?_;repeat' first|exact .refl _|fail);done)
theorem alT(c:ay)(e0:ae)(tb:Option aO)(x:Ex)(l:List Ty)(hl:l.length=1):Pure prog 287 [.agg (fj c e0 (gg tb)),.agg x.row,nk l] (Pe (lD x.op (l.getD 0 default))):=by
 cases tb
 all_goals
  refine agw.p fun z=>?_;repeat'(first|exact .nil|refine .k ?_|omega|omega|refine .k ?_|(refine .cd ?_ ?_<;>(intro hc;first|exact kf hc (by assumption)|skip))|refine .r1 ?_ ?_|refine .l1 fun b=>?_|(refine .m1 ?_ ?_;intro b)|refine .t1 ?_ ?_ ?_|refine .an rfl (by intro ar;first|exact j2 _|exact Ed _) ?_ ?_|fail)
  try any_goals(exact Zo)
  all_goals(try simp only[BL]at*)
  all_goals try(show(0:Int)<=_/\_;omega)
  all_goals clear hl
  all_goals generalize l.getD 0 default=A at*
  all_goals first
   |(rw[show lD x.op A=(cH,5)from by unfold lD;grind];(refine Sx.Fin.wk Zs ?_;repeat' first|exact .refl _|fail);done)
   |(rw[show lD x.op A=(A,0)from by unfold lD;grind];(refine Sx.Fin.wk Zs ?_;repeat' first|exact .refl _|fail);done)
   |(rw[show lD x.op A=(⟨1,[],s0⟩,0)from by unfold lD;grind];(refine Sx.Fin.wk Zs ?_;repeat' first|exact .refl _|exact .nil|refine .cons ?_ ?_|refine .aG ?_|refine .agg ?_|fail);done)
set_option maxHeartbeats 8000000
theorem HJ{g:Type}[Inhabited g](p:g->Bool):∀(l:List g) (k:Nat),(l.find? p=none/\firstIdx p l k= -1)\/∃i:Nat,i<l.length/\firstIdx p l k=((k+i:Nat):Int)/\l.find? p=some (l.getD i default)
 |[],k=>.inl ⟨rfl,rfl⟩|x::l,k=>by
  unfold firstIdx;by_cases h:p x=true
  .grind
  .rcases HJ p l (k+1)with⟨h1,h2⟩|⟨i,h1,h2,h3⟩
   .grind
   .exact .inr ⟨i+1,by grind,by grind,by grind⟩
def zQ(fs:List wb)(n:ae):Option wb:=fs.find? fun f=>decide (f.name=n)
theorem ac8(x:wb)(n:ae):Pure prog 238 [.agg x.cells,.pc [sv n]] (.v (.bool (decide (x.name=n)))):=by
 refine af7.p fun z=>?_;repeat'(first|exact .nil|refine .k ?_|refine .r1 ?_ ?_|(refine .m1 ?_ ?_;intro b)|fail)
 .exact Sx.Fin.intro Zs rfl
theorem aex(fs:List wb)(n:ae):Pure prog 176 [.sl false 4 (fs.map wb.cells),.cl 238 [] [.pc [sv n]]] (iv (firstIdx (fun x=>decide (x.name=n)) fs 0)):=by
 refine JT.p fun z=>?_;repeat'(first|exact .nil|refine .k ?_|refine .r1 ?_ ?_|(refine .m2 ?_ ?_;intro hlen)|fail)
 all_goals(simp_all)
 refine aP (fun m rg af=>∃i:Nat,i<=fs.length/\m=fs.length-i/\(∀j,j<i->¬(fs.getD j default).name=n)/\af=z/\rg=[(0,.sl false 4 (fs.map wb.cells)),(1,.cl 238 [] [.pc [sv n]]),(7,iv fs.length),(8,iv i)]) fs.length rfl ⟨_,_,Zr,Zs,0,Z4 _,rfl,fun j hj=>absurd hj (by omega),rfl,rfl⟩ ?_;rintro m _ _ ⟨i,hi,hn,hp,rfl,rfl⟩;repeat'(first|exact .nil|refine .k ?_|(refine .cd ?_ ?_<;>intro hc)|refine .r1 ?_ ?_|refine .t1 ?_ ?_ ?_|refine .an rfl (by intro ar;exact ac8 _ _) ?_ ?_|fail)
 try any_goals(exact Zo)
 all_goals(try simp only[BL]at*)
 .rw[q8 (p:=fun x:wb=>decide (x.name=n)) (l:=fs) (k:=0) (i:=i) (fun j hj=>Zp (hp j hj)) (by omega) (Y7 hc),ZH];exact Zw
 .refine⟨fs.length-(i+1),by omega,_,_,Zr,Zs,i+1,by omega,rfl,dj hp hc,rfl,by rw[bj (n:=fs.length) (by omega) (by assumption)]⟩
 .rw[q9 (fun y hy=>Zp (kj (p:=fun y:wb=>¬y.name=n) (fun j hj=>hp j (by omega)) y hy))];exact Zw
def pV(fs:List wb)(n:ae):Ty×Int:=match zQ fs n with
 |none=>(cH,4)
 |some f=>(f.type,0)
theorem ac4{fs:List wb}{n:ae}:(zQ fs n=none/\firstIdx (fun x=>decide (x.name=n)) fs 0= -1)\/∃i:Nat,i<fs.length/\firstIdx (fun x=>decide (x.name=n)) fs 0=(i:Int)/\zQ fs n=some (fs.getD i default):=by
 rcases HJ (fun x:wb=>decide (x.name=n)) fs 0 with h|⟨i,h1,h2,h3⟩
 .exact .inl h
 .exact .inr ⟨i,h1,by grind,h3⟩
theorem acK(t:aO)(n:ae):Pure prog 237 [sv n,.pc t.cells] (Pe (pV t.fields n)):=by
 have hi:=aex t.fields n;unfold pV;rcases ac4 (fs:=t.fields) (n:=n)with⟨h1,h2⟩|⟨i,h0,h2,h1⟩
 all_goals
  rw[h2]at hi;rw[h1];refine af6.p fun z=>?_;refine .k ?_;refine .k ?_;repeat'((fail_if_success (show WK _ _ _ _ _ _ _ _));(first|exact .nil|refine .k ?_|refine .r1 ?_ ?_|refine .l1 fun b=>?_|(refine .m1 ?_ ?_;intro b)|fail))
  refine .k ?_;rename_i b2;refine sR 2 b2 (.there .here) (.same (.p0 (.same .nil))) ?_;repeat'(first|exact .nil|refine .k ?_|(refine .cd ?_ ?_<;>intro hc)|refine .r1 ?_ ?_|refine .t1 ?_ ?_ ?_|refine .an rfl (by intro ar;first|exact hi|exact j2 _) ?_ ?_|fail)
  try any_goals(exact Zo)
  all_goals(try simp only[BL]at*)
  all_goals try(show(0:Int)<=_/\_;omega)
  all_goals first|(exfalso;omega)|(refine Sx.Fin.wk Zs ?_;repeat' first|exact .refl _|fail)
theorem acL(c:ay)(e0:ae)(t:aO)(x:Ex)(l:List Ty):Pure prog 283 [.agg (fj c e0 (gg (some t))),.agg x.row,nk l] (Pe (pV t.fields x.name)):=by
 refine ags.p fun z=>?_;repeat'(first|exact .nil|refine .k ?_|refine .r1 ?_ ?_|refine .l1 fun b=>?_|(refine .m1 ?_ ?_;intro b)|refine .an rfl (by intro ar;exact acK _ _) ?_ ?_|fail)
 exact Zw
theorem alw(t:aO)(x:Ex):Pure prog 236 [.agg t.cells,.pc x.row] (.v (.bool (decide (t.name=x.table)))):=by
 refine af5.p fun z=>?_;repeat'(first|exact .nil|refine .k ?_|refine .r1 ?_ ?_|(refine .m1 ?_ ?_;intro b)|fail)
 .exact Sx.Fin.intro Zs rfl
theorem aeA(fs:List aO)(x:Ex):Pure prog 235 [.sl false 4 (fs.map aO.cells),.cl 236 [] [.pc x.row]] (iv (firstIdx (fun t=>decide (t.name=x.table)) fs 0)):=by
 refine af4.p fun z=>?_;repeat'(first|exact .nil|refine .k ?_|refine .r1 ?_ ?_|(refine .m2 ?_ ?_;intro hlen)|fail)
 all_goals(simp_all)
 refine aP (fun m rg af=>∃i:Nat,i<=fs.length/\m=fs.length-i/\(∀j,j<i->¬(fs.getD j default).name=x.table)/\af=z/\rg=[(0,.sl false 4 (fs.map aO.cells)),(1,.cl 236 [] [.pc x.row]),(7,iv fs.length),(8,iv i)]) fs.length rfl ⟨_,_,Zr,Zs,0,Z4 _,rfl,fun j hj=>absurd hj (by omega),rfl,rfl⟩ ?_;rintro m _ _ ⟨i,hi,hn,hp,rfl,rfl⟩;repeat'(first|exact .nil|refine .k ?_|(refine .cd ?_ ?_<;>intro hc)|refine .r1 ?_ ?_|refine .t1 ?_ ?_ ?_|refine .an rfl (by intro ar;exact alw _ _) ?_ ?_|fail)
 try any_goals(exact Zo)
 all_goals(try simp only[BL]at*)
 .rw[q8 (p:=fun t:aO=>decide (t.name=x.table)) (l:=fs) (k:=0) (i:=i) (fun j hj=>Zp (hp j hj)) (by omega) (Y7 hc),ZH];exact Zw
 .refine⟨fs.length-(i+1),by omega,_,_,Zr,Zs,i+1,by omega,rfl,dj hp hc,rfl,by rw[bj (n:=fs.length) (by omega) (by assumption)]⟩
 .rw[q9 (fun y hy=>Zp (kj (p:=fun y:aO=>¬y.name=x.table) (fun j hj=>hp j (by omega)) y hy))];exact Zw
theorem ac5{fs:List aO}{n:ae}:(lM fs n=none/\firstIdx (fun x=>decide (x.name=n)) fs 0= -1)\/∃i:Nat,i<fs.length/\firstIdx (fun x=>decide (x.name=n)) fs 0=(i:Int)/\lM fs n=some (fs.getD i default):=by
 rcases HJ (fun x:aO=>decide (x.name=n)) fs 0 with h|⟨i,h1,h2,h3⟩
 .exact .inl h
 .exact .inr ⟨i,h1,by grind,h3⟩
def Bv(k:Int):FuncId:=if k=1 then 282 else if k=2 then 283 else if k=3 then 284 else if k=4 then 285 else if k=5 then 286 else if k=6 then 287 else if k=7 then 288 else if k=8 then 289 else 290
theorem S8(c:ay)(e0:ae)(tb:Option aO)(k:Int)(hk:1<=k/\k<=9):Pure prog 239 [.agg (fj c e0 (gg tb)),iv k] (.cl (Bv k) [.agg (fj c e0 (gg tb))] []):=by
 have h:k=1\/k=2\/k=3\/k=4\/k=5\/k=6\/k=7\/k=8\/k=9:=by omega
 cases tb<;>rcases h with rfl|rfl|rfl|rfl|rfl|rfl|rfl|rfl|rfl
 all_goals
  refine af8.p fun z=>?_;repeat'(first|exact .nil|refine .k ?_|refine .r1 ?_ ?_|(refine .m1 ?_ ?_;intro b)|refine .l3 fun b=>?_|refine .r6 ?_ ?_|refine .r7 ?_ ?_|fail)
  all_goals(try simp only[BL]at*)
  all_goals exact Sx.Fin.intro Zs rfl
set_option maxHeartbeats 16000000
def bU(l:List ax)(n:ae):Int:=((l.filter fun f=>decide (f.name=n)).map ax.exp).sum
def rQ(l:List ax):List ax×Int:=
 let ns:=gK (l.map ax.name)
 if∃n∈ns,bU l n>8\/bU l n< -8 then([],70)else
 let u:=(ns.map fun n=>(⟨n,bU l n⟩:ax)).filter fun f=>decide (f.exp≠0)
 if u.length>4 then([],2)else(u,0)
def eV(a b:List ax)(sg:Int):List ax×Int:=
 if dK a≠0 then([],dK a)else if dK b≠0 then([],dK b)else rQ (a++b.map fun f=>(⟨f.name,sg*f.exp⟩:ax))
abbrev sj(u:List ax×Int):AV:=.aG [.sl false 2 (u.1.map ax.cells),iv u.2]
def mA:Prop:=∀a b:List ax,Sx.Pure prog 335 [.sl false 2 (a.map ax.cells),.sl false 2 (b.map ax.cells)] (sj (eV a b 1))
def mz:Prop:=∀a b:List ax,Sx.Pure prog 336 [.sl false 2 (a.map ax.cells),.sl false 2 (b.map ax.cells)] (sj (eV a b (-1)))
def kZ:ae:=(⟨#[97,110,100]⟩:ae)
def lq:ae:=(⟨#[111,114]⟩:ae)
def lg:ae:=(⟨#[61,61]⟩:ae)
def lj:ae:=(⟨#[33,61]⟩:ae)
def ka:ae:=(⟨#[60]⟩:ae)
def j9:ae:=(⟨#[60,61]⟩:ae)
def lh:ae:=(⟨#[42]⟩:ae)
def la:ae:=(⟨#[47]⟩:ae)
def kY:ae:=(⟨#[43]⟩:ae)
def lr:ae:=(⟨#[45]⟩:ae)
def Fx:Ty:=⟨1,[],s0⟩
def eB(o:ae)(a b:Ty):Ty×Int:=
 if o=kZ\/o=lq then(if a.kind=1/\b.kind=1 then(Fx,0)else(cH,5))
 else if o=lg\/o=lj\/o=ka\/o=j9 then
  (if Num a/\Num b/\a.unit≠b.unit then(cH,70)
   else if(Num a/\Num b)\/(if o=ka\/o=j9 then a.kind=4/\b.kind=4 else a.kind=b.kind/\a.of=b.of/\a.unit=b.unit)then(Fx,0)else(cH,5))
 else if¬(Num a/\Num b)then(cH,5)
 else if o=lh then(if(eV a.unit b.unit 1).2≠0 then(cH,70)else(⟨max a.kind b.kind,(eV a.unit b.unit 1).1,s0⟩,0))
 else if o=la then(if(eV a.unit b.unit (-1)).2≠0 then(cH,70)else(⟨3,(eV a.unit b.unit (-1)).1,s0⟩,0))
 else if(o=kY\/o=lr)/\a.unit≠b.unit then(cH,70)else(⟨max a.kind b.kind,a.unit,s0⟩,0)
theorem ahd(a b:Int):(if b>a then b else a)=max a b:=by rw[Int.max_def];split<;>split<;>omega
theorem aaB(hT:mA)(hO:mz)(c:ay)(e0:ae)(tb:Option aO)(x:Ex)(l:List Ty)(hl:l.length=2):Pure prog 288 [.agg (fj c e0 (gg tb)),.agg x.row,nk l] (Pe (eB x.op (l.getD 0 default) (l.getD 1 default))):=by
 unfold mA at hT;unfold mz at hO;cases tb
 all_goals
  refine agx.p fun z=>?_;repeat'(first|exact .nil|refine .k ?_|(refine .cd ?_ ?_<;>(intro hc;first|exact kf hc (by assumption)|skip))|refine .r1 ?_ ?_|refine .l1 fun b=>?_|(refine .m1 ?_ ?_;intro b)|refine .t1 ?_ ?_ ?_|refine .an rfl (by intro ar;first|exact Ed _|exact Ub _ _|exact j2 _|exact hT _ _|exact hO _ _) ?_ ?_|fail)
  try any_goals(exact Zo)
  all_goals(try simp only[BL]at*)
  all_goals try(show(0:Int)<=_/\_;omega)
  all_goals clear hl hT hO
  all_goals generalize l.getD 0 default=A at*
  all_goals generalize l.getD 1 default=B at*
  all_goals try simp only[ZT,YU,ahd]
  all_goals first
   |(rw[show eB x.op A B=(cH,5)from by unfold eB kZ lq lg lj ka j9 lh la kY lr;grind];(refine Sx.Fin.wk Zs ?_;repeat' first|exact .refl _|exact .nil|refine .cons ?_ ?_|refine .aG ?_|refine .agg ?_|fail);done)
   |(rw[show eB x.op A B=(Fx,0)from by unfold eB kZ lq lg lj ka j9 lh la kY lr;grind];(refine Sx.Fin.wk Zs ?_;repeat' first|exact .refl _|exact .nil|refine .cons ?_ ?_|refine .aG ?_|refine .agg ?_|fail);done)
   |(rw[show eB x.op A B=(cH,70)from by unfold eB kZ lq lg lj ka j9 lh la kY lr;grind];(refine Sx.Fin.wk Zs ?_;repeat' first|exact .refl _|fail);done)
   |(rw[show eB x.op A B=(⟨max A.kind B.kind,A.unit,s0⟩,0)from by unfold eB kZ lq lg lj ka j9 lh la kY lr;grind];(refine Sx.Fin.wk Zs ?_;repeat' first|exact .refl _|fail);done)
   |(rw[show eB x.op A B=(⟨max A.kind B.kind,(eV A.unit B.unit 1).1,s0⟩,0)from by unfold eB kZ lq lg lj ka j9 lh la kY lr;grind];(refine Sx.Fin.wk Zs ?_;repeat' first|exact .refl _|fail);done)
   |(rw[show eB x.op A B=(⟨3,(eV A.unit B.unit (-1)).1,s0⟩,0)from by unfold eB kZ lq lg lj ka j9 lh la kY lr;grind];(refine Sx.Fin.wk Zs ?_;repeat' first|exact .refl _|fail);done)
   |trace_state
set_option maxHeartbeats 16000000
def gW(c:ay)(e0:ae)(tb:Option aO)(x:Ex)(l:List Ty):Ty×Int:=
 if x.kind=1 then(⟨x.val.kind,x.unit,x.name⟩,0)
 else if x.kind=2 then(match tb with|some t=>pV t.fields x.name|none=>(cH,0))
 else if x.kind=3 then kW c.features x.name e0
 else if x.kind=4 then(if(l.getD 0 default).kind=5 then kW c.features x.name (l.getD 0 default).of else(cH,5))
 else if x.kind=5 then iE x.op (l.getD 0 default) (l.getD 1 default)
 else if x.kind=6 then lD x.op (l.getD 0 default)
 else if x.kind=7 then eB x.op (l.getD 0 default) (l.getD 1 default)
 else if x.kind=8 then(if(l.getD 0 default).kind=1 then po (l.getD 1 default) (l.getD 2 default)else(cH,5))
 else po (l.getD 0 default) (l.getD 1 default)
def mW(c:ay)(e0:ae)(tb:Option aO)(x:Ex):Option aO×Int:=
 if x.kind=5 then(match lM c.tables x.table with
  |none=>(none,4)
  |some t=>if t.dh=e0 then(some t,0)else(none,5))else(tb,0)
def nB(c:ay)(e0:ae)(tb:Option aO)(x:Ex)(q:Int)(s:List Ty×Int):Ty×Int:=if q≠0 then(cH,q)else if s.2≠0 then(cH,s.2)else gW c e0 tb x s.1
mutual
def inf(c:ay)(e0:ae):Ex->Option aO->Ty×Int
 |.mk k o n t v u p w ks,tb=>nB c e0 tb (.mk k o n t v u p w ks) (mW c e0 tb (.mk k o n t v u p w ks)).2 (dW c e0 ks (mW c e0 tb (.mk k o n t v u p w ks)).1)
def dW(c:ay)(e0:ae):List Ex->Option aO->List Ty×Int
 |[],_=>([],0)
 |x::l,tb=>if(inf c e0 x tb).2≠0 then([],(inf c e0 x tb).2)else((inf c e0 x tb).1::(dW c e0 l tb).1,(dW c e0 l tb).2)
end
theorem Ea(c:ay)(e0:ae)(x:Ex)(tb:Option aO):inf c e0 x tb=nB c e0 tb x (mW c e0 tb x).2 (dW c e0 x.args (mW c e0 tb x).1):=by cases x;rw[inf];rfl
theorem A0(c:ay)(e0:ae){l:List Ex}{i:Nat}(hi:i<l.length)(tb:Option aO):dW c e0 (l.drop i) tb=if(inf c e0 (l.getD i default) tb).2≠0 then([],(inf c e0 (l.getD i default) tb).2)else((inf c e0 (l.getD i default) tb).1::(dW c e0 (l.drop (i+1)) tb).1,(dW c e0 (l.drop (i+1)) tb).2):=by
 have e:l.drop i=l.getD i default::l.drop (i+1):=by rw[getD_eq hi,XF]
 rw[e,dW]
theorem tn{ins:Bool}{x:Ex}(h:form ins x=true):(x.kind=1/\x.args.length=0)\/(x.kind=2/\ins=true/\x.args.length=0)\/(x.kind=3/\ins=false/\x.args.length=0)\/(x.kind=4/\ins=false/\x.args.length=1)\/(x.kind=5/\ins=false/\x.args.length=2)\/(x.kind=6/\x.args.length=1)\/(x.kind=7/\x.args.length=2)\/(x.kind=8/\x.args.length=3)\/(x.kind=9/\x.args.length=2):=by
 obtain⟨h1,h2,_⟩:=(mK ins x).1 h;unfold nS at h1;unfold j8 at h2;by_cases e1:x.kind=1
 .rw[Z9 (by omega),Z9 (by omega),Z9 (by omega)]at h2;left;omega
 rw[Z9 e1]at h1;by_cases e2:x.kind=2
 .rw[Z3 e2]at h1;rw[Z9 (by omega),Z9 (by omega),Z9 (by omega)]at h2;have:=h1.1;right;left;exact⟨e2,this,by omega⟩
 rw[Z9 e2]at h1;by_cases e3:x.kind=3\/x.kind=4
 .rw[Z3 e3]at h1;rcases e3 with e|e
  .rw[Z9 (by omega),Z9 (by omega),Z9 (by omega)]at h2;exact .inr (.inr (.inl ⟨e,h1.1,by omega⟩))
  .rw[Z3 (by omega)]at h2;exact .inr (.inr (.inr (.inl ⟨e,h1.1,by omega⟩)))
 rw[Z9 e3]at h1;by_cases e5:x.kind=5
 .rw[Z3 e5]at h1;rw[Z9 (by omega),Z3 (by omega)]at h2;exact .inr (.inr (.inr (.inr (.inl ⟨e5,h1.1,by omega⟩))))
 rw[Z9 e5]at h1;by_cases e6:x.kind=6
 .rw[Z3 (by omega)]at h2;exact .inr (.inr (.inr (.inr (.inr (.inl ⟨e6,by omega⟩)))))
 rw[Z9 e6]at h1;by_cases e7:x.kind=7
 .rw[Z9 (by omega),Z3 (by omega)]at h2;exact .inr (.inr (.inr (.inr (.inr (.inr (.inl ⟨e7,by omega⟩))))))
 rw[Z9 e7]at h1;by_cases e8:x.kind=8\/x.kind=9
 .rcases e8 with e|e
  .rw[Z9 (by omega),Z9 (by omega),Z3 e]at h2;exact .inr (.inr (.inr (.inr (.inr (.inr (.inr (.inl ⟨e,by omega⟩)))))))
  .rw[Z9 (by omega),Z3 (by omega)]at h2;exact .inr (.inr (.inr (.inr (.inr (.inr (.inr (.inr ⟨e,by omega⟩)))))))
 .rw[Z9 e8]at h1;exact h1.elim
theorem S7(hT:mA)(hO:mz)(c:ay)(e0:ae)(tb:Option aO)(x:Ex)(hf:form tb.isSome x=true)(l:List Ty)(hl:l.length=x.args.length):Pure prog (Bv x.kind) [.agg (fj c e0 (gg tb)),.agg x.row,nk l] (Pe (gW c e0 tb x l)):=by
 unfold gW Bv;rcases tn hf with⟨h,h1⟩|⟨h,h0,h1⟩|⟨h,h0,h1⟩|⟨h,h0,h1⟩|⟨h,h0,h1⟩|⟨h,h1⟩|⟨h,h1⟩|⟨h,h1⟩|⟨h,h1⟩<;>rw[h]
 .exact ahA c e0 tb x l
 .cases tb with
  |none=>cases h0|some t=>exact acL c e0 t x l
 .cases tb with
  |none=>exact acz c e0 x l|some t=>cases h0
 .cases tb with
  |none=>exact ahB c e0 x l (by omega)|some t=>cases h0
 .cases tb with
  |none=>exact aae c e0 x l (by omega)|some t=>cases h0
 .exact alT c e0 tb x l (by omega)
 .exact aaB hT hO c e0 tb x l (by omega)
 .exact aa0 c e0 tb x l (by omega)
 .exact acq c e0 tb x l (by omega)
def B9(rows:List (List AV))(y:AV)(X:Store):Prop:=(rows=[]/\y=ej/\X=[])\/∃b u c,y= .own 3 66 b u c rows/\X=[(66,b,.tail u c)]
theorem Ig{L:List Ty}{y:AV}{X:Store}(h:B9 (L.map Ty.cells) y X):Wk y (nk L):=by
 rcases h with⟨hE,rfl,rfl⟩|⟨b,u,c,rfl,rfl⟩
 .rw[Yn.1 hE];exact .nil
 .exact .own _
theorem zO{c:ay}{e0:ae}{tb:Option aO}{x:Ex}{l:List Ty}{e:Int}(h:¬e=0):nB c e0 tb x 0 (l,e)=(cH,e):=by unfold nB;rw[Z9 (by simp),Z3 h]
theorem zP{c:ay}{e0:ae}{tb:Option aO}{x:Ex}{l:List Ty}:nB c e0 tb x 0 (l++[],0)=gW c e0 tb x l:=by unfold nB;rw[Z9 (by simp),Z9 (by simp),Y5]
theorem KL(k:Int):im prog (Bv k)=true:=by unfold Bv;repeat' first|rfl|split
def ze(C:ay)(e0:ae)(x:Ex):Prop:=∀tb,form tb.isSome x=true->Sx.Pure prog 185 [.agg (fj C e0 (gg tb)),.agg x.row] (Pe (inf C e0 x tb))
theorem aeG(hT:mA)(hO:mz)(C:ay)(e0:ae)(x:Ex)(ih:∀i,i<x.args.length->ze C e0 (x.args.getD i default))(tb:Option aO)(hf:form tb.isSome x=true)(hk:¬x.kind=5):Pure prog 185 [.agg (fj C e0 (gg tb)),.agg x.row] (Pe (inf C e0 x tb)):=by
 have jG:=tn hf;have hB:=S8 C e0 tb x.kind (by omega);have gO:=S7 hT hO C e0 tb x hf;have IB:x.args.length<=3:=by omega
 have mO:∀i,i<x.args.length->form tb.isSome (x.args.getD i default)=true:=fun i hi=>by have:=((mK _ x).1 hf).2.2.1 _ (bN hi);rwa [Zp hk,Xm]at this
 have hA0:=fun(i:Nat) (h:i<x.args.length)=>ih i h tb (mO i h);have dy:mW C e0 tb x=(tb,0):=Z9 hk;rw[Ea,dy];simp only[Ex.dX x]at gO|-;rcases tb with _|tab
 all_goals
  refine Eg.p fun z=>?_;refine .k ?_;refine .k ?_;repeat'((fail_if_success (show WK _ _ _ _ _ _ _ _));(first|exact .nil|refine .k ?_|refine .r1 ?_ ?_|refine .l1 fun b=>?_|(refine .m1 ?_ ?_;intro b)|fail))
  refine .k ?_;rename_i b2 b3
  rename Nat=>b4
  refine sR 3 b3 (.there .here) (.same (.p0 (.same .nil))) ?_;repeat'(first|exact .nil|refine .k ?_|(refine .cd ?_ ?_<;>intro hc)|refine .r1 ?_ ?_|refine .l1 fun b=>?_|(refine .m2 ?_ ?_;intro hlen)|fail)
  all_goals(try simp only[BL]at*)
  all_goals try(exfalso;exact hk hc)
  rename Nat=>b6
 .refine aP (fun m rg af=>∃(i:Nat) (L:List Ty) (y:AV) (X:Store),i<=x.args.length/\m=x.args.length-i/\L.length=i/\dW C e0 x.args none=(L++(dW C e0 (x.args.drop i) none).1,(dW C e0 (x.args.drop i) none).2)/\B9 (L.map Ty.cells) y X/\af=X++(6,b6,aE.cells (fj C e0 (gg none)))::(4,b4,aE.cells [iv 0,ej,sv s0])::(2,b2,aE.cells (fj C e0 (gg none)))::z/\rg=[(2,.lp 2 b2 0),(3,.pc x.lay),(4,.lp 4 b4 0),(6,.lp 6 b6 0),(9,y),(45,.sl false 12 (x.args.map Ex.row)),(46,iv x.args.length),(47,iv i)]) x.args.length rfl ⟨_,_,Zr,Zs,0,[],_,_,Z4 _,rfl,rfl,rfl,.inl ⟨rfl,rfl,rfl⟩,rfl,rfl⟩ ?_;rintro m _ _ ⟨i,L,y,X,hi,hm,hL,iP,hG,rfl,rfl⟩;have hW:=Ig hG;have bV:=fun(h:L.length=x.args.length)=>(gO L h).wk (.cons (.refl _) (.cons (.refl _) (.cons hW .nil)));have hA:=hA0 i;have hd:=fun(h:i<x.args.length) TB=>A0 C e0 h TB;have xF:=hG;rcases hG with⟨hE,rfl,rfl⟩|⟨b7,u7,c7,rfl,rfl⟩
  all_goals
   repeat'(first|exact .nil|refine .k ?_|(refine .cd ?_ ?_<;>intro hc)|refine .r1 ?_ ?_|refine .l1 fun b=>?_|refine .t1 ?_ ?_ ?_|refine .u1 ?_ ?_ ?_ (fun b u c=>?_)|refine .u2 ?_ ?_ ?_ (fun b u c=>?_)|refine .an rfl (by intro ar;first|exact j2 _|exact hA (by(simp only[BL]at*;omega))|exact hB) ?_ ?_|(show List.all _ _=true;rfl)|fail)
   try any_goals(exact Zo)
   all_goals(try simp only[BL]at*)
   all_goals try(refine Co rfl (KL _) (fun _=>bV (by omega)) OB.nil ?_)
   all_goals repeat'(first|exact .nil|refine .k ?_|refine .r1 ?_ ?_|fail)
   all_goals try any_goals(fail)
   all_goals(try simp only[BL]at*)
   all_goals try(show _<=1000000;simp only[ZY,ZP];omega)
   all_goals try(show _ * _<=_;simp only[Z5,ZY,ZP];omega)
   all_goals first
    |(show Sx.Fin _ _ _ _
      have bp:i<x.args.length:=by omega
      rw[iP,hd bp,Z3 hc,zO hc];exact Zw;done)
    |(show Sx.Fin _ _ _ _
      have bp:i=x.args.length:=by omega
      subst bp
      rw[iP,YM,dW,zP];exact Zw;done)
    |(have bp:i<x.args.length:=by omega
      refine⟨m-1,by omega,_,[(66,b,.tail u c)]++(6,b6,aE.cells (fj C e0 (gg none)))::(4,b4,aE.cells [iv 0,ej,sv s0])::(2,b2,aE.cells (fj C e0 (gg none)))::z,Zr,Zs,i+1,L++[(inf C e0 (x.args.getD i default) none).1],_,_,by omega,by omega,by simp[hL],?_,.inr ⟨b,u,c,?_,rfl⟩,rfl,by rw[bj (n:=50) (by omega) (by decide)]⟩
      .rw[iP,hd bp,Z9 (by rw[hc];simp)];simp
      .rw[Zl];first|rfl|(rw[hE];rfl))
 .refine aP (fun m rg af=>∃(i:Nat) (L:List Ty) (y:AV) (X:Store),i<=x.args.length/\m=x.args.length-i/\L.length=i/\dW C e0 x.args (some tab)=(L++(dW C e0 (x.args.drop i) (some tab)).1,(dW C e0 (x.args.drop i) (some tab)).2)/\B9 (L.map Ty.cells) y X/\af=X++(6,b6,aE.cells (fj C e0 (gg (some tab))))::(4,b4,aE.cells [iv 0,ej,sv s0])::(2,b2,aE.cells (fj C e0 (gg (some tab))))::z/\rg=[(2,.lp 2 b2 0),(3,.pc x.lay),(4,.lp 4 b4 0),(6,.lp 6 b6 0),(9,y),(45,.sl false 12 (x.args.map Ex.row)),(46,iv x.args.length),(47,iv i)]) x.args.length rfl ⟨_,_,Zr,Zs,0,[],_,_,Z4 _,rfl,rfl,rfl,.inl ⟨rfl,rfl,rfl⟩,rfl,rfl⟩ ?_;rintro m _ _ ⟨i,L,y,X,hi,hm,hL,iP,hG,rfl,rfl⟩;have hW:=Ig hG;have bV:=fun(h:L.length=x.args.length)=>(gO L h).wk (.cons (.refl _) (.cons (.refl _) (.cons hW .nil)));have hA:=hA0 i;have hd:=fun(h:i<x.args.length) TB=>A0 C e0 h TB;have xF:=hG;rcases hG with⟨hE,rfl,rfl⟩|⟨b7,u7,c7,rfl,rfl⟩
  all_goals
   repeat'(first|exact .nil|refine .k ?_|(refine .cd ?_ ?_<;>intro hc)|refine .r1 ?_ ?_|refine .l1 fun b=>?_|refine .t1 ?_ ?_ ?_|refine .u1 ?_ ?_ ?_ (fun b u c=>?_)|refine .u2 ?_ ?_ ?_ (fun b u c=>?_)|refine .an rfl (by intro ar;first|exact j2 _|exact hA (by(simp only[BL]at*;omega))|exact hB) ?_ ?_|(show List.all _ _=true;rfl)|fail)
   try any_goals(exact Zo)
   all_goals(try simp only[BL]at*)
   all_goals try(refine Co rfl (KL _) (fun _=>bV (by omega)) OB.nil ?_)
   all_goals repeat'(first|exact .nil|refine .k ?_|refine .r1 ?_ ?_|fail)
   all_goals try any_goals(fail)
   all_goals(try simp only[BL]at*)
   all_goals try(show _<=1000000;simp only[ZY,ZP];omega)
   all_goals try(show _ * _<=_;simp only[Z5,ZY,ZP];omega)
   all_goals first
    |(show Sx.Fin _ _ _ _
      have bp:i<x.args.length:=by omega
      rw[iP,hd bp,Z3 hc,zO hc];exact Zw;done)
    |(show Sx.Fin _ _ _ _
      have bp:i=x.args.length:=by omega
      subst bp
      rw[iP,YM,dW,zP];exact Zw;done)
    |(have bp:i<x.args.length:=by omega
      refine⟨m-1,by omega,_,[(66,b,.tail u c)]++(6,b6,aE.cells (fj C e0 (gg (some tab))))::(4,b4,aE.cells [iv 0,ej,sv s0])::(2,b2,aE.cells (fj C e0 (gg (some tab))))::z,Zr,Zs,i+1,L++[(inf C e0 (x.args.getD i default) (some tab)).1],_,_,by omega,by omega,by simp[hL],?_,.inr ⟨b,u,c,?_,rfl⟩,rfl,by rw[bj (n:=50) (by omega) (by decide)]⟩
      .rw[iP,hd bp,Z9 (by rw[hc];simp)];simp
      .rw[Zl];first|rfl|(rw[hE];rfl))
theorem aeF(hT:mA)(hO:mz)(C:ay)(e0:ae)(x:Ex)(ih:∀i,i<x.args.length->ze C e0 (x.args.getD i default))(hf:form false x=true)(hk:x.kind=5):Pure prog 185 [.agg (fj C e0 (gg none)),.agg x.row] (Pe (inf C e0 x none)):=by
 have jG:=tn hf;have hB:=S8 C e0 none x.kind (by omega);have gO:=S7 hT hO C e0 none x hf;have IB:x.args.length<=3:=by omega
 have mO:∀i,i<x.args.length->form true (x.args.getD i default)=true:=fun i hi=>by have:=((mK _ x).1 hf).2.2.1 _ (bN hi);rwa [Y7 hk,Bool.or_true]at this
 have hA0:=fun(tab:aO) (i:Nat) (h:i<x.args.length)=>ih i h (some tab) (mO i h);have hi:=aeA C.tables x;rw[Ea];rcases ac5 (fs:=C.tables) (n:=x.table)with⟨h1,h2⟩|⟨i0,h0,h2,h1⟩
 .have dy:mW C e0 none x=(none,4):=by unfold mW;rw[Z3 hk,h1]
  rw[dy,show nB C e0 none x 4 (dW C e0 x.args none)=(cH,4)from Z3 (by simp)];rw[h2]at hi;simp only[Ex.dX x]at gO hi|-;refine Eg.p fun z=>?_;refine .k ?_;refine .k ?_;repeat'((fail_if_success (show WK _ _ _ _ _ _ _ _));(first|exact .nil|refine .k ?_|refine .r1 ?_ ?_|refine .l1 fun b=>?_|(refine .m1 ?_ ?_;intro b)|fail))
  refine .k ?_;rename_i b2 b3;refine sR 3 b3 (.there .here) (.same (.p0 (.same .nil))) ?_;repeat'(first|exact .nil|refine .k ?_|(refine .cd ?_ ?_<;>intro hc)|refine .r1 ?_ ?_|refine .l1 fun b=>?_|(refine .m2 ?_ ?_;intro hlen)|refine .t1 ?_ ?_ ?_|refine .an rfl (by intro ar;first|exact hi|exact j2 _|fail) ?_ ?_|fail)
  try any_goals(exact Zo)
  all_goals(try simp only[BL]at*)
  all_goals first|(exfalso;omega)|(show Sx.Fin _ _ _ _;(refine Sx.Fin.wk Zs ?_;repeat' first|exact .refl _|fail);done)
 by_cases DI:(C.tables.getD i0 default).dh=e0
 rotate_left
 .have dy:mW C e0 none x=(none,5):=by unfold mW;rw[Z3 hk,h1];exact Z9 DI
  rw[dy,show nB C e0 none x 5 (dW C e0 x.args none)=(cH,5)from Z3 (by simp)];rw[h2]at hi;simp only[Ex.dX x]at gO hi|-;refine Eg.p fun z=>?_;refine .k ?_;refine .k ?_;repeat'((fail_if_success (show WK _ _ _ _ _ _ _ _));(first|exact .nil|refine .k ?_|refine .r1 ?_ ?_|refine .l1 fun b=>?_|(refine .m1 ?_ ?_;intro b)|fail))
  refine .k ?_;rename_i b2 b3;refine sR 3 b3 (.there .here) (.same (.p0 (.same .nil))) ?_;repeat'(first|exact .nil|refine .k ?_|(refine .cd ?_ ?_<;>intro hc)|refine .r1 ?_ ?_|refine .l1 fun b=>?_|(refine .m2 ?_ ?_;intro hlen)|refine .t1 ?_ ?_ ?_|refine .an rfl (by intro ar;first|exact hi|exact j2 _|fail) ?_ ?_|fail)
  try any_goals(exact Zo)
  all_goals(try simp only[BL]at*)
  all_goals first|(exfalso;omega)|(exfalso;exact DI hc)|(show Sx.Fin _ _ _ _;(refine Sx.Fin.wk Zs ?_;repeat' first|exact .refl _|fail);done)
 have dy:mW C e0 none x=(some (C.tables.getD i0 default),0):=by unfold mW;rw[Z3 hk,h1];exact Z3 DI
 rw[dy];rw[h2]at hi;simp only[Ex.dX x]at gO hi|-;have hA0:=hA0 (C.tables.getD i0 default);refine Eg.p fun z=>?_;refine .k ?_;refine .k ?_;repeat'((fail_if_success (show WK _ _ _ _ _ _ _ _));(first|exact .nil|refine .k ?_|refine .r1 ?_ ?_|refine .l1 fun b=>?_|(refine .m1 ?_ ?_;intro b)|fail))
 refine .k ?_;rename_i b2 b3
 rename Nat=>b4
 refine sR 3 b3 (.there .here) (.same (.p0 (.same .nil))) ?_;repeat'((fail_if_success (show WK _ _ _ _ (.aH [2,3,4,6,8] _) _ _ _));(first|exact .nil|refine .k ?_|(refine .cd ?_ ?_<;>intro hc)|refine .r1 ?_ ?_|refine .l1 fun b=>?_|(refine .m2 ?_ ?_;intro hlen)|refine .t1 ?_ ?_ ?_|refine .an rfl (by intro ar;first|exact hi|exact j2 _|fail) ?_ ?_|fail))
 try any_goals(exact Zo)
 all_goals(try simp only[BL]at*)
 .exfalso;omega
 rotate_left
 .exfalso;exact hc hk
 refine .k ?_;rename_i b6 _;refine sR 8 b .here (.same (.same (.same (.same (.p0 .nil))))) ?_;repeat'(first|exact .nil|refine .k ?_|(refine .cd ?_ ?_<;>intro hc)|refine .r1 ?_ ?_|(refine .m2 ?_ ?_;intro hlen)|refine .an rfl (by intro ar;first|exact j2 _|fail) ?_ ?_|fail)
 all_goals(try simp only[BL]at*)
 .exfalso;exact hc DI
 refine aP (fun m rg af=>∃(i:Nat) (L:List Ty) (y:AV) (X:Store),i<=x.args.length/\m=x.args.length-i/\L.length=i/\dW C e0 x.args (some (C.tables.getD i0 default))=(L++(dW C e0 (x.args.drop i) (some (C.tables.getD i0 default))).1,(dW C e0 (x.args.drop i) (some (C.tables.getD i0 default))).2)/\B9 (L.map Ty.cells) y X/\af=X++(6,b6,aE.cells (fj C e0 (gg (some (C.tables.getD i0 default)))))::(4,b4,aE.cells [iv 0,ej,sv s0])::(2,b2,aE.cells (fj C e0 (gg none)))::z/\rg=[(2,.lp 2 b2 0),(3,.pc x.lay),(4,.lp 4 b4 0),(6,.lp 6 b6 0),(9,y),(45,.sl false 12 (x.args.map Ex.row)),(46,iv x.args.length),(47,iv i)]) x.args.length rfl ⟨_,_,Zr,Zs,0,[],_,_,Z4 _,rfl,rfl,rfl,.inl ⟨rfl,rfl,rfl⟩,rfl,rfl⟩ ?_;rintro m _ _ ⟨i,L,y,X,hi,hm,hL,iP,hG,rfl,rfl⟩;have hW:=Ig hG;have bV:=fun(h:L.length=x.args.length)=>(gO L h).wk (.cons (.refl _) (.cons (.refl _) (.cons hW .nil)));have hA:=hA0 i;have hd:=fun(h:i<x.args.length) TB=>A0 C e0 h TB;have xF:=hG;rcases hG with⟨hE,rfl,rfl⟩|⟨b7,u7,c7,rfl,rfl⟩
 all_goals
  repeat'(first|exact .nil|refine .k ?_|(refine .cd ?_ ?_<;>intro hc)|refine .r1 ?_ ?_|refine .l1 fun b=>?_|refine .t1 ?_ ?_ ?_|refine .u1 ?_ ?_ ?_ (fun b u c=>?_)|refine .u2 ?_ ?_ ?_ (fun b u c=>?_)|refine .an rfl (by intro ar;first|exact j2 _|exact hA (by(simp only[BL]at*;omega))|exact hB) ?_ ?_|(show List.all _ _=true;rfl)|fail)
  try any_goals(exact Zo)
  all_goals(try simp only[BL]at*)
  all_goals try(refine Co rfl (KL _) (fun _=>bV (by omega)) OB.nil ?_)
  all_goals repeat'(first|exact .nil|refine .k ?_|refine .r1 ?_ ?_|fail)
  all_goals try any_goals(fail)
  all_goals(try simp only[BL]at*)
  all_goals try(show _<=1000000;simp only[ZY,ZP];omega)
  all_goals try(show _ * _<=_;simp only[Z5,ZY,ZP];omega)
  all_goals first
   |(show Sx.Fin _ _ _ _
     have bp:i<x.args.length:=by omega
     rw[iP,hd bp,Z3 hc,zO hc];exact Zw;done)
   |(show Sx.Fin _ _ _ _
     have bp:i=x.args.length:=by omega
     subst bp
     rw[iP,YM,dW,zP];exact Zw;done)
   |(have bp:i<x.args.length:=by omega
     refine⟨m-1,by omega,_,[(66,b,.tail u c)]++(6,b6,aE.cells (fj C e0 (gg (some (C.tables.getD i0 default)))))::(4,b4,aE.cells [iv 0,ej,sv s0])::(2,b2,aE.cells (fj C e0 (gg none)))::z,Zr,Zs,i+1,L++[(inf C e0 (x.args.getD i default) (some (C.tables.getD i0 default))).1],_,_,by omega,by omega,by simp[hL],?_,.inr ⟨b,u,c,?_,rfl⟩,rfl,by rw[bj (n:=50) (by omega) (by decide)]⟩
     .rw[iP,hd bp,Z9 (by rw[hc];simp)];simp
     .rw[Zl];first|rfl|(rw[hE];rfl))
theorem Qa(hT:mA)(hO:mz)(C:ay)(e0:ae):∀(n:Nat) (x:Ex),x.size<=n->ze C e0 x
 |0,x,h=>by cases x;simp[Ex.size]at h|n+1,x,h=>fun tb hf=>by
  have ih:∀i,i<x.args.length->ze C e0 (x.args.getD i default):=fun i hi=>Qa hT hO C e0 n _ (by have:=Ex.BD x hi;omega);by_cases hk:x.kind=5
  .have h5:tb=none:=by
    rcases tn hf with h|h|h|h|h|h|h|h|h;all_goals first|omega|skip
    cases tb with
    |none=>rfl|some t=>exact absurd h.2.1 (by simp)
   subst h5;exact aeF hT hO C e0 x ih hf hk
  .exact aeG hT hO C e0 x ih tb hf hk
theorem aeH(hT:mA)(hO:mz)(C:ay)(e0:ae)(x:Ex):ze C e0 x:=Qa hT hO C e0 x.size x (ZO _)
def rH(C:ay)(e0:ae)(x:Ex):Ty×Int:=if shape x≠0 then(cH,shape x)else inf C e0 x none
theorem Tm{x:Ex}(h:shape x=0):form false x=true:=by
 unfold shape at h;split at h
 .omega
 .split at h
  .assumption
  .omega
theorem aeB(hT:mA)(hO:mz)(C:ay)(e0:ae)(x:Ex)(hs:x.size<=100000):Pure prog 134 [.agg C.cells,sv e0,.agg x.row] (Pe (rH C e0 x)):=by
 have hS:=E8 x hs;have hI:=fun(h:shape x=0)=>aeH hT hO C e0 x none (Tm h);unfold rH;generalize inf C e0 x none=r at*;generalize shape x=q at*;refine afm.p fun z=>?_;repeat'(first|exact .nil|refine .k ?_|(refine .cd ?_ ?_<;>intro hc)|refine .r1 ?_ ?_|refine .l1 fun b=>?_|(refine .m1 ?_ ?_;intro b)|refine .an rfl (by intro ar;first|exact hS|exact j2 _|exact hI (by(simp only[BL]at*;omega))) ?_ ?_|fail)
 all_goals(try simp only[BL]at*)
 .rw[Z3 hc];exact Zw
 .rw[Z9 (by simpa using hc)];exact Zw
end Go.Proofs.YtmemninechdogaaGreatDoor
set_option maxHeartbeats 1000000
namespace Go.Proofs.YtmemninechdogaaGreatDoor
open _root_.Go.Proofs.Tryz
open Go.Sx Go.Proofs Go.Tb Go.RowKit
def vk(p:ae×Int):Value:=.agg #[.string p.1,.int .i64 p.2]
theorem K9(a b:ByteArray):(a == b)=decide (a=b):=by obtain⟨a⟩:=a;obtain⟨b⟩:=b;rw[YH];show(a == b)=true↔_;simp
theorem amb:prog.stoodInHeld 202=false:=by kernel_rfl
theorem Uv(w:World)(p q:ae×Int):(Op.equal 202 (vk p) (vk q)).run prog w= .ok (decide (p=q)) w:=by
 have h0:=underlying202;have h1:=underlying9;have h2:=underlying3;have h3:=amb;have key:∀d:Nat,(Op.equalIn (d+1+1) 202 (vk p) (vk q)).run prog w= .ok (decide (p=q)) w:=fun d=>by
  simp only[Op.equalIn,vk,Sem.run_bind,aX h0,Result.andThen_ok];simp[h3,part,sizeOf,program,isAgg,Op.equalIn,aX h1,aX h2];show(if prog.stoodInHeld 202=true then _ else(if(p.fst == q.fst)=false then Result.ok false w else if p.snd=q.snd then Result.ok true w else Result.ok false w))=_;rw[h3,Z9 (by decide),K9];obtain⟨a,i⟩:=p;obtain⟨b,j⟩:=q;by_cases h:a=b
  .subst h;by_cases h':i=j
   .subst h';simp
   .simp[h']
  .simp[h]
 exact key 9998
theorem Uu(w:World)(b:Bool)(p:ae×Int):(Instr.checkKey b 10000 202 (vk p)).run prog w= .ok () w:=by
 have h0:=underlying202;have h1:=underlying9;have h2:=underlying3;have key:∀d:Nat,(Instr.checkKey b (d+1+1) 202 (vk p)).run prog w= .ok () w:=fun d=>by simp only[Instr.checkKey,vk,Sem.run_bind,aX h0,Result.andThen_ok];simp[part,sizeOf,program,isAgg,Instr.checkKey,aX h1,aX h2]
 exact key 9998
def vE(vs:List (ae×Int)):List (Value×Nat×AV):=vs.zipIdx.map fun p=>(vk p.1,p.2,.v (.bool true))
theorem alX(vs:List (ae×Int))(p:ae×Int):vE vs++[(vk p,vs.length,.v (.bool true))]=vE (vs++[p]):=by unfold vE;rw[List.zipIdx_append];simp
theorem Uw(w:World)(p:ae×Int):∀(vs:List (ae×Int)) (l:List MapEntry) (k i:Nat),l.map (fun e=>(e.key,e.born))=(vs.zipIdx k).map (fun q=>(vk q.1,q.2))->RL (fun _ _=>none) (vs.map fun _=>.v (.bool true)) (l.map (·.val))->
  ∃r,(Instr.findAsking 202 (vk p) l i).run prog w= .ok r w/\(p∈vs->∃j,r=some (j,.bool true))/\(p∉vs->r=none)
 |[],l,k,i,h,_=>by
  have:l=[]:=by simpa using h
  subst this;exact⟨none,by simp[Instr.findAsking],fun h=>(by cases h),fun _=>rfl⟩
 |v::vs,l,k,i,h,hv=>by
  cases l with
  |nil=>simp at h|cons e l=>
   simp only[List.zipIdx_cons,Zz,Z2,YX]at h;obtain⟨u,us,e1,h2,h3⟩:=RL.aZ (x:=.v (.bool true)) (xs:=vs.map fun _=>.v (.bool true)) hv;simp only[Zz,Z2]at e1;obtain⟨r,hr,ha,hb⟩:=Uw w p vs l (k+1) (i+1) h.2 (by rw[e1.2];exact h3);by_cases hp:p=v
   .subst hp;refine⟨some (i,.bool true),?_,fun _=>⟨i,rfl⟩,fun h=>absurd (ZK) h⟩;simp only[Instr.findAsking,h.1.1,Sem.run_bind,Uv,Result.andThen_ok,decide_true,YK,Sem.run_pure];rw[e1.1,h2.aC]
   .refine⟨r,?_,fun h=>ha ((ZR.1 h).resolve_left hp),fun h=>hb fun h'=>h (ZN _ h')⟩;simp only[Instr.findAsking,h.1.1,Sem.run_bind,Uv,Result.andThen_ok,Zp hp,ZT,YU];exact hr
section
variable {M:Mem}{w0:Base}{w:World}{z:Store}
theorem alY(vs:List (ae×Int)):(vE vs).map (·.2.2)=vs.map fun _=>AV.v (.bool true):=by unfold vE;rw[Yu];refine X9 (by simp) fun j h1 h2=>by simp
theorem alW(vs:List (ae×Int)):(vE vs).map (fun e=>(e.1,e.2.1))=vs.zipIdx.map fun q=>(vk q.1,q.2):=by unfold vE;rw[Yu];rfl
theorem aji{vs:List (ae×Int)}{l:List Value}(h:RL M (vs.map fun _=>AV.v (.bool true)) l):RL (fun _ _=>none) (vs.map fun _=>AV.v (.bool true)) l:=by refine⟨h.1,fun i h1 h2=>?_⟩;have:=h.2 i h1 h2;simp only[Zv]at this|-;rw[this.aC];exact .v _
theorem amI(w:World):(zeroValue 4).run prog w= .ok (.bool false) w:=by
 have h:(prog.info? 4).map (fun i=>i.zero)=some (some (.bool false)):=by kernel_rfl
 obtain⟨i,h1,h2⟩:=Z8.1 h;simp[zeroValue,typeInfo,h1,h2]
theorem Ux(w:World)(p:ae×Int){vs:List (ae×Int)}{l:List MapEntry}(h:l.map (fun e=>(e.key,e.born))=(vE vs).map (fun e=>(e.1,e.2.1)))(hv:RL M ((vE vs).map (·.2.2)) (l.map (·.val))):
  ∃r,(Instr.findKey 202 (vk p) l).run prog w= .ok r w/\(p∈vs->∃j,r=some (j,.bool true))/\(p∉vs->r=none):=by
 rw[alW]at h;rw[alY]at hv;obtain⟨r,h1,h2,h3⟩:=Uw w p vs l 0 0 h (aji hv);refine⟨r,?_,h2,h3⟩;have hu:=underlying202;simp only[Instr.findKey,Sem.run_bind,aX hu,Result.andThen_ok];cases l with
 |nil=>simp only[Instr.findAsking,Sem.run_pure,Result.ok.injEq]at h1;simp only[Instr.findNow,Sem.run_pure,h1.1]|cons e l=>have hN:∀fs,Instr.findNow (.struct fs) (vk p) (e::l) 0=none:=fun _=>rfl;rw[hN];exact h1
def iM(vs:List (ae×Int))(p:ae×Int):Bool:=vs.any fun q=>decide (q=p)
theorem Dx{vs:List (ae×Int)}{p:ae×Int}:iM vs p=true↔p∈vs:=by unfold iM;rw[Yh];simp
theorem R5{p:ae×Int}{v:Value}(h:R M (.agg [sv p.1,iv p.2]) v):v=vk p:=by
 cases h with
 |agg _ cs hl h=>
  match cs,hl,h with
  |[a,b],_,h=>have h0:=h 0 (by simp) (by simp);have h1:=h 1 (by simp) (by simp);simp only[Yq,Xc]at h0 h1;rw[h0.aC,h1.aC];rfl
theorem Vk{tg b ck:Nat}{vs:List (ae×Int)}{t ty:TypeId}{q:TI}{m k:Operand}{p:ae×Int}(hl:aV z tg=some (b,.map (vE vs) ck)):
  fH prog (.lookup t m k false) ty [.mp 202 4,q] [m,k] [.bJ tg b,.agg [sv p.1,iv p.2]] z fun y af=>y= .v (.bool (iM vs p))/\af=z:=by
 intro bu M w0 w Z hI hR;simp only[ey,Z2,Zn]at bu;have ht:=uA bu.1;obtain⟨v1,cB,e1,h1,bV⟩:=hR.aZ;obtain⟨v2,e2,h2⟩:=bV.cR;subst e2;simp only[Zz,YJ,Z2,Zn]at e1;obtain⟨hM,l,hh,gi,gU⟩:=hI.rh hl;have g1:=h1.qs;have g2:=R5 h2;subst g1 g2;obtain⟨r,hr,ha,hb⟩:=Ux w p gi gU;refine⟨.value (.bool (iM vs p)),w,M,.v (.bool (iM vs p)),.bool (iM vs p),z,?_,rfl,Mem.le.refl _,hI,.v _,rfl,rfl⟩;simp only[execOp,e1.1,e1.2,Instr.lookup,Sem.run_bind,aX ht,Result.andThen_ok,getObj,Sem.run,hh,Uu,hr,Sem.run_pure];by_cases hp:p∈vs
 .obtain⟨j,rfl⟩:=ha hp;simp[Dx.2 hp]
 .rw[hb hp];have:iM vs p=false:=by rw[<-X8,Dx];exact hp
  simp[this,amI]
theorem Vm{tg b:Nat}{vs:List (ae×Int)}{t ty:TypeId}{q:TI}{m k x:Operand}{p:ae×Int}(hl:aV z tg=some (b,.map (vE vs) vs.length))(hn:iM vs p=false):
  fH prog (.mapUpdate t m k x) ty [.mp 202 4,q] [m,k,x] [.bJ tg b,.agg [sv p.1,iv p.2],.v (.bool true)] z fun y af=>y= .v undef/\af=du z tg b (.map (vE (vs++[p])) (vs++[p]).length):=by
 intro bu M w0 w Z hI hR;simp only[ey,Z2,Zn]at bu;have ht:=uA bu.1;obtain⟨v1,cB,e1,h1,bV⟩:=hR.aZ;obtain⟨v2,qG,e2,h2,ef⟩:=bV.aZ;obtain⟨v3,e3,h3⟩:=ef.cR;subst e3 e2;simp only[Zz,YJ,Z2,Zn]at e1;obtain⟨hM,l,hh,gi,gU⟩:=hI.rh hl;have g1:=h1.qs;have g2:=R5 h2;have g3:=h3.aC;subst g1 g2 g3;obtain⟨r,hr,ha,hb⟩:=Ux w p gi gU;have hnp:p∉vs:=fun h=>by rw[Dx.2 h]at hn;cases hn
 have hrn:=hb hnp;subst hrn
 let w':World:={w with heap:=w.heap.setIfInBounds b (.map (l++[(⟨vk p,.bool true,vs.length⟩:MapEntry)]).toArray (vs.length+1))}
 have az:b<w.heap.size:=(ZW.1 hh).1;refine⟨.skip,w',M,.v undef,undef,_,?_,rfl,Mem.le.refl _,?_,.v _,rfl,rfl⟩
 .have hu:l.toArray.push (⟨vk p,.bool true,vs.length⟩:MapEntry)=(l++[(⟨vk p,.bool true,vs.length⟩:MapEntry)]).toArray:=by apply Ym;simp
  simp only[execOp,e1.1,e1.2.1,e1.2.2,Instr.mapUpdate,Sem.run_bind,aX ht,Result.andThen_ok,getObj,Sem.run,hh,Uu,hr,Sem.run_pure,setObj,hu];rfl
 .rw[Z7,Y1,<-alX];refine hI.yV (w':=w') (y:=.map (vE vs++[(vk p,vs.length,.v (.bool true))]) (vs.length+1)) hl (fun k hk=>?_) rfl rfl rfl (by simp[w']) hM ⟨hM,l++[⟨vk p,.bool true,vs.length⟩],?_,?_,?_⟩
  .simp only[w'];rw[YD (fun e=>hk e.symm)]
  .simp only[w'];rw[Xx az]
  .simp[gi]
  .simp only[Zl,Zz,YJ];exact RL.append gU (RL.cons (.v _) RL.nil)
end
section
variable {cfg:Nat->Nat}{K:ag->Store->Prop}{E:List PanicEntry->Store->Prop}{z af:Store}{l:List CI}{d:Nat}{v:AV}{xr:XR}{ps:List Prop}{og:Option Bool}
theorem Gn{t:TypeId}{q:TI}{ty:TypeId}{m k:Operand}{tg b b' ck:Nat}{vs:List (ae×Int)}{p:ae×Int}(h:wa xr none [m,k]=some (og,[.bJ tg b,.agg [sv p.1,iv p.2]],ps))(hl:aV z tg=some (b',.map (vE vs) ck))(hb:b=b')(aw:OB ps)
  (kk:VX prog cfg l K E ((d,.s (.v (.bool (iM vs p))))::xr) z):VX prog cfg (⟨some d,.cL (.lookup t m k false) ty [.mp 202 4,q] [m,k],none⟩::l) K E xr z:=by
 obtain⟨hc,he⟩:=cC h;have cO:=qT h;subst cO;subst hb;constructor;simp only[fb,cE,ak,he aw rfl];refine(Vk hl).mono fun y s ⟨e1,e2⟩=>?_;subst e1 e2;exact kk.h
theorem Gp{t:TypeId}{q:TI}{ty:TypeId}{m k x:Operand}{tg b b':Nat}{vs:List (ae×Int)}{p:ae×Int}(h:wa xr none [m,k,x]=some (og,[.bJ tg b,.agg [sv p.1,iv p.2],.v (.bool true)],ps))(hl:aV z tg=some (b',.map (vE vs) vs.length))(hb:b=b')(hn:iM vs p=false)(hu:uD z tg b (.map (vE (vs++[p])) (vs++[p]).length)=some af)(aw:OB ps)
  (kk:VX prog cfg l K E xr af):VX prog cfg (⟨none,.exts (.mapUpdate t m k x) ty [.mp 202 4,q] [m,k,x],none⟩::l) K E xr z:=by
 obtain⟨hc,he⟩:=cC h;have cO:=qT h;subst cO;subst hb;constructor;simp only[fb,cE,ak,he aw rfl];refine(Vm hl hn).mono fun y s ⟨e1,e2⟩=>?_;rw[BO hu]at e2;subst e1 e2;exact kk.h
end
end Go.Proofs.YtmemninechdogaaGreatDoor
set_option maxHeartbeats 16000000
namespace Go.Proofs.YtmemninechdogaaGreatDoor
open Go.Sx Go.Proofs Go.Tb
def mJ(C:ay)(f:aj):Int:=
 if¬(Name f.name/\Name f.dh)\/f.version<0 then 3 else if kn f.type≠0 then kn f.type
 else if(rH C f.dh f.body).2≠0 then(rH C f.dh f.body).2 else(po (rH C f.dh f.body).1 f.type).2
theorem NY(hT:mA)(hO:mz)(C:ay)(f:aj)(hs:f.body.size<=100000):Pure Tryz.prog 78 [.agg C.cells,.agg f.cells] (iv (mJ C f)):=by
 have hI:=aeB hT hO C f.dh f.body hs;unfold mJ;generalize rH C f.dh f.body=r at*;refine k78.p fun z=>?_;repeat'(first|exact .nil|refine .k ?_|(refine .cd ?_ ?_<;>intro hc)|refine .r1 ?_ ?_|refine .l1 fun b=>?_|(refine .m1 ?_ ?_;intro b)|refine .an rfl (by intro ar;first|exact rO _|exact yR _|exact hI|exact KT _ _) ?_ ?_|fail)
 try any_goals(exact Zo)
 all_goals(try simp only[BL]at*)
 all_goals
  refine Sx.Fin.intro Zs (bi ?_);grind
def eU(f:aj):Int:=if¬(Name f.name/\Name f.dh)\/f.version<1\/f.version>1099511627776 then 1 else if kn f.type≠0 then kn f.type else shape f.body
def gr(n:Nat)(p:Option ae)(s:ae):Prop:=match p with
 |none=>False|some q=>c6 s q=true\/(n<2/\s=q)
instance (n:Nat)(p:Option ae)(s:ae):Decidable (gr n p s):=by unfold gr;split<;>infer_instance
def dG(n:Nat):Option ae->List aj->List (ae×Int)->Int×List (ae×Int)
 |_,[],vs=>(0,vs)
 |p,f::l,vs=>if eU f≠0 then(eU f,vs)else if gr n p f.name then(1,vs)else if iM vs (f.name,f.version)=true then(121,vs)else dG n (some f.name) l (vs++[(f.name,f.version)])
def LL(C:ay)(n:Nat):List aj:=if n=0 then C.features else if n=1 then C.aD else C.past
def ane(C:ay):Nat->Nat->List (ae×Int)->Int
 |0,_,_=>0|k+1,n,vs=>if(dG n none (LL C n) vs).1≠0 then(dG n none (LL C n) vs).1 else ane C k (n+1) (dG n none (LL C n) vs).2
def gY(C:ay):Int:=ane C 3 0 []
def gu(l:List aj)(i:Nat):Option ae:=if i=0 then none else some (l.getD (i-1) default).name
theorem FM(n:Nat){l:List aj}{i:Nat}(hi:i<l.length)(vs:List (ae×Int)):dG n (gu l i) (l.drop i) vs=
  if eU (l.getD i default)≠0 then(eU (l.getD i default),vs)else if gr n (gu l i) (l.getD i default).name then(1,vs)else if iM vs ((l.getD i default).name,(l.getD i default).version)=true then(121,vs)else dG n (gu l (i+1)) (l.drop (i+1)) (vs++[((l.getD i default).name,(l.getD i default).version)]):=by
 have e:l.drop i=l.getD i default::l.drop (i+1):=by rw[getD_eq hi,XF]
 rw[e,dG];rfl
theorem Kh{n:Nat}{l:List aj}{i:Nat}{s:ae}(hi:i<=maxLen):(0<(i:Int)/\(Op.bytesLess (ByteArray.toList s) (ByteArray.toList (l.getD (IntKind.i64.wrap ((i:Int)-1)).toNat default).name)=true\/(n:Int)<2/\s=(l.getD (IntKind.i64.wrap ((i:Int)-1)).toNat default).name))↔gr n (gu l i) s:=by
 unfold gu;by_cases h0:i=0
 .subst h0;rw[Z3 rfl];unfold gr;simp
 .rw[Z9 h0];have e:(IntKind.i64.wrap ((i:Int)-1)).toNat=i-1:=by unfold maxLen at hi;rw[bn (by omega)];omega
  rw[e];unfold gr c6;simp only[];constructor
  .rintro⟨_,h|⟨h,h'⟩⟩
   .exact .inl h
   .exact .inr ⟨by omega,h'⟩
  .rintro(h|⟨h,h'⟩)
   .exact⟨by omega,.inl h⟩
   .exact⟨by omega,.inr ⟨by omega,h'⟩⟩
theorem al9(C:ay)(hz:∀n,∀f∈LL C n,f.body.size<=100000):Pure Tryz.prog 77 [.agg C.cells] (iv (gY C)):=by
 refine k77.p fun z=>?_;repeat'(first|exact .nil|refine .k ?_|refine .r1 ?_ ?_|(refine .m1 ?_ ?_;intro b)|(refine .m3 ?_ ?_;intro hlen)|refine .l3 fun b=>?_|fail)
 all_goals(try simp only[BL]at*)
 .show 3<=1000000;decide
 rename Nat=>b1
 refine aP (fun m rg af=>∃(n:Nat) (vs:List (ae×Int)),n<=3/\m=3-n/\gY C=ane C (3-n) n vs/\af=(11,b1,.map (vE vs) vs.length)::z/\rg=[(3,.bJ 11 b1),(18,.sl true 1 [[.sl false 18 (C.features.map aj.cells)],[.sl false 18 (C.aD.map aj.cells)],[.sl false 18 (C.past.map aj.cells)]]),(19,iv (3:Nat)),(20,iv n)]) 3 rfl ⟨_,_,Zr,.same (.cons (.refl _)),0,[],by omega,rfl,rfl,rfl,rfl⟩ ?_;rintro m _ _ ⟨n,vs,hn,hm,hv,rfl,rfl⟩;have hn4:n=0\/n=1\/n=2\/n=3:=by omega
 rcases hn4 with rfl|rfl|rfl|rfl
 .have iw:gY C=if(dG 0 none C.features vs).1≠0 then(dG 0 none C.features vs).1 else ane C 2 (0+1) (dG 0 none C.features vs).2:=hv
  have gV:∀f∈C.features,f.body.size<=100000:=hz 0;repeat'(first|exact .nil|refine .k ?_|(refine .cd ?_ ?_<;>intro hc)|refine .r1 ?_ ?_|(refine .m2 ?_ ?_;intro hlen)|refine .r8 ?_ ?_|fail)
  all_goals(try simp only[BL]at*)
  .exact⟨trivial,by decide,by show _<((3:Nat):Int);decide⟩
  rotate_left
  .exfalso;exact hc (by decide)
  refine aP (fun m rg af=>∃(i:Nat) (cB:List (ae×Int)),i<=C.features.length/\m=C.features.length-i/\dG 0 none C.features vs=dG 0 (gu C.features i) (C.features.drop i) cB/\af=(11,b1,.map (vE cB) cB.length)::z/\rg=[(3,.bJ 11 b1),(4,iv (0:Nat)),(5,.sl false 18 (C.features.map aj.cells)),(18,.sl true 1 [[.sl false 18 (C.features.map aj.cells)],[.sl false 18 (C.aD.map aj.cells)],[.sl false 18 (C.past.map aj.cells)]]),(19,iv (3:Nat)),(20,iv (0:Nat)),(25,.sl false 18 (C.features.map aj.cells)),(26,iv C.features.length),(27,iv i)]) C.features.length rfl ⟨_,_,Zr,Zs,0,vs,Z4 _,rfl,rfl,rfl,rfl⟩ ?_;rintro m2 _ _ ⟨i,cB,hi,fg,hL,rfl,rfl⟩;have hd:=fun(h:i<C.features.length)=>FM 0 h cB;have Ac:=fun(h:i<C.features.length)=>E8 (C.features.getD i default).body (gV _ (bN h));have bp:i<=maxLen:=by omega
  have kP:=Kh (n:=0) (l:=C.features) (i:=i) (s:=(C.features.getD i default).name) bp;have key:∀e:Int,e≠0->dG 0 (gu C.features i) (C.features.drop i) cB=(e,cB)->gY C=e:=fun e h1 h2=>by rw[iw,hL,h2,Z3 h1]
  repeat'(first|exact .nil|refine .k ?_|(refine .cd ?_ ?_<;>intro hc)|refine .r1 ?_ ?_|refine .l1 fun b=>?_|refine .t1 ?_ ?_ ?_|refine .an rfl (by intro ar;first|exact rO _|exact yR _|exact Ac (by(simp only[BL]at*;omega))) ?_ ?_|fail)
  try any_goals(exact Zo)
  all_goals(try simp only[BL]at*)
  .have ho:eU (C.features.getD i default)=1:=Z3 (by grind);rw[key 1 (by decide) (by rw[hd (by omega),ho,Z3 (by decide)])];exact Zw
  .have ho:eU (C.features.getD i default)=kn (C.features.getD i default).type:=(Z9 (by grind)).trans (Z3 hc);rw[key _ hc (by rw[hd (by omega),ho,Z3 hc])];exact Zw
  .have ho:eU (C.features.getD i default)=shape (C.features.getD i default).body:=(Z9 (by grind)).trans (Z9 (by grind));rw[key _ hc (by rw[hd (by omega),ho,Z3 hc])];exact Zw
  .have ho:eU (C.features.getD i default)=0:=(Z9 (by grind)).trans ((Z9 (by grind)).trans (by grind));rw[key 1 (by decide) (by rw[hd (by omega),ho,Z9 (by decide),Z3 (kP.1 hc)])];exact Zw
  .have ho:eU (C.features.getD i default)=0:=(Z9 (by grind)).trans ((Z9 (by grind)).trans (by grind));have nJ:¬gr 0 (gu C.features i) (C.features.getD i default).name:=fun h=>by
    have h2:=kP.2 h;rcases hc with hc|⟨bC,bO⟩
    .exact hc h2.1
    .rcases h2.2 with h3|h3
     .rw[bC]at h3;cases h3
     .rcases bO with h4|h4
      .exact h4 h3.1
      .exact h4 h3.2
   refine Gn (p:=((C.features.getD i default).name,(C.features.getD i default).version)) rfl rfl rfl OB.nil ?_;repeat'(first|exact .nil|refine .k ?_|(refine .cd ?_ ?_<;>intro hc)|refine .r1 ?_ ?_|fail)
   all_goals(try simp only[BL]at*)
   .rw[key 121 (by decide) (by rw[hd (by omega),ho,Z9 (by decide),Z9 nJ,Z3 hc])];exact Zw
   .refine Gp (p:=((C.features.getD i default).name,(C.features.getD i default).version)) rfl rfl rfl hc rfl OB.nil ?_;repeat'(first|exact .nil|refine .k ?_|refine .r1 ?_ ?_|fail)
    all_goals(try simp only[BL]at*)
    refine⟨m2-1,by omega,_,_,Zr,Zs,i+1,_,by omega,by omega,?_,rfl,by rw[bj (n:=C.features.length) (by omega) (by assumption)]⟩;rw[hL,hd (by omega),ho,Z9 (by decide),Z9 nJ,Z9 (by rw[hc];decide)]
  .intro h;unfold maxLen at bp;rw[bn (by omega)];omega
  .intro h;unfold maxLen at bp;rw[bn (by omega)];omega
  .have Au:i=C.features.length:=by omega
   subst Au;rw[YM,dG]at hL;refine⟨2-0,by omega,_,_,Zr,Zs,0+1,cB,by omega,by omega,?_,rfl,by rw[bj (n:=5) (by omega) (by decide)]⟩;rw[iw,hL,Z9 (by simp)]
 .have iw:gY C=if(dG 1 none C.aD vs).1≠0 then(dG 1 none C.aD vs).1 else ane C 1 (1+1) (dG 1 none C.aD vs).2:=hv
  have gV:∀f∈C.aD,f.body.size<=100000:=hz 1;repeat'(first|exact .nil|refine .k ?_|(refine .cd ?_ ?_<;>intro hc)|refine .r1 ?_ ?_|(refine .m2 ?_ ?_;intro hlen)|refine .r8 ?_ ?_|fail)
  all_goals(try simp only[BL]at*)
  .exact⟨trivial,by decide,by show _<((3:Nat):Int);decide⟩
  rotate_left
  .exfalso;exact hc (by decide)
  refine aP (fun m rg af=>∃(i:Nat) (cB:List (ae×Int)),i<=C.aD.length/\m=C.aD.length-i/\dG 1 none C.aD vs=dG 1 (gu C.aD i) (C.aD.drop i) cB/\af=(11,b1,.map (vE cB) cB.length)::z/\rg=[(3,.bJ 11 b1),(4,iv (1:Nat)),(5,.sl false 18 (C.aD.map aj.cells)),(18,.sl true 1 [[.sl false 18 (C.features.map aj.cells)],[.sl false 18 (C.aD.map aj.cells)],[.sl false 18 (C.past.map aj.cells)]]),(19,iv (3:Nat)),(20,iv (1:Nat)),(25,.sl false 18 (C.aD.map aj.cells)),(26,iv C.aD.length),(27,iv i)]) C.aD.length rfl ⟨_,_,Zr,Zs,0,vs,Z4 _,rfl,rfl,rfl,rfl⟩ ?_;rintro m2 _ _ ⟨i,cB,hi,fg,hL,rfl,rfl⟩;have hd:=fun(h:i<C.aD.length)=>FM 1 h cB;have Ac:=fun(h:i<C.aD.length)=>E8 (C.aD.getD i default).body (gV _ (bN h));have bp:i<=maxLen:=by omega
  have kP:=Kh (n:=1) (l:=C.aD) (i:=i) (s:=(C.aD.getD i default).name) bp;have key:∀e:Int,e≠0->dG 1 (gu C.aD i) (C.aD.drop i) cB=(e,cB)->gY C=e:=fun e h1 h2=>by rw[iw,hL,h2,Z3 h1]
  repeat'(first|exact .nil|refine .k ?_|(refine .cd ?_ ?_<;>intro hc)|refine .r1 ?_ ?_|refine .l1 fun b=>?_|refine .t1 ?_ ?_ ?_|refine .an rfl (by intro ar;first|exact rO _|exact yR _|exact Ac (by(simp only[BL]at*;omega))) ?_ ?_|fail)
  try any_goals(exact Zo)
  all_goals(try simp only[BL]at*)
  .have ho:eU (C.aD.getD i default)=1:=Z3 (by grind);rw[key 1 (by decide) (by rw[hd (by omega),ho,Z3 (by decide)])];exact Zw
  .have ho:eU (C.aD.getD i default)=kn (C.aD.getD i default).type:=(Z9 (by grind)).trans (Z3 hc);rw[key _ hc (by rw[hd (by omega),ho,Z3 hc])];exact Zw
  .have ho:eU (C.aD.getD i default)=shape (C.aD.getD i default).body:=(Z9 (by grind)).trans (Z9 (by grind));rw[key _ hc (by rw[hd (by omega),ho,Z3 hc])];exact Zw
  .have ho:eU (C.aD.getD i default)=0:=(Z9 (by grind)).trans ((Z9 (by grind)).trans (by grind));rw[key 1 (by decide) (by rw[hd (by omega),ho,Z9 (by decide),Z3 (kP.1 hc)])];exact Zw
  .have ho:eU (C.aD.getD i default)=0:=(Z9 (by grind)).trans ((Z9 (by grind)).trans (by grind));have nJ:¬gr 1 (gu C.aD i) (C.aD.getD i default).name:=fun h=>by
    have h2:=kP.2 h;rcases hc with hc|⟨bC,bO⟩
    .exact hc h2.1
    .rcases h2.2 with h3|h3
     .rw[bC]at h3;cases h3
     .rcases bO with h4|h4
      .exact h4 h3.1
      .exact h4 h3.2
   refine Gn (p:=((C.aD.getD i default).name,(C.aD.getD i default).version)) rfl rfl rfl OB.nil ?_;repeat'(first|exact .nil|refine .k ?_|(refine .cd ?_ ?_<;>intro hc)|refine .r1 ?_ ?_|fail)
   all_goals(try simp only[BL]at*)
   .rw[key 121 (by decide) (by rw[hd (by omega),ho,Z9 (by decide),Z9 nJ,Z3 hc])];exact Zw
   .refine Gp (p:=((C.aD.getD i default).name,(C.aD.getD i default).version)) rfl rfl rfl hc rfl OB.nil ?_;repeat'(first|exact .nil|refine .k ?_|refine .r1 ?_ ?_|fail)
    all_goals(try simp only[BL]at*)
    refine⟨m2-1,by omega,_,_,Zr,Zs,i+1,_,by omega,by omega,?_,rfl,by rw[bj (n:=C.aD.length) (by omega) (by assumption)]⟩;rw[hL,hd (by omega),ho,Z9 (by decide),Z9 nJ,Z9 (by rw[hc];decide)]
  .intro h;unfold maxLen at bp;rw[bn (by omega)];omega
  .intro h;unfold maxLen at bp;rw[bn (by omega)];omega
  .have Au:i=C.aD.length:=by omega
   subst Au;rw[YM,dG]at hL;refine⟨2-1,by omega,_,_,Zr,Zs,1+1,cB,by omega,by omega,?_,rfl,by rw[bj (n:=5) (by omega) (by decide)]⟩;rw[iw,hL,Z9 (by simp)]
 .have iw:gY C=if(dG 2 none C.past vs).1≠0 then(dG 2 none C.past vs).1 else ane C 0 (2+1) (dG 2 none C.past vs).2:=hv
  have gV:∀f∈C.past,f.body.size<=100000:=hz 2;repeat'(first|exact .nil|refine .k ?_|(refine .cd ?_ ?_<;>intro hc)|refine .r1 ?_ ?_|(refine .m2 ?_ ?_;intro hlen)|refine .r8 ?_ ?_|fail)
  all_goals(try simp only[BL]at*)
  .exact⟨trivial,by decide,by show _<((3:Nat):Int);decide⟩
  rotate_left
  .exfalso;exact hc (by decide)
  refine aP (fun m rg af=>∃(i:Nat) (cB:List (ae×Int)),i<=C.past.length/\m=C.past.length-i/\dG 2 none C.past vs=dG 2 (gu C.past i) (C.past.drop i) cB/\af=(11,b1,.map (vE cB) cB.length)::z/\rg=[(3,.bJ 11 b1),(4,iv (2:Nat)),(5,.sl false 18 (C.past.map aj.cells)),(18,.sl true 1 [[.sl false 18 (C.features.map aj.cells)],[.sl false 18 (C.aD.map aj.cells)],[.sl false 18 (C.past.map aj.cells)]]),(19,iv (3:Nat)),(20,iv (2:Nat)),(25,.sl false 18 (C.past.map aj.cells)),(26,iv C.past.length),(27,iv i)]) C.past.length rfl ⟨_,_,Zr,Zs,0,vs,Z4 _,rfl,rfl,rfl,rfl⟩ ?_;rintro m2 _ _ ⟨i,cB,hi,fg,hL,rfl,rfl⟩;have hd:=fun(h:i<C.past.length)=>FM 2 h cB;have Ac:=fun(h:i<C.past.length)=>E8 (C.past.getD i default).body (gV _ (bN h));have bp:i<=maxLen:=by omega
  have kP:=Kh (n:=2) (l:=C.past) (i:=i) (s:=(C.past.getD i default).name) bp;have key:∀e:Int,e≠0->dG 2 (gu C.past i) (C.past.drop i) cB=(e,cB)->gY C=e:=fun e h1 h2=>by rw[iw,hL,h2,Z3 h1]
  repeat'(first|exact .nil|refine .k ?_|(refine .cd ?_ ?_<;>intro hc)|refine .r1 ?_ ?_|refine .l1 fun b=>?_|refine .t1 ?_ ?_ ?_|refine .an rfl (by intro ar;first|exact rO _|exact yR _|exact Ac (by(simp only[BL]at*;omega))) ?_ ?_|fail)
  try any_goals(exact Zo)
  all_goals(try simp only[BL]at*)
  .have ho:eU (C.past.getD i default)=1:=Z3 (by grind);rw[key 1 (by decide) (by rw[hd (by omega),ho,Z3 (by decide)])];exact Zw
  .have ho:eU (C.past.getD i default)=kn (C.past.getD i default).type:=(Z9 (by grind)).trans (Z3 hc);rw[key _ hc (by rw[hd (by omega),ho,Z3 hc])];exact Zw
  .have ho:eU (C.past.getD i default)=shape (C.past.getD i default).body:=(Z9 (by grind)).trans (Z9 (by grind));rw[key _ hc (by rw[hd (by omega),ho,Z3 hc])];exact Zw
  .have ho:eU (C.past.getD i default)=0:=(Z9 (by grind)).trans ((Z9 (by grind)).trans (by grind));rw[key 1 (by decide) (by rw[hd (by omega),ho,Z9 (by decide),Z3 (kP.1 hc)])];exact Zw
  .have ho:eU (C.past.getD i default)=0:=(Z9 (by grind)).trans ((Z9 (by grind)).trans (by grind));have nJ:¬gr 2 (gu C.past i) (C.past.getD i default).name:=fun h=>by
    have h2:=kP.2 h;rcases hc with hc|⟨bC,bO⟩
    .exact hc h2.1
    .rcases h2.2 with h3|h3
     .rw[bC]at h3;cases h3
     .rcases bO with h4|h4
      .exact h4 h3.1
      .exact h4 h3.2
   refine Gn (p:=((C.past.getD i default).name,(C.past.getD i default).version)) rfl rfl rfl OB.nil ?_;repeat'(first|exact .nil|refine .k ?_|(refine .cd ?_ ?_<;>intro hc)|refine .r1 ?_ ?_|fail)
   all_goals(try simp only[BL]at*)
   .rw[key 121 (by decide) (by rw[hd (by omega),ho,Z9 (by decide),Z9 nJ,Z3 hc])];exact Zw
   .refine Gp (p:=((C.past.getD i default).name,(C.past.getD i default).version)) rfl rfl rfl hc rfl OB.nil ?_;repeat'(first|exact .nil|refine .k ?_|refine .r1 ?_ ?_|fail)
    all_goals(try simp only[BL]at*)
    refine⟨m2-1,by omega,_,_,Zr,Zs,i+1,_,by omega,by omega,?_,rfl,by rw[bj (n:=C.past.length) (by omega) (by assumption)]⟩;rw[hL,hd (by omega),ho,Z9 (by decide),Z9 nJ,Z9 (by rw[hc];decide)]
  .intro h;unfold maxLen at bp;rw[bn (by omega)];omega
  .have Au:i=C.past.length:=by omega
   subst Au;rw[YM,dG]at hL;refine⟨2-2,by omega,_,_,Zr,Zs,2+1,cB,by omega,by omega,?_,rfl,by rw[bj (n:=5) (by omega) (by decide)]⟩;rw[iw,hL,Z9 (by simp)]
 .repeat'(first|exact .nil|refine .k ?_|(refine .cd ?_ ?_<;>intro hc)|refine .r1 ?_ ?_|refine .r8 ?_ ?_|fail)
  all_goals(try simp only[BL]at*)
  all_goals first|(exfalso;exact absurd hc (by decide))|skip
  rw[hv];exact Zw
def bE:Option ae->List aO->Int
 |_,[]=>0|p,t::l=>if iD t≠0 then iD t else if gr 0 p t.name then 1 else bE (some t.name) l
def jw(C:ay):List aj->Int
 |[]=>0|f::l=>if mJ C f≠0 then mJ C f else jw C l
open Classical in
noncomputable def iI(C:ay):Int:=
 if C.tables.length>16\/C.features.length>32\/C.aD.length>32\/C.past.length>32 then 2
 else if bE none C.tables≠0 then bE none C.tables
 else if gY C≠0 then gY C
 else if jw C C.features≠0 then jw C C.features
 else if lJ (deps C.features) (bX C.features)≠[]then 120 else 0
def rR(l:List aO)(i:Nat):Option ae:=if i=0 then none else some (l.getD (i-1) default).name
theorem Sb{l:List aO}{i:Nat}{s:ae}(hi:i<=maxLen):(0<(i:Int)/\(Op.bytesLess (ByteArray.toList s) (ByteArray.toList (l.getD (IntKind.i64.wrap ((i:Int)-1)).toNat default).name)=true\/s=(l.getD (IntKind.i64.wrap ((i:Int)-1)).toNat default).name))↔gr 0 (rR l i) s:=by
 unfold rR;by_cases h0:i=0
 .subst h0;rw[Z3 rfl];unfold gr;simp
 .rw[Z9 h0];have e:(IntKind.i64.wrap ((i:Int)-1)).toNat=i-1:=by unfold maxLen at hi;rw[bn (by omega)];omega
  rw[e];unfold gr c6;simp only[];constructor
  .rintro⟨_,h|h'⟩
   .exact .inl h
   .exact .inr ⟨by omega,h'⟩
  .rintro(h|⟨h,h'⟩)
   .exact⟨by omega,.inl h⟩
   .exact⟨by omega,.inr h'⟩
theorem yO{l:List aO}{i:Nat}(hi:i<l.length):bE (rR l i) (l.drop i)=if iD (l.getD i default)≠0 then iD (l.getD i default)else if gr 0 (rR l i) (l.getD i default).name then 1 else bE (rR l (i+1)) (l.drop (i+1)):=by
 have e:l.drop i=l.getD i default::l.drop (i+1):=by rw[getD_eq hi,XF]
 rw[e,bE];rfl
theorem C4(C:ay){l:List aj}{i:Nat}(hi:i<l.length):jw C (l.drop i)=if mJ C (l.getD i default)≠0 then mJ C (l.getD i default)else jw C (l.drop (i+1)):=by
 have e:l.drop i=l.getD i default::l.drop (i+1):=by rw[getD_eq hi,XF]
 rw[e,jw]
theorem KZ:∀{l:List Ex} {x:Ex},x∈l->x.size<=Ex.c8 l
 |y::l,x,h=>by
  rw[Ex.c8];rcases ZR.1 h with rfl|h
  .omega
  .have:=KZ h;omega
theorem Ga{C:ay}{n:Nat}{f:aj}(hf:f∈LL C n):f∈C.all:=by
 unfold LL at hf;unfold ay.all;split at hf
 .exact Zy _ (Zy _ hf)
 .split at hf
  .exact Zy _ (Y3 _ hf)
  .exact Y3 _ hf
theorem aaY(hT:mA)(hO:mz)(C:ay)(hz:∀f∈C.all,f.body.size<=100000)(hf0:wT C.features)(ht:C.tables.length<=100000):Pure Tryz.prog 33 [.agg C.cells] (iv (iI C)):=by
 have hV:=al9 C (fun n f hf=>hz f (Ga hf));have oE:=fun(i:Nat) (h:i<C.features.length)=>NY hT hO C (C.features.getD i default) (hz _ (Ga (n:=0) (show C.features.getD i default∈LL C 0 from bN h)));have hY:=abr C hf0;unfold iI;generalize lJ (deps C.features) (bX C.features)=Y at*;generalize gY C=ve at*;refine k33.p fun z=>?_;repeat'(first|exact .nil|refine .k ?_|(refine .cd ?_ ?_<;>intro hc)|refine .r1 ?_ ?_|(refine .m1 ?_ ?_;intro b)|(refine .m2 ?_ ?_;intro hlen)|fail)
 try any_goals(exact Zo)
 all_goals(try simp only[BL]at*)
 .rw[Z3 (by omega)];exact Zw
 rw[Z9 (by omega)]
 rename Nat=>b1
 refine aP (fun m rg af=>∃i:Nat,i<=C.tables.length/\m=C.tables.length-i/\bE none C.tables=bE (rR C.tables i) (C.tables.drop i)/\af=(1,b1,.cells C.cells)::z/\rg=[(1,.lp 1 b1 0),(33,.sl false 4 (C.tables.map aO.cells)),(34,iv C.tables.length),(35,iv i)]) C.tables.length rfl ⟨_,_,Zr,Zs,0,Z4 _,rfl,rfl,rfl,rfl⟩ ?_;rintro m _ _ ⟨i,hi,hm,hL,rfl,rfl⟩;have bp:i<=maxLen:=by unfold maxLen;omega
 have kP:=Sb (l:=C.tables) (i:=i) (s:=(C.tables.getD i default).name) bp;repeat'(first|exact .nil|refine .k ?_|(refine .cd ?_ ?_<;>intro hc)|refine .r1 ?_ ?_|refine .l1 fun b=>?_|(refine .m2 ?_ ?_;intro hlen)|refine .t1 ?_ ?_ ?_|refine .an rfl (by intro ar;first|exact alz _|exact hV|fail) ?_ ?_|fail)
 try any_goals(exact Zo)
 all_goals(try simp only[BL]at*)
 .rw[show bE none C.tables=iD (C.tables.getD i default) by rw[hL,yO (by omega),Z3 hc],Z3 hc];exact Zw
 .rw[show bE none C.tables=1 by rw[hL,yO (by omega),Z9 (by grind),Z3 (kP.1 hc)],Z3 (by decide)];exact Zw
 .have nJ:¬gr 0 (rR C.tables i) (C.tables.getD i default).name:=fun h=>by
   have h2:=kP.2 h;rcases hc with hc|⟨bC,bO⟩
   .exact hc h2.1
   .rcases h2.2 with h3|h3
    .rw[bC]at h3;cases h3
    .exact bO h3
  exact⟨m-1,by omega,_,_,Zr,Zs,i+1,by omega,by omega,by rw[hL,yO (by omega),Z9 (by grind),Z9 nJ],rfl,by rw[bj (n:=C.tables.length) (by omega) (by assumption)]⟩
 .intro h;unfold maxLen at bp;rw[bn (by omega)];omega
 .have h0:bE none C.tables=0:=by rw[hL,show i=C.tables.length by omega,YM,bE]
  rw[h0,Z9 (by simp),Z3 hc];exact Zw
 have h0:bE none C.tables=0:=by rw[hL,show i=C.tables.length by omega,YM,bE]
 rw[h0,Z9 (by simp),Z9 (by grind)];clear kP bp hL hm hi;refine aP (fun m rg af=>∃i:Nat,i<=C.features.length/\m=C.features.length-i/\jw C C.features=jw C (C.features.drop i)/\af=(1,b1,.cells C.cells)::z/\rg=[(1,.lp 1 b1 0),(66,.sl false 18 (C.features.map aj.cells)),(67,iv C.features.length),(68,iv i)]) C.features.length rfl ⟨_,_,Zr,Zs,0,Z4 _,rfl,rfl,rfl,rfl⟩ ?_;rintro m _ _ ⟨i,hi,hm,hL,rfl,rfl⟩;have hF:=oE i;have IA:Y.length=0↔Y=[]:=Yi;repeat'(first|exact .nil|refine .k ?_|(refine .cd ?_ ?_<;>intro hc)|refine .r1 ?_ ?_|refine .l1 fun b=>?_|(refine .m2 ?_ ?_;intro hlen)|refine .t1 ?_ ?_ ?_|refine .an rfl (by intro ar;first|exact hF (by(simp only[BL]at*;omega))|exact hY) ?_ ?_|fail)
 try any_goals(exact Zo)
 all_goals(try simp only[BL]at*)
 .rw[show jw C C.features=mJ C (C.features.getD i default) by rw[hL,C4 C (by omega),Z3 hc],Z3 hc];exact Zw
 .exact⟨m-1,by omega,_,_,Zr,Zs,i+1,by omega,by omega,by rw[hL,C4 C (by omega),Z9 (by grind)],rfl,by rw[bj (n:=C.features.length) (by omega) (by assumption)]⟩
 all_goals have h1:jw C C.features=0:=by rw[hL,show i=C.features.length by omega,YM,jw]
 all_goals rw[h1,Z9 (by simp)]
 .rw[Z3 (fun h=>by subst h;simp at hc)];exact Zw
 .rw[Z9 (fun h=>h (IA.1 (by omega)))];exact Zw
