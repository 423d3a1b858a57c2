import Derived.Test.YtmemninechdogaaGreatDoorPc
set_option linter.all false
set_option maxRecDepth 100000
set_option maxHeartbeats 4000000
namespace Go.Proofs.YtmemninechdogaaGreatDoor
open _root_.Go.Proofs.Tryz
open Go.Sx Go.Proofs
theorem aoV(x:Ex):Pure prog 250 [.agg x.row] (iv (EO x)):=by
 refine aqs.p fun σ=>?_;repeat'(first|exact .nil|refine .k ?_|(refine .cd ?_ ?_<;>(intro hc))|refine .r1 ?_ ?_|(refine .m1 ?_ ?_;intro b)|fail)
 all_goals(refine Sx.Fin.intro Zs (bi ?_);unfold EO;grind)
theorem aq7(x:Ex)(h:yZ x.win):Pure prog 249 [.agg x.row] (sv (amk x.win)):=by
 have hw:0<=x.win.size/\x.win.size<=1099511627776:=by unfold yZ at h;omega
 have hz:=anH x.win.size (by omega);have hi:=anG hw.1;rw[Ex.dX x];refine aqr.p fun σ=>?_;repeat'(first|exact .nil|refine .k ?_|(refine .cd ?_ ?_<;>intro hc)|refine .r1 ?_ ?_|(refine .m1 ?_ ?_;intro b)|refine .an rfl (by intro ar;first|exact anw _ (by grind)|exact anf _ rfl (ZE rfl) (by simp only[Xs,TN,YB,ZY,ZP];omega)|fail) ?_ ?_|fail)
 all_goals(try simp only[BL]at*)
 any_goals(grind)
 all_goals(refine Sx.Fin.intro Zs (bs ?_);simp[amk,Pd,am7, *];done)
theorem aqI(x:Ex)(h:wh x):Pure prog 198 [.agg x.row] (sv (ahy x)):=by
 have hv:Mj x.val:=⟨h.1,h.2.1⟩
 have hk:=hv.kinds;have hs:=ape hv;obtain⟨hl,hu,ho⟩:=aof h.2.2.1;have hl:x.unit.length<=4:=hl;have hu:∀f∈x.unit,am8 f:=hu;have ho:x.name.size<=24:=ho;have hz:=anY hu hl;rw[Ex.dX x];refine aqh.p fun σ=>?_;repeat'(first|exact .nil|refine .k ?_|(refine .cd ?_ ?_<;>intro hc)|refine .r1 ?_ ?_|(refine .m1 ?_ ?_;intro b)|refine .an rfl (by intro ar;first|exact apd x.unit hu hl|exact apS x.val hv|exact anf _ rfl (ZE rfl) (by simp only[Xs,TN,YB,ZY,ZP];omega)) ?_ ?_|fail)
 all_goals(try simp only[BL]at*)
 any_goals(simp_all)
 all_goals(refine Sx.Fin.intro Zs (bs ?_);simp[ahy,Pd,am7,anh, *];done)
theorem aoO(x:Ex):Pure prog 199 [.agg x.row] (sv x.name):=by
 refine aqi.p fun σ=>?_;repeat'(first|exact .nil|refine .k ?_|refine .r1 ?_ ?_|(refine .m1 ?_ ?_;intro b)|fail)
 all_goals exact Sx.Fin.intro Zs rfl
structure Kids(x:Ex)(F:FuncId):Prop where
 t:∀i,i<x.args.length->Pure prog F [.agg (x.args.getD i default).row] (sv (tx x i))
 z:∀i,i<x.args.length->(tx x i).size<=100000
theorem ana{x:Ex}{F:FuncId}(h:Kids x F){i:Nat}{r:Int}(hi:i<x.args.length):(xc x (tx x) i r).size<=100002:=by have:=h.z i hi;have:=@anv x (tx x) i r;omega
theorem am9(x:Ex)(h:Kids x 146)(i:Nat)(hi:i<x.args.length)(r:Int):Pure prog 248 [.agg x.row,iv i,iv r] (sv (xc x (tx x) i r)):=by
 have hz:=h.z i hi;rw[Ex.dX x];refine aqq.p fun σ=>?_;repeat'(first|exact .nil|refine .k ?_|(refine .cd ?_ ?_<;>intro hc)|refine .r1 ?_ ?_|refine .l1 fun b=>?_|(refine .m1 ?_ ?_;intro b)|refine .t1 ?_ ?_ ?_|refine .an rfl (by intro ar;first|exact aoV (x.args.getD i default)|exact h.t i hi|exact anf _ rfl (ZE rfl) (by simp only[Xs,TN,YB,ZY,ZP];omega)) ?_ ?_|fail)
 try any_goals(exact Zo)
 all_goals(try simp only[BL]at*)
 any_goals((simp only[ZY,ZP,Z7,Z5,ZL,Mx,TN,TH,YB];omega))
 all_goals(refine Sx.Fin.intro Zs (bs ?_);first|(rw[xc,Z3 hc];simp only[par,Pd,am7];done)|(rw[xc,Z9 hc];done))
theorem anu(x:Ex)(T:Nat->ae)(i:Nat):xc x T i 0=T i:=Z9 (by have:=(aoU (x.args.getD i default)).1;omega)
theorem anz(a:ae):(⟨#[]⟩:ae)++a=a:=Fg (by simp)
theorem aqJ(x:Ex)(h:Kids x 146)(hl:x.args.length=1)(hn:x.name.size<=24):Pure prog 200 [.agg x.row] (sv (x.name++(⟨#[32,111,102,32,40]⟩++(tx x 0++⟨#[41]⟩)))):=by
 have hz:=@ana x _ h 0 0 (by omega);have h0:=anu x (tx x) 0;refine aqj.p fun σ=>?_;repeat'(first|exact .nil|refine .k ?_|refine .r1 ?_ ?_|(refine .m1 ?_ ?_;intro b)|refine .an rfl (by intro ar;first|(refine(am9 x h 0 (by omega) 0).wk ?_;(repeat' first|exact .row|exact .refl _|refine .cons ?_ ?_|refine .agg ?_|fail))|exact anf _ rfl (ZE rfl) (by simp only[Xs,TN,YB,ZY,ZP,ang];omega)) ?_ ?_|fail)
 any_goals(grind)
 all_goals(refine Sx.Fin.intro Zs (bs ?_);simp[Pd,am7, *])
theorem apv(x:Ex)(h:Kids x 146)(hl:x.args.length=3):Pure prog 204 [.agg x.row] (sv (ifT x (tx x))):=by
 have hz:=@ana x _ h 0 0 (by omega);have iz:=@ana x _ h 1 0 (by omega);have gV:=@ana x _ h 2 0 (by omega);have h0:=anu x (tx x) 0;have h1:=anu x (tx x) 1;have h2:=anu x (tx x) 2;rw[Ex.dX x];refine aqn.p fun σ=>?_;repeat'(first|exact .nil|refine .k ?_|refine .r1 ?_ ?_|(refine .m1 ?_ ?_;intro b)|refine .an rfl (by intro ar;first|(refine(am9 x h 0 (by omega) 0).wk ?_;(repeat' first|exact .row|exact .refl _|refine .cons ?_ ?_|refine .agg ?_|fail);done)|(refine(am9 x h 1 (by omega) 0).wk ?_;(repeat' first|exact .row|exact .refl _|refine .cons ?_ ?_|refine .agg ?_|fail);done)|(refine(am9 x h 2 (by omega) 0).wk ?_;(repeat' first|exact .row|exact .refl _|refine .cons ?_ ?_|refine .agg ?_|fail);done)|exact anf _ rfl (ZE rfl) (by simp only[Xs,TN,YB,ZY,ZP,ang];omega)) ?_ ?_|fail)
 all_goals(try simp only[BL]at*)
 any_goals((simp only[ZY,ZP,Z7,Z5,ZL,Mx,TN,TH,YB];omega))
 all_goals(refine Sx.Fin.intro Zs (bs ?_);simp[ifT,Pd,am7, *];done)
theorem apK(x:Ex)(h:Kids x 146)(hl:x.args.length=2):Pure prog 205 [.agg x.row] (sv (abw x (tx x))):=by
 have hz:=@ana x _ h 0 1 (by omega);have iz:=@ana x _ h 1 2 (by omega);rw[Ex.dX x];refine aqo.p fun σ=>?_;repeat'(first|exact .nil|refine .k ?_|refine .r1 ?_ ?_|(refine .m1 ?_ ?_;intro b)|refine .an rfl (by intro ar;first|(refine(am9 x h 0 (by omega) 1).wk ?_;(repeat' first|exact .row|exact .refl _|refine .cons ?_ ?_|refine .agg ?_|fail);done)|(refine(am9 x h 1 (by omega) 2).wk ?_;(repeat' first|exact .row|exact .refl _|refine .cons ?_ ?_|refine .agg ?_|fail);done)|exact anf _ rfl (ZE rfl) (by simp only[Xs,TN,YB,ZY,ZP,ang];omega)) ?_ ?_|fail)
 all_goals(try omega)
 any_goals(grind)
 all_goals(refine Sx.Fin.intro Zs (bs ?_);simp[abw,Pd,am7, *];done)
theorem aq4(x:Ex)(h:Kids x 146)(hl:x.args.length=1):Pure prog 202 [.agg x.row] (sv (unT x (tx x))):=by
 have hz:=@ana x _ h 0 0 (by omega);have iz:=@ana x _ h 0 8 (by omega);have gV:=@ana x _ h 0 4 (by omega);have h0:=anu x (tx x) 0;rw[Ex.dX x];refine aql.p fun σ=>?_;repeat'(first|exact .nil|refine .k ?_|(refine .cd ?_ ?_<;>intro hc)|refine .r1 ?_ ?_|(refine .m1 ?_ ?_;intro b)|refine .an rfl (by intro ar;first|(refine(am9 x h 0 (by omega) 0).wk ?_;(repeat' first|exact .row|exact .refl _|refine .cons ?_ ?_|refine .agg ?_|fail);done)|(refine(am9 x h 0 (by omega) 8).wk ?_;(repeat' first|exact .row|exact .refl _|refine .cons ?_ ?_|refine .agg ?_|fail);done)|(refine(am9 x h 0 (by omega) 4).wk ?_;(repeat' first|exact .row|exact .refl _|refine .cons ?_ ?_|refine .agg ?_|fail);done)|exact anf _ rfl (ZE rfl) (by simp only[Xs,TN,YB,ZY,ZP,ang];omega)) ?_ ?_|fail)
 all_goals(try simp only[BL]at*)
 any_goals((simp only[ZY,ZP,Z7,Z5,ZL,Mx,TN,TH,YB];omega))
 all_goals(refine Sx.Fin.intro Zs (bs ?_);simp[unT,Pd,am7, *];done)
theorem aps(x:Ex)(h:Kids x 146)(hl:x.args.length=2)(ho:x.op.size<=8):Pure prog 203 [.agg x.row] (sv (aaA x (tx x))):=by
 have hz:=@ana x _ h 0 (EO x) (by omega);have iz:=@ana x _ h 0 (IntKind.i64.wrap (EO x+1)) (by omega);have gV:=@ana x _ h 1 (IntKind.i64.wrap (EO x+1)) (by omega);have hr:=aoU x;rw[Ex.dX x];refine aqm.p fun σ=>?_;repeat'(first|exact .nil|refine .k ?_|(refine .cd ?_ ?_<;>intro hc)|refine .r1 ?_ ?_|(refine .m1 ?_ ?_;intro b)|refine .an rfl (by intro ar;first|(refine(aoV x).wk ?_;(repeat' first|exact .row|exact .refl _|refine .cons ?_ ?_|refine .agg ?_|fail);done)|(refine(am9 x h 0 (by omega) (EO x)).wk ?_;(repeat' first|exact .row|exact .refl _|refine .cons ?_ ?_|refine .agg ?_|fail);done)|(refine(am9 x h 0 (by omega) (IntKind.i64.wrap (EO x+1))).wk ?_;(repeat' first|exact .row|exact .refl _|refine .cons ?_ ?_|refine .agg ?_|fail);done)|(refine(am9 x h 1 (by omega) (IntKind.i64.wrap (EO x+1))).wk ?_;(repeat' first|exact .row|exact .refl _|refine .cons ?_ ?_|refine .agg ?_|fail);done)|exact anf _ rfl (ZE rfl) (by simp only[Xs,TN,YB,ZY,ZP,ang];omega)) ?_ ?_|fail)
 all_goals(try simp only[BL]at*)
 any_goals((simp only[ZY,ZP,Z7,Z5,ZL,Mx,TN,TH,YB];omega))
 all_goals(refine Sx.Fin.intro Zs (bs ?_);have hw:IntKind.i64.wrap (EO x+1)=EO x+1:=bn (by omega)
           rw[hw];unfold aaA ahv;first|(simp only[hc,Pd,am7,YK,YU];done)|(simp only[hc,Pd,am7,YK,YU];rfl))
theorem aq1{y:Ex}{q:Bool}(hf:form q y=true):y=ml↔y.kind=1/\y.val.kind=1/\y.val.n=1/\y.val.s=⟨#[]⟩:=by
 constructor
 .rintro rfl;exact⟨rfl,rfl,rfl,rfl⟩
 .rintro⟨h1,h2,h3,h4⟩;refine adb hf ?_;have hb:=(F4.of hf).nb;unfold nS at hb;rw[Z3 h1]at hb;obtain⟨e1,e2,e3,e4⟩:=hb;have hu:y.unit=[]/\y.name=⟨#[]⟩:=by
   unfold kn at e3;split at e3
   .omega
   .rename_i h;simp only[Num]at h;grind
  obtain⟨f1,f2,f3,f4,f5,f6,f7,f8⟩:=e4;exact⟨h1,f2,hu.2,f4,Uh.2 ⟨h2,h3,h4⟩,hu.1,f7,f8⟩
theorem apm(x:Ex)(h:Kids x 146)(hl:x.args.length=2)(ho:x.op.size<=8)(ht:x.table.size<=24)(hw:yZ x.win)(hp:0<=x.param/\x.param<=1073741824)(hf:form true (x.args.getD 1 default)=true):Pure prog 201 [.agg x.row] (sv (iH x (tx x))):=by
 have hz:=@ana x _ h 0 0 (by omega);have iz:=@ana x _ h 1 0 (by omega);have h0:=anu x (tx x) 0;have h1:=anu x (tx x) 1;have hi:=anG hp.1;have hz3:=anH x.param (by omega);have hz4:=apj hw;rw[Ex.dX x];refine aqk.p fun σ=>?_;repeat'(first|exact .nil|refine .k ?_|(refine .cd ?_ ?_<;>intro hc)|refine .r1 ?_ ?_|refine .l1 fun b=>?_|(refine .m1 ?_ ?_;intro b)|refine .t1 ?_ ?_ ?_|refine .an rfl (by intro ar;first|(refine(aq7 x hw).wk ?_;(repeat' first|exact .row|exact .refl _|refine .cons ?_ ?_|refine .agg ?_|fail);done)|exact anw _ (by first|omega|fail)|(refine(am9 x h 0 (by omega) 0).wk ?_;(repeat' first|exact .row|exact .refl _|refine .cons ?_ ?_|refine .agg ?_|fail);done)|(refine(am9 x h 1 (by omega) 0).wk ?_;(repeat' first|exact .row|exact .refl _|refine .cons ?_ ?_|refine .agg ?_|fail);done)|exact anf _ rfl (ZE rfl) (by simp only[Xs,TN,YB,ZY,ZP,ang];omega)) ?_ ?_|fail)
 try any_goals(exact Zo)
 all_goals(try simp only[BL]at*)
 any_goals((simp only[ZY,ZP,Z7,Z5,ZL,Mx,TN,TH,YB];omega))
 try any_goals(simp only[ang,Xs,TN,YB,ZY,ZP];omega)
 all_goals(refine Sx.Fin.intro Zs (bs ?_);have hy:=aq1 hf;unfold iH bG;repeat' split
           all_goals first|(exfalso;grind)|(simp only[Pd,am7,anz,anh,h0,h1,hi];done))
theorem aq0 (x:Ex) (r:ae) (h:(x.kind=1/\Pure prog 198 [.agg x.row] (sv r))
  \/(x.kind=2/\Pure prog 199 [.agg x.row] (sv r))\/(x.kind=3/\Pure prog 199 [.agg x.row] (sv r))
  \/(x.kind=4/\Pure prog 200 [.agg x.row] (sv r))\/(x.kind=5/\Pure prog 201 [.agg x.row] (sv r))
  \/(x.kind=6/\Pure prog 202 [.agg x.row] (sv r))\/(x.kind=7/\Pure prog 203 [.agg x.row] (sv r))
  \/(x.kind=8/\Pure prog 204 [.agg x.row] (sv r))\/(x.kind=9/\Pure prog 205 [.agg x.row] (sv r))):
  Pure prog 146 [.agg x.row] (sv r):=by
 obtain⟨k,o,nm,t,v,u,p,w,ks⟩:=x;simp only[Ex.kind]at h;rcases h with⟨rfl,hC⟩|⟨rfl,hC⟩|⟨rfl,hC⟩|⟨rfl,hC⟩|⟨rfl,hC⟩|⟨rfl,hC⟩|⟨rfl,hC⟩|⟨rfl,hC⟩|⟨rfl,hC⟩;all_goals rw[Ex.dX]
 all_goals rw[Ex.dX]at hC
 all_goals refine aqf.p fun σ=>?_
 repeat'(first|exact .nil|refine .k ?_|refine .r1 ?_ ?_|(refine .m1 ?_ ?_;intro b)|refine .an rfl (by intro ar;(refine hC.wk ?_;(repeat' first|exact .refl _|fail);done)) ?_ ?_|refine .l3 fun b=>?_|refine .r6 ?_ ?_|refine .r7 ?_ ?_|fail)
 all_goals(try simp only[BL]at*)
 all_goals exact Sx.Fin.intro Zs rfl
theorem aqB{x:Ex}{ins:Bool}(h:nS x ins):1<=x.kind/\x.kind<=9:=by
 unfold nS at h;repeat' split at h
 all_goals first|omega|exact h.elim
theorem parts{x:Ex}{ins:Bool}(h:F4 x ins):
  (x.kind=1->wh x/\x.args.length=0)/\(x.kind=2\/x.kind=3->uf x/\x.args.length=0)/\(x.kind=4->uf x/\x.args.length=1)/\(x.kind=5->uR x/\x.args.length=2)
  /\(x.kind=6->x.args.length=1/\∃y∈uC,x.op=y)/\(x.kind=7->x.args.length=2/\∃y∈pL,x.op=y)/\(x.kind=8->x.args.length=3)/\(x.kind=9->x.args.length=2):=by
 have hb:=h.nb;have hn:=h.nn;unfold nS at hb;unfold j8 at hn;refine⟨fun e=>?_,fun e=>?_,fun e=>?_,fun e=>?_,fun e=>?_,fun e=>?_,fun e=>?_,fun e=>?_⟩;all_goals grind
theorem aqO{x:Ex}(h:yr x):0<=x.param/\x.param<=1073741824:=by
 unfold yr at h;repeat' split at h
 all_goals omega
theorem aqK(x:Ex):∀ins,form ins x=true->x.size<=100->Pure prog 146 [.agg x.row] (sv (text x)):=by
 induction x using Ex.ind with
 |h x ih=>
 intro ins hf hs;have h:=F4.of hf;have hk:Kids x 146:=by
  constructor
  .intro i hi;have:=Ex.BF (bN hi);rw[aoe hi];exact ih _ (bN hi) _ (h.sub _ (bN hi)) (by omega)
  .intro i hi;have:=Ex.BF (bN hi);rw[aoe hi];exact ZD (apa _ _ (h.sub _ (bN hi))) (by omega)
 obtain⟨p1,p2,p4,p5,p6,p7,p8,p9⟩:=parts h;have hr:=aqB h.nb;refine aq0 x (text x) ?_;rw[ao8];unfold alL;have:x.kind=1\/x.kind=2\/x.kind=3\/x.kind=4\/x.kind=5\/x.kind=6\/x.kind=7\/x.kind=8\/x.kind=9:=by omega
 rcases this with e|e|e|e|e|e|e|e|e
 .rw[Z3 e];exact .inl ⟨e,aqI x (p1 e).1⟩
 .simp only[e,Int.reduceEq,YU];exact .inr (.inl ⟨trivial,aoO x⟩)
 .simp only[e,Int.reduceEq,YU];exact .inr (.inr (.inl ⟨trivial,aoO x⟩))
 .simp only[e,Int.reduceEq,YU,YK];exact .inr (.inr (.inr (.inl ⟨trivial,aqJ x hk (p4 e).2 (p4 e).1.1.1.2.1⟩)))
 .have hA:=(p5 e).1;obtain⟨⟨y,hy,ho⟩,ht,hw,hp, -⟩:=hA;have e1:=aoh y hy;rw[← ho]at e1;have hl:=(p5 e).2;have h1:=h.sub _ (bN (i:=1) (by omega));rw[e]at h1;simp only[e,Int.reduceEq,YU,YK];exact .inr (.inr (.inr (.inr (.inl ⟨trivial,apm x hk hl e1 ht.1.2.1 hw (aqO hp) (by grind)⟩))))
 .simp only[e,Int.reduceEq,YU,YK];exact .inr (.inr (.inr (.inr (.inr (.inl ⟨trivial,aq4 x hk (p6 e).1⟩)))))
 .obtain⟨hl,y,hy,ho⟩:=p7 e;have e1:=aoj y hy;rw[<-ho]at e1;simp only[e,Int.reduceEq,YU,YK];exact .inr (.inr (.inr (.inr (.inr (.inr (.inl ⟨trivial,aps x hk hl e1⟩))))))
 .simp only[e,Int.reduceEq,YU,YK];exact .inr (.inr (.inr (.inr (.inr (.inr (.inr (.inl ⟨trivial,apv x hk (p8 e)⟩)))))))
 .simp only[e,Int.reduceEq,YU,YK];exact .inr (.inr (.inr (.inr (.inr (.inr (.inr (.inr ⟨trivial,apK x hk (p9 e)⟩)))))))
theorem aoX{x:Ex}(h:shape x=0):form false x=true:=by
 unfold shape at h;split at h
 .omega
 .split at h
  .assumption
  .omega
def anA(x:Ex):ae:=if shape x=0 then text x else⟨#[]⟩
def anO(t:Ty):ae:=if kn t=0 then tyS t else⟨#[]⟩
theorem bse{a b:ae}{n m:Int}(h:a=b)(h2:n=m):AV.aG [.v (.string a),.v (.int .i64 n)]= .aG [sv b,iv m]:=by rw[h,h2]
theorem apH(x:Ex)(hs:x.size<=100):Pure prog 92 [.agg x.row] (.aG [sv (anA x),iv (shape x)]):=by
 rw[Ex.dX x];refine k92.p fun σ=>?_;repeat'(first|exact .nil|refine .k ?_|(refine .cd ?_ ?_<;>intro hc)|refine .r1 ?_ ?_|(refine .m1 ?_ ?_;intro b)|refine .an rfl (by intro ar;first|(refine(E8 x (by omega)).wk ?_;(repeat' first|exact .row|exact .refl _|refine .cons ?_ ?_|refine .agg ?_|fail);done)|(refine(aqK x false (aoX (by(grind))) hs).wk ?_;(repeat' first|exact .row|exact .refl _|refine .cons ?_ ?_|refine .agg ?_|fail);done)|fail) ?_ ?_|fail)
 all_goals(try simp only[BL]at*)
 all_goals(refine Sx.Fin.intro Zs (bse ?_ ?_)<;>first|rfl|exact(Z9 hc).symm|exact(Z3 hc).symm|exact hc.symm)
theorem anN{t:Ty}(h:kn t=0):(∀f∈t.unit,am8 f)/\t.unit.length<=4/\t.of.size<=100:=by obtain⟨h1,h2,h3⟩:=aof h;exact⟨h2,h1,by omega⟩
theorem aq2(t:Ty):Pure prog 91 [.agg t.cells] (.aG [sv (anO t),iv (kn t)]):=by
 refine k91.p fun σ=>?_;repeat'(first|exact .nil|refine .k ?_|(refine .cd ?_ ?_<;>(intro hc))|refine .r1 ?_ ?_|(refine .m1 ?_ ?_;intro b)|refine .an rfl (by intro ar;first|exact yR t|exact aoF t (anN (by(grind))).1 (anN (by(grind))).2.1 (anN (by(grind))).2.2|fail) ?_ ?_|fail)
 all_goals(simp_all)
 all_goals(refine Sx.Fin.intro Zs (bse ?_ ?_)<;>first|rfl|exact(Z9 hc).symm|exact(Z3 hc).symm|grind)
end Go.Proofs.YtmemninechdogaaGreatDoor
namespace Go.Sx
structure At(P:Program)[Glob P](f:FuncId)(xs:List AV)(r:AV)(σ:Store):Prop where
 sp:Spec P f xs σ fun r' af=>r'= .ret r/\af=σ
theorem At.wk{P:Program}[Glob P]{f:FuncId}{xs bs:List AV}{r:AV}{σ:Store}(h:At P f bs r σ)(hw:cj xs bs):At P f xs r σ:=
 ⟨fun M w0 w cs hI hR=>h.sp M w0 w cs hI (hw.sound hR)⟩
theorem MJ{P:Program}[Glob P]{f:FuncId}{xs:List AV}{σ:Store}{K:AV->Store->Prop}{E:List PanicEntry->Store->Prop}{r:AV}(h:At P f xs r σ)(k:K r σ):pA P f xs σ K E:=
 ⟨_,h.sp,fun _ _ ⟨e,e'⟩=>by grind,fun _ _ ⟨e,_⟩=>by cases e⟩
theorem At.Bz{P:Program}[Glob P][ij P]{f:FuncId}{fn:Func}{fc:FC}{xs:List AV}{r:AV}{σ:Store}{a:AC}(cfg:Nat->Nat)(hf:P.funcs[f]? =some fn)(hc:j0 P fn=some fc)(ha:fc.code=a.erase)(hlen:xs.length<=fc.N)
  (h:WK P fc.N cfg (ni fc.res r σ) a [] (fJ 0 xs) σ):At P f xs r σ:=by
 have h1:=h.h.h;rw[<-ha]at h1;refine⟨?_⟩;have:=Spec.intro (Q:=fun r' af=>∃x,r'= .ret x/\Wk x r/\Sub σ af) hf hc hlen (h1.mono (fun e rg af hq=>by
  cases e with
  |normal=>obtain⟨x,h1,h2,h3⟩:=hq;exact⟨x,h1,x,rfl,h2,h3⟩
  |ret=>obtain⟨x,h1,h2,h3⟩:=hq;exact⟨x,h1,x,rfl,h2,h3⟩
  |_=>exact hq.elim))
 refine this.weak ?_;grind
theorem _root_.Go.Sx.gy.a{P:Program}[Glob P][ij P]{f:FuncId}{N:Nat}{res:List RC}{xs:List AV}{r:AV}{σ:Store}{a:AC}(k:gy P f N a res)(h:WK P N (fun _=>0) (ni res r σ) a [] (fJ 0 xs) σ)(hl:Nat.ble xs.length N=true:=by exact rfl):At P f xs r σ:=by obtain⟨fn,h1,h2⟩:=k.ex;exact At.Bz (fc:=⟨N,a.erase,res⟩) (a:=a) _ h1 h2 rfl (ZE hl) h
section
variable {P:Program}[Glob P]{cfg:Nat->Nat}{K:ag->Store->Prop}{E:List PanicEntry->Store->Prop}{σ:Store}{l:List CI}{d:Nat}{v:AV}{xr:XR}{ps:List Prop}{g:Option (Nat×Bool)}{og:Option Bool}{xs:List AV}{args:List Operand}
theorem Ck{f:FuncId}{r:AV}(h:wa xr g args=some (og,xs,ps))(hp:og.getD true=true->At P f xs r σ)(aw:OB ps)(k:VX P cfg l K E (bQ og d r xr) σ):VX P cfg (⟨some d,.call f args,g⟩::l) K E xr σ:=by
 obtain⟨hc,he⟩:=cC h;refine jW hc (fun hg=>?_) (fun hg=>?_)
 .simp only[ak,he aw hg];refine MJ (hp hg) ?_;rw[<-fU hg];exact k.h
 .rw[<-fT hg (v:=r)];exact k.h
theorem Mm{f:FuncId}{r fv:AV}{fo:Operand}{a c:Array Value}(h:wa xr g (fo::args)=some (og,fv::xs,ps))(hf:zS fv=some (f,a,c))(bL:im P f=true)(hp:og.getD true=true->At P f (a.toList.map .v++xs++c.toList.map .v) r σ)(aw:OB ps)(k:VX P cfg l K E (bQ og d r xr) σ):
  VX P cfg (⟨some d,.fZ fo args,g⟩::l) K E xr σ:=by
 obtain⟨hc,he⟩:=cC h;refine jW hc (fun hg=>?_) (fun hg=>?_)
 .have:=he aw hg;simp only[aL,Z2]at this;simp only[ak,this.1,this.2,HW hf];refine⟨bL,MJ (hp hg) ?_⟩;rw[<-fU hg];exact k.h
 .rw[<-fT hg (v:=r)];exact k.h
end
theorem Wk.ptr(t b o:Nat):Wk (.v (.pointer (some ⟨b,o,none⟩))) (.lp t b o):=fun M x h=>by obtain rfl:=h.aC;exact .lp t b o
end Go.Sx
namespace Go.Proofs.YtmemninechdogaaGreatDoor
open _root_.Go.Proofs.Tryz
open Go.Sx Go.Proofs
theorem akR(x f:wb)(b:Nat)(Y:Store):At prog 131 [.agg x.cells,.lp 4 b 0] (.v (.bool (decide (x.name=f.name)))) ((4,b,aE.cells f.cells)::Y):=by
 refine afk.a ?_;repeat'(first|exact .nil|refine .k ?_|refine .r1 ?_ ?_|(refine .m1 ?_ ?_;intro b)|fail)
 .exact Sx.Fin.intro Zs rfl
theorem aez(fs:List wb)(f:wb)(b:Nat)(Y:Store):At prog 176 [.sl false 4 (fs.map wb.cells),.v (.func (.func 131) #[] #[.pointer (some ⟨b,0,none⟩)])] (iv (firstIdx (fun x=>decide (x.name=f.name)) fs 0)) ((4,b,aE.cells f.cells)::Y):=by
 refine JT.a ?_;repeat'(first|exact .nil|refine .k ?_|refine .r1 ?_ ?_|(refine .m2 ?_ ?_;intro hlen)|fail)
 all_goals(simp_all)
 refine aP (fun n rg af=>∃i:Nat,i<=fs.length/\n=fs.length-i/\(∀j,j<i->¬(fs.getD j default).name=f.name)/\af=(4,b,aE.cells f.cells)::Y/\rg=[(0,.sl false 4 (fs.map wb.cells)),(1,.v (.func (.func 131) #[] #[.pointer (some ⟨b,0,none⟩)])),(7,iv fs.length),(8,iv i)]) fs.length rfl ⟨_,_,Zr,Zs,0,Z4 _,rfl,fun j hj=>absurd hj (by omega),rfl,rfl⟩ ?_;rintro n _ _ ⟨i,hi,hn,hp,rfl,rfl⟩;repeat'(first|exact .nil|refine .k ?_|grind|(refine .cd ?_ ?_<;>intro hc)|refine .r1 ?_ ?_|refine .t1 ?_ ?_ ?_|fail)
 try any_goals(exact Zo)
 all_goals(try simp only[BL]at*)
 refine Mm rfl rfl (by rfl) (fun _=>(akR (fs.getD i default) f b Y).wk (cj.cons (Wk.refl _) (cj.cons (Wk.ptr _ _ _) cj.nil))) OB.nil ?_;repeat'(first|exact .nil|refine .k ?_|(refine .cd ?_ ?_<;>intro hc)|refine .r1 ?_ ?_|fail)
 all_goals(try simp only[BL]at*)
 .rw[q8 (p:=fun x:wb=>decide (x.name=f.name)) (l:=fs) (k:=0) (i:=i) (fun j hj=>Zp (hp j hj)) (by omega) (Y7 hc),ZH];exact Zw
 .refine⟨fs.length-(i+1),by omega,_,_,Zr,Zs,i+1,by omega,rfl,dj hp hc,rfl,by rw[bj (by omega) hlen]⟩
 .rw[q9 (fun y hy=>Zp (kj (p:=fun y:wb=>¬y.name=f.name) (fun j hj=>hp j (by omega)) y hy))];exact Zw
theorem abm(fs:List wb)(f:wb)(b:Nat)(Y:Store):At prog 130 [.sl false 4 (fs.map wb.cells),.v (.func (.func 131) #[] #[.pointer (some ⟨b,0,none⟩)])] (.v (.bool (decide (∃x∈fs,x.name=f.name)))) ((4,b,aE.cells f.cells)::Y):=by
 refine Qq.a ?_;repeat'(first|exact .nil|refine .k ?_|refine .r1 ?_ ?_|fail)
 refine Ck rfl (fun _=>aez fs f b Y) OB.nil ?_;repeat'(first|exact .nil|refine .k ?_|refine .r1 ?_ ?_|fail)
 .refine Sx.Fin.intro Zs (bd ?_);rw[ZQ,C8];grind
def oB(prev:List wb)(f:wb):Int:=if¬Name f.name then 3 else if∃x∈prev,x.name=f.name then 121 else kn f.type
def kD:List wb->List wb->Int
 |_,[]=>0|prev,f::l=>if oB prev f=0 then kD (prev++[f]) l else oB prev f
def iD(t:aO):Int:=
 if¬(Name t.name/\Name t.dh/\0<=t.aH/\t.aH<=1099511627776)then 3 else if t.fields.length>8 then 2 else kD [] t.fields
theorem Oh{u:List wb}{i:Nat}(hi:i<u.length)(h:oB (u.take i) (u.getD i default)=0):kD (u.take i) (u.drop i)=kD (u.take (i+1)) (u.drop (i+1)):=by rw[tc hi,kD,Z3 h,alH hi]
theorem xA{u:List wb}{i:Nat}{e:Int}(hi:i<u.length)(h:oB (u.take i) (u.getD i default)=e)(he:e≠0):kD (u.take i) (u.drop i)=e:=by rw[tc hi,kD,Z9 (by grind),h]
theorem alz(t:aO):Pure prog 76 [.agg t.cells] (iv (iD t)):=by
 refine QO.p fun σ=>?_;repeat'(first|exact .nil|refine .k ?_|grind|(refine .cd ?_ ?_<;>intro hc)|refine .r1 ?_ ?_|(refine .m1 ?_ ?_;intro b)|(refine .m2 ?_ ?_;intro hlen)|refine .an rfl (by intro ar;first|exact rO _|fail) ?_ ?_|fail)
 try any_goals(exact Zo)
 all_goals(try simp only[BL]at*)
 .refine Sx.Fin.intro Zs (bi ?_);unfold iD;rw[Z3 (by grind)]
 .refine Sx.Fin.intro Zs (bi ?_);unfold iD;rw[Z9 (by grind),Z3 (by omega)]
 rename_i h1 h2;have hu:iD t=kD [] t.fields:=by unfold iD;rw[Z9 (by grind),Z9 (by omega)]
 refine aP (fun n rg af=>∃(i:Nat),i<=t.fields.length/\n=t.fields.length-i/\iD t=kD (t.fields.take i) (t.fields.drop i)/\af=(1,b,aE.cells t.cells)::σ/\rg=[(1,.lp 1 b 0),(31,.sl false 4 (t.fields.map wb.cells)),(32,iv t.fields.length),(33,iv i)]) t.fields.length rfl ⟨_,_,Zr,Zs,0,Z4 _,rfl,hu,rfl,rfl⟩ ?_;rintro n _ _ ⟨i,hi,hn,hp,rfl,rfl⟩;repeat'(first|exact .nil|refine .k ?_|(refine .cd ?_ ?_<;>intro hc)|refine .r1 ?_ ?_|refine .l1 fun b=>?_|refine .t1 ?_ ?_ ?_|refine .t2 ?_ ?_ ?_|refine .an rfl (by intro ar;first|exact rO _|fail) ?_ ?_|fail)
 try any_goals(exact Zo)
 all_goals(try simp only[BL]at*)
 .rw[hp,xA (e:=3) (by omega) (Z3 hc) (by decide)];exact Zw
 refine Ck rfl (fun _=>abm (t.fields.take i) (t.fields.getD i default) _ _) OB.nil ?_;repeat'(first|exact .nil|refine .k ?_|(refine .cd ?_ ?_<;>intro hc)|refine .r1 ?_ ?_|refine .an rfl (by intro ar;exact yR (t.fields.getD i default).type) ?_ ?_|fail)
 all_goals(try simp only[BL]at*)
 .rw[hp,xA (e:=121) (by omega) (by unfold oB;rw[Z9 (fun h=>h ‹_›),Z3 hc]) (by decide)];exact Zw
 .rw[hp,xA (by omega) (by unfold oB;rw[Z9 (fun h=>h ‹_›),Z9 ‹_›]) hc];exact Zw
 .refine⟨t.fields.length-(i+1),by omega,_,_,Zr,Zs,i+1,by omega,rfl,?_,rfl,by rw[bj (n:=t.fields.length) (by omega) (by assumption)]⟩;rw[hp,Oh (by omega) (by unfold oB;rw[Z9 (fun h=>h ‹_›),Z9 ‹_›];exact hc)]
 .rw[hp,XC (by omega),kD];exact Zw
def anc(f:wb):ae:=⟨#[32]⟩++(f.name++(⟨#[58,32]⟩++tyS f.type))
def anx(t:aO):ae:=⟨#[116,97,98,108,101,32]⟩++(t.name++(⟨#[32,111,102,32]⟩++(t.dh++(⟨#[32,123]⟩++(Qn (t.fields.map anc) ⟨#[44]⟩++(⟨#[32,125]⟩++((if t.aH=0 then⟨#[]⟩else⟨#[32,107,101,101,112,32]⟩++A4 t.aH)++⟨#[59]⟩)))))))
theorem Og:∀(l p:List wb),kD p l=0->∀f∈l,Name f.name/\kn f.type=0
 |[],_,_,f,hf=>absurd hf (by simp)|g::l,p,h,f,hf=>by
  rw[kD]at h;split at h
  .rename_i h0;rcases ZR.1 hf with rfl|hf
   .unfold oB at h0;split at h0
    .omega
    .split at h0
     .omega
     grind
   .exact Og l _ h f hf
  grind
structure Mi(t:aO):Prop where
 n:t.name.size<=24
 e:t.dh.size<=24
 k:0<=t.aH/\t.aH<=1099511627776
 l:t.fields.length<=8
 f:∀f∈t.fields,Name f.name/\kn f.type=0
theorem Mi.of{t:aO}(h:iD t=0):Mi t:=by
 unfold iD at h;split at h
 .omega
 .rename_i h1;have h1:=YF.1 h1;split at h
  .omega
  .exact⟨h1.1.1.2.1,h1.2.1.1.2.1,h1.2.2,by omega,Og _ _ h⟩
theorem anX{t:Ty}(h:kn t=0):(tyS t).size<=220:=by
 obtain⟨hu,hl,ho⟩:=anN h;have:=anY hu hl;unfold tyS;repeat' split
 all_goals first|decide|((simp only[ZY,ZP,Z7,Z5,ZL,Mx,TN,TH,YB];omega))
theorem apP{f:wb}(h:Name f.name/\kn f.type=0):(anc f).size<=250:=by
 have h1:=anX h.2;have h2:=h.1.1.2.1;unfold anc
 ((simp only[ZY,ZP,Z7,Z5,ZL,Mx,TN,TH,YB];omega))
theorem ao2{t:aO}(h:Mi t):(Lib.join ((t.fields.map anc).map (·.data.toList)) (⟨#[44]⟩:ae).data.toList).length<=3000:=by have h1:=aoD (t.fields.map anc) ⟨#[44]⟩;have h2:=aob anc 250 fun f hf=>apP (h.f f hf);have h3:(⟨#[44]⟩:ae).size=1:=rfl;rw[Z5,h3]at h1;have:=h.l;omega
theorem ao3{t:aO}(h:Mi t):(Qn (t.fields.map anc) ⟨#[44]⟩).size<=3000:=ao2 h
theorem aqV{t:aO}{i:Nat}(hT:Mi t)(h:i<t.fields.length):(∀f∈(t.fields.getD i default).type.unit,am8 f)/\(t.fields.getD i default).type.unit.length<=4/\(t.fields.getD i default).type.of.size<=100/\(t.fields.getD i default).name.size<=24/\(tyS (t.fields.getD i default).type).size<=220:=by have h1:=hT.f _ (bN h);obtain⟨hu,hl,ho⟩:=anN h1.2;exact⟨hu,hl,ho,h1.1.1.2.1,anX h1.2⟩
theorem apO(f:wb):Pd [⟨#[32]⟩,f.name,⟨#[58,32]⟩,tyS f.type]=anc f:=by simp only[Pd,anc,am7]
theorem aqS{fs:List wb}{i:Nat}(h:i<fs.length):((fs.take i).map anc).map dq++[[.v (.string (anc (fs.getD i default)))]]=((fs.take (i+1)).map anc).map dq:=by rw[alH h];simp[dq]
theorem aqX(t:aO):Pure prog 39 [.agg t.cells] (.aG [sv (if iD t=0 then anx t else⟨#[]⟩),iv (iD t)]):=by
 refine k39.p fun σ=>?_;repeat'(first|exact .nil|refine .k ?_|(refine .cd ?_ ?_<;>intro hc)|refine .r1 ?_ ?_|(refine .m1 ?_ ?_;intro b)|(refine .m2 ?_ ?_;intro hlen)|refine .an rfl (by intro ar;first|exact alz t|fail) ?_ ?_|fail)
 all_goals(try simp only[BL]at*)
 .refine Sx.Fin.intro Zs (bse ?_ rfl);exact(Z9 hc).symm
 have hT:=Mi.of hc;have hTn:=hT.n;have hTe:=hT.e;have hTk:=hT.k;have vu:=hT.l;have hTz:=ao3 hT;have hj:(Qn [] (⟨#[44]⟩:ae)).size=0:=rfl;have hTq:=anH t.aH (by omega);rw[Z3 hc,hc];refine aP (fun n rg af=>∃i:Nat,i<=t.fields.length/\n=t.fields.length-i/\((i=0/\af=(1,b,aE.cells t.cells)::σ/\rg=[(1,.lp 1 b 0),(5,.v (.slice none 0 0)),(14,.sl false 4 (t.fields.map wb.cells)),(15,iv t.fields.length),(16,iv i)])\/(0<i/\∃b' v c,af=(29,b',.tail v c)::(1,b,aE.cells t.cells)::σ/\rg=[(1,.lp 1 b 0),(5,.own 1 29 b' v c (((t.fields.take i).map anc).map dq)),(14,.sl false 4 (t.fields.map wb.cells)),(15,iv t.fields.length),(16,iv i)]))) t.fields.length rfl ⟨_,_,Zr,Zs,0,Z4 _,rfl,.inl ⟨rfl,rfl,rfl⟩⟩ ?_;rintro n _ _ ⟨i,hi,hn,⟨h0,rfl,rfl⟩|⟨h0,b0,v0,c0,rfl,rfl⟩⟩;all_goals have hf:=fun h=>aqV (i:=i) hT h
 all_goals have iz:=fun h=>(hf h).2.2.2.1
 all_goals have gV:=fun h=>(hf h).2.2.2.2
 repeat'(first|exact .nil|refine .k ?_|(refine .cd ?_ ?_<;>intro hc)|refine .r1 ?_ ?_|refine .l1 fun b=>?_|refine .t1 ?_ ?_ ?_|refine .u1 ?_ ?_ ?_ (fun b u c=>?_)|refine .u2 ?_ ?_ ?_ (fun b u c=>?_)|refine .an rfl (by intro ar;first|exact anw _ (by first|omega|fail)|exact aoF (t.fields.getD i default).type (hf (by(simp only[BL]at*;omega))).1 (hf (by(simp only[BL]at*;omega))).2.1 (hf (by(simp only[BL]at*;omega))).2.2.1|exact anf _ rfl (ZE rfl) (by simp only[Xs,TN,YB,ZY,ZP,ang];first|omega|(simp only[BL]at*;omega))|(refine(A5 [] ⟨#[44]⟩ false (by decide) (by decide)).wk ?_;(repeat' first|exact .refl _|exact .nil|refine .cons ?_ ?_|fail);done)|(refine(A5 (t.fields.map anc) ⟨#[44]⟩ false (by rw[Z5];omega) (ZD (ao2 hT) (by decide))).wk (cj.cons (Wk.Kl (by rw[ZM (by(simp only[BL]at*;omega))])) (cj.cons (Wk.refl _) cj.nil)))) ?_ ?_|(show List.all _ _=true;rfl)|fail)
 try any_goals(exact Zo)
 all_goals(try simp only[BL]at*)
 any_goals((simp only[ZY,ZP,Z7,Z5,ZL,Mx,TN,TH,YB];omega))
 all_goals have e:=fun h=>aqS (fs:=t.fields) (i:=i) h
 all_goals try simp only[apO]
 .subst h0;refine⟨t.fields.length-(0+1),by omega,_,_,Zr,Zs,0+1,by omega,rfl,.inr ⟨by omega,_,_,_,rfl,?_⟩⟩;rw[<-e (by omega),bj (n:=t.fields.length) (by omega) (by assumption)];rfl
 .have h00:t.fields=[]:=Zt (by omega);refine Sx.Fin.intro Zs (bse ?_ rfl);unfold anx;rw[Z9 hc,h00];simp only[Pd,am7,anz,anh,anG hTk.1,YJ]
 .have h00:t.fields=[]:=Zt (by omega);refine Sx.Fin.intro Zs (bse ?_ rfl);unfold anx;rw[Z3 hc,h00];simp only[Pd,am7,anz,anh,YJ]
 .refine⟨t.fields.length-(i+1),by omega,_,_,Zr,Zs,i+1,by omega,rfl,.inr ⟨by omega,_,_,_,rfl,?_⟩⟩;rw[<-e (by omega),bj (n:=t.fields.length) (by omega) (by assumption)]
 .refine Sx.Fin.intro Zs (bse ?_ rfl);unfold anx;rw[Z9 hc];simp only[Pd,am7,anz,anh,anG hTk.1]
 .refine Sx.Fin.intro Zs (bse ?_ rfl);unfold anx;rw[Z3 hc];simp only[Pd,am7,anz,anh]
end Go.Proofs.YtmemninechdogaaGreatDoor
namespace Go.Sx
theorem cj.get{xs ys:List AV}(h:cj xs ys):xs.length=ys.length/\∀j (h1:j<xs.length) (h2:j<ys.length),Wk xs[j] ys[j]:=by
 induction h with
 |nil=>grind|cons h t ih=>grind
inductive kz:List (List AV)->List (List AV)->Prop
 |nil:kz [] []
 |cons {x y:List AV} {xs ys:List (List AV)} (h:cj x y) (t:kz xs ys):kz (x::xs) (y::ys)
theorem kz.get{xs ys:List (List AV)}(h:kz xs ys):xs.length=ys.length/\∀j (h1:j<xs.length) (h2:j<ys.length),cj xs[j] ys[j]:=by
 induction h with
 |nil=>grind|cons h t ih=>grind
theorem Wk.rows{nn:Bool}{n:Nat}{rows rows':List (List AV)}(h:kz rows rows'):Wk (.sl nn n rows) (.sl false n rows'):=fun M v hv=>by
 obtain⟨hl,hg⟩:=h.get;cases hv with
 |nil _ _ a ha=>obtain rfl:rows'=[]:=Zt hl.symm;exact .nil _ _ a (fun h=>nomatch h)
 |sl _ _ _ b off cap cs bl hM hR hc hm=>
  rw[hl];refine .sl _ _ _ b off cap cs (fun i hi=>?_) (fun k hk=>hM k (by grind)) (fun i hi j hj=>?_) (by omega) hm
  .have:=(hg i (by omega) hi).get.1;grind
  .have vI:=(hg i (by omega) hi).get;have:=hR i (by omega) j (by grind);exact vI.2 j (by grind) hj M _ this
end Go.Sx
namespace Go.Proofs.YtmemninechdogaaGreatDoor
open _root_.Go.Proofs.Tryz
open Go.Sx Go.Proofs
def anj(f:aj):Int:=if¬Name f.name\/¬Name f.dh then 3 else if kn f.type≠0 then kn f.type else shape f.body
def anR(f:aj):ae:=⟨#[102,101,97,116,117,114,101,32]⟩++(f.name++(⟨#[32,111,102,32]⟩++(f.dh++(⟨#[58,32]⟩++(tyS f.type++(⟨#[32,61,32]⟩++(text f.body++⟨#[59]⟩)))))))
def ano(f:aj):ae:=if anj f=0 then anR f else⟨#[]⟩
theorem aot{f:aj}(h:¬Name f.name\/¬Name f.dh):anj f=3:=Z3 h
theorem apM{f:aj}(h:¬(¬Name f.name\/¬Name f.dh))(h2:kn f.type≠0):anj f=kn f.type:=(Z9 h).trans (Z3 h2)
theorem aou{f:aj}(h:¬(¬Name f.name\/¬Name f.dh))(h2:kn f.type=0):anj f=shape f.body:=(Z9 h).trans (Z9 (not_not_intro h2))
theorem an3{f:aj}(h:anj f≠0):ano f=⟨#[]⟩:=Z9 h
theorem ao9{x:Ex}(h:shape x=0)(hs:x.size<=100):(text x).size<=50000:=by have:=apa x false (aoX h);omega
theorem Name.size{s:ae}(h:Name s):s.size<=24:=h.1.2.1
theorem aj.pQ(f:aj):f.cells=[sv f.name,sv f.dh,iv f.type.kind,.sl false 2 (f.type.unit.map ax.cells),sv f.type.of,iv f.body.kind,sv f.body.op,sv f.body.name,sv f.body.table,iv f.body.val.kind,iv f.body.val.n,sv f.body.val.s,.sl false 2 (f.body.unit.map ax.cells),iv f.body.param,iv f.body.win.kind,iv f.body.win.size,.sl false 12 (f.body.args.map Ex.row),iv f.version]:=by rw[<-Ex.pQ];rfl
theorem apI(x:Ex)(hs:x.size<=100):Pure prog 92 [.agg x.lay] (.aG [sv (anA x),iv (shape x)]):=by have:=apH x hs;rwa [Ex.dX x]at this
theorem aq3(t:Ty):(anO t).size<=220:=by
 unfold anO;split
 .rename_i h;exact anX h
 .decide
theorem apG(x:Ex)(hs:x.size<=100):(anA x).size<=50000:=by
 unfold anA;split
 .rename_i h;exact ao9 h hs
 .decide
theorem apL{f:aj}(h1:kn f.type=0)(h2:shape f.body=0):Pd [⟨#[102,101,97,116,117,114,101,32]⟩,f.name,⟨#[32,111,102,32]⟩,f.dh,⟨#[58,32]⟩,anO f.type,⟨#[32,61,32]⟩,anA f.body,⟨#[59]⟩]=anR f:=by simp only[Pd,anR,anO,anA,Z3 h1,Z3 h2,am7]
theorem apN(f:aj)(hs:f.body.size<=100):Pure prog 41 [.agg f.cells] (.aG [sv (ano f),iv (anj f)]):=by
 rw[aj.pQ];refine JU.p fun σ=>?_;repeat'(first|exact .nil|refine .k ?_|grind|(refine .cd ?_ ?_<;>intro hc)|refine .r1 ?_ ?_|(refine .m1 ?_ ?_;intro b)|refine .an rfl (by intro ar;first|exact rO _|exact aq2 f.type|exact apI f.body hs|exact anf _ rfl (ZE rfl) (by have h1:=aq3 f.type;have h2:=apG f.body hs;have h3:Name f.name/\Name f.dh:=(by grind);have h4:=Name.size h3.1;have h5:=Name.size h3.2;simp only[Xs,TN,YB,ZY,ZP,ang];omega)) ?_ ?_|fail)
 try any_goals(exact Zo)
 all_goals(try simp only[BL]at*)
 any_goals exact ZE rfl
 .rw[aot hc,an3 (by rw[aot hc];decide)];exact Zw
 .have h:=apM (f:=f) (by grind) hc;rw[h,an3 (by rw[h];exact hc)];exact Zw
 .have h:=aou (f:=f) (by grind) (by assumption);rw[h,an3 (by rw[h];exact hc)];exact Zw
 .have h:=aou (f:=f) (by grind) (by assumption);refine Sx.Fin.intro Zs (bse ?_ ?_)
  .rw[apL (by assumption) hc];exact(Z3 (h.trans hc)).symm
  .rw[h,hc]
def uK(t:aO):Prop:=(∀f∈t.fields,f.name.size<=100/\pC f.type)/\t.fields.length<=12/\t.name.size+t.dh.size<=200
instance (t:aO):Decidable (uK t):=inferInstanceAs (Decidable (_/\_/\_))
structure aO.Fits(t:aO):Prop where
 n:t.name.size<=2^59
 e:t.dh.size<=2^59
 f:∀f∈t.fields,f.type.of.size<=2^59
structure aj.Fits(f:aj):Prop where
 n:f.name.size<=2^59
 e:f.dh.size<=2^59
 t:f.type.of.size<=2^59
 b:f.body.wt<=2^60
theorem acD(t:aO)(hb:t.Fits):Pure prog 24 [.agg t.cells] (.v (.bool (decide (uK t)))):=by
 have hn:=hb.n;have he:=hb.e;refine k24.p fun σ=>?_;repeat'(first|exact .nil|refine .k ?_|refine .r1 ?_ ?_|(refine .m1 ?_ ?_;intro b)|fail)
 all_goals(simp_all)
 refine aP (fun n rg af=>∃i:Nat,i<=t.fields.length/\n=t.fields.length-i/\(∀j,j<i->(t.fields.getD j default).name.size<=100/\pC (t.fields.getD j default).type)/\af=(1,b,aE.cells t.cells)::σ/\rg=[(1,.lp 1 b 0),(3,iv i)]) t.fields.length rfl ⟨_,_,Zr,Zs,0,Z4 _,rfl,fun j hj=>absurd hj (by omega),rfl,rfl⟩ ?_;rintro n _ _ ⟨i,hi,hn,hp,rfl,rfl⟩;repeat'(first|exact .nil|refine .k ?_|grind|(refine .cd ?_ ?_<;>intro hc)|refine .r1 ?_ ?_|(refine .m2 ?_ ?_;intro hlen)|refine .t1 ?_ ?_ ?_|refine .an rfl (by intro ar;exact N1 (t.fields.getD i default).type (hb.f _ (bN (by(simp only[BL]at*;omega))))) ?_ ?_|fail)
 try any_goals(exact Zo)
 all_goals(try simp only[BL]at*)
 .refine Sx.Fin.intro Zs (bf ?_);rintro⟨h,_⟩;have:=h _ (bN (i:=i) (by omega));grind
 .refine⟨t.fields.length-(i+1),by omega,_,_,Zr,Zs,i+1,by omega,rfl,dj hp (by grind),rfl,by rw[bj (n:=t.fields.length) (by omega) (by assumption)]⟩
 .have bW:=kj (p:=fun f:wb=>f.name.size<=100/\pC f.type) (l:=t.fields) (fun j hj=>hp j (by omega));refine Sx.Fin.intro Zs (bd ?_);rw[bn (by omega)];unfold uK;grind
def pB(f:aj):Prop:=f.name.size+f.dh.size<=200/\pC f.type/\0<=kC f.body 80
instance (f:aj):Decidable (pB f):=inferInstanceAs (Decidable (_/\_/\_))
theorem acE(x:Ex)(hw:x.wt<=2^60)(n:Int)(hn: -1<=n/\n<=1000):Pure prog 26 [.agg x.lay,iv n] (iv (kC x n)):=by have:=N4 x hw n hn;rwa [Ex.dX x]at this
theorem NZ(f:aj)(hb:f.Fits):Pure prog 7 [.agg f.cells] (.v (.bool (decide (pB f)))):=by
 have hn:=hb.n;have he:=hb.e;rw[aj.pQ];refine k7.p fun σ=>?_;repeat'(first|exact .nil|refine .k ?_|refine .r1 ?_ ?_|(refine .m1 ?_ ?_;intro b)|refine .an rfl (by intro ar;first|exact N1 f.type hb.t|exact acE f.body hb.b 80 (by decide)) ?_ ?_|fail)
 all_goals(try simp only[BL]at*)
 .refine Sx.Fin.intro Zs (bd ?_);rw[bn (by omega)];unfold pB;grind
def anM(t:aO):ae:=if iD t=0 then anx t else⟨#[]⟩
theorem aqY(t:aO):Pure prog 39 [.agg t.cells] (.aG [sv (anM t),iv (iD t)]):=aqX t
def aj.lay(f:aj):List AV:=[sv f.name,sv f.dh,iv f.type.kind,.sl false 2 (f.type.unit.map ax.cells),sv f.type.of,iv f.body.kind,sv f.body.op,sv f.body.name,sv f.body.table,iv f.body.val.kind,iv f.body.val.n,sv f.body.val.s,.sl false 2 (f.body.unit.map ax.cells),iv f.body.param,iv f.body.win.kind,iv f.body.win.size,.sl false 12 (f.body.args.map Ex.row),iv f.version]
theorem Rs{X:Type}[Inhabited X]{l:List X}{k i:Nat}(h:k<i)(hi:i<=l.length):l.getD k default∈l.take i:=by
 have hk:k<l.length:=by omega
 rw[getD_eq hk];exact List.mem_take_iff_getElem.2 ⟨k,by omega,rfl⟩
theorem TS{X:Type}[Inhabited X]{p:X->Prop}{l:List X}{i:Nat}(hi:i<=l.length)(h:∀j,j<i->¬p (l.getD j default)):¬∃x∈l.take i,p x:=by rintro⟨x,hx,hp⟩;obtain⟨k,hk,rfl⟩:=List.mem_take_iff_getElem.1 hx;grind
theorem aly(t:aO):Pure prog 58 [.agg t.cells] (iv (iD t)):=by
 refine k58.p fun σ=>?_;repeat'(first|exact .nil|refine .k ?_|grind|(refine .cd ?_ ?_<;>intro hc)|refine .r1 ?_ ?_|(refine .m1 ?_ ?_;intro b)|(refine .m2 ?_ ?_;intro hlen)|refine .an rfl (by intro ar;first|exact ug _|fail) ?_ ?_|fail)
 try any_goals(exact Zo)
 all_goals(try simp only[BL]at*)
 .refine Sx.Fin.intro Zs (bi ?_);unfold iD;rw[Z3 (by grind)]
 .refine Sx.Fin.intro Zs (bi ?_);unfold iD;rw[Z9 (by grind),Z3 (by omega)]
 have hu:iD t=kD [] t.fields:=by unfold iD;rw[Z9 (by grind),Z9 (by omega)]
 refine aP (fun n rg af=>∃(i:Nat),i<=t.fields.length/\n=t.fields.length-i/\iD t=kD (t.fields.take i) (t.fields.drop i)/\af=(1,b,aE.cells t.cells)::σ/\rg=[(1,.lp 1 b 0),(3,iv i)]) t.fields.length rfl ⟨_,_,Zr,Zs,0,Z4 _,rfl,hu,rfl,rfl⟩ ?_;rintro n _ _ ⟨i,hi,hn,hp,rfl,rfl⟩;repeat'(first|exact .nil|refine .k ?_|(refine .cd ?_ ?_<;>intro hc)|refine .r1 ?_ ?_|(refine .m2 ?_ ?_;intro hlen)|refine .t1 ?_ ?_ ?_|refine .an rfl (by intro ar;first|exact ug _|fail) ?_ ?_|fail)
 try any_goals(exact Zo)
 all_goals(try simp only[BL]at*)
 .rw[hp,xA (e:=3) (by omega) (Z3 hc) (by decide)];exact Zw
 rotate_left
 .rw[hp,XC (by omega),kD];exact Zw
 refine aP (fun n rg af=>∃(k:Nat),k<=i/\n=i-k/\(∀j,j<k->¬(t.fields.getD j default).name=(t.fields.getD i default).name)/\af=(1,b,aE.cells t.cells)::σ/\rg=[(1,.lp 1 b 0),(3,iv i),(4,iv k)]) i rfl ⟨_,_,Zr,Zs,0,Z4 _,rfl,fun j hj=>absurd hj (by omega),rfl,rfl⟩ ?_;rintro n _ _ ⟨k,hk,jH,hq,rfl,rfl⟩;repeat'(first|exact .nil|refine .k ?_|(refine .cd ?_ ?_<;>intro hc)|refine .r1 ?_ ?_|refine .t1 ?_ ?_ ?_|refine .an rfl (by intro ar;exact FA (t.fields.getD i default).type) ?_ ?_|fail)
 try any_goals(exact Zo)
 all_goals(try simp only[BL]at*)
 .have hN:∃x∈t.fields.take i,x.name=(t.fields.getD i default).name:=⟨_,Rs (by omega) hi,hc⟩
  rw[hp,xA (e:=121) (by omega) (by unfold oB;rw[Z9 (not_not_intro ‹_›),Z3 hN]) (by decide)];exact Zw
 .refine⟨i-(k+1),by omega,_,_,Zr,Zs,k+1,by omega,rfl,dj hq hc,rfl,by rw[bj (n:=t.fields.length) (i:=k) (by omega) (by assumption)]⟩
 .have hN:=TS (p:=fun x:wb=>x.name=(t.fields.getD i default).name) hi (fun j hj=>hq j (by omega));rw[hp,xA (by omega) (by unfold oB;rw[Z9 (not_not_intro ‹_›),Z9 hN]) hc];exact Zw
 .have hN:=TS (p:=fun x:wb=>x.name=(t.fields.getD i default).name) hi (fun j hj=>hq j (by omega));refine⟨t.fields.length-(i+1),by omega,_,_,Zr,Zs,i+1,by omega,rfl,?_,rfl,by rw[bj (n:=t.fields.length) (by omega) (by assumption)]⟩;rw[hp,Oh (by omega) (by unfold oB;rw[Z9 (not_not_intro ‹_›),Z9 hN];exact hc)]
theorem ao6{X β:Type}[Inhabited X](g:X->β){l:List X}{i:Nat}(h:i<l.length):(l.map g).take (i+1)=(l.map g).take i++[g (l.getD i default)]:=by rw[<-XJ,alH h,Zl,XJ];rfl
theorem ao4(t:aO):(anM t).size<=60000:=by
 unfold anM;split
 .rename_i h;have hT:=Mi.of h;have h1:=hT.n;have h2:=hT.e;have h3:=ao3 hT;have h4:=@anW t.aH (by have:=hT.k;omega);unfold anx;split;all_goals((simp only[ZY,ZP,Z7,Z5,ZL,Mx,TN,TH,YB];omega))
 .decide
theorem aos{f:aj}(hs:f.body.size<=100):(ano f).size<=60000:=by
 unfold ano;split
 .rename_i h;have h0:Name f.name/\Name f.dh/\kn f.type=0/\shape f.body=0:=by
   unfold anj at h;split at h
   .omega
   .rename_i h1;split at h
    .rename_i h2;exact absurd h h2
    .rename_i h2;exact⟨by grind,by grind,YF.1 h2,h⟩
  have h1:=h0.1.size;have h2:=h0.2.1.size;have h3:=anX h0.2.2.1;have h4:=ao9 h0.2.2.2 hs;unfold anR
  ((simp only[ZY,ZP,Z7,Z5,ZL,Mx,TN,TH,YB];omega))
 .decide
structure L1.Small(m:L1):Prop where
 t:m.tables.length<=20
 f:m.features.length<=20
 b:∀f∈m.features,f.body.size<=100
def apl(m:L1):Prop:=(∀t∈m.tables,uK t)/\(∀f∈m.features,pB f)/\m.tables.length<=20/\m.features.length<=20
instance (m:L1):Decidable (apl m):=inferInstanceAs (Decidable (_/\_/\_/\_))
structure L1.Fits(m:L1):Prop where
 t:∀t∈m.tables,t.Fits
 f:∀f∈m.features,f.Fits
