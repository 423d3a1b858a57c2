/- changes.addTable: its contract. -/
import Derived.Test.YtajimcniogfpcaaGreatDoorAs
import Derived.Test.YtajimcniogfpcaaGreatDoorAa
import Derived.Test.YtajimcniogfpcaaGreatDoorHi
import Derived.Test.YtajimcniogfpcaaGreatDoorSxEx8
import Derived.Test.YtajimcniogfpcaaGreatDoorEd
set_option linter.unusedSimpArgs false
set_option linter.unusedVariables false
set_option maxRecDepth 100000
set_option maxHeartbeats 4000000
namespace Go.Proofs.YtajimcniogfpcaaGreatDoor
open Go.Sx Go.Proofs Go.Tb Go.RowKit
theorem P6(nm:ae):∀ (l:List aI) (k:Nat),(List.finRange l.length).foldr (fun x (a:Int)=>if jx l[x.val].name nm=true then((x.val+k:Nat):Int)else a) ((l.length+k:Nat):Int)=((jT l nm+k:Nat):Int)
 |[],k=>by simp[jT]
 |a::l,k=>by
  have ih:=P6 nm l (k+1)
  change List.foldr (fun(x:Fin (l.length+1)) (a':Int)=>if jx ((a::l)[x.val]'(x.isLt)).name nm=true then((x.val+k:Nat):Int)else a') ((l.length+1+k:Nat):Int) (List.finRange (l.length+1))=_
  rw[List.finRange_succ,List.foldr_cons,List.foldr_map]
  unfold jT
  rw[List.findIdx_cons,← P5]
  cases h:jx a.name nm with
  |true=>simp[h]
  |false=>
   simp only[YG,Fin.val_zero,h,ZV,Y8,XZ,Fin.val_succ,YD]
   unfold jT at ih
   have e:∀ x:Nat,x+1+k=x+(k+1):=fun x=>by omega
   simp only[e]
   exact ih
theorem aix(nm:ae)(l:List aI):vw (fun x:Fin l.length=>l[x.val].name) nm (List.finRange l.length).reverse=((jT l nm:Nat):Int):=by
 unfold vw
 rw[List.foldl_reverse]
 have:=P6 nm l 0
 simpa using this
theorem PK{l:List aI}{n:ae}:(iS l n).isSome=true↔∃ x:Fin l.length,l[x.val].name=n:=by
 unfold iS
 rw[List.find?_isSome]
 constructor
 ·rintro⟨t,ht,hn⟩
  obtain⟨i,hi,rfl⟩:=Zf ht
  exact⟨⟨i,hi⟩,by simpa using hn⟩
 ·rintro⟨x,hx⟩
  exact⟨_,Zc x.isLt,by simpa using hx⟩
theorem abv(c:az)(x:dE)(hn:c.tables.length≤100000):Sx.Pure Tryz.prog 55 [.agg c.cells,.agg x.cells] (db (tO c x.table)):=by
 refine⟨fun σ M w0 w cs hI hR=> ?_⟩
 obtain⟨x1,cP,rfl,q1,cJ⟩:=hR.bg
 obtain⟨x2,rfl,q2⟩:=RL.cT cJ
 obtain⟨cs1,rfl,cq⟩:=q1.np
 obtain⟨wI,rfl,c8⟩:=q2.np
 obtain⟨t0,_,rfl,p0,cq⟩:=cq.bg
 obtain⟨t1,_,rfl,p1,cq⟩:=cq.bg
 obtain⟨t2,_,rfl,p2,cq⟩:=cq.bg
 obtain⟨t3,rfl,p3⟩:=RL.cT cq
 obtain⟨y0,r0,rfl,k0,c8⟩:=c8.bg
 obtain⟨y1,r1,rfl,k1,c8⟩:=c8.bg
 obtain⟨y2,r2,rfl,k2,c8⟩:=c8.bg
 obtain⟨y3,r3,rfl,k3,c8⟩:=c8.bg
 obtain⟨y4,r4,rfl,k4,c8⟩:=c8.bg
 obtain rfl:=k1.ay
 obtain rfl:=k2.ay
 obtain rfl:=k4.ay
 obtain⟨fa,fc,rfl, -⟩:=wC k3
 obtain⟨ad,cap,rfl, -⟩:=wC p0
 obtain⟨a1,n1,c1,rfl⟩:=Bk p1
 obtain⟨a2,n2,c2,rfl⟩:=Bk p2
 obtain⟨a3,n3,c3,rfl⟩:=Bk p3
 simp only[Z4]at k3 p0 ⊢
 have pj:RL M x.table.cells [.string x.table.name,.string x.table.cN,.slice fa x.table.fields.length fc,.int .i64 x.table.aQ]:=RL.cons (.v _) (RL.cons (.v _) (RL.cons k3 (RL.cons (.v _) RL.nil)))
 have cC:∃ cs:Nat→Value,(∀ y:Fin c.tables.length,cs (y.val * 4)= .string c.tables[y.val].name)∧(∀ y:Fin c.tables.length,cs (y.val * 4+1)= .string c.tables[y.val].cN)∧(∀ y:Fin c.tables.length,∃ f:Option Addr×Nat×Nat,cs (y.val * 4+2)= .slice f.1 f.2.1 f.2.2)∧(∀ y:Fin c.tables.length,cs (y.val * 4+3)= .int .i64 c.tables[y.val].aQ)∧
   (c.tables.length=0∨∃ b off,ad=some ⟨b,off,none⟩∧b<w.heap.size∧∀ j,j<c.tables.length * 4→w.cell? ⟨b,off+j,none⟩=some (cs j)):=by
  rcases p0.om with⟨a,_,h1,h2⟩|⟨b,off,cp,cs,h1,hr,h3,h4⟩
  ·have e2:c.tables.length=0:=by rw[XC.1 h1];rfl
   exact⟨fun _=>default,fun y=>absurd y.isLt (by omega),fun y=>absurd y.isLt (by omega),fun y=>absurd y.isLt (by omega),fun y=>absurd y.isLt (by omega),.inl e2⟩
  ·simp only[Value.slice.injEq]at h1
   obtain⟨rfl, -,rfl⟩:=h1
   have g:∀ (y:Fin c.tables.length) (j:Nat) (hj:j<4),R M (c.tables[y.val].cells.getD j default) (cs (y.val * 4+j)):=fun y j hj=>by
    have:=hr.rel y.val (by rw[Z4];exact y.isLt) j (by rw[Zj];exact hj)
    simp only[Zj]at this
    rw[ZU,ZY (show j<c.tables[y.val].cells.length from hj)]
    exact this
   rcases Nat.eq_zero_or_pos c.tables.length with hz|hz
   ·exact⟨fun _=>default,fun y=>absurd y.isLt (by omega),fun y=>absurd y.isLt (by omega),fun y=>absurd y.isLt (by omega),fun y=>absurd y.isLt (by omega),.inl hz⟩
   refine⟨cs,fun y=>(g y 0 (by decide)).ay,fun y=>(g y 1 (by decide)).ay,fun y=> ?_,fun y=>(g y 3 (by decide)).ay,.inr ⟨b,off,rfl,?_,fun j hj=>hI.cH _ _ _ (hr.mem j (by rw[Z4];exact hj))⟩⟩
   ·obtain⟨a,n,cc,h⟩:=Bk (g y 2 (by decide));exact⟨(a,n,cc),h⟩
   ·exact World.block_lt_of_cell? _ _ (hI.cH _ _ _ (hr.mem 0 (by rw[Z4];omega)))
 obtain⟨cs,g0,g1,g2,g3,hc⟩:=cC
 obtain⟨fl,eY⟩:=Classical.axiomOfChoice g2
 unfold tO
 have kK:∀ {M':Mem},M.le M'→∀ {v:Value} {l:List aI},R M' (.sl false 4 (l.map aI.cells)) v→R M' (.agg ({c with tables:=l}:az).cells) (.agg #[v,.slice a1 n1 c1,.slice a2 n2 c2,.slice a3 n3 c3]):=fun {M'} hM {v l} hv=>R.su (cs:=[v,.slice a1 n1 c1,.slice a2 n2 c2,.slice a3 n3 c3]) (RL.cons hv (RL.cons (p1.mono hM) (RL.cons (p2.mono hM) (RL.cons (p3.mono hM) RL.nil))))
 refine abu ad c.tables.length cap a1 a2 a3 n1 c1 n2 c2 n3 c3 _ w x.table.name rfl cs (fun y=>c.tables[y.val].name) g0 (fun y=>c.tables[y.val].cN) g1 fl eY (fun y=>c.tables[y.val].aQ) g3 hn hc _ (fun y hy W' hb=> ?_) hI c.tables rfl (by simpa using p0) x.table fa _ fc rfl rfl rfl pj (aix _ _) (fun aH M' v W' hM bw hv=> ?_)
 ·rw[ZW (PK.2 ⟨y,hy⟩)]
  exact⟨M,.ret _,σ,Mem.le.refl _,hI.after hb,R.vh (cs:=[_,_]) (RL.cons (kK (Mem.le.refl _) p0) (RL.cons (.v _) RL.nil)),rfl,rfl⟩
 ·rw[Z5 (fun h=>by obtain⟨y,hy⟩:=PK.1 h;exact aH y hy)]
  exact⟨M',.ret _,σ,hM,bw,R.vh (cs:=[_,_]) (RL.cons (kK hM (Wk.sl _ _ hv)) (RL.cons (.v _) RL.nil)),rfl,rfl⟩
def lP(f:Nat):AV:= .v (.func (.func f) #[] #[])
def lA:List (Value×Nat×AV):=[(.int .i64 1,0,.agg [lP 55,lP 56]),(.int .i64 2,1,.agg [lP 58,lP 59]),(.int .i64 3,2,.agg [lP 61,lP 62]),(.int .i64 4,3,.agg [lP 63,lP 62]),(.int .i64 5,4,.agg [lP 64,lP 62])]
theorem ajg(σ:Store):Sx.Spec Tryz.prog 26 [] σ fun r σ'=>∃ b,r= .ret (.bH 1 b)∧σ'=(1,b,.map lA 5)::σ:=by
 refine k26.s ?_
 repeat'(first|exact .nil|refine .k0 ?_|refine .k1 ?_|refine .k2 ?_|refine .k3 ?_|refine .k4 ?_|refine .k5 ?_|refine .k6 ?_|refine .k7 ?_|refine .k8 ?_|refine .k9 ?_|(refine .cd ?_ ?_<;>first|with_reducible exact tF|with_reducible exact fT|(intro hc;first|exact kf hc (by assumption)|exact kt hc (by assumption)|skip))|refine .r1 ?_ ?_|(refine .l1 ?_;intro b)|(refine .m1 ?_ ?_;intro b)|(refine .m2 ?_ ?_;intro hlen)|(refine .m3 ?_ ?_;intro hlen)|refine .t1 ?_ ?_ ?_|refine .t2 ?_ ?_ ?_|refine .t3 ?_ ?_ ?_|refine .t4 ?_ ?_ ?_|(refine .l2 ?_;intro b)|refine .u1 ?_ ?_ ?_ (fun b u c=> ?_)|refine .u2 ?_ ?_ ?_ (fun b u c=> ?_)|refine .u4 ?_ ?_ (fun b u c=> ?_)|refine .u5 ?_ ?_ ?_|refine .u3 ?_ ?_ (fun jE=> ?_) (fun eZ b u c=> ?_)|refine .an rfl (by intro aB;first|fail) ?_ ?_|refine .t5 ?_ ?_ ?_|refine .t6 ?_ ?_ ?_|refine .t7 ?_ ?_ ?_|refine .r2 ?_ ?_|refine .r3 ?_ ?_|refine .r4 ?_ ?_|refine .r5 ?_ ?_|(refine .l3 ?_;intro b)|refine .r6 ?_ ?_|refine .r7 ?_ ?_|refine .r8 ?_ ?_|refine .r9 ?_ ?_|refine .ra ?_ ?_|(show List.all _ _=true;rfl)|(show(_:Nat)=_;rfl))
 try any_goals(exact Zo)
 all_goals exact⟨_,rfl,rfl⟩
end Go.Proofs.YtajimcniogfpcaaGreatDoor
set_option linter.unusedSectionVars false
namespace Go.Sx
open Go.RowKit
section
variable {P:Program}[Glob P]{σ:Store}
def BJ(o:Option AV)(z:Value):AV:= .aP [o.getD (.v z),.v (.bool o.isSome)]
theorem WL{tg b cG:Nat}{es:List (Value×Nat×AV)}{t ty kt vt:TypeId}{q:TI}{kd:TypeDesc}{m k:Operand}{key z:Value}{o:Option AV}(hz:∀ w,(zeroValue vt).run P w= .ok z w)(hp:mh q=some kd)(hl:aM σ tg=some (b,.map es cG))(hf:fH kd key es=some o):
  gb P (.lookup t m k true) ty [.mp kt vt,q] [m,k] [.bH tg b,.v key] σ fun y σ'=>y=BJ o z∧σ'=σ:=by
 intro bx M w0 w ρ hI hR
 simp only[eK,Z3,Zn]at bx
 have ht:=vJ bx.1
 have hk:P.underlying kt=some kd:=by
  have:=bx.2
  unfold CN at this
  rw[ht]at this
  exact FU hp this
 obtain⟨v1,cP,e1,h1,cJ⟩:=hR.bg
 obtain⟨v2,e2,h2⟩:=cJ.cT
 subst e2
 simp only[ZE,Y4,Z3,Zn]at e1
 obtain⟨hM,l,hh,gq,iy⟩:=hI.rH hl
 have g1:=h1.qF
 have g2:=h2.ay
 subst g1 g2
 cases o with
 |some v=>
  obtain⟨j,u,jB,hu⟩:=El (M:=M) 0 gq iy hf
  refine⟨.value (.tuple #[u,.bool true]),w,M,BJ (some v) z,.tuple #[u,.bool true],σ,?_,rfl,Mem.le.refl _,hI,R.vh (cs:=[_,_]) (RL.cons hu (RL.cons (.v _) RL.nil)),rfl,rfl⟩
  simp only[execOp,e1.1,e1.2,Instr.lookup,Sem.run_bind,aZ ht,Result.andThen_ok,getObj,Sem.run,hh,run_checkKey hp hk,Instr.findKey,aZ hk,jB,Sem.run_pure]
  rfl
 |none=>
  have jB:=Je (M:=M) 0 gq hf
  refine⟨.value (.tuple #[z,.bool false]),w,M,BJ none z,.tuple #[z,.bool false],σ,?_,rfl,Mem.le.refl _,hI,R.vh (cs:=[_,_]) (RL.cons (.v _) (RL.cons (.v _) RL.nil)),rfl,rfl⟩
  simp only[execOp,e1.1,e1.2,Instr.lookup,Sem.run_bind,aZ ht,Result.andThen_ok,getObj,Sem.run,hh,run_checkKey hp hk,Instr.findKey,aZ hk,jB,Sem.run_pure,hz]
  rfl
end
theorem NQ{P:Program}[Glob P]{cfg:Nat→Nat}{K:af→Store→Prop}{E:List PanicEntry→Store→Prop}{σ:Store}{l:List CI}{d t:Nat}{xr:XR}{op:aw}{b want:Bool}(hw:b= !want)(k:VX P cfg l K E ((d,.s (.v undef))::xr) σ)(hb:lk (den xr) t= .v (.bool b):=by exact rfl):VX P cfg (⟨some d,op,some (t,want)⟩::l) K E xr σ:=by
 constructor
 simp only[dD,bY,hb]
 refine⟨fun e=> ?_,fun _=>k.h⟩
 rw[e]at hw
 exact absurd hw (by cases want<;>decide)
theorem aay{P:Program}[Glob P]{cfg:Nat→Nat}{K:af→Store→Prop}{E:List PanicEntry→Store→Prop}{σ:Store}{l:List CI}{d:Nat}{xr:XR}{c a b:Operand}{y:AV}(k:VX P cfg l K E ((d,.s y)::xr) σ)(hc:ev (den xr) c= .v (.bool true):=by exact rfl)(hy:ev (den xr) a=y:=by exact rfl):VX P cfg (⟨some d,.pick c a b,none⟩::l) K E xr σ:=by
 constructor
 subst hy
 simp only[dD,bY,al,hc]
 exact k.h
theorem aav{P:Program}[Glob P]{cfg:Nat→Nat}{K:af→Store→Prop}{E:List PanicEntry→Store→Prop}{σ:Store}{l:List CI}{d ag:Nat}{t:TypeId}{xr:XR}{parts:List Operand}{og:Option Bool}{ys:List AV}{ps:List Prop}{rows:List (List AV)}(hc:cfg d=2)(h:aD xr none parts=some (og,ys,ps))(hr:rowsOf ag ys=some rows)(hb:rows.length≤1000000)(aq:OB ps)
  (k:∀ b,VX P cfg l K E ((d,.s (.ms d b 0 rows.length rows.length))::xr) ((d,b,.cells rows.flatten)::σ)):VX P cfg (⟨some d,.dZ t ag parts,none⟩::l) K E xr σ:=by
 obtain⟨_,he⟩:=bZ h
 have cE:=ry h
 subst cE
 constructor
 simp only[dD,bY,al,he aq rfl,hr,Zk,hc]
 exact⟨hb,fun b=>(k b).h⟩
theorem Lq(d:Nat)(y:AV)(rg:af)(i:Nat):lk ((d,y)::rg) i=if d=i then y else lk rg i:=by
 simp only[lk]
 by_cases h:d=i
 ·subst h;rw[YL,ZW rfl];rfl
 ·rw[Z5 h,show Nat.beq d i=false by rw[← X6,Nat.beq_eq];exact h];rfl
structure kR(dn:Nat→Bool)(vs:List (Nat×Nat×AV))(rg ak:af):Prop where
 v:∀ e∈vs,dn e.1=true→lk ak e.2.1=e.2.2
 o:∀ i,(∀ e∈vs,e.2.1≠i)→lk ak i=lk rg i
def gC(dn:Nat→Bool)(x i:Nat):Bool:=i == x || dn i
theorem kR.put{dn:Nat→Bool}{vs:List (Nat×Nat×AV)}{rg ak:af}(h:kR dn vs rg ak){x d:Nat}{y:AV}(hm:(x,d,y)∈vs)(hd:∀ e∈vs,e.2.1=d→e=(x,d,y))(hx:∀ e∈vs,e.1=x→e=(x,d,y)):kR (gC dn x) vs rg ((d,y)::ak):=by
 refine⟨fun e he jz=> ?_,fun i hi=> ?_⟩
 ·rw[Lq]
  split
  ·rename_i e1;rw[hd e he e1.symm]
  ·rename_i e1
   refine h.v e he ?_
   simp only[gC,YM,beq_iff_eq]at jz
   rcases jz with h1|h1
   ·exact absurd (by rw[hx e he h1]) e1
   ·exact h1
 ·rw[Lq,Z5 (hi _ hm)];exact h.o i hi
theorem Tl{α:Type}{f:α→Nat}{l:List α}(h:(l.map f).Nodup){a b:α}(ha:a∈l)(hb:b∈l)(e:f a=f b):a=b:=by
 obtain⟨i,hi,rfl⟩:=Zf ha
 obtain⟨j,hj,rfl⟩:=Zf hb
 have:=(List.getElem_inj (xs:=l.map f) (i:=i) (j:=j) (h₀:=by simpa using hi) (h₁:=by simpa using hj) h).1 (by simpa using e)
 subst this;rfl
theorem kR.sJ{dn:Nat→Bool}{vs:List (Nat×Nat×AV)}{rg ak:af}(h:kR dn vs rg ak){x d:Nat}{y:AV}(j:Nat)(hj:vs[j]? =some (x,d,y))(h1:(vs.map (·.1)).Nodup)(h2:(vs.map (·.2.1)).Nodup):kR (gC dn x) vs rg ((d,y)::ak):=by
 have hm:=YS hj
 exact h.put hm (fun e he h=>Tl (f:=fun e=>e.2.1) h2 he hm h) (fun e he h=>Tl (f:=fun e=>e.1) h1 he hm h)
theorem kR.all{dn:Nat→Bool}{vs:List (Nat×Nat×AV)}{rg ak:af}(h:kR dn vs rg ak)(hd:∀ e∈vs,dn e.1=true)(i:Nat):lk (vs.map (·.2)++rg) i=lk ak i:=by
 obtain⟨h1,h2⟩:=h
 replace h2:=h2 i
 revert h1 hd h2
 induction vs with
 |nil=>exact fun _ _ h2=>(h2 (fun _ h=>nomatch h)).symm
 |cons e vs ih=>
  intro hd h1 h2
  rw[ZE,ZH,show e.2=(e.2.1,e.2.2)from rfl,Lq]
  split
  ·rename_i e1;rw[← e1];exact(h1 e (by simp) (hd e (by simp))).symm
  ·rename_i e1
   exact ih (fun e he=>hd e (by simp[he])) (fun e he=>h1 e (by simp[he])) fun h=>h2 fun e' jA=>by
    rcases ZT.1 jA with rfl|jA
    ·exact e1
    ·exact h e' jA
theorem kR.skip{dn:Nat→Bool}{vs:List (Nat×Nat×AV)}{rg ak:af}(h:kR dn vs rg ak){x:Nat}(hx:∀ e∈vs,e.1≠x):kR (gC dn x) vs rg ak:=
 ⟨fun e he jz=>h.v e he (by
  simp only[gC,YM,beq_iff_eq]at jz
  exact jz.resolve_left (hx e he)),h.o⟩
theorem kR.to{dn:Nat→Bool}{vs vs':List (Nat×Nat×AV)}{rg ak:af}(h:kR dn vs rg ak)(h1:∀ e∈vs',dn e.1=true→e∈vs)(h2:vs.map (·.2.1)=vs'.map (·.2.1)):kR dn vs' rg ak:=
 ⟨fun e he jz=>h.v e (h1 e he jz) jz,fun i hi=>h.o i fun e he=>by
  have:e.2.1∈vs'.map (·.2.1):=by rw[← h2];exact Y9.2 ⟨e,he,rfl⟩
  obtain⟨e',h3,h4⟩:=Y9.1 this
  rw[← h4];exact hi e' h3⟩
end Go.Sx
namespace Go.Proofs.YtajimcniogfpcaaGreatDoor
open _root_.Go.Proofs.Tryz
open Go.Sx Go.Proofs Go.Tb Go.RowKit
def ya(px r o:Nat):List CD:=[.mk 1 ⟨some 10,.dk 0 (.tmp px),none⟩ [],.mk 2 ⟨some 11,.load false 1 (.tmp 10),none⟩ [],.mk 0 ⟨some 9,.call 26 [],none⟩ [],.mk 3 ⟨some 12,.cQ (.lookup 85 (.tmp 9) (.tmp 11) true) 84 [.mp 3 83,.int .i64] [.tmp 9,.tmp 11],none⟩ [9],.mk 4 ⟨some 8,.mv (.tmp 12),none⟩ [],.mk 5 ⟨some 13,.extract (.tmp 8) 0,none⟩ [],.mk 6 ⟨some 14,.extract (.tmp 8) 1,none⟩ [],.mk 7 ⟨some r,.alloc 83 (.agg #[.nilFunc,.nilFunc]),none⟩ [],.mk 8 ⟨none,.store 2 (.tmp r) (.tmp 13),none⟩ [r],.mk 9 ⟨some o,.mv (.tmp 14),none⟩ [9]]
def sP(t b0:Nat)(k:Int)(E:AV)(bb:Bool)(r o b9 b6:Nat):List (Nat×Nat×AV):=[(1,10,.lp t b0 0),(2,11,iv k),(0,9,.bH 9 b9),(3,12,.aP [E,.v (.bool bb)]),(4,8,.aP [E,.v (.bool bb)]),(5,13,E),(6,14,.v (.bool bb)),(7,r,.lp r b6 0),(9,o,.v (.bool bb))]
def j9(r b9 b6:Nat)(es:List AV)(σ:Store)(dn:Nat→Bool):Store:=(if dn 7=true then[(r,b6,.cells (if dn 8=true then es else[.v .nilFunc,.v .nilFunc]))]else[])++((if dn 0=true then[(9,b9,.map lA 5)]else[])++σ)
theorem ah1{l1 l2:List CD}{x:CD}(h:((l1++x::l2).map CD.ix).Nodup):∀ a,a∈l1∨a∈l2→a.ix≠x.ix:=by
 rw[Y7,ZE,Yd]at h
 obtain⟨h1,h2,h3⟩:=h
 obtain⟨h4,h5⟩:=YV.1 h2
 rintro a (ha|ha)
 ·exact h3 _ (Y9.2 ⟨a,ha,rfl⟩) _ (by simp)
 ·exact fun e=>h4 (by rw[← e];exact Y9.2 ⟨a,ha,rfl⟩)
theorem ai5{ah:List Nat}{l A B:List CD}{x:CD}{dn:Nat→Bool}(hl:(l.map CD.ix).Nodup)(h:l.filter (fun c=> !dn c.ix)=A++x::B)(hA:∀ a∈A,jO ah a x=true):∃ l1 l2,l=l1++x::l2∧dn x.ix=false∧(∀ a∈l1,jO ah a x=false→dn a.ix=true)∧l.filter (fun c=> !gC dn x.ix c.ix)=A++B:=by
 obtain⟨m1,m2,rfl,h1,h2⟩:=List.filter_eq_append_iff.1 h
 obtain⟨n1,n2,rfl,hn,hx,h3⟩:=List.filter_eq_cons_iff.1 h2
 refine⟨m1++n1,n2,by simp,by simpa using hx,fun a ha hc=> ?_,?_⟩
 ·rcases ZJ.1 ha with ha|ha
  ·cases hd:dn a.ix with
   |true=>rfl
   |false=>
    have:a∈A:=by rw[← h1];exact Y5.2 ⟨ha,by rw[hd];rfl⟩
    rw[hA a this]at hc;cases hc
  ·simpa using hn a ha
 ·have aH:=ah1 (l1:=m1++n1) (l2:=n2) (x:=x) (by simpa using hl)
  have e:∀ (k:List CD),(∀ a∈k,a∈m1++n1∨a∈n2)→k.filter (fun c=> !gC dn x.ix c.ix)=k.filter (fun c=> !dn c.ix):=fun k hk=>List.filter_congr fun a ha=>by
   have:=aH a (hk a ha)
   unfold gC
   rw[show(a.ix == x.ix)=false by simpa using this,Bool.false_or]
  rw[XQ,XQ,Yn,e m1 (fun a h=> .inl (by simp[h])),e n1 (fun a h=> .inl (by simp[h])),e n2 (fun a h=> .inr h),h1,h3]
  rw[show n1.filter (fun c=> !dn c.ix)=[]from Yb.2 fun a ha=>by simpa using hn a ha]
  rw[Z5 (by simp[gC]),Zl]
theorem amg(w:World):(zeroValue 83).run prog w= .ok (.agg #[.nilFunc,.nilFunc]) w:=by
 have h:(prog.info? 83).map (fun i=>i.zero)=some (some (.agg #[.nilFunc,.nilFunc])):=by kernel_rfl
 obtain⟨i,h1,h2⟩:=Z7.1 h
 simp[zeroValue,typeInfo,h1,h2]
theorem ajf(σ:Store):Sx.Spec prog 26 [] σ fun r σ'=>∃ b,r= .ret (.bH 9 b)∧σ'=(9,b,.map lA 5)::σ:=by
 refine(ajg σ).FV ?_
 rintro _ _ ⟨b,rfl,rfl⟩
 exact⟨.ret (.bH 9 b),_,⟨b,rfl,rfl⟩,.aQ _ _ _ (.map _ rfl (bC.refl _)) (.refl σ),fun M v h=>h.qF ▸ .bH ..⟩
def ga(t b0:Nat)(k:Int)(E:AV)(bb:Bool)(r o b9 b6:Nat)(rg:af):af:=(sP t b0 k E bb r o b9 b6).map (·.2)++rg
theorem ai6{N:Nat}{cfg:Nat→Nat}{Q:Exit→af→Store→Prop}(px r o:Nat)(hp:(px=3∧r=6∧o=7)∨(px=1∧r=4∧o=5)){k:Int}{E:AV}{bb:Bool}{es:List AV}{oo:Option AV}(hf:fH (.int .i64) (.int .i64 k) lA=some oo)(hg:BJ oo (.agg #[.nilFunc,.nilFunc])= .aP [E,.v (.bool bb)])
  (hE:E.cells? =some es) (zJ:es.length=2) (h1:es.all AV.one=true) {rg:af} {σ:Store} {t b0:Nat} {rest:List AV} (hx:lk rg px= .lp t b0 0) (hs:aM σ t=some (b0,.cells (iv k::rest))) (ht:t=px)
  (h:∀ b9 b6,Q .normal (ga t b0 k E bb r o b9 b6 rg) ((r,b6,.cells es)::(9,b9,.map lA 5)::σ)):SW prog N (.eE [r] (ya px r o)) Q rg σ:=by
 subst ht
 have hnd:((ya t r o).map CD.ix).Nodup:=by show[1,2,0,3,4,5,6,7,8,9].Nodup;decide
 refine HW cfg (fun L ak τ=>∃ dn b9 b6,L=(ya t r o).filter (fun c=> !dn c.ix)∧kR dn (sP t b0 k E bb r o b9 b6) rg ak∧cz τ (j9 r b9 b6 es σ dn)∧(dn 8=true→dn 7=true)) (fun _=> ?_) (fun ak τ K2=> ?_) fun A x B ak τ ho hA K2=> ?_
 ·exact⟨fun _=>false,0,0,rfl,⟨fun _ _ h=>(by cases h),fun _ _=>rfl⟩,cz.refl _,fun h=>(by cases h)⟩
 ·obtain⟨dn,b9,b6,hL,hD,hS,_⟩:=K2
  have cO:∀ c∈ya t r o,dn c.ix=true:=fun c hc=>by simpa using Yb.1 hL.symm c hc
  have hd:∀ i,i<10→dn i=true:=fun i hi=>by
   have JB:i∈(ya t r o).map CD.ix:=by
    show i∈[1,2,0,3,4,5,6,7,8,9]
    simp only[ZT,Ys,W8];omega
   obtain⟨c,hc,rfl⟩:=Y9.1 JB
   exact cO c hc
  have h2:=h b9 b6
  refine⟨_,_,fun i=>hD.all (fun e he=>hd _ ?_) i,?_,h2⟩
  ·have ur:e.1∈[1,2,0,3,4,5,6,7,9]:=(Y9 (f:=fun e:Nat×Nat×AV=>e.1)).2 ⟨e,he,rfl⟩
   simp only[ZT,Ys,W8]at ur;omega
  ·have:j9 r b9 b6 es σ dn=(r,b6,.cells es)::(9,b9,.map lA 5)::σ:=by
    unfold j9;rw[ZW (hd 7 (by decide)),ZW (hd 8 (by decide)),ZW (hd 0 (by decide))];rfl
   rw[← this];exact hS.symm
 ·obtain⟨dn,b9,b6,hL,hD,hS,Qa⟩:=K2
  obtain⟨l1,l2,e,ET,mU,gR⟩:=ai5 hnd hL.symm hA
  have n1:∀ b9 b6,((sP t b0 k E bb r o b9 b6).map (·.1)).Nodup:=fun _ _=>by show[1,2,0,3,4,5,6,7,9].Nodup;decide
  have n2:∀ b9 b6,((sP t b0 k E bb r o b9 b6).map (·.2.1)).Nodup:=fun _ _=>by
   rcases hp with⟨rfl,rfl,rfl⟩|⟨rfl,rfl,rfl⟩
   ·show[10,11,9,12,8,13,14,6,7].Nodup;decide
   ·show[10,11,9,12,8,13,14,4,5].Nodup;decide
  have hpx:lk ak t= .lp t b0 0:=(hD.o t fun e he=>by
   have ur:e.2.1∈[10,11,9,12,8,13,14,r,o]:=(Y9 (f:=fun e:Nat×Nat×AV=>e.2.1)).2 ⟨e,he,rfl⟩
   simp only[ZT,Ys,W8]at ur;omega).trans hx
  have te:∀ {j:Nat} {x d:Nat} {y:AV},(sP t b0 k E bb r o b9 b6)[j]? =some (x,d,y)→dn x=true→lk ak d=y:=fun hj hd=>hD.v _ (YS hj) hd
  have QZ:r≠9:=by omega
  have hrt:r≠t:=by omega
  have ht9:(9:Nat)≠t:=by omega
  refine⟨ak,j9 r b9 b6 es σ dn,fun _=>rfl,hS.symm,?_⟩
  have eU:aM (j9 r b9 b6 es σ dn) t=some (b0,.cells (iv k::rest)):=by
   unfold j9
   rcases Xf (dn 7)with h7|h7<;>rcases Xf (dn 0)with h0|h0<;>simp only[h7,h0,Y2,ZV,Y8,Zl,ZH,ob,Z5 hrt,Z5 ht9,hs]
  have hP:∀ i,gC dn i 8=true→(i=8→dn 7=true)→gC dn i 7=true:=fun i h h'=>by
   unfold gC at *
   simp only[YM,beq_iff_eq]at *
   rcases h with h|h
   ·exact .inr (h' h.symm)
   ·exact .inr (Qa h)
  have sS:∀ i,i≠7→i≠8→i≠0→j9 r b9 b6 es σ (gC dn i)=j9 r b9 b6 es σ dn:=fun i h7 h8 h0=>by
   unfold j9 gC
   rw[show((7:Nat) == i)=false by simpa using h7.symm,show((8:Nat) == i)=false by simpa using h8.symm,show((0:Nat) == i)=false by simpa using h0.symm]
   rfl
  unfold ya at e
  rcases l1 with _|⟨a1,_|⟨a2,_|⟨a3,_|⟨a4,_|⟨a5,_|⟨a6,_|⟨a7,_|⟨a8,_|⟨a9,_|⟨a10,l1⟩⟩⟩⟩⟩⟩⟩⟩⟩⟩
  all_goals simp only[Zl,ZH,Z3,reduceCtorEq,and_false,Xa]at e
  ·obtain⟨rfl,_⟩:=e
   simp only[bY,al,ev,hpx]
   exact⟨_,b9,b6,gR.symm,hD.sJ 0 rfl (n1 _ _) (n2 _ _),by rw[sS 1 (by decide) (by decide) (by decide)];exact cz.refl _,fun h=>hP _ h (fun h=>by cases h)⟩
  ·obtain⟨rfl,rfl,_⟩:=e
   have h1:dn 1=true:=mU _ (YS (i:=0) rfl) rfl
   simp only[bY,al,ev,te (j:=0) rfl h1,eU]
   exact⟨trivial,_,b9,b6,gR.symm,hD.sJ 1 rfl (n1 _ _) (n2 _ _),by rw[sS 2 (by decide) (by decide) (by decide)];exact cz.refl _,fun h=>hP _ h (fun h=>by cases h)⟩
  ·obtain⟨rfl,rfl,rfl,_⟩:=e
   simp only[bY,al]
   refine⟨_,ajf _,?_,fun ch σ' ⟨_,h,_⟩=>by cases h⟩
   rintro _ _ ⟨b,h,rfl⟩
   cases h
   refine⟨_,b,b6,gR.symm,(hD.to (vs':=sP t b0 k E bb r o b b6) (fun e he hd=> ?_) rfl).sJ 2 rfl (n1 _ _) (n2 _ _),?_,fun h=>hP _ h (fun h=>by cases h)⟩
   ·simp only[sP,ZT,Ys,W8]at he ⊢
    rcases he with rfl|rfl|rfl|rfl|rfl|rfl|rfl|rfl|rfl
    case inr.inr.inl=>exact absurd (ET.symm.trans hd) (by decide)
    all_goals simp
   ·have e7:gC dn 0 7=dn 7:=rfl
    have e8:gC dn 0 8=dn 8:=rfl
    have e0:gC dn 0 0=true:=rfl
    have h0:dn 0=false:=ET
    unfold j9
    simp only[e7,e8,e0,h0,Y2,ZV,Y8,Zl]
    rcases Xf (dn 7)with h7|h7
    ·simp only[h7,Y2,ZH,Zl];exact cz.swap (Ne.symm QZ) _
    ·simp only[h7,ZV,Y8,Zl,ZH];exact cz.refl _
  ·obtain⟨rfl,rfl,rfl,rfl,_⟩:=e
   have h2:dn 2=true:=mU _ (YS (i:=1) rfl) rfl
   have h0:dn 0=true:=mU _ (YS (i:=2) rfl) rfl
   have hl9:aM (j9 r b9 b6 es σ dn) 9=some (b9,.map lA 5):=by
    unfold j9
    rcases Xf (dn 7)with h7|h7<;>simp only[h7,h0,Y2,ZV,Y8,Zl,ZH,ob,Z5 QZ]
   simp only[bY,al,aE,ZE,Y4,ev,te (j:=2) rfl h0,te (j:=1) rfl h2]
   refine(WL amg rfl hl9 hf).mono fun y s ⟨e1,e2⟩=> ?_
   subst e1 e2
   rw[hg]
   exact⟨_,b9,b6,gR.symm,hD.sJ 3 rfl (n1 _ _) (n2 _ _),by rw[sS 3 (by decide) (by decide) (by decide)];exact cz.refl _,fun h=>hP _ h (fun h=>by cases h)⟩
  ·obtain⟨rfl,rfl,rfl,rfl,rfl,_⟩:=e
   have h3:dn 3=true:=mU _ (YS (i:=3) rfl) rfl
   simp only[bY,al,ev,te (j:=3) rfl h3]
   exact⟨_,b9,b6,gR.symm,hD.sJ 4 rfl (n1 _ _) (n2 _ _),by rw[sS 4 (by decide) (by decide) (by decide)];exact cz.refl _,fun h=>hP _ h (fun h=>by cases h)⟩
  ·obtain⟨rfl,rfl,rfl,rfl,rfl,rfl,_⟩:=e
   have h4:dn 4=true:=mU _ (YS (i:=4) rfl) rfl
   simp only[bY,al,ev,te (j:=4) rfl h4]
   exact⟨_,b9,b6,gR.symm,hD.sJ 5 rfl (n1 _ _) (n2 _ _),by rw[sS 5 (by decide) (by decide) (by decide)];exact cz.refl _,fun h=>hP _ h (fun h=>by cases h)⟩
  ·obtain⟨rfl,rfl,rfl,rfl,rfl,rfl,rfl,_⟩:=e
   have h4:dn 4=true:=mU _ (YS (i:=4) rfl) rfl
   simp only[bY,al,ev,te (j:=4) rfl h4]
   exact⟨_,b9,b6,gR.symm,hD.sJ 6 rfl (n1 _ _) (n2 _ _),by rw[sS 6 (by decide) (by decide) (by decide)];exact cz.refl _,fun h=>hP _ h (fun h=>by cases h)⟩
  ·obtain⟨rfl,rfl,rfl,rfl,rfl,rfl,rfl,rfl,_⟩:=e
   have h7:dn 7=false:=ET
   simp only[bY,al]
   intro b
   refine⟨_,b9,b,gR.symm,(hD.to (vs':=sP t b0 k E bb r o b9 b) (fun e he hd=> ?_) rfl).sJ 7 rfl (n1 _ _) (n2 _ _),?_,fun _=>rfl⟩
   ·simp only[sP,ZT,Ys,W8]at he ⊢
    rcases he with rfl|rfl|rfl|rfl|rfl|rfl|rfl|rfl|rfl
    case inr.inr.inr.inr.inr.inr.inr.inl=>exact absurd (h7.symm.trans hd) (by decide)
    all_goals simp
   ·have e8:gC dn 7 8=false:=by
     show((8:Nat) == 7 || dn 8)=false
     cases h8:dn 8 with
     |true=>rw[Qa h8]at h7;cases h7
     |false=>rfl
    have e0:gC dn 7 0=dn 0:=rfl
    have e7:gC dn 7 7=true:=rfl
    unfold j9
    simp only[e7,e8,e0,h7,Y2,ZV,Y8,Zl,ZH]
    exact cz.refl _
  ·obtain⟨rfl,rfl,rfl,rfl,rfl,rfl,rfl,rfl,rfl,_⟩:=e
   have h5:dn 5=true:=mU _ (YS (i:=5) rfl) (by rcases hp with⟨rfl,rfl,rfl⟩|⟨rfl,rfl,rfl⟩<;>rfl)
   have h7:dn 7=true:=mU _ (YS (i:=7) rfl) (by rcases hp with⟨rfl,rfl,rfl⟩|⟨rfl,rfl,rfl⟩<;>rfl)
   have h8:dn 8=false:=ET
   have qh:j9 r b9 b6 es σ dn=(r,b6,.cells [.v .nilFunc,.v .nilFunc])::((if dn 0=true then[(9,b9,.map lA 5)]else[])++σ):=by
    unfold j9;simp only[h7,h8,Y2,ZV,Y8,ZH,Zl]
   have uz:j9 r b9 b6 es σ (gC dn 8)=(r,b6,.cells es)::((if dn 0=true then[(9,b9,.map lA 5)]else[])++σ):=by
    have e7:gC dn 8 7=dn 7:=rfl
    have e8:gC dn 8 8=true:=rfl
    have e0:gC dn 8 0=dn 0:=rfl
    unfold j9;simp only[e7,e8,e0,h7,Y2,ZH,Zl]
   simp only[bY,al,ev,te (j:=7) rfl h7,te (j:=5) rfl h5,hE,qh,ob,Y2]
   obtain⟨u,v,rfl⟩:∃ u v,es=[u,v]:=by match es,zJ with|[u,v],_=>exact⟨u,v,rfl⟩
   refine⟨trivial,rfl,h1,by decide,_,b9,b6,gR.symm,hD.skip fun e he h8=> ?_,?_,fun h=>hP _ h (fun _=>h7)⟩
   ·have ur:e.1∈[1,2,0,3,4,5,6,7,9]:=(Y9 (f:=fun e:Nat×Nat×AV=>e.1)).2 ⟨e,he,rfl⟩
    have h8:e.1=8:=h8
    simp only[ZT,Ys,W8]at ur;omega
   ·rw[uz]
    simp only[dx,YL,Y6]
    exact cz.refl _
  ·obtain⟨rfl,rfl,rfl,rfl,rfl,rfl,rfl,rfl,rfl,rfl,_⟩:=e
   have h6:dn 6=true:=mU _ (YS (i:=6) rfl) (by rcases hp with⟨rfl,rfl,rfl⟩|⟨rfl,rfl,rfl⟩<;>rfl)
   simp only[bY,al,ev,te (j:=6) rfl h6]
   exact⟨_,b9,b6,gR.symm,hD.sJ 8 rfl (n1 _ _) (n2 _ _),by rw[sS 9 (by decide) (by decide) (by decide)];exact cz.refl _,fun h=>hP _ h (fun h=>by cases h)⟩
  ·simp at e
theorem Ic{N:Nat}{cfg:Nat→Nat}{Q:Exit→af→Store→Prop}{kf:List Fr}(px r o:Nat)(hp:(px=3∧r=6∧o=7)∨(px=1∧r=4∧o=5)){k:Int}{E:AV}{bb:Bool}{es:List AV}{oo:Option AV}(hf:fH (.int .i64) (.int .i64 k) lA=some oo)(hg:BJ oo (.agg #[.nilFunc,.nilFunc])= .aP [E,.v (.bool bb)])
  (hE:E.cells? =some es) (zJ:es.length=2) (h1:es.all AV.one=true) {rg:af} {σ:Store} {t b0:Nat} {rest:List AV} (hx:lk rg px= .lp t b0 0) (hs:aM σ t=some (b0,.cells (iv k::rest))) (ht:t=px)
  (h:∀ b9 b6,FK prog N cfg Q .normal kf (ga t b0 k E bb r o b9 b6 rg) ((r,b6,.cells es)::(9,b9,.map lA 5)::σ)):WK prog N cfg Q (.eE [r] (ya px r o)) kf rg σ:=
 ⟨WA.mono (Q:=fun e=>FK prog N cfg Q e kf) ⟨rfl,ai6 (cfg:=cfg) px r o hp hf hg hE zJ h1 hx hs ht h⟩ fun _ _ _ h=>h.h⟩
theorem ad0{k:Int}(h1:k≠1)(h2:k≠2)(h3:k≠3)(h4:k≠4)(h5:k≠5):fH (.int .i64) (.int .i64 k) lA=some none:=by
 have e:∀ j:Int,k≠j→Instr.sameNow (.int .i64) (.int .i64 k) (.int .i64 j)=some false:=fun j h=>by
  show some (decide (k=j))=_
  rw[Zd h]
 simp only[fH,lA,e 1 h1,e 2 h2,e 3 h3,e 4 h4,e 5 h5]
end Go.Proofs.YtajimcniogfpcaaGreatDoor
namespace Go.Proofs.YtajimcniogfpcaaGreatDoor
open Go.Sx Go.Proofs Go.Tb
theorem Al{α:Type}{l:List α}{k:Nat}{x y:α}(h:y∈ly l k x):y=x∨y∈l:=by
 unfold ly at h
 rw[ZJ,ZT]at h
 rcases h with h|h|h
 ·exact .inr (Yh h)
 ·exact .inl h
 ·exact .inr (Yx h)
theorem y9{α:Type}{l:List α}{k:Nat}{y:α}(h:y∈nG l k):y∈l:=by
 unfold nG at h
 rw[ZJ]at h
 rcases h with h|h
 ·exact Yh h
 ·exact Yx h
theorem CY{α:Type}{l:List α}{k:Nat}{x:α}:(ly l k x).length=l.length+1:=by
 unfold ly;simp;omega
theorem Bu{α:Type}{l:List α}{k:Nat}:(nG l k).length≤l.length:=by
 unfold nG;simp;omega
theorem ach{c:az}{x:dE}{f:aj}(h:f∈(dJ c x).1.all):f∈c.all∨∃ v,f=x.feature.tn v:=by
 unfold az.all at *
 simp only[ZJ]at *
 unfold dJ at h
 split at h
 ·unfold tO at h;split at h<;>exact .inl h
 split at h
 ·unfold vx at h
  split at h
  ·exact .inl h
  split at h
  ·exact .inl h
  split at h
  ·exact .inl h
  split at h
  ·exact .inl h
  rcases h with(h|h)|h
  ·exact .inl (.inl (.inl h))
  ·rcases Al h with h|h
   ·exact .inr ⟨_,h⟩
   ·exact .inl (.inl (.inr h))
  ·exact .inl (.inr h)
 refine .inl ?_
 split at h
 ·unfold ud at h
  split at h
  ·exact h
  rename_i h1
  have hd:=dt (xw (l:=c.aT) (n:=x.name) (by omega)).1
  split at h
  ·rename_i h2
   have hf:=dt (xw h2).1
   rcases h with(h|h)|h
   ·rcases Al h with h|h
    ·subst h;exact .inl (.inr hd)
    ·exact .inl (.inl (y9 h))
   ·exact .inl (.inr (y9 h))
   ·rcases Al h with h|h
    ·subst h;exact .inl (.inl hf)
    ·exact .inr h
  ·rcases h with(h|h)|h
   ·rcases Al h with h|h
    ·subst h;exact .inl (.inr hd)
    ·exact .inl (.inl h)
   ·exact .inl (.inr (y9 h))
   ·exact .inr h
 split at h
 ·unfold vA at h
  split at h
  ·exact h
  rename_i h1
  have hf:=dt (xw (l:=c.features) (n:=x.name) (by omega)).1
  split at h
  ·exact h
  rename_i h2
  have hp:=dt (z6 (l:=c.past) (n:=x.name) fun h=>h2 (.inl h)).1
  rcases h with(h|h)|h
  ·rcases Al h with h|h
   ·subst h;exact .inr hp
   ·exact .inl (.inl (y9 h))
  ·rcases Al h with h|h
   ·subst h;exact .inl (.inl hf)
   ·exact .inl (.inr h)
  ·exact .inr (y9 h)
 ·unfold ub at h
  split at h
  ·exact h
  rcases h with(h|h)|h
  ·exact .inl (.inl h)
  ·exact .inl (.inr (y9 h))
  ·exact .inr h
structure FB(f:aj):Prop where
 s:f.body.size≤1000
 n:f.name.size≤2 ^ 60
 w:f.body.wt≤2 ^ 60
structure CB(n:Nat)(c:az):Prop where
 t:c.tables.length≤n
 f:c.features.length≤n
 d:c.aT.length≤n
 p:c.past.length≤n
 b:∀ f∈c.all,FB f
theorem FB.v{f:aj}(h:FB f)(v:Int):FB (f.tn v):=⟨h.s,h.n,h.w⟩
theorem CB.change{n:Nat}{c:az}{x:dE}(h:CB n c)(hx:FB x.feature):CB (n+1) (dJ c x).1:=by
 have hb:∀ f∈(dJ c x).1.all,FB f:=fun f hf=>by
  rcases ach hf with h1|⟨v,rfl⟩
  ·exact h.b f h1
  ·exact hx.v v
 obtain⟨h1,h2,h3,h4,_⟩:=h
 have l1:(dJ c x).1.tables.length≤n+1∧(dJ c x).1.features.length≤n+1∧(dJ c x).1.aT.length≤n+1∧(dJ c x).1.past.length≤n+1:=by
  unfold dJ
  split
  ·unfold tO;split<;>simp only[CY]<;>omega
  split
  ·unfold vx
   repeat' split
   all_goals simp only[lz,CY];omega
  split
  ·unfold ud
   have e1:=fun k=>Bu (l:=c.aT) (k:=k)
   have e2:=fun k=>Bu (l:=c.features) (k:=k)
   repeat' split
   ·refine⟨?_,?_,?_,?_⟩<;>dsimp only<;>omega
   ·simp only[lz,CY]
    exact⟨by omega,by have:=e2 (fb c.features x.name).toNat;omega,by have:=e1 (fb c.aT x.name).toNat;omega,by omega⟩
   ·simp only[lz,CY]
    exact⟨by omega,by omega,by have:=e1 (fb c.aT x.name).toNat;omega,by omega⟩
  split
  ·unfold vA
   have e1:=fun k=>Bu (l:=c.past) (k:=k)
   have e2:=fun k=>Bu (l:=c.features) (k:=k)
   repeat' split
   ·refine⟨?_,?_,?_,?_⟩<;>dsimp only<;>omega
   ·refine⟨?_,?_,?_,?_⟩<;>dsimp only<;>omega
   ·simp only[lz,CY]
    exact⟨by omega,by have:=e2 (fb c.features x.name).toNat;omega,by omega,by have:=e1 (gI x.name c.past 0 (-1)).toNat;omega⟩
  ·unfold ub
   have e1:=fun k=>Bu (l:=c.aT) (k:=k)
   repeat' split
   ·refine⟨?_,?_,?_,?_⟩<;>dsimp only<;>omega
   ·dsimp only;exact⟨by omega,by omega,by have:=e1 (fb c.aT x.name).toNat;omega,by omega⟩
 exact⟨l1.1,l1.2.1,l1.2.2.1,l1.2.2.2,hb⟩
theorem CB.fit{n:Nat}{c:az}(h:CB n c)(hn:n≤100000):q6 c.features:=by
 have hm:(2:Nat) ^ 60≤maxLen:=by unfold maxLen;decide
 have hb:∀ f∈c.features,FB f:=fun f hf=>h.b f (by unfold az.all;simp[hf])
 refine⟨fun f hf=> ?_,fun f hf=>ZG (hb f hf).n hm,by have:=h.f;omega⟩
 have h1:=(hb f hf).s
 have h2:=zj f.body
 have h3:=(hb f hf).w
 exact⟨by omega,by omega,fun s h=>by have:=tw _ s (.inl h);omega,fun s h=>by have:=tw _ s (.inr h);omega⟩
end Go.Proofs.YtajimcniogfpcaaGreatDoor
namespace Go.Proofs.YtajimcniogfpcaaGreatDoor
open _root_.Go.Proofs.Tryz
open Go.Sx Go.Proofs Go.Tb Go.RowKit
theorem Bc(c:az)(x:dE)(fa fp:Nat)(pr:Prop)[Decidable pr](d:az)(e:Int)(Kn:ij prog fa=true)(EW:ij prog fp=true)(hf:fH (.int .i64) (.int .i64 x.kind) lA=some (some (.agg [lP fa,lP fp])))
  (hP:Pure prog fp [.agg x.cells] (.v (.bool (decide pr)))) (hA:Pure prog fa [.agg c.cells,.agg x.cells] (db (d,e))) (hC:Pure prog 9 [.agg d.cells] (iv (jw d))):
  Pure prog 7 [.agg c.cells,.agg x.cells] (db (if¬pr then(gh,1)else if e≠0 then(gh,e)else if jw d≠0 then(gh,jw d)else(d,0))):=by
 refine k7.p fun σ=> ?_
 repeat'((fail_if_success (show WK _ _ _ _ (.eE _ _) _ _ _));(first|exact .nil|refine .k0 ?_|refine .k1 ?_|refine .k2 ?_|refine .r1 ?_ ?_|(refine .l1 ?_;intro b)|(refine .m1 ?_ ?_;intro b)|fail))
 refine Ic 3 6 7 (bb:=true) (.inl ⟨rfl,rfl,rfl⟩) hf rfl rfl rfl rfl rfl rfl rfl fun b9 b6=> ?_
 repeat'(first|exact .nil|refine .k0 ?_|refine .k1 ?_|refine .k2 ?_|refine .r1 ?_ ?_|fail)
 all_goals(try simp only[BL]at *)
 refine yL (by rfl) rfl EW (fun _=>hP) ?_ ?_
 ·exact .cons (fun _=>rfl) (.cons (fun _=>rfl) .nil)
 repeat'(first|exact .nil|refine .k0 ?_|refine .k1 ?_|refine .k2 ?_|refine .k7 ?_|refine .k9 ?_|(refine .cd ?_ ?_<;>(intro hc;skip))|refine .r1 ?_ ?_|fail)
 all_goals(try simp only[BL]at *)
 ·rw[ZW (by simpa using hc)];exact Zw
 rw[Z5 (by simpa using hc)]
 by_cases he:e=0
 ·rw[Z5 (by simpa using he)]
  by_cases EP:jw d=0
  ·rw[Z5 (by simpa using EP)]
   refine yL (by rfl) rfl Kn (fun _=>hA) .nil ?_
   repeat'(first|exact .nil|refine .k0 ?_|refine .k1 ?_|refine .k2 ?_|refine .k7 ?_|refine .k9 ?_|(refine .cd ?_ ?_<;>(intro hc;skip))|refine .r1 ?_ ?_|refine .an rfl (by intro aB;exact hC) ?_ ?_|fail)
   all_goals(try simp only[BL]at *)
   all_goals first|(exfalso;contradiction)|(refine Sx.Fin.wk Zs ?_;repeat' first|exact .refl _|fail)
  ·rw[ZW (by simpa using EP)]
   refine yL (by rfl) rfl Kn (fun _=>hA) .nil ?_
   repeat'(first|exact .nil|refine .k0 ?_|refine .k1 ?_|refine .k2 ?_|refine .k7 ?_|refine .k9 ?_|(refine .cd ?_ ?_<;>(intro hc;skip))|refine .r1 ?_ ?_|refine .an rfl (by intro aB;exact hC) ?_ ?_|fail)
   all_goals(try simp only[BL]at *)
   all_goals first|(exfalso;contradiction)|(refine Sx.Fin.wk Zs ?_;repeat' first|exact .refl _|exact .nil|refine .cons ?_ ?_|refine .aP ?_|refine .agg ?_|fail)
 ·rw[ZW (by simpa using he)]
  refine yL (by rfl) rfl Kn (fun _=>hA) .nil ?_
  repeat'(first|exact .nil|refine .k0 ?_|refine .k1 ?_|refine .k2 ?_|refine .k7 ?_|refine .k9 ?_|(refine .cd ?_ ?_<;>(intro hc;skip))|refine .r1 ?_ ?_|refine .an rfl (by intro aB;exact hC) ?_ ?_|fail)
  all_goals(try simp only[BL]at *)
  all_goals first|(exfalso;contradiction)|(refine Sx.Fin.wk Zs ?_;repeat' first|exact .refl _|exact .nil|refine .cons ?_ ?_|refine .aP ?_|refine .agg ?_|fail)
theorem abL(c:az)(x:dE)(hf:fH (.int .i64) (.int .i64 x.kind) lA=some none):Pure prog 7 [.agg c.cells,.agg x.cells] (db (gh,1)):=by
 refine k7.p fun σ=> ?_
 repeat'((fail_if_success (show WK _ _ _ _ (.eE _ _) _ _ _));(first|exact .nil|refine .k0 ?_|refine .k1 ?_|refine .k2 ?_|refine .r1 ?_ ?_|(refine .l1 ?_;intro b)|(refine .m1 ?_ ?_;intro b)|fail))
 refine Ic 3 6 7 (bb:=false) (E:= .v (.agg #[.nilFunc,.nilFunc])) (.inl ⟨rfl,rfl,rfl⟩) hf rfl rfl rfl rfl rfl rfl rfl fun b9 b6=> ?_
 repeat'(first|exact .nil|refine .k0 ?_|refine .k1 ?_|refine .k2 ?_|refine .k4 ?_|refine .r1 ?_ ?_|fail)
 all_goals(try simp only[BL]at *)
 refine NQ (b:=true) rfl (NQ (b:=true) rfl (aay (y:= .v (.bool true)) ?_))
 repeat'(first|exact .nil|refine .k0 ?_|refine .k1 ?_|refine .k2 ?_|refine .k7 ?_|(refine .cd ?_ ?_<;>first|with_reducible exact tF|(intro hc;skip))|refine .r1 ?_ ?_|fail)
 all_goals(try simp only[BL]at *)
 exact Zw
theorem N3(hT:lI)(hO:lH)(c:az)(x:dE)(n:Nat)(hn:n≤90000)(hc:CB n c)(hx:FB x.feature):Pure prog 7 [.agg c.cells,.agg x.cells] (db (gg c x)):=by
 have hb:=hc.change hx
 have hC:=IE hT hO (dJ c x).1 (fun f hf=>ZG (hb.b f hf).s (by decide)) (hb.fit (by omega)) (by have:=hb.t;omega)
 have ht:=hc.t
 have hf:=hc.f
 have hd:=hc.d
 have hp:=hc.p
 unfold gg
 by_cases h1:x.kind=1
 ·have e:dJ c x=tO c x.table:=ZW h1
  have:=Bc c x _ _ _ _ _ rfl rfl (by rw[h1];rfl) (TR x) (abv c x (by omega)) (by rw[e]at hC;exact hC)
  simp only[e,qJ,ZW h1]
  exact this
 by_cases h2:x.kind=2
 ·have e:dJ c x=vx c x.feature:=(Z5 h1).trans (ZW h2)
  have:=Bc c x _ _ _ _ _ rfl rfl (by rw[h2];rfl) (aiA x) (aiF hT hO c x (ZG hx.s (by decide)) (by omega) (by omega) (by omega)) (by rw[e]at hC;exact hC)
  simp only[e,qJ,Z5 h1,ZW h2]
  exact this
 by_cases h3:x.kind=3
 ·have e:dJ c x=ud c x.name:=(Z5 h1).trans ((Z5 h2).trans (ZW h3))
  have:=Bc c x _ _ _ _ _ rfl rfl (by rw[h3];rfl) (LX x) (adh c x (by omega) (by omega) (by omega)) (by rw[e]at hC;exact hC)
  simp only[e,qJ,Z5 h1,Z5 h2,h3,true_or,Yf]
  exact this
 by_cases h4:x.kind=4
 ·have e:dJ c x=vA c x.name:=(Z5 h1).trans ((Z5 h2).trans ((Z5 h3).trans (ZW h4)))
  have:=Bc c x _ _ _ _ _ rfl rfl (by rw[h4];rfl) (LX x) (ai8 c x (by omega) (by omega) (by omega)) (by rw[e]at hC;exact hC)
  simp only[e,qJ,Z5 h1,Z5 h2,h4,true_or,or_true,Yf]
  exact this
 by_cases h5:x.kind=5
 ·have e:dJ c x=ub c x.name:=(Z5 h1).trans ((Z5 h2).trans ((Z5 h3).trans (Z5 h4)))
  have:=Bc c x _ _ _ _ _ rfl rfl (by rw[h5];rfl) (LX x) (adf c x (by omega)) (by rw[e]at hC;exact hC)
  simp only[e,qJ,Z5 h1,Z5 h2,h5,or_true,Yf]
  exact this
 ·rw[ZW (by unfold qJ;simp[h1,h2,h3,h4,h5])]
  exact abL c x (ad0 h1 h2 h3 h4 h5)
end Go.Proofs.YtajimcniogfpcaaGreatDoor
