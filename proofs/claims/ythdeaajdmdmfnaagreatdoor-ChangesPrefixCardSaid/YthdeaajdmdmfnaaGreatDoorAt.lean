/- changes.addTable: its contract. -/
import Derived.Test.YthdeaajdmdmfnaaGreatDoorAs
import Derived.Test.YthdeaajdmdmfnaaGreatDoorAa
import Derived.Test.YthdeaajdmdmfnaaGreatDoorHi
import Derived.Test.YthdeaajdmdmfnaaGreatDoorSxEx8
import Derived.Test.YthdeaajdmdmfnaaGreatDoorEd
set_option linter.unusedSimpArgs false
set_option linter.unusedVariables false
set_option maxRecDepth 100000
set_option maxHeartbeats 4000000
namespace Go.Proofs.YthdeaajdmdmfnaaGreatDoor
open Go.Sx Go.Proofs Go.Tb Go.RowKit
theorem NN(nm:af):∀ (l:List bj) (k:Nat),(List.finRange l.length).foldr (fun x (a:Int)=>if iO l[x.val].name nm=true then((x.val+k:Nat):Int)else a) ((l.length+k:Nat):Int)=((jk l nm+k:Nat):Int)
 |[],k=>by simp[jk]
 |a::l,k=>by
  have ih:=NN nm l (k+1)
  change List.foldr (fun(x:Fin (l.length+1)) (a':Int)=>if iO ((a::l)[x.val]'(x.isLt)).name nm=true then((x.val+k:Nat):Int)else a') ((l.length+1+k:Nat):Int) (List.finRange (l.length+1))=_
  rw[List.finRange_succ,List.foldr_cons,List.foldr_map]
  unfold jk
  rw[List.findIdx_cons,← NL]
  cases h:iO a.name nm with
  |true=>simp[h]
  |false=>
   simp only[Yx,Fin.val_zero,h,ZU,YV,XM,Fin.val_succ,YD]
   unfold jk at ih
   have e:∀ x:Nat,x+1+k=x+(k+1):=fun x=>by omega
   simp only[e]
   exact ih
theorem afB(nm:af)(l:List bj):tw (fun x:Fin l.length=>l[x.val].name) nm (List.finRange l.length).reverse=((jk l nm:Nat):Int):=by
 unfold tw
 rw[List.foldl_reverse]
 have:=NN nm l 0
 simpa using this
theorem Nu{l:List bj}{n:af}:(xb l n).isSome=true↔∃ x:Fin l.length,l[x.val].name=n:=by
 unfold xb
 rw[List.find?_isSome]
 constructor
 ·rintro⟨t,ht,hn⟩
  obtain⟨i,hi,rfl⟩:=YG ht
  exact⟨⟨i,hi⟩,by simpa using hn⟩
 ·rintro⟨x,hx⟩
  exact⟨_,Zf x.isLt,by simpa using hx⟩
theorem VA(c:au)(x:bh)(hn:c.tables.length≤100000):Sx.Pure Tryz.prog 64 [.agg c.cells,.agg x.cells] (cS (ud c x.table)):=by
 refine⟨fun σ M w0 w cs hI hR=> ?_⟩
 obtain⟨x1,cq,rfl,q1,bY⟩:=hR.aX
 obtain⟨x2,rfl,q2⟩:=RL.cJ bY
 obtain⟨cs1,rfl,bV⟩:=q1.oG
 obtain⟨wX,rfl,cG⟩:=q2.oG
 obtain⟨t0,_,rfl,p0,bV⟩:=bV.aX
 obtain⟨t1,_,rfl,p1,bV⟩:=bV.aX
 obtain⟨t2,_,rfl,p2,bV⟩:=bV.aX
 obtain⟨t3,rfl,p3⟩:=RL.cJ bV
 obtain⟨y0,r0,rfl,k0,cG⟩:=cG.aX
 obtain⟨y1,r1,rfl,k1,cG⟩:=cG.aX
 obtain⟨y2,r2,rfl,k2,cG⟩:=cG.aX
 obtain⟨y3,r3,rfl,k3,cG⟩:=cG.aX
 obtain⟨y4,r4,rfl,k4,cG⟩:=cG.aX
 obtain rfl:=k1.ay
 obtain rfl:=k2.ay
 obtain rfl:=k4.ay
 obtain⟨fa,fc,rfl, -⟩:=mE k3
 obtain⟨ad,cap,rfl, -⟩:=mE p0
 obtain⟨a1,n1,c1,rfl⟩:=zf p1
 obtain⟨a2,n2,c2,rfl⟩:=zf p2
 obtain⟨a3,n3,c3,rfl⟩:=zf p3
 simp only[ZW]at k3 p0 ⊢
 have oq:RL M x.table.cells [.string x.table.name,.string x.table.dx,.slice fa x.table.fields.length fc,.int .i64 x.table.az]:=RL.cons (.v _) (RL.cons (.v _) (RL.cons k3 (RL.cons (.v _) RL.nil)))
 have bK:∃ cs:Nat→Value,(∀ y:Fin c.tables.length,cs (y.val * 4)= .string c.tables[y.val].name)∧(∀ y:Fin c.tables.length,cs (y.val * 4+1)= .string c.tables[y.val].dx)∧(∀ y:Fin c.tables.length,∃ f:Option Addr×Nat×Nat,cs (y.val * 4+2)= .slice f.1 f.2.1 f.2.2)∧(∀ y:Fin c.tables.length,cs (y.val * 4+3)= .int .i64 c.tables[y.val].az)∧
   (c.tables.length=0∨∃ b off,ad=some ⟨b,off,none⟩∧b<w.heap.size∧∀ j,j<c.tables.length * 4→w.cell? ⟨b,off+j,none⟩=some (cs j)):=by
  rcases p0.nj with⟨a,_,h1,h2⟩|⟨b,off,cp,cs,h1,hr,h3,h4⟩
  ·have e2:c.tables.length=0:=by rw[Xz.1 h1];rfl
   exact⟨fun _=>default,fun y=>absurd y.isLt (by omega),fun y=>absurd y.isLt (by omega),fun y=>absurd y.isLt (by omega),fun y=>absurd y.isLt (by omega),.inl e2⟩
  ·simp only[Value.slice.injEq]at h1
   obtain⟨rfl, -,rfl⟩:=h1
   have g:∀ (y:Fin c.tables.length) (j:Nat) (hj:j<4),R M (c.tables[y.val].cells.getD j default) (cs (y.val * 4+j)):=fun y j hj=>by
    have:=hr.rel y.val (by rw[ZW];exact y.isLt) j (by rw[Zu];exact hj)
    simp only[Zu]at this
    rw[Z3,Z1 (show j<c.tables[y.val].cells.length from hj)]
    exact this
   rcases Nat.eq_zero_or_pos c.tables.length with hz|hz
   ·exact⟨fun _=>default,fun y=>absurd y.isLt (by omega),fun y=>absurd y.isLt (by omega),fun y=>absurd y.isLt (by omega),fun y=>absurd y.isLt (by omega),.inl hz⟩
   refine⟨cs,fun y=>(g y 0 (by decide)).ay,fun y=>(g y 1 (by decide)).ay,fun y=> ?_,fun y=>(g y 3 (by decide)).ay,.inr ⟨b,off,rfl,?_,fun j hj=>hI.bL _ _ _ (hr.mem j (by rw[ZW];exact hj))⟩⟩
   ·obtain⟨a,n,cc,h⟩:=zf (g y 2 (by decide));exact⟨(a,n,cc),h⟩
   ·exact World.block_lt_of_cell? _ _ (hI.bL _ _ _ (hr.mem 0 (by rw[ZW];omega)))
 obtain⟨cs,g0,g1,g2,g3,hc⟩:=bK
 obtain⟨fl,eu⟩:=Classical.axiomOfChoice g2
 unfold ud
 have jR:∀ {M':Mem},M.le M'→∀ {v:Value} {l:List bj},R M' (.sl false 4 (l.map bj.cells)) v→R M' (.agg ({c with tables:=l}:au).cells) (.agg #[v,.slice a1 n1 c1,.slice a2 n2 c2,.slice a3 n3 c3]):=fun {M'} hM {v l} hv=>R.oF (cs:=[v,.slice a1 n1 c1,.slice a2 n2 c2,.slice a3 n3 c3]) (RL.cons hv (RL.cons (p1.mono hM) (RL.cons (p2.mono hM) (RL.cons (p3.mono hM) RL.nil))))
 refine Vz ad c.tables.length cap a1 a2 a3 n1 c1 n2 c2 n3 c3 _ w x.table.name rfl cs (fun y=>c.tables[y.val].name) g0 (fun y=>c.tables[y.val].dx) g1 fl eu (fun y=>c.tables[y.val].az) g3 hn hc _ (fun y hy W' hb=> ?_) hI c.tables rfl (by simpa using p0) x.table fa _ fc rfl rfl rfl oq (afB _ _) (fun aE M' v W' hM bp hv=> ?_)
 ·rw[ZV (Nu.2 ⟨y,hy⟩)]
  exact⟨M,.ret _,σ,Mem.le.refl _,hI.after hb,R.td (cs:=[_,_]) (RL.cons (jR (Mem.le.refl _) p0) (RL.cons (.v _) RL.nil)),rfl,rfl⟩
 ·rw[Z7 (fun h=>by obtain⟨y,hy⟩:=Nu.1 h;exact aE y hy)]
  exact⟨M',.ret _,σ,hM,bp,R.td (cs:=[_,_]) (RL.cons (jR hM (Wk.sl _ _ hv)) (RL.cons (.v _) RL.nil)),rfl,rfl⟩
def kQ(f:Nat):AV:= .v (.func (.func f) #[] #[])
def kG:List (Value×Nat×AV):=[(.int .i64 1,0,.agg [kQ 64,kQ 65]),(.int .i64 2,1,.agg [kQ 67,kQ 68]),(.int .i64 3,2,.agg [kQ 70,kQ 71]),(.int .i64 4,3,.agg [kQ 72,kQ 71]),(.int .i64 5,4,.agg [kQ 73,kQ 71])]
theorem ags(σ:Store):Sx.Spec Tryz.prog 33 [] σ fun r σ'=>∃ b,r= .ret (.bD 1 b)∧σ'=(1,b,.map kG 5)::σ:=by
 refine k33.s ?_
 repeat'(first|exact .nil|refine .k0 ?_|refine .k1 ?_|refine .k2 ?_|refine .k7 ?_|refine .r1 ?_ ?_|(refine .l3 ?_;intro b)|refine .r6 ?_ ?_|fail)
 all_goals exact⟨_,rfl,rfl⟩
end Go.Proofs.YthdeaajdmdmfnaaGreatDoor
set_option linter.unusedSectionVars false
namespace Go.Sx
open Go.RowKit
section
variable {P:Program}[Glob P]{σ:Store}
def zC(o:Option AV)(z:Value):AV:= .bo [o.getD (.v z),.v (.bool o.isSome)]
theorem TS{tg b bX:Nat}{es:List (Value×Nat×AV)}{t ty kt vt:TypeId}{q:TI}{kd:TypeDesc}{m k:Operand}{key z:Value}{o:Option AV}(hz:∀ w,(zeroValue vt).run P w= .ok z w)(hp:kZ q=some kd)(hl:aV σ tg=some (b,.map es bX))(hf:eR kd key es=some o):
  fC P (.lookup t m k true) ty [.mp kt vt,q] [m,k] [.bD tg b,.v key] σ fun y σ'=>y=zC o z∧σ'=σ:=by
 intro bx M w0 w ρ hI hR
 simp only[ei,Z2,Zn]at bx
 have ht:=tL bx.1
 have hk:P.underlying kt=some kd:=by
  have:=bx.2
  unfold AO at this
  rw[ht]at this
  exact Ec hp this
 obtain⟨v1,cq,e1,h1,bY⟩:=hR.aX
 obtain⟨v2,e2,h2⟩:=bY.cJ
 subst e2
 simp only[Zv,YT,Z2,Zn]at e1
 obtain⟨hM,l,hh,fJ,gu⟩:=hI.qp hl
 have g1:=h1.pN
 have g2:=h2.ay
 subst g1 g2
 cases o with
 |some v=>
  obtain⟨j,u,ig,hu⟩:=Cz (M:=M) 0 fJ gu hf
  refine⟨.value (.tuple #[u,.bool true]),w,M,zC (some v) z,.tuple #[u,.bool true],σ,?_,rfl,Mem.le.refl _,hI,R.td (cs:=[_,_]) (RL.cons hu (RL.cons (.v _) RL.nil)),rfl,rfl⟩
  simp only[execOp,e1.1,e1.2,Instr.lookup,Sem.run_bind,aW ht,Result.andThen_ok,getObj,Sem.run,hh,run_checkKey hp hk,Instr.findKey,aW hk,ig,Sem.run_pure]
  rfl
 |none=>
  have ig:=Gv (M:=M) 0 fJ hf
  refine⟨.value (.tuple #[z,.bool false]),w,M,zC none z,.tuple #[z,.bool false],σ,?_,rfl,Mem.le.refl _,hI,R.td (cs:=[_,_]) (RL.cons (.v _) (RL.cons (.v _) RL.nil)),rfl,rfl⟩
  simp only[execOp,e1.1,e1.2,Instr.lookup,Sem.run_bind,aW ht,Result.andThen_ok,getObj,Sem.run,hh,run_checkKey hp hk,Instr.findKey,aW hk,ig,Sem.run_pure,hz]
  rfl
end
theorem LQ{P:Program}[Glob P]{cfg:Nat→Nat}{K:ag→Store→Prop}{E:List PanicEntry→Store→Prop}{σ:Store}{l:List CI}{d t:Nat}{xr:XR}{op:ax}{b want:Bool}(hw:b= !want)(k:VX P cfg l K E ((d,.s (.v undef))::xr) σ)(hb:lk (den xr) t= .v (.bool b):=by exact rfl):VX P cfg (⟨some d,op,some (t,want)⟩::l) K E xr σ:=by
 constructor
 simp only[fh,cK,hb]
 refine⟨fun e=> ?_,fun _=>k.h⟩
 rw[e]at hw
 exact absurd hw (by cases want<;>decide)
theorem Uv{P:Program}[Glob P]{cfg:Nat→Nat}{K:ag→Store→Prop}{E:List PanicEntry→Store→Prop}{σ:Store}{l:List CI}{d:Nat}{xr:XR}{c a b:Operand}{y:AV}(k:VX P cfg l K E ((d,.s y)::xr) σ)(hc:ev (den xr) c= .v (.bool true):=by exact rfl)(hy:ev (den xr) a=y:=by exact rfl):VX P cfg (⟨some d,.pick c a b,none⟩::l) K E xr σ:=by
 constructor
 subst hy
 simp only[fh,cK,aj,hc]
 exact k.h
theorem Us{P:Program}[Glob P]{cfg:Nat→Nat}{K:ag→Store→Prop}{E:List PanicEntry→Store→Prop}{σ:Store}{l:List CI}{d ah:Nat}{t:TypeId}{xr:XR}{parts:List Operand}{og:Option Bool}{ys:List AV}{ps:List Prop}{rows:List (List AV)}(hc:cfg d=2)(h:aS xr none parts=some (og,ys,ps))(hr:rowsOf ah ys=some rows)(hb:rows.length≤1000000)(hps:OB ps)
  (k:∀ b,VX P cfg l K E ((d,.s (.ms d b 0 rows.length rows.length))::xr) ((d,b,.cells rows.flatten)::σ)):VX P cfg (⟨some d,.dF t ah parts,none⟩::l) K E xr σ:=by
 obtain⟨_,he⟩:=cM h
 have dy:=rN h
 subst dy
 constructor
 simp only[fh,cK,aj,he hps rfl,hr,Zp,hc]
 exact⟨hb,fun b=>(k b).h⟩
theorem Jz(d:Nat)(y:AV)(rg:ag)(i:Nat):lk ((d,y)::rg) i=if d=i then y else lk rg i:=by
 simp only[lk]
 by_cases h:d=i
 ·subst h;rw[YA,ZV rfl];rfl
 ·rw[Z7 h,show Nat.beq d i=false by rw[← Ya,Nat.beq_eq];exact h];rfl
structure j0(dn:Nat→Bool)(vs:List (Nat×Nat×AV))(rg ak:ag):Prop where
 v:∀ e∈vs,dn e.1=true→lk ak e.2.1=e.2.2
 o:∀ i,(∀ e∈vs,e.2.1≠i)→lk ak i=lk rg i
def fE(dn:Nat→Bool)(x i:Nat):Bool:=i == x || dn i
theorem j0.put{dn:Nat→Bool}{vs:List (Nat×Nat×AV)}{rg ak:ag}(h:j0 dn vs rg ak){x d:Nat}{y:AV}(hm:(x,d,y)∈vs)(hd:∀ e∈vs,e.2.1=d→e=(x,d,y))(hx:∀ e∈vs,e.1=x→e=(x,d,y)):j0 (fE dn x) vs rg ((d,y)::ak):=by
 refine⟨fun e he iS=> ?_,fun i hi=> ?_⟩
 ·rw[Jz]
  split
  ·rename_i e1;rw[hd e he e1.symm]
  ·rename_i e1
   refine h.v e he ?_
   simp only[fE,YO,beq_iff_eq]at iS
   rcases iS with h1|h1
   ·exact absurd (by rw[hx e he h1]) e1
   ·exact h1
 ·rw[Jz,Z7 (hi _ hm)];exact h.o i hi
theorem QP{α:Type}{f:α→Nat}{l:List α}(h:(l.map f).Nodup){a b:α}(ha:a∈l)(hb:b∈l)(e:f a=f b):a=b:=by
 obtain⟨i,hi,rfl⟩:=YG ha
 obtain⟨j,hj,rfl⟩:=YG hb
 have:=(List.getElem_inj (xs:=l.map f) (i:=i) (j:=j) (h₀:=by simpa using hi) (h₁:=by simpa using hj) h).1 (by simpa using e)
 subst this;rfl
theorem j0.qT{dn:Nat→Bool}{vs:List (Nat×Nat×AV)}{rg ak:ag}(h:j0 dn vs rg ak){x d:Nat}{y:AV}(j:Nat)(hj:vs[j]? =some (x,d,y))(h1:(vs.map (·.1)).Nodup)(h2:(vs.map (·.2.1)).Nodup):j0 (fE dn x) vs rg ((d,y)::ak):=by
 have hm:=Y3 hj
 exact h.put hm (fun e he h=>QP (f:=fun e=>e.2.1) h2 he hm h) (fun e he h=>QP (f:=fun e=>e.1) h1 he hm h)
theorem j0.all{dn:Nat→Bool}{vs:List (Nat×Nat×AV)}{rg ak:ag}(h:j0 dn vs rg ak)(hd:∀ e∈vs,dn e.1=true)(i:Nat):lk (vs.map (·.2)++rg) i=lk ak i:=by
 obtain⟨h1,h2⟩:=h
 replace h2:=h2 i
 revert h1 hd h2
 induction vs with
 |nil=>exact fun _ _ h2=>(h2 (fun _ h=>nomatch h)).symm
 |cons e vs ih=>
  intro hd h1 h2
  rw[Zv,ZG,show e.2=(e.2.1,e.2.2)from rfl,Jz]
  split
  ·rename_i e1;rw[← e1];exact(h1 e (by simp) (hd e (by simp))).symm
  ·rename_i e1
   exact ih (fun e he=>hd e (by simp[he])) (fun e he=>h1 e (by simp[he])) fun h=>h2 fun e' jO=>by
    rcases ZK.1 jO with rfl|jO
    ·exact e1
    ·exact h e' jO
theorem j0.skip{dn:Nat→Bool}{vs:List (Nat×Nat×AV)}{rg ak:ag}(h:j0 dn vs rg ak){x:Nat}(hx:∀ e∈vs,e.1≠x):j0 (fE dn x) vs rg ak:=
 ⟨fun e he iS=>h.v e he (by
  simp only[fE,YO,beq_iff_eq]at iS
  exact iS.resolve_left (hx e he)),h.o⟩
theorem j0.to{dn:Nat→Bool}{vs vs':List (Nat×Nat×AV)}{rg ak:ag}(h:j0 dn vs rg ak)(h1:∀ e∈vs',dn e.1=true→e∈vs)(h2:vs.map (·.2.1)=vs'.map (·.2.1)):j0 dn vs' rg ak:=
 ⟨fun e he iS=>h.v e (h1 e he iS) iS,fun i hi=>h.o i fun e he=>by
  have:e.2.1∈vs'.map (·.2.1):=by rw[← h2];exact Zi.2 ⟨e,he,rfl⟩
  obtain⟨e',h3,h4⟩:=Zi.1 this
  rw[← h4];exact hi e' h3⟩
end Go.Sx
namespace Go.Proofs.YthdeaajdmdmfnaaGreatDoor
open _root_.Go.Proofs.Tryz
open Go.Sx Go.Proofs Go.Tb Go.RowKit
def vP(px r o:Nat):List CD:=[.mk 1 ⟨some 10,.aY 0 (.tmp px),none⟩ [],.mk 2 ⟨some 11,.load false 1 (.tmp 10),none⟩ [],.mk 0 ⟨some 9,.call 33 [],none⟩ [],.mk 3 ⟨some 12,.cu (.lookup 93 (.tmp 9) (.tmp 11) true) 92 [.mp 3 91,.int .i64] [.tmp 9,.tmp 11],none⟩ [9],.mk 4 ⟨some 8,.mv (.tmp 12),none⟩ [],.mk 5 ⟨some 13,.extract (.tmp 8) 0,none⟩ [],.mk 6 ⟨some 14,.extract (.tmp 8) 1,none⟩ [],.mk 7 ⟨some r,.alloc 91 (.agg #[.nilFunc,.nilFunc]),none⟩ [],.mk 8 ⟨none,.store 2 (.tmp r) (.tmp 13),none⟩ [r],.mk 9 ⟨some o,.mv (.tmp 14),none⟩ [9]]
def qX(t b0:Nat)(k:Int)(E:AV)(bb:Bool)(r o b9 b6:Nat):List (Nat×Nat×AV):=[(1,10,.lp t b0 0),(2,11,iv k),(0,9,.bD 9 b9),(3,12,.bo [E,.v (.bool bb)]),(4,8,.bo [E,.v (.bool bb)]),(5,13,E),(6,14,.v (.bool bb)),(7,r,.lp r b6 0),(9,o,.v (.bool bb))]
def jy(r b9 b6:Nat)(es:List AV)(σ:Store)(dn:Nat→Bool):Store:=(if dn 7=true then[(r,b6,.cells (if dn 8=true then es else[.v .nilFunc,.v .nilFunc]))]else[])++((if dn 0=true then[(9,b9,.map kG 5)]else[])++σ)
theorem afi{l1 l2:List CD}{x:CD}(h:((l1++x::l2).map CD.ix).Nodup):∀ a,a∈l1∨a∈l2→a.ix≠x.ix:=by
 rw[YZ,Zv,XJ]at h
 obtain⟨h1,h2,h3⟩:=h
 obtain⟨h4,h5⟩:=Yy.1 h2
 rintro a (ha|ha)
 ·exact h3 _ (Zi.2 ⟨a,ha,rfl⟩) _ (by simp)
 ·exact fun e=>h4 (by rw[← e];exact Zi.2 ⟨a,ha,rfl⟩)
theorem agi{al:List Nat}{l A B:List CD}{x:CD}{dn:Nat→Bool}(hl:(l.map CD.ix).Nodup)(h:l.filter (fun c=> !dn c.ix)=A++x::B)(hA:∀ a∈A,qj al a x=true):∃ l1 l2,l=l1++x::l2∧dn x.ix=false∧(∀ a∈l1,qj al a x=false→dn a.ix=true)∧l.filter (fun c=> !fE dn x.ix c.ix)=A++B:=by
 obtain⟨m1,m2,rfl,h1,h2⟩:=List.filter_eq_append_iff.1 h
 obtain⟨n1,n2,rfl,hn,hx,h3⟩:=List.filter_eq_cons_iff.1 h2
 refine⟨m1++n1,n2,by simp,by simpa using hx,fun a ha hc=> ?_,?_⟩
 ·rcases Zy.1 ha with ha|ha
  ·cases hd:dn a.ix with
   |true=>rfl
   |false=>
    have:a∈A:=by rw[← h1];exact Ze.2 ⟨ha,by rw[hd];rfl⟩
    rw[hA a this]at hc;cases hc
  ·simpa using hn a ha
 ·have aE:=afi (l1:=m1++n1) (l2:=n2) (x:=x) (by simpa using hl)
  have e:∀ (k:List CD),(∀ a∈k,a∈m1++n1∨a∈n2)→k.filter (fun c=> !fE dn x.ix c.ix)=k.filter (fun c=> !dn c.ix):=fun k hk=>List.filter_congr fun a ha=>by
   have:=aE a (hk a ha)
   unfold fE
   rw[show(a.ix == x.ix)=false by simpa using this,Bool.false_or]
  rw[Xt,Xt,List.filter_cons,e m1 (fun a h=> .inl (by simp[h])),e n1 (fun a h=> .inl (by simp[h])),e n2 (fun a h=> .inr h),h1,h3]
  rw[show n1.filter (fun c=> !dn c.ix)=[]from Yl.2 fun a ha=>by simpa using hn a ha]
  rw[Z7 (by simp[fE]),Zl]
theorem ajT(w:World):(zeroValue 91).run prog w= .ok (.agg #[.nilFunc,.nilFunc]) w:=by
 have h:(prog.info? 91).map (fun i=>i.zero)=some (some (.agg #[.nilFunc,.nilFunc])):=by kernel_rfl
 obtain⟨i,h1,h2⟩:=Z9.1 h
 simp[zeroValue,typeInfo,h1,h2]
theorem agr(σ:Store):Sx.Spec prog 33 [] σ fun r σ'=>∃ b,r= .ret (.bD 9 b)∧σ'=(9,b,.map kG 5)::σ:=by
 refine(ags σ).Ed ?_
 rintro _ _ ⟨b,rfl,rfl⟩
 exact⟨.ret (.bD 9 b),_,⟨b,rfl,rfl⟩,.az _ _ _ (.map _ rfl (ct.refl _)) (.refl σ),fun M v h=>h.pN ▸ .bD ..⟩
def fg(t b0:Nat)(k:Int)(E:AV)(bb:Bool)(r o b9 b6:Nat)(rg:ag):ag:=(qX t b0 k E bb r o b9 b6).map (·.2)++rg
theorem agj{N:Nat}{cfg:Nat→Nat}{Q:Exit→ag→Store→Prop}(px r o:Nat)(hp:(px=3∧r=6∧o=7)∨(px=1∧r=4∧o=5)){k:Int}{E:AV}{bb:Bool}{es:List AV}{oo:Option AV}(hf:eR (.int .i64) (.int .i64 k) kG=some oo)(hg:zC oo (.agg #[.nilFunc,.nilFunc])= .bo [E,.v (.bool bb)])
  (hE:E.cells? =some es) (xz:es.length=2) (h1:es.all AV.one=true) {rg:ag} {σ:Store} {t b0:Nat} {rest:List AV} (hx:lk rg px= .lp t b0 0) (hs:aV σ t=some (b0,.cells (iv k::rest))) (ht:t=px)
  (h:∀ b9 b6,Q .normal (fg t b0 k E bb r o b9 b6 rg) ((r,b6,.cells es)::(9,b9,.map kG 5)::σ)):SW prog N (.eA [r] (vP px r o)) Q rg σ:=by
 subst ht
 have hnd:((vP t r o).map CD.ix).Nodup:=by show[1,2,0,3,4,5,6,7,8,9].Nodup;decide
 refine LD cfg (fun L ak τ=>∃ dn b9 b6,L=(vP t r o).filter (fun c=> !dn c.ix)∧j0 dn (qX t b0 k E bb r o b9 b6) rg ak∧cE τ (jy r b9 b6 es σ dn)∧(dn 8=true→dn 7=true)) (fun _=> ?_) (fun ak τ Jc=> ?_) fun A x B ak τ ho hA Jc=> ?_
 ·exact⟨fun _=>false,0,0,rfl,⟨fun _ _ h=>(by cases h),fun _ _=>rfl⟩,cE.refl _,fun h=>(by cases h)⟩
 ·obtain⟨dn,b9,b6,hL,hD,hS,_⟩:=Jc
  have cV:∀ c∈vP t r o,dn c.ix=true:=fun c hc=>by simpa using Yl.1 hL.symm c hc
  have hd:∀ i,i<10→dn i=true:=fun i hi=>by
   have CN:i∈(vP t r o).map CD.ix:=by
    show i∈[1,2,0,3,4,5,6,7,8,9]
    simp only[ZK,XY,or_false];omega
   obtain⟨c,hc,rfl⟩:=Zi.1 CN
   exact cV c hc
  have h2:=h b9 b6
  refine⟨_,_,fun i=>hD.all (fun e he=>hd _ ?_) i,?_,h2⟩
  ·have sj:e.1∈[1,2,0,3,4,5,6,7,9]:=(Zi (f:=fun e:Nat×Nat×AV=>e.1)).2 ⟨e,he,rfl⟩
   simp only[ZK,XY,or_false]at sj;omega
  ·have:jy r b9 b6 es σ dn=(r,b6,.cells es)::(9,b9,.map kG 5)::σ:=by
    unfold jy;rw[ZV (hd 7 (by decide)),ZV (hd 8 (by decide)),ZV (hd 0 (by decide))];rfl
   rw[← this];exact hS.symm
 ·obtain⟨dn,b9,b6,hL,hD,hS,NS⟩:=Jc
  obtain⟨l1,l2,e,C9,od,fZ⟩:=agi hnd hL.symm hA
  have n1:∀ b9 b6,((qX t b0 k E bb r o b9 b6).map (·.1)).Nodup:=fun _ _=>by show[1,2,0,3,4,5,6,7,9].Nodup;decide
  have n2:∀ b9 b6,((qX t b0 k E bb r o b9 b6).map (·.2.1)).Nodup:=fun _ _=>by
   rcases hp with⟨rfl,rfl,rfl⟩|⟨rfl,rfl,rfl⟩
   ·show[10,11,9,12,8,13,14,6,7].Nodup;decide
   ·show[10,11,9,12,8,13,14,4,5].Nodup;decide
  have hpx:lk ak t= .lp t b0 0:=(hD.o t fun e he=>by
   have sj:e.2.1∈[10,11,9,12,8,13,14,r,o]:=(Zi (f:=fun e:Nat×Nat×AV=>e.2.1)).2 ⟨e,he,rfl⟩
   simp only[ZK,XY,or_false]at sj;omega).trans hx
  have rk:∀ {j:Nat} {x d:Nat} {y:AV},(qX t b0 k E bb r o b9 b6)[j]? =some (x,d,y)→dn x=true→lk ak d=y:=fun hj hd=>hD.v _ (Y3 hj) hd
  have OS:r≠9:=by omega
  have hrt:r≠t:=by omega
  have ht9:(9:Nat)≠t:=by omega
  refine⟨ak,jy r b9 b6 es σ dn,fun _=>rfl,hS.symm,?_⟩
  have fb:aV (jy r b9 b6 es σ dn) t=some (b0,.cells (iv k::rest)):=by
   unfold jy
   rcases Xw (dn 7)with h7|h7<;>rcases Xw (dn 0)with h0|h0<;>simp only[h7,h0,YX,ZU,YV,Zl,ZG,na,Z7 hrt,Z7 ht9,hs]
  have hP:∀ i,fE dn i 8=true→(i=8→dn 7=true)→fE dn i 7=true:=fun i h h'=>by
   unfold fE at *
   simp only[YO,beq_iff_eq]at *
   rcases h with h|h
   ·exact .inr (h' h.symm)
   ·exact .inr (NS h)
  have sS:∀ i,i≠7→i≠8→i≠0→jy r b9 b6 es σ (fE dn i)=jy r b9 b6 es σ dn:=fun i h7 h8 h0=>by
   unfold jy fE
   rw[show((7:Nat) == i)=false by simpa using h7.symm,show((8:Nat) == i)=false by simpa using h8.symm,show((0:Nat) == i)=false by simpa using h0.symm]
   rfl
  unfold vP at e
  rcases l1 with _|⟨a1,_|⟨a2,_|⟨a3,_|⟨a4,_|⟨a5,_|⟨a6,_|⟨a7,_|⟨a8,_|⟨a9,_|⟨a10,l1⟩⟩⟩⟩⟩⟩⟩⟩⟩⟩
  all_goals simp only[Zl,ZG,Z2,reduceCtorEq,and_false,Xr]at e
  ·obtain⟨rfl,_⟩:=e
   simp only[cK,aj,ev,hpx]
   exact⟨_,b9,b6,fZ.symm,hD.qT 0 rfl (n1 _ _) (n2 _ _),by rw[sS 1 (by decide) (by decide) (by decide)];exact cE.refl _,fun h=>hP _ h (fun h=>by cases h)⟩
  ·obtain⟨rfl,rfl,_⟩:=e
   have h1:dn 1=true:=od _ (Y3 (i:=0) rfl) rfl
   simp only[cK,aj,ev,rk (j:=0) rfl h1,fb]
   exact⟨trivial,_,b9,b6,fZ.symm,hD.qT 1 rfl (n1 _ _) (n2 _ _),by rw[sS 2 (by decide) (by decide) (by decide)];exact cE.refl _,fun h=>hP _ h (fun h=>by cases h)⟩
  ·obtain⟨rfl,rfl,rfl,_⟩:=e
   simp only[cK,aj]
   refine⟨_,agr _,?_,fun ch σ' ⟨_,h,_⟩=>by cases h⟩
   rintro _ _ ⟨b,h,rfl⟩
   cases h
   refine⟨_,b,b6,fZ.symm,(hD.to (vs':=qX t b0 k E bb r o b b6) (fun e he hd=> ?_) rfl).qT 2 rfl (n1 _ _) (n2 _ _),?_,fun h=>hP _ h (fun h=>by cases h)⟩
   ·simp only[qX,ZK,XY,or_false]at he ⊢
    rcases he with rfl|rfl|rfl|rfl|rfl|rfl|rfl|rfl|rfl
    case inr.inr.inl=>exact absurd (C9.symm.trans hd) (by decide)
    all_goals simp
   ·have e7:fE dn 0 7=dn 7:=rfl
    have e8:fE dn 0 8=dn 8:=rfl
    have e0:fE dn 0 0=true:=rfl
    have h0:dn 0=false:=C9
    unfold jy
    simp only[e7,e8,e0,h0,YX,ZU,YV,Zl]
    rcases Xw (dn 7)with h7|h7
    ·simp only[h7,YX,ZG,Zl];exact cE.swap (Ne.symm OS) _
    ·simp only[h7,ZU,YV,Zl,ZG];exact cE.refl _
  ·obtain⟨rfl,rfl,rfl,rfl,_⟩:=e
   have h2:dn 2=true:=od _ (Y3 (i:=1) rfl) rfl
   have h0:dn 0=true:=od _ (Y3 (i:=2) rfl) rfl
   have hl9:aV (jy r b9 b6 es σ dn) 9=some (b9,.map kG 5):=by
    unfold jy
    rcases Xw (dn 7)with h7|h7<;>simp only[h7,h0,YX,ZU,YV,Zl,ZG,na,Z7 OS]
   simp only[cK,aj,aL,Zv,YT,ev,rk (j:=2) rfl h0,rk (j:=1) rfl h2]
   refine(TS ajT rfl hl9 hf).mono fun y s ⟨e1,e2⟩=> ?_
   subst e1 e2
   rw[hg]
   exact⟨_,b9,b6,fZ.symm,hD.qT 3 rfl (n1 _ _) (n2 _ _),by rw[sS 3 (by decide) (by decide) (by decide)];exact cE.refl _,fun h=>hP _ h (fun h=>by cases h)⟩
  ·obtain⟨rfl,rfl,rfl,rfl,rfl,_⟩:=e
   have h3:dn 3=true:=od _ (Y3 (i:=3) rfl) rfl
   simp only[cK,aj,ev,rk (j:=3) rfl h3]
   exact⟨_,b9,b6,fZ.symm,hD.qT 4 rfl (n1 _ _) (n2 _ _),by rw[sS 4 (by decide) (by decide) (by decide)];exact cE.refl _,fun h=>hP _ h (fun h=>by cases h)⟩
  ·obtain⟨rfl,rfl,rfl,rfl,rfl,rfl,_⟩:=e
   have h4:dn 4=true:=od _ (Y3 (i:=4) rfl) rfl
   simp only[cK,aj,ev,rk (j:=4) rfl h4]
   exact⟨_,b9,b6,fZ.symm,hD.qT 5 rfl (n1 _ _) (n2 _ _),by rw[sS 5 (by decide) (by decide) (by decide)];exact cE.refl _,fun h=>hP _ h (fun h=>by cases h)⟩
  ·obtain⟨rfl,rfl,rfl,rfl,rfl,rfl,rfl,_⟩:=e
   have h4:dn 4=true:=od _ (Y3 (i:=4) rfl) rfl
   simp only[cK,aj,ev,rk (j:=4) rfl h4]
   exact⟨_,b9,b6,fZ.symm,hD.qT 6 rfl (n1 _ _) (n2 _ _),by rw[sS 6 (by decide) (by decide) (by decide)];exact cE.refl _,fun h=>hP _ h (fun h=>by cases h)⟩
  ·obtain⟨rfl,rfl,rfl,rfl,rfl,rfl,rfl,rfl,_⟩:=e
   have h7:dn 7=false:=C9
   simp only[cK,aj]
   intro b
   refine⟨_,b9,b,fZ.symm,(hD.to (vs':=qX t b0 k E bb r o b9 b) (fun e he hd=> ?_) rfl).qT 7 rfl (n1 _ _) (n2 _ _),?_,fun _=>rfl⟩
   ·simp only[qX,ZK,XY,or_false]at he ⊢
    rcases he with rfl|rfl|rfl|rfl|rfl|rfl|rfl|rfl|rfl
    case inr.inr.inr.inr.inr.inr.inr.inl=>exact absurd (h7.symm.trans hd) (by decide)
    all_goals simp
   ·have e8:fE dn 7 8=false:=by
     show((8:Nat) == 7 || dn 8)=false
     cases h8:dn 8 with
     |true=>rw[NS h8]at h7;cases h7
     |false=>rfl
    have e0:fE dn 7 0=dn 0:=rfl
    have e7:fE dn 7 7=true:=rfl
    unfold jy
    simp only[e7,e8,e0,h7,YX,ZU,YV,Zl,ZG]
    exact cE.refl _
  ·obtain⟨rfl,rfl,rfl,rfl,rfl,rfl,rfl,rfl,rfl,_⟩:=e
   have h5:dn 5=true:=od _ (Y3 (i:=5) rfl) (by rcases hp with⟨rfl,rfl,rfl⟩|⟨rfl,rfl,rfl⟩<;>rfl)
   have h7:dn 7=true:=od _ (Y3 (i:=7) rfl) (by rcases hp with⟨rfl,rfl,rfl⟩|⟨rfl,rfl,rfl⟩<;>rfl)
   have h8:dn 8=false:=C9
   have uE:jy r b9 b6 es σ dn=(r,b6,.cells [.v .nilFunc,.v .nilFunc])::((if dn 0=true then[(9,b9,.map kG 5)]else[])++σ):=by
    unfold jy;simp only[h7,h8,YX,ZU,YV,ZG,Zl]
   have zO:jy r b9 b6 es σ (fE dn 8)=(r,b6,.cells es)::((if dn 0=true then[(9,b9,.map kG 5)]else[])++σ):=by
    have e7:fE dn 8 7=dn 7:=rfl
    have e8:fE dn 8 8=true:=rfl
    have e0:fE dn 8 0=dn 0:=rfl
    unfold jy;simp only[e7,e8,e0,h7,YX,ZG,Zl]
   simp only[cK,aj,ev,rk (j:=7) rfl h7,rk (j:=5) rfl h5,hE,uE,na,YX]
   obtain⟨u,v,rfl⟩:∃ u v,es=[u,v]:=by match es,xz with|[u,v],_=>exact⟨u,v,rfl⟩
   refine⟨trivial,rfl,h1,by decide,_,b9,b6,fZ.symm,hD.skip fun e he h8=> ?_,?_,fun h=>hP _ h (fun _=>h7)⟩
   ·have sj:e.1∈[1,2,0,3,4,5,6,7,9]:=(Zi (f:=fun e:Nat×Nat×AV=>e.1)).2 ⟨e,he,rfl⟩
    have h8:e.1=8:=h8
    simp only[ZK,XY,or_false]at sj;omega
   ·rw[zO]
    simp only[du,YA,Zc]
    exact cE.refl _
  ·obtain⟨rfl,rfl,rfl,rfl,rfl,rfl,rfl,rfl,rfl,rfl,_⟩:=e
   have h6:dn 6=true:=od _ (Y3 (i:=6) rfl) (by rcases hp with⟨rfl,rfl,rfl⟩|⟨rfl,rfl,rfl⟩<;>rfl)
   simp only[cK,aj,ev,rk (j:=6) rfl h6]
   exact⟨_,b9,b6,fZ.symm,hD.qT 8 rfl (n1 _ _) (n2 _ _),by rw[sS 9 (by decide) (by decide) (by decide)];exact cE.refl _,fun h=>hP _ h (fun h=>by cases h)⟩
  ·simp at e
theorem FE{N:Nat}{cfg:Nat→Nat}{Q:Exit→ag→Store→Prop}{kf:List Fr}(px r o:Nat)(hp:(px=3∧r=6∧o=7)∨(px=1∧r=4∧o=5)){k:Int}{E:AV}{bb:Bool}{es:List AV}{oo:Option AV}(hf:eR (.int .i64) (.int .i64 k) kG=some oo)(hg:zC oo (.agg #[.nilFunc,.nilFunc])= .bo [E,.v (.bool bb)])
  (hE:E.cells? =some es) (xz:es.length=2) (h1:es.all AV.one=true) {rg:ag} {σ:Store} {t b0:Nat} {rest:List AV} (hx:lk rg px= .lp t b0 0) (hs:aV σ t=some (b0,.cells (iv k::rest))) (ht:t=px)
  (h:∀ b9 b6,FK prog N cfg Q .normal kf (fg t b0 k E bb r o b9 b6 rg) ((r,b6,.cells es)::(9,b9,.map kG 5)::σ)):WK prog N cfg Q (.eA [r] (vP px r o)) kf rg σ:=
 ⟨WA.mono (Q:=fun e=>FK prog N cfg Q e kf) ⟨rfl,agj (cfg:=cfg) px r o hp hf hg hE xz h1 hx hs ht h⟩ fun _ _ _ h=>h.h⟩
theorem abr{k:Int}(h1:k≠1)(h2:k≠2)(h3:k≠3)(h4:k≠4)(h5:k≠5):eR (.int .i64) (.int .i64 k) kG=some none:=by
 have e:∀ j:Int,k≠j→Instr.sameNow (.int .i64) (.int .i64 k) (.int .i64 j)=some false:=fun j h=>by
  show some (decide (k=j))=_
  rw[Zh h]
 simp only[eR,kG,e 1 h1,e 2 h2,e 3 h3,e 4 h4,e 5 h5]
end Go.Proofs.YthdeaajdmdmfnaaGreatDoor
namespace Go.Proofs.YthdeaajdmdmfnaaGreatDoor
open Go.Sx Go.Proofs Go.Tb
theorem nr{α:Type}{l:List α}{k:Nat}{x y:α}(h:y∈lj l k x):y=x∨y∈l:=by
 unfold lj at h
 rw[Zy,ZK]at h
 rcases h with h|h|h
 ·exact .inr (YS h)
 ·exact .inl h
 ·exact .inr (YE h)
theorem mH{α:Type}{l:List α}{k:Nat}{y:α}(h:y∈o8 l k):y∈l:=by
 unfold o8 at h
 rw[Zy]at h
 rcases h with h|h
 ·exact YS h
 ·exact YE h
theorem yc{α:Type}{l:List α}{k:Nat}{x:α}:(lj l k x).length=l.length+1:=by
 unfold lj;simp;omega
theorem zl{α:Type}{l:List α}{k:Nat}:(o8 l k).length≤l.length:=by
 unfold o8;simp;omega
theorem WN{c:au}{x:bh}{f:aq}(h:f∈(dw c x).1.all):f∈c.all∨∃ v,f=x.feature.gL v:=by
 unfold au.all at *
 simp only[Zy]at *
 unfold dw at h
 split at h
 ·unfold ud at h;split at h<;>exact .inl h
 split at h
 ·unfold lh at h
  split at h
  ·exact .inl h
  split at h
  ·exact .inl h
  split at h
  ·exact .inl h
  split at h
  ·exact .inl h
  rcases h with(h|h)|h
  ·exact .inl (.inl (.inl h))
  ·rcases nr h with h|h
   ·exact .inr ⟨_,h⟩
   ·exact .inl (.inl (.inr h))
  ·exact .inl (.inr h)
 refine .inl ?_
 split at h
 ·unfold uk at h
  split at h
  ·exact h
  rename_i h1
  have hd:=dp (xU (l:=c.aD) (n:=x.name) (by omega)).1
  split at h
  ·rename_i h2
   have hf:=dp (xU h2).1
   rcases h with(h|h)|h
   ·rcases nr h with h|h
    ·subst h;exact .inl (.inr hd)
    ·exact .inl (.inl (mH h))
   ·exact .inl (.inr (mH h))
   ·rcases nr h with h|h
    ·subst h;exact .inl (.inl hf)
    ·exact .inr h
  ·rcases h with(h|h)|h
   ·rcases nr h with h|h
    ·subst h;exact .inl (.inr hd)
    ·exact .inl (.inl h)
   ·exact .inl (.inr (mH h))
   ·exact .inr h
 split at h
 ·unfold vQ at h
  split at h
  ·exact h
  rename_i h1
  have hf:=dp (xU (l:=c.features) (n:=x.name) (by omega)).1
  split at h
  ·exact h
  rename_i h2
  have hp:=dp (xZ (l:=c.past) (n:=x.name) fun h=>h2 (.inl h)).1
  rcases h with(h|h)|h
  ·rcases nr h with h|h
   ·subst h;exact .inr hp
   ·exact .inl (.inl (mH h))
  ·rcases nr h with h|h
   ·subst h;exact .inl (.inl hf)
   ·exact .inl (.inr h)
  ·exact .inr (mH h)
 ·unfold uj at h
  split at h
  ·exact h
  rcases h with(h|h)|h
  ·exact .inl (.inl h)
  ·exact .inl (.inr (mH h))
  ·exact .inr h
structure FB(f:aq):Prop where
 s:f.body.size≤1000
 n:f.name.size≤2 ^ 60
 w:f.body.wt≤2 ^ 60
structure CB(n:Nat)(c:au):Prop where
 t:c.tables.length≤n
 f:c.features.length≤n
 d:c.aD.length≤n
 p:c.past.length≤n
 b:∀ f∈c.all,FB f
theorem FB.v{f:aq}(h:FB f)(v:Int):FB (f.gL v):=⟨h.s,h.n,h.w⟩
theorem CB.change{n:Nat}{c:au}{x:bh}(h:CB n c)(hx:FB x.feature):CB (n+1) (dw c x).1:=by
 have hb:∀ f∈(dw c x).1.all,FB f:=fun f hf=>by
  rcases WN hf with h1|⟨v,rfl⟩
  ·exact h.b f h1
  ·exact hx.v v
 obtain⟨h1,h2,h3,h4,_⟩:=h
 have l1:(dw c x).1.tables.length≤n+1∧(dw c x).1.features.length≤n+1∧(dw c x).1.aD.length≤n+1∧(dw c x).1.past.length≤n+1:=by
  unfold dw
  split
  ·unfold ud;split<;>simp only[yc]<;>omega
  split
  ·unfold lh
   repeat' split
   all_goals simp only[gC,yc];omega
  split
  ·unfold uk
   have e1:=fun k=>zl (l:=c.aD) (k:=k)
   have e2:=fun k=>zl (l:=c.features) (k:=k)
   repeat' split
   ·refine⟨?_,?_,?_,?_⟩<;>dsimp only<;>omega
   ·simp only[gC,yc]
    exact⟨by omega,by have:=e2 (cW c.features x.name).toNat;omega,by have:=e1 (cW c.aD x.name).toNat;omega,by omega⟩
   ·simp only[gC,yc]
    exact⟨by omega,by omega,by have:=e1 (cW c.aD x.name).toNat;omega,by omega⟩
  split
  ·unfold vQ
   have e1:=fun k=>zl (l:=c.past) (k:=k)
   have e2:=fun k=>zl (l:=c.features) (k:=k)
   repeat' split
   ·refine⟨?_,?_,?_,?_⟩<;>dsimp only<;>omega
   ·refine⟨?_,?_,?_,?_⟩<;>dsimp only<;>omega
   ·simp only[gC,yc]
    exact⟨by omega,by have:=e2 (cW c.features x.name).toNat;omega,by omega,by have:=e1 (fR x.name c.past 0 (-1)).toNat;omega⟩
  ·unfold uj
   have e1:=fun k=>zl (l:=c.aD) (k:=k)
   repeat' split
   ·refine⟨?_,?_,?_,?_⟩<;>dsimp only<;>omega
   ·dsimp only;exact⟨by omega,by omega,by have:=e1 (cW c.aD x.name).toNat;omega,by omega⟩
 exact⟨l1.1,l1.2.1,l1.2.2.1,l1.2.2.2,hb⟩
theorem CB.fit{n:Nat}{c:au}(h:CB n c)(hn:n≤100000):wx c.features:=by
 have hm:(2:Nat) ^ 60≤maxLen:=by unfold maxLen;decide
 have hb:∀ f∈c.features,FB f:=fun f hf=>h.b f (by unfold au.all;simp[hf])
 refine⟨fun f hf=> ?_,fun f hf=>ZI (hb f hf).n hm,by have:=h.f;omega⟩
 have h1:=(hb f hf).s
 have h2:=Nh f.body
 have h3:=(hb f hf).w
 exact⟨by omega,by omega,fun s h=>by have:=Lb _ s (.inl h);omega,fun s h=>by have:=Lb _ s (.inr h);omega⟩
end Go.Proofs.YthdeaajdmdmfnaaGreatDoor
namespace Go.Proofs.YthdeaajdmdmfnaaGreatDoor
open _root_.Go.Proofs.Tryz
open Go.Sx Go.Proofs Go.Tb Go.RowKit
theorem y7(c:au)(x:bh)(fa fp:Nat)(pr:Prop)[Decidable pr](d:au)(e:Int)(Iv:gR prog fa=true)(Dd:gR prog fp=true)(hf:eR (.int .i64) (.int .i64 x.kind) kG=some (some (.agg [kQ fa,kQ fp])))
  (hP:Pure prog fp [.agg x.cells] (.v (.bool (decide pr)))) (hA:Pure prog fa [.agg c.cells,.agg x.cells] (cS (d,e))) (hC:Pure prog 34 [.agg d.cells] (iv (nM d))):
  Pure prog 9 [.agg c.cells,.agg x.cells] (cS (if¬pr then(dY,1)else if e≠0 then(dY,e)else if nM d≠0 then(dY,nM d)else(d,0))):=by
 refine k9.p fun σ=> ?_
 repeat'((fail_if_success (show WK _ _ _ _ (.eA _ _) _ _ _));(first|exact .nil|refine .k0 ?_|refine .k1 ?_|refine .k2 ?_|refine .r1 ?_ ?_|(refine .l1 ?_;intro b)|(refine .m1 ?_ ?_;intro b)|fail))
 refine FE 3 6 7 (bb:=true) (.inl ⟨rfl,rfl,rfl⟩) hf rfl rfl rfl rfl rfl rfl rfl fun b9 b6=> ?_
 repeat'(first|exact .nil|refine .k0 ?_|refine .k1 ?_|refine .k2 ?_|refine .r1 ?_ ?_|fail)
 all_goals(try simp only[BL]at *)
 refine wK (by rfl) rfl Dd (fun _=>hP) ?_ ?_
 ·exact .cons (fun _=>rfl) (.cons (fun _=>rfl) .nil)
 repeat'(first|exact .nil|refine .k0 ?_|refine .k1 ?_|refine .k2 ?_|refine .k7 ?_|refine .k9 ?_|(refine .cd ?_ ?_<;>(intro hc;skip))|refine .r1 ?_ ?_|fail)
 all_goals(try simp only[BL]at *)
 ·rw[ZV (by simpa using hc)];exact Zw
 rw[Z7 (by simpa using hc)]
 by_cases he:e=0
 ·rw[Z7 (by simpa using he)]
  by_cases C5:nM d=0
  ·rw[Z7 (by simpa using C5)]
   refine wK (by rfl) rfl Iv (fun _=>hA) .nil ?_
   repeat'(first|exact .nil|refine .k0 ?_|refine .k1 ?_|refine .k2 ?_|refine .k7 ?_|refine .k9 ?_|(refine .cd ?_ ?_<;>(intro hc;skip))|refine .r1 ?_ ?_|refine .an rfl (by intro aI;exact hC) ?_ ?_|fail)
   all_goals(try simp only[BL]at *)
   all_goals first|(exfalso;contradiction)|(refine Sx.Fin.wk Zs ?_;repeat' first|exact .refl _|fail)
  ·rw[ZV (by simpa using C5)]
   refine wK (by rfl) rfl Iv (fun _=>hA) .nil ?_
   repeat'(first|exact .nil|refine .k0 ?_|refine .k1 ?_|refine .k2 ?_|refine .k7 ?_|refine .k9 ?_|(refine .cd ?_ ?_<;>(intro hc;skip))|refine .r1 ?_ ?_|refine .an rfl (by intro aI;exact hC) ?_ ?_|fail)
   all_goals(try simp only[BL]at *)
   all_goals first|(exfalso;contradiction)|(refine Sx.Fin.wk Zs ?_;repeat' first|exact .refl _|exact .nil|refine .cons ?_ ?_|refine .bo ?_|refine .agg ?_|fail)
 ·rw[ZV (by simpa using he)]
  refine wK (by rfl) rfl Iv (fun _=>hA) .nil ?_
  repeat'(first|exact .nil|refine .k0 ?_|refine .k1 ?_|refine .k2 ?_|refine .k7 ?_|refine .k9 ?_|(refine .cd ?_ ?_<;>(intro hc;skip))|refine .r1 ?_ ?_|refine .an rfl (by intro aI;exact hC) ?_ ?_|fail)
  all_goals(try simp only[BL]at *)
  all_goals first|(exfalso;contradiction)|(refine Sx.Fin.wk Zs ?_;repeat' first|exact .refl _|exact .nil|refine .cons ?_ ?_|refine .bo ?_|refine .agg ?_|fail)
theorem V1(c:au)(x:bh)(hf:eR (.int .i64) (.int .i64 x.kind) kG=some none):Pure prog 9 [.agg c.cells,.agg x.cells] (cS (dY,1)):=by
 refine k9.p fun σ=> ?_
 repeat'((fail_if_success (show WK _ _ _ _ (.eA _ _) _ _ _));(first|exact .nil|refine .k0 ?_|refine .k1 ?_|refine .k2 ?_|refine .r1 ?_ ?_|(refine .l1 ?_;intro b)|(refine .m1 ?_ ?_;intro b)|fail))
 refine FE 3 6 7 (bb:=false) (E:= .v (.agg #[.nilFunc,.nilFunc])) (.inl ⟨rfl,rfl,rfl⟩) hf rfl rfl rfl rfl rfl rfl rfl fun b9 b6=> ?_
 repeat'(first|exact .nil|refine .k0 ?_|refine .k1 ?_|refine .k2 ?_|refine .k4 ?_|refine .r1 ?_ ?_|fail)
 all_goals(try simp only[BL]at *)
 refine LQ (b:=true) rfl (LQ (b:=true) rfl (Uv (y:= .v (.bool true)) ?_))
 repeat'(first|exact .nil|refine .k0 ?_|refine .k1 ?_|refine .k2 ?_|refine .k7 ?_|(refine .cd ?_ ?_<;>first|with_reducible exact tF|(intro hc;skip))|refine .r1 ?_ ?_|fail)
 all_goals(try simp only[BL]at *)
 exact Zw
theorem FN(hT:lK)(hO:lJ)(c:au)(x:bh)(n:Nat)(hn:n≤90000)(hc:CB n c)(hx:FB x.feature):Pure prog 9 [.agg c.cells,.agg x.cells] (cS (bR c x)):=by
 have hb:=hc.change hx
 have hC:=WR hT hO (dw c x).1 (fun f hf=>ZI (hb.b f hf).s (by decide)) (hb.fit (by omega)) (by have:=hb.t;omega)
 have ht:=hc.t
 have hf:=hc.f
 have hd:=hc.d
 have hp:=hc.p
 unfold bR
 by_cases h1:x.kind=1
 ·have e:dw c x=ud c x.table:=ZV h1
  have:=y7 c x _ _ _ _ _ rfl rfl (by rw[h1];rfl) (Rj x) (VA c x (by omega)) (by rw[e]at hC;exact hC)
  simp only[e,oJ,ZV h1]
  exact this
 by_cases h2:x.kind=2
 ·have e:dw c x=lh c x.feature:=(Z7 h1).trans (ZV h2)
  have:=y7 c x _ _ _ _ _ rfl rfl (by rw[h2];rfl) (afF x) (afK hT hO c x (ZI hx.s (by decide)) (by omega) (by omega) (by omega)) (by rw[e]at hC;exact hC)
  simp only[e,oJ,Z7 h1,ZV h2]
  exact this
 by_cases h3:x.kind=3
 ·have e:dw c x=uk c x.name:=(Z7 h1).trans ((Z7 h2).trans (ZV h3))
  have:=y7 c x _ _ _ _ _ rfl rfl (by rw[h3];rfl) (JX x) (aaK c x (by omega) (by omega) (by omega)) (by rw[e]at hC;exact hC)
  simp only[e,oJ,Z7 h1,Z7 h2,h3,true_or,Ys]
  exact this
 by_cases h4:x.kind=4
 ·have e:dw c x=vQ c x.name:=(Z7 h1).trans ((Z7 h2).trans ((Z7 h3).trans (ZV h4)))
  have:=y7 c x _ _ _ _ _ rfl rfl (by rw[h4];rfl) (JX x) (agl c x (by omega) (by omega) (by omega)) (by rw[e]at hC;exact hC)
  simp only[e,oJ,Z7 h1,Z7 h2,h4,true_or,or_true,Ys]
  exact this
 by_cases h5:x.kind=5
 ·have e:dw c x=uj c x.name:=(Z7 h1).trans ((Z7 h2).trans ((Z7 h3).trans (Z7 h4)))
  have:=y7 c x _ _ _ _ _ rfl rfl (by rw[h5];rfl) (JX x) (aaE c x (by omega)) (by rw[e]at hC;exact hC)
  simp only[e,oJ,Z7 h1,Z7 h2,h5,or_true,Ys]
  exact this
 ·rw[ZV (by unfold oJ;simp[h1,h2,h3,h4,h5])]
  exact V1 c x (abr h1 h2 h3 h4 h5)
end Go.Proofs.YthdeaajdmdmfnaaGreatDoor
