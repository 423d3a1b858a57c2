import Derived.Test.YtmemninechdogaaGreatDoorAs
import Derived.Test.YtmemninechdogaaGreatDoorSxEx6
set_option linter.all false
set_option maxRecDepth 100000
set_option maxHeartbeats 4000000
namespace Go.Proofs.YtmemninechdogaaGreatDoor
open Go.Sx Go.Proofs Go.Tb Go.RowKit
theorem OD(nm:ae):∀(l:List aO) (k:Nat),(List.finRange l.length).foldr (fun x (a:Int)=>if jc l[x.val].name nm=true then((x.val+k:Nat):Int)else a) ((l.length+k:Nat):Int)=((jx l nm+k:Nat):Int)
 |[],k=>by rfl|a::l,k=>by
  have ih:=OD nm l (k+1);change List.foldr (fun(x:Fin (l.length+1)) (a':Int)=>if jc ((a::l)[x.val]'(x.isLt)).name nm=true then((x.val+k:Nat):Int)else a') ((l.length+1+k:Nat):Int) (List.finRange (l.length+1))=_;rw[List.finRange_succ,List.foldr_cons,List.foldr_map];unfold jx;rw[List.findIdx_cons,<-OC];cases h:jc a.name nm with
  |true=>simp[h]|false=>simp;unfold jx at ih;grind
theorem aiG(nm:ae)(l:List aO):uo (fun x:Fin l.length=>l[x.val].name) nm (List.finRange l.length).reverse=((jx l nm:Nat):Int):=by unfold uo;have:=OD nm l 0;grind
theorem Oc{l:List aO}{n:ae}:(lM l n).isSome=true↔∃x:Fin l.length,l[x.val].name=n:=by
 unfold lM;rw[List.find?_isSome];constructor
 .rintro⟨t,ht,hn⟩;obtain⟨i,hi,rfl⟩:=Zc ht;exact⟨⟨i,hi⟩,by grind⟩
 grind
theorem WZ(c:ay)(x:dY)(hn:c.tables.length<=100000):Sx.Pure Tryz.prog 66 [.agg c.cells,.agg x.cells] (cZ (xa c x.table)):=by
 refine⟨fun X M w0 w cs hI hR=>?_⟩;obtain⟨x1,cB,rfl,q1,bV⟩:=hR.aZ;obtain⟨x2,rfl,q2⟩:=RL.cR bV;obtain⟨cs1,rfl,bC⟩:=q1.qq;obtain⟨xj,rfl,bO⟩:=q2.qq;obtain⟨t0,_,rfl,p0,bC⟩:=bC.aZ;obtain⟨t1,_,rfl,p1,bC⟩:=bC.aZ;obtain⟨t2,_,rfl,p2,bC⟩:=bC.aZ;obtain⟨t3,rfl,p3⟩:=RL.cR bC;obtain⟨y0,r0,rfl,k0,bO⟩:=bO.aZ;obtain⟨y1,r1,rfl,k1,bO⟩:=bO.aZ;obtain⟨y2,r2,rfl,k2,bO⟩:=bO.aZ;obtain⟨y3,r3,rfl,k3,bO⟩:=bO.aZ;obtain⟨y4,r4,rfl,k4,bO⟩:=bO.aZ;obtain rfl:=k1.aC;obtain rfl:=k2.aC;obtain rfl:=k4.aC;obtain⟨fa,fc,rfl, -⟩:=uT k3;obtain⟨ad,cap,rfl, -⟩:=uT p0;obtain⟨a1,n1,c1,rfl⟩:=zy p1;obtain⟨a2,n2,c2,rfl⟩:=zy p2;obtain⟨a3,n3,c3,rfl⟩:=zy p3;simp only[Z5]at k3 p0|-;have rE:RL M x.table.cells [.string x.table.name,.string x.table.dh,.slice fa x.table.fields.length fc,.int .i64 x.table.aH]:=RL.cons (.v _) (RL.cons (.v _) (RL.cons k3 (RL.cons (.v _) RL.nil)))
 have bY:∃cs:Nat->Value,(∀y:Fin c.tables.length,cs (y.val*4)= .string c.tables[y.val].name)/\(∀y:Fin c.tables.length,cs (y.val*4+1)= .string c.tables[y.val].dh)/\(∀y:Fin c.tables.length,∃f:Option Addr×Nat×Nat,cs (y.val*4+2)= .slice f.1 f.2.1 f.2.2)/\(∀y:Fin c.tables.length,cs (y.val*4+3)= .int .i64 c.tables[y.val].aH)/\
   (c.tables.length=0\/∃b off,ad=some ⟨b,off,none⟩/\b<w.heap.size/\∀j,j<c.tables.length*4->w.cell? ⟨b,off+j,none⟩=some (cs j)):=by
  rcases p0.nT with⟨a,_,h1,h2⟩|⟨b,off,cp,cs,h1,hr,h3,h4⟩
  .have e2:c.tables.length=0:=by grind
   exact⟨fun _=>default,fun y=>absurd y.isLt (by omega),fun y=>absurd y.isLt (by omega),fun y=>absurd y.isLt (by omega),fun y=>absurd y.isLt (by omega),.inl e2⟩
  .simp only[Value.slice.injEq]at h1;obtain⟨rfl, -,rfl⟩:=h1;have g:∀(y:Fin c.tables.length) (j:Nat) (hj:j<4),R M (c.tables[y.val].cells.getD j default) (cs (y.val*4+j)):=fun y j hj=>by have:=hr.rel y.val (by rw[Z5];exact y.isLt) j (by rw[Zv];exact hj);simp only[Zv]at this;rw[Z1,ZX (show j<c.tables[y.val].cells.length from hj)];exact this
   rcases Nat.eq_zero_or_pos c.tables.length with hz|hz
   .exact⟨fun _=>default,fun y=>absurd y.isLt (by omega),fun y=>absurd y.isLt (by omega),fun y=>absurd y.isLt (by omega),fun y=>absurd y.isLt (by omega),.inl hz⟩
   refine⟨cs,fun y=>(g y 0 (by decide)).aC,fun y=>(g y 1 (by decide)).aC,fun y=>?_,fun y=>(g y 3 (by decide)).aC,.inr ⟨b,off,rfl,?_,fun j hj=>hI.bZ _ _ _ (hr.mem j (by rw[Z5];exact hj))⟩⟩
   .obtain⟨a,n,cc,h⟩:=zy (g y 2 (by decide));exact⟨(a,n,cc),h⟩
   .exact World.block_lt_of_cell? _ _ (hI.bZ _ _ _ (hr.mem 0 (by rw[Z5];omega)))
 obtain⟨cs,g0,g1,g2,g3,hc⟩:=bY;obtain⟨fl,eg⟩:=Classical.axiomOfChoice g2;unfold xa;have j7:∀{M':Mem},M.le M'->∀{v:Value} {l:List aO},R M' (.sl false 4 (l.map aO.cells)) v->R M' (.agg ({c with tables:=l}:ay).cells) (.agg #[v,.slice a1 n1 c1,.slice a2 n2 c2,.slice a3 n3 c3]):=fun {M'} hM {v l} hv=>R.rM (cs:=[v,.slice a1 n1 c1,.slice a2 n2 c2,.slice a3 n3 c3]) (RL.cons hv (RL.cons (p1.mono hM) (RL.cons (p2.mono hM) (RL.cons (p3.mono hM) RL.nil))));refine WY ad c.tables.length cap a1 a2 a3 n1 c1 n2 c2 n3 c3 _ w x.table.name rfl cs (fun y=>c.tables[y.val].name) g0 (fun y=>c.tables[y.val].dh) g1 fl eg (fun y=>c.tables[y.val].aH) g3 hn hc _ (fun y hy W' hb=>?_) hI c.tables rfl (by simpa using p0) x.table fa _ fc rfl rfl rfl rE (aiG _ _) (fun aW M' v W' hM bg hv=>?_)
 .rw[Z3 (Oc.2 ⟨y,hy⟩)];exact⟨M,.ret _,X,Mem.le.refl _,hI.after hb,R.ue (cs:=[_,_]) (RL.cons (j7 (Mem.le.refl _) p0) (RL.cons (.v _) RL.nil)),rfl,rfl⟩
 .rw[Z9 (fun h=>by obtain⟨y,hy⟩:=Oc.1 h;exact aW y hy)];exact⟨M',.ret _,X,hM,bg,R.ue (cs:=[_,_]) (RL.cons (j7 hM (Wk.sl _ _ hv)) (RL.cons (.v _) RL.nil)),rfl,rfl⟩
def lN(f:Nat):AV:=.v (.func (.func f) #[] #[])
def lB:List (Value×Nat×AV):=[(.int .i64 1,0,.agg [lN 66,lN 67]),(.int .i64 2,1,.agg [lN 69,lN 70]),(.int .i64 3,2,.agg [lN 72,lN 73]),(.int .i64 4,3,.agg [lN 74,lN 73]),(.int .i64 5,4,.agg [lN 75,lN 73])]
theorem ajq(X:Store):Sx.Spec Tryz.prog 32 [] X fun r af=>∃b,r= .ret (.bJ 1 b)/\af=(1,b,.map lB 5)::X:=by
 refine k32.s ?_;repeat'(first|exact .nil|refine .k ?_|refine .r1 ?_ ?_|refine .l3 fun b=>?_|refine .r6 ?_ ?_|fail)
 all_goals exact⟨_,rfl,rfl⟩
end Go.Proofs.YtmemninechdogaaGreatDoor
namespace Go.Sx
open Go.RowKit
section
variable {P:Program}[Glob P]{X:Store}
def zW(o:Option AV)(z:Value):AV:=.aG [o.getD (.v z),.v (.bool o.isSome)]
theorem Vj{tg b ck:Nat}{es:List (Value×Nat×AV)}{t ty kt vt:TypeId}{q:TI}{kd:TypeDesc}{m k:Operand}{key z:Value}{o:Option AV}(hz:∀w,(zeroValue vt).run P w= .ok z w)(hp:lY q=some kd)(hl:aV X tg=some (b,.map es ck))(hf:fu kd key es=some o):
  fH P (.lookup t m k true) ty [.mp kt vt,q] [m,k] [.bJ tg b,.v key] X fun y af=>y=zW o z/\af=X:=by
 intro bu M w0 w T hI hR;simp only[ey,Z2,Zn]at bu;have ht:=uA bu.1;have hk:P.underlying kt=some kd:=by have:=bu.2;unfold A6 at this;rw[ht]at this;exact EJ hp this
 obtain⟨v1,cB,e1,h1,bV⟩:=hR.aZ;obtain⟨v2,e2,h2⟩:=bV.cR;subst e2;simp at e1;obtain⟨hM,l,hh,gi,gU⟩:=hI.rh hl;have g1:=h1.qs;have g2:=h2.aC;subst g1 g2;cases o with
 |some v=>obtain⟨j,u,jC,hu⟩:=C7 (M:=M) 0 gi gU hf;refine⟨.value (.tuple #[u,.bool true]),w,M,zW (some v) z,.tuple #[u,.bool true],X,?_,rfl,Mem.le.refl _,hI,R.ue (cs:=[_,_]) (RL.cons hu (RL.cons (.v _) RL.nil)),rfl,rfl⟩;simp only[execOp,e1.1,e1.2,Instr.lookup,Sem.run_bind,aX ht,Result.andThen_ok,getObj,Sem.run,hh,run_checkKey hp hk,Instr.findKey,aX hk,jC,Sem.run_pure];rfl
 |none=>have jC:=Hv (M:=M) 0 gi hf;refine⟨.value (.tuple #[z,.bool false]),w,M,zW none z,.tuple #[z,.bool false],X,?_,rfl,Mem.le.refl _,hI,R.ue (cs:=[_,_]) (RL.cons (.v _) (RL.cons (.v _) RL.nil)),rfl,rfl⟩;simp only[execOp,e1.1,e1.2,Instr.lookup,Sem.run_bind,aX ht,Result.andThen_ok,getObj,Sem.run,hh,run_checkKey hp hk,Instr.findKey,aX hk,jC,Sem.run_pure,hz];rfl
end
theorem Mo{P:Program}[Glob P]{cfg:Nat->Nat}{K:ag->Store->Prop}{E:List PanicEntry->Store->Prop}{X:Store}{l:List CI}{d t:Nat}{xr:XR}{op:aB}{b want:Bool}(hw:b= !want)(k:VX P cfg l K E ((d,.s (.v undef))::xr) X)(hb:lk (den xr) t= .v (.bool b):=by exact rfl):VX P cfg (⟨some d,op,some (t,want)⟩::l) K E xr X:=by constructor;simp only[fb,cE,hb];refine⟨fun e=>?_,fun _=>k.h⟩;grind
theorem VU{P:Program}[Glob P]{cfg:Nat->Nat}{K:ag->Store->Prop}{E:List PanicEntry->Store->Prop}{X:Store}{l:List CI}{d:Nat}{xr:XR}{c a b:Operand}{y:AV}(k:VX P cfg l K E ((d,.s y)::xr) X)(hc:ev (den xr) c= .v (.bool true):=by exact rfl)(hy:ev (den xr) a=y:=by exact rfl):VX P cfg (⟨some d,.pick c a b,none⟩::l) K E xr X:=by constructor;subst hy;simp only[fb,cE,ak,hc];exact k.h
theorem VR{P:Program}[Glob P]{cfg:Nat->Nat}{K:ag->Store->Prop}{E:List PanicEntry->Store->Prop}{X:Store}{l:List CI}{d ah:Nat}{t:TypeId}{xr:XR}{parts:List Operand}{og:Option Bool}{ys:List AV}{ps:List Prop}{rows:List (List AV)}(hc:cfg d=2)(h:wa xr none parts=some (og,ys,ps))(hr:rowsOf ah ys=some rows)(hb:rows.length<=1000000)(aw:OB ps)
  (k:∀b,VX P cfg l K E ((d,.s (.ms d b 0 rows.length rows.length))::xr) ((d,b,.cells rows.flatten)::X)):VX P cfg (⟨some d,.TO t ah parts,none⟩::l) K E xr X:=by
 obtain⟨_,he⟩:=cC h;have cO:=qT h;subst cO;constructor;simp only[fb,cE,ak,he aw rfl,hr,Zm,hc];exact⟨hb,fun b=>(k b).h⟩
theorem J1(d:Nat)(y:AV)(rg:ag)(i:Nat):lk ((d,y)::rg) i=if d=i then y else lk rg i:=by
 simp only[lk];by_cases h:d=i
 .simp_all
 .simp
structure kr(dn:Nat->Bool)(vs:List (Nat×Nat×AV))(rg al:ag):Prop where
 v:∀e∈vs,dn e.1=true->lk al e.2.1=e.2.2
 o:∀i,(∀e∈vs,e.2.1≠i)->lk al i=lk rg i
def gb(dn:Nat->Bool)(x i:Nat):Bool:=i == x||dn i
theorem kr.put{dn:Nat->Bool}{vs:List (Nat×Nat×AV)}{rg al:ag}(h:kr dn vs rg al){x d:Nat}{y:AV}(hm:(x,d,y)∈vs)(hd:∀e∈vs,e.2.1=d->e=(x,d,y))(hx:∀e∈vs,e.1=x->e=(x,d,y)):kr (gb dn x) vs rg ((d,y)::al):=by
 refine⟨fun e he je=>?_,fun i hi=>?_⟩
 .rw[J1];split
  .grind
  .refine h.v e he ?_;simp only[gb,YL,beq_iff_eq]at je;grind
 .rw[J1,Z9 (hi _ hm)];exact h.o i hi
theorem RS{Y:Type}{f:Y->Nat}{l:List Y}(h:(l.map f).Nodup){a b:Y}(ha:a∈l)(hb:b∈l)(e:f a=f b):a=b:=by obtain⟨i,hi,rfl⟩:=Zc ha;obtain⟨j,hj,rfl⟩:=Zc hb;have:=(List.getElem_inj (xs:=l.map f) (i:=i) (j:=j) (h₀:=by grind) (h₁:=by grind) h).1 (by grind);grind
theorem kr.rS{dn:Nat->Bool}{vs:List (Nat×Nat×AV)}{rg al:ag}(h:kr dn vs rg al){x d:Nat}{y:AV}(j:Nat)(hj:vs[j]? =some (x,d,y))(h1:(vs.map (·.1)).Nodup)(h2:(vs.map (·.2.1)).Nodup):kr (gb dn x) vs rg ((d,y)::al):=by have hm:=Y0 hj;exact h.put hm (fun e he h=>RS (f:=fun e=>e.2.1) h2 he hm h) (fun e he h=>RS (f:=fun e=>e.1) h1 he hm h)
theorem kr.all{dn:Nat->Bool}{vs:List (Nat×Nat×AV)}{rg al:ag}(h:kr dn vs rg al)(hd:∀e∈vs,dn e.1=true)(i:Nat):lk (vs.map (·.2)++rg) i=lk al i:=by
 obtain⟨h1,h2⟩:=h;replace h2:=h2 i;revert h1 hd h2
 induction vs with
 |nil=>grind|cons e vs ih=>rw[Zz,ZB,show e.2=(e.2.1,e.2.2)from rfl,J1];grind
theorem kr.skip{dn:Nat->Bool}{vs:List (Nat×Nat×AV)}{rg al:ag}(h:kr dn vs rg al){x:Nat}(hx:∀e∈vs,e.1≠x):kr (gb dn x) vs rg al:=
 ⟨fun e he je=>h.v e he (by
  simp only[gb,YL,beq_iff_eq]at je
  grind),h.o⟩
theorem kr.to{dn:Nat->Bool}{vs vs':List (Nat×Nat×AV)}{rg al:ag}(h:kr dn vs rg al)(h1:∀e∈vs',dn e.1=true->e∈vs)(h2:vs.map (·.2.1)=vs'.map (·.2.1)):kr dn vs' rg al:=
 ⟨fun e he je=>h.v e (h1 e he je) je,fun i hi=>h.o i fun e he=>by
  have:e.2.1∈vs'.map (·.2.1):=by grind
  grind⟩
end Go.Sx
namespace Go.Proofs.YtmemninechdogaaGreatDoor
open _root_.Go.Proofs.Tryz
open Go.Sx Go.Proofs Go.Tb Go.RowKit
def wC(px r o:Nat):List CD:=[.mk 1 ⟨some 10,.cG 0 (.tmp px),none⟩ [],.mk 2 ⟨some 11,.load false 1 (.tmp 10),none⟩ [],.mk 0 ⟨some 9,.call 32 [],none⟩ [],.mk 3 ⟨some 12,.cL (.lookup 91 (.tmp 9) (.tmp 11) true) 90 [.mp 3 89,.int .i64] [.tmp 9,.tmp 11],none⟩ [9],.mk 4 ⟨some 8,.mv (.tmp 12),none⟩ [],.mk 5 ⟨some 13,.extract (.tmp 8) 0,none⟩ [],.mk 6 ⟨some 14,.extract (.tmp 8) 1,none⟩ [],.mk 7 ⟨some r,.alloc 89 (.agg #[.nilFunc,.nilFunc]),none⟩ [],.mk 8 ⟨none,.store 2 (.tmp r) (.tmp 13),none⟩ [r],.mk 9 ⟨some o,.mv (.tmp 14),none⟩ [9]]
def rW(t b0:Nat)(k:Int)(E:AV)(bb:Bool)(r o b9 b6:Nat):List (Nat×Nat×AV):=[(1,10,.lp t b0 0),(2,11,iv k),(0,9,.bJ 9 b9),(3,12,.aG [E,.v (.bool bb)]),(4,8,.aG [E,.v (.bool bb)]),(5,13,E),(6,14,.v (.bool bb)),(7,r,.lp r b6 0),(9,o,.v (.bool bb))]
def jN(r b9 b6:Nat)(es:List AV)(X:Store)(dn:Nat->Bool):Store:=(if dn 7=true then[(r,b6,.cells (if dn 8=true then es else[.v .nilFunc,.v .nilFunc]))]else[])++((if dn 0=true then[(9,b9,.map lB 5)]else[])++X)
theorem aid{l1 l2:List CD}{x:CD}(h:((l1++x::l2).map CD.ix).Nodup):∀a,a∈l1\/a∈l2->a.ix≠x.ix:=by grind
theorem ajg{aq:List Nat}{l A B:List CD}{x:CD}{dn:Nat->Bool}(hl:(l.map CD.ix).Nodup)(h:l.filter (fun c=>!dn c.ix)=A++x::B)(hA:∀a∈A,qX aq a x=true):∃l1 l2,l=l1++x::l2/\dn x.ix=false/\(∀a∈l1,qX aq a x=false->dn a.ix=true)/\l.filter (fun c=>!gb dn x.ix c.ix)=A++B:=by
 obtain⟨m1,m2,rfl,h1,h2⟩:=List.filter_eq_append_iff.1 h;obtain⟨n1,n2,rfl,hn,hx,h3⟩:=List.filter_eq_cons_iff.1 h2;refine⟨m1++n1,n2,by simp,by grind,fun a ha hc=>?_,?_⟩
 .grind
 .have aW:=aid (l1:=m1++n1) (l2:=n2) (x:=x) (by grind);have e:∀(k:List CD),(∀a∈k,a∈m1++n1\/a∈n2)->k.filter (fun c=>!gb dn x.ix c.ix)=k.filter (fun c=>!dn c.ix):=fun k hk=>List.filter_congr fun a ha=>by unfold gb;simp_all
  rw[X0,X0,Xp,e m1 (fun a h=>.inl (by simp[h])),e n1 (fun a h=>.inl (by simp[h])),e n2 (fun a h=>.inr h),h1,h3];rw[show n1.filter (fun c=>!dn c.ix)=[]from Yf.2 fun a ha=>by grind];rw[Z9 (by simp[gb]),Zf]
theorem amH(w:World):(zeroValue 89).run prog w= .ok (.agg #[.nilFunc,.nilFunc]) w:=by simp_all
theorem ajp(X:Store):Sx.Spec prog 32 [] X fun r af=>∃b,r= .ret (.bJ 9 b)/\af=(9,b,.map lB 5)::X:=by refine(ajq X).EK ?_;rintro _ _ ⟨b,rfl,rfl⟩;exact⟨.ret (.bJ 9 b),_,⟨b,rfl,rfl⟩,.aH _ _ _ (.map _ rfl (cj.refl _)) (.refl X),fun M v h=>h.qs ▸ .bJ ..⟩
def fF(t b0:Nat)(k:Int)(E:AV)(bb:Bool)(r o b9 b6:Nat)(rg:ag):ag:=(rW t b0 k E bb r o b9 b6).map (·.2)++rg
theorem ajh{N:Nat}{cfg:Nat->Nat}{Q:Exit->ag->Store->Prop}(px r o:Nat)(hp:(px=3/\r=6/\o=7)\/(px=1/\r=4/\o=5)){k:Int}{E:AV}{bb:Bool}{es:List AV}{oo:Option AV}(hf:fu (.int .i64) (.int .i64 k) lB=some oo)(hg:zW oo (.agg #[.nilFunc,.nilFunc])= .aG [E,.v (.bool bb)])
  (hE:E.cells? =some es) (x5:es.length=2) (h1:es.all AV.one=true) {rg:ag} {X:Store} {t b0:Nat} {rest:List AV} (hx:lk rg px= .lp t b0 0) (hs:aV X t=some (b0,.cells (iv k::rest))) (ht:t=px)
  (h:∀b9 b6,Q .normal (fF t b0 k E bb r o b9 b6 rg) ((r,b6,.cells es)::(9,b9,.map lB 5)::X)):SW prog N (.eR [r] (wC px r o)) Q rg X:=by
 subst ht;have BE:((wC t r o).map CD.ix).Nodup:=by show[1,2,0,3,4,5,6,7,8,9].Nodup;decide
 refine Me cfg (fun L al Z=>∃dn b9 b6,L=(wC t r o).filter (fun c=>!dn c.ix)/\kr dn (rW t b0 k E bb r o b9 b6) rg al/\cK Z (jN r b9 b6 es X dn)/\(dn 8=true->dn 7=true)) (fun _=>?_) (fun al Z JI=>?_) fun A x B al Z ho hA JI=>?_
 .exact⟨fun _=>false,0,0,rfl,⟨fun _ _ h=>(by cases h),fun _ _=>rfl⟩,cK.refl _,fun h=>(by cases h)⟩
 .obtain⟨dn,b9,b6,hL,hD,hS,_⟩:=JI;have bW:∀c∈wC t r o,dn c.ix=true:=fun c hc=>by simp_all
  have hd:∀i,i<10->dn i=true:=fun i hi=>by
   have Di:i∈(wC t r o).map CD.ix:=by show i∈[1,2,0,3,4,5,6,7,8,9];simp only[ZR,Yj,or_false];omega
   obtain⟨c,hc,rfl⟩:=Ze.1 Di;exact bW c hc
  have h2:=h b9 b6;refine⟨_,_,fun i=>hD.all (fun e he=>hd _ ?_) i,?_,h2⟩
  .have tu:e.1∈[1,2,0,3,4,5,6,7,9]:=(Ze (f:=fun e:Nat×Nat×AV=>e.1)).2 ⟨e,he,rfl⟩;simp only[ZR,Yj,or_false]at tu;omega
  .have:jN r b9 b6 es X dn=(r,b6,.cells es)::(9,b9,.map lB 5)::X:=by unfold jN;rw[Z3 (hd 7 (by decide)),Z3 (hd 8 (by decide)),Z3 (hd 0 (by decide))];rfl
   rw[<-this];exact hS.symm
 .obtain⟨dn,b9,b6,hL,hD,hS,OI⟩:=JI;obtain⟨l1,l2,e,DH,mR,gE⟩:=ajg BE hL.symm hA;have n1:∀b9 b6,((rW t b0 k E bb r o b9 b6).map (·.1)).Nodup:=fun _ _=>by show[1,2,0,3,4,5,6,7,9].Nodup;decide
  have n2:∀b9 b6,((rW t b0 k E bb r o b9 b6).map (·.2.1)).Nodup:=fun _ _=>by
   rcases hp with⟨rfl,rfl,rfl⟩|⟨rfl,rfl,rfl⟩
   .show[10,11,9,12,8,13,14,6,7].Nodup;decide
   .show[10,11,9,12,8,13,14,4,5].Nodup;decide
  have hpx:lk al t= .lp t b0 0:=(hD.o t fun e he=>by
   have tu:e.2.1∈[10,11,9,12,8,13,14,r,o]:=(Ze (f:=fun e:Nat×Nat×AV=>e.2.1)).2 ⟨e,he,rfl⟩
   simp only[ZR,Yj,or_false]at tu;omega).trans hx
  have sk:∀{j:Nat} {x d:Nat} {y:AV},(rW t b0 k E bb r o b9 b6)[j]? =some (x,d,y)->dn x=true->lk al d=y:=fun hj hd=>hD.v _ (Y0 hj) hd;have PI:r≠9:=by omega
  have hrt:r≠t:=by omega
  have ht9:(9:Nat)≠t:=by omega
  refine⟨al,jN r b9 b6 es X dn,fun _=>rfl,hS.symm,?_⟩;have fD:aV (jN r b9 b6 es X dn) t=some (b0,.cells (iv k::rest)):=by unfold jN;rcases Xl (dn 7)with h7|h7<;>rcases Xl (dn 0)with h0|h0<;>simp only[h7,h0,YK,ZT,YU,Zf,ZB,nO,Z9 hrt,Z9 ht9,hs]
  have hP:∀i,gb dn i 8=true->(i=8->dn 7=true)->gb dn i 7=true:=fun i h h'=>by
   unfold gb at*;simp only[YL,beq_iff_eq]at*;rcases h with h|h
   .exact .inr (h' h.symm)
   .exact .inr (OI h)
  have sS:∀i,i≠7->i≠8->i≠0->jN r b9 b6 es X (gb dn i)=jN r b9 b6 es X dn:=fun i h7 h8 h0=>by unfold jN gb;rw[show((7:Nat) == i)=false by simpa using h7.symm,show((8:Nat) == i)=false by simpa using h8.symm,show((0:Nat) == i)=false by simpa using h0.symm];rfl
  unfold wC at e;rcases l1 with _|⟨a1,_|⟨a2,_|⟨a3,_|⟨a4,_|⟨a5,_|⟨a6,_|⟨a7,_|⟨a8,_|⟨a9,_|⟨a10,l1⟩⟩⟩⟩⟩⟩⟩⟩⟩⟩
  all_goals simp only[Zf,ZB,Z2,reduceCtorEq,and_false,Xr]at e
  .obtain⟨rfl,_⟩:=e;simp only[cE,ak,ev,hpx];exact⟨_,b9,b6,gE.symm,hD.rS 0 rfl (n1 _ _) (n2 _ _),by rw[sS 1 (by decide) (by decide) (by decide)];exact cK.refl _,fun h=>hP _ h (fun h=>by cases h)⟩
  .obtain⟨rfl,rfl,_⟩:=e;have h1:dn 1=true:=mR _ (Y0 (i:=0) rfl) rfl;simp only[cE,ak,ev,sk (j:=0) rfl h1,fD];exact⟨trivial,_,b9,b6,gE.symm,hD.rS 1 rfl (n1 _ _) (n2 _ _),by rw[sS 2 (by decide) (by decide) (by decide)];exact cK.refl _,fun h=>hP _ h (fun h=>by cases h)⟩
  .obtain⟨rfl,rfl,rfl,_⟩:=e;simp only[cE,ak];refine⟨_,ajp _,?_,fun ch af ⟨_,h,_⟩=>by cases h⟩;rintro _ _ ⟨b,h,rfl⟩;cases h;refine⟨_,b,b6,gE.symm,(hD.to (vs':=rW t b0 k E bb r o b b6) (fun e he hd=>?_) rfl).rS 2 rfl (n1 _ _) (n2 _ _),?_,fun h=>hP _ h (fun h=>by cases h)⟩
   .simp only[rW,ZR,Yj,or_false]at he|-;rcases he with rfl|rfl|rfl|rfl|rfl|rfl|rfl|rfl|rfl
    case inr.inr.inl=>exact absurd (DH.symm.trans hd) (by decide)
    all_goals simp
   .have e7:gb dn 0 7=dn 7:=rfl;have e8:gb dn 0 8=dn 8:=rfl;have e0:gb dn 0 0=true:=rfl;have h0:dn 0=false:=DH;unfold jN;simp only[e7,e8,e0,h0,YK,ZT,YU,Zf];rcases Xl (dn 7)with h7|h7
    .simp only[h7,YK,ZB,Zf];exact cK.swap (Ne.symm PI) _
    .simp only[h7,ZT,YU,Zf,ZB];exact cK.refl _
  .obtain⟨rfl,rfl,rfl,rfl,_⟩:=e;have h2:dn 2=true:=mR _ (Y0 (i:=1) rfl) rfl;have h0:dn 0=true:=mR _ (Y0 (i:=2) rfl) rfl;have hl9:aV (jN r b9 b6 es X dn) 9=some (b9,.map lB 5):=by unfold jN;rcases Xl (dn 7)with h7|h7<;>simp only[h7,h0,YK,ZT,YU,Zf,ZB,nO,Z9 PI]
   simp only[cE,ak,aL,Zz,YJ,ev,sk (j:=2) rfl h0,sk (j:=1) rfl h2];refine(Vj amH rfl hl9 hf).mono fun y s ⟨e1,e2⟩=>?_;subst e1 e2;rw[hg];exact⟨_,b9,b6,gE.symm,hD.rS 3 rfl (n1 _ _) (n2 _ _),by rw[sS 3 (by decide) (by decide) (by decide)];exact cK.refl _,fun h=>hP _ h (fun h=>by cases h)⟩
  .obtain⟨rfl,rfl,rfl,rfl,rfl,_⟩:=e;have h3:dn 3=true:=mR _ (Y0 (i:=3) rfl) rfl;simp only[cE,ak,ev,sk (j:=3) rfl h3];exact⟨_,b9,b6,gE.symm,hD.rS 4 rfl (n1 _ _) (n2 _ _),by rw[sS 4 (by decide) (by decide) (by decide)];exact cK.refl _,fun h=>hP _ h (fun h=>by cases h)⟩
  .obtain⟨rfl,rfl,rfl,rfl,rfl,rfl,_⟩:=e;have h4:dn 4=true:=mR _ (Y0 (i:=4) rfl) rfl;simp only[cE,ak,ev,sk (j:=4) rfl h4];exact⟨_,b9,b6,gE.symm,hD.rS 5 rfl (n1 _ _) (n2 _ _),by rw[sS 5 (by decide) (by decide) (by decide)];exact cK.refl _,fun h=>hP _ h (fun h=>by cases h)⟩
  .obtain⟨rfl,rfl,rfl,rfl,rfl,rfl,rfl,_⟩:=e;have h4:dn 4=true:=mR _ (Y0 (i:=4) rfl) rfl;simp only[cE,ak,ev,sk (j:=4) rfl h4];exact⟨_,b9,b6,gE.symm,hD.rS 6 rfl (n1 _ _) (n2 _ _),by rw[sS 6 (by decide) (by decide) (by decide)];exact cK.refl _,fun h=>hP _ h (fun h=>by cases h)⟩
  .obtain⟨rfl,rfl,rfl,rfl,rfl,rfl,rfl,rfl,_⟩:=e;have h7:dn 7=false:=DH;simp only[cE,ak];intro b;refine⟨_,b9,b,gE.symm,(hD.to (vs':=rW t b0 k E bb r o b9 b) (fun e he hd=>?_) rfl).rS 7 rfl (n1 _ _) (n2 _ _),?_,fun _=>rfl⟩
   .simp only[rW,ZR,Yj,or_false]at he|-;rcases he with rfl|rfl|rfl|rfl|rfl|rfl|rfl|rfl|rfl
    case inr.inr.inr.inr.inr.inr.inr.inl=>exact absurd (h7.symm.trans hd) (by decide)
    all_goals simp
   .have e8:gb dn 7 8=false:=by
     show((8:Nat) == 7||dn 8)=false;cases h8:dn 8 with
     |true=>rw[OI h8]at h7;cases h7|false=>rfl
    have e0:gb dn 7 0=dn 0:=rfl;have e7:gb dn 7 7=true:=rfl;unfold jN;simp only[e7,e8,e0,h7,YK,ZT,YU,Zf,ZB];exact cK.refl _
  .obtain⟨rfl,rfl,rfl,rfl,rfl,rfl,rfl,rfl,rfl,_⟩:=e;have h5:dn 5=true:=mR _ (Y0 (i:=5) rfl) (by rcases hp with⟨rfl,rfl,rfl⟩|⟨rfl,rfl,rfl⟩<;>rfl);have h7:dn 7=true:=mR _ (Y0 (i:=7) rfl) (by rcases hp with⟨rfl,rfl,rfl⟩|⟨rfl,rfl,rfl⟩<;>rfl);have h8:dn 8=false:=DH;have vq:jN r b9 b6 es X dn=(r,b6,.cells [.v .nilFunc,.v .nilFunc])::((if dn 0=true then[(9,b9,.map lB 5)]else[])++X):=by
    unfold jN;simp only[h7,h8,YK,ZT,YU,ZB,Zf]
   have vr:jN r b9 b6 es X (gb dn 8)=(r,b6,.cells es)::((if dn 0=true then[(9,b9,.map lB 5)]else[])++X):=by have e7:gb dn 8 7=dn 7:=rfl;have e8:gb dn 8 8=true:=rfl;have e0:gb dn 8 0=dn 0:=rfl;unfold jN;simp only[e7,e8,e0,h7,YK,ZB,Zf]
   simp only[cE,ak,ev,sk (j:=7) rfl h7,sk (j:=5) rfl h5,hE,vq,nO,YK];obtain⟨u,v,rfl⟩:∃u v,es=[u,v]:=by match es,x5 with|[u,v],_=>exact⟨u,v,rfl⟩
   refine⟨trivial,rfl,h1,by decide,_,b9,b6,gE.symm,hD.skip fun e he h8=>?_,?_,fun h=>hP _ h (fun _=>h7)⟩
   .have tu:e.1∈[1,2,0,3,4,5,6,7,9]:=(Ze (f:=fun e:Nat×Nat×AV=>e.1)).2 ⟨e,he,rfl⟩;have h8:e.1=8:=h8;simp only[ZR,Yj,or_false]at tu;omega
   .rw[vr];simp only[du,Yv,Y8];exact cK.refl _
  .obtain⟨rfl,rfl,rfl,rfl,rfl,rfl,rfl,rfl,rfl,rfl,_⟩:=e;have h6:dn 6=true:=mR _ (Y0 (i:=6) rfl) (by rcases hp with⟨rfl,rfl,rfl⟩|⟨rfl,rfl,rfl⟩<;>rfl);simp only[cE,ak,ev,sk (j:=6) rfl h6];exact⟨_,b9,b6,gE.symm,hD.rS 8 rfl (n1 _ _) (n2 _ _),by rw[sS 9 (by decide) (by decide) (by decide)];exact cK.refl _,fun h=>hP _ h (fun h=>by cases h)⟩
  .simp at e
theorem Gs{N:Nat}{cfg:Nat->Nat}{Q:Exit->ag->Store->Prop}{kf:List Fr}(px r o:Nat)(hp:(px=3/\r=6/\o=7)\/(px=1/\r=4/\o=5)){k:Int}{E:AV}{bb:Bool}{es:List AV}{oo:Option AV}(hf:fu (.int .i64) (.int .i64 k) lB=some oo)(hg:zW oo (.agg #[.nilFunc,.nilFunc])= .aG [E,.v (.bool bb)])
  (hE:E.cells? =some es) (x5:es.length=2) (h1:es.all AV.one=true) {rg:ag} {X:Store} {t b0:Nat} {rest:List AV} (hx:lk rg px= .lp t b0 0) (hs:aV X t=some (b0,.cells (iv k::rest))) (ht:t=px)
  (h:∀b9 b6,FK prog N cfg Q .normal kf (fF t b0 k E bb r o b9 b6 rg) ((r,b6,.cells es)::(9,b9,.map lB 5)::X)):WK prog N cfg Q (.eR [r] (wC px r o)) kf rg X:=
 ⟨WA.mono (Q:=fun e=>FK prog N cfg Q e kf) ⟨rfl,ajh (cfg:=cfg) px r o hp hf hg hE x5 h1 hx hs ht h⟩ fun _ _ _ h=>h.h⟩
theorem ac0{k:Int}(h1:k≠1)(h2:k≠2)(h3:k≠3)(h4:k≠4)(h5:k≠5):fu (.int .i64) (.int .i64 k) lB=some none:=by
 have e:∀j:Int,k≠j->Instr.sameNow (.int .i64) (.int .i64 k) (.int .i64 j)=some false:=fun j h=>by show some (decide (k=j))=_;grind
 simp only[fu,lB,e 1 h1,e 2 h2,e 3 h3,e 4 h4,e 5 h5]
end Go.Proofs.YtmemninechdogaaGreatDoor
namespace Go.Proofs.YtmemninechdogaaGreatDoor
open Go.Sx Go.Proofs Go.Tb
theorem yv{Y:Type}{l:List Y}{k:Nat}{x y:Y}(h:y∈jL l k x):y=x\/y∈l:=by
 unfold jL at h;rw[ZI,ZR]at h;rcases h with h|h|h
 .grind
 .grind
 grind
theorem xm{Y:Type}{l:List Y}{k:Nat}{y:Y}(h:y∈mE l k):y∈l:=by unfold mE at h;grind
theorem Bo{Y:Type}{l:List Y}{k:Nat}{x:Y}:(jL l k x).length=l.length+1:=by unfold jL;simp;omega
theorem zE{Y:Type}{l:List Y}{k:Nat}:(mE l k).length<=l.length:=by unfold mE;simp;omega
theorem aaX{c:ay}{x:dY}{f:aj}(h:f∈(dZ c x).1.all):f∈c.all\/∃v,f=x.feature.gL v:=by
 unfold ay.all at*;simp only[ZI]at*;unfold dZ at h;split at h
 .unfold xa at h;grind
 split at h
 .unfold nY at h;split at h
  .grind
  split at h
  .grind
  split at h
  .grind
  split at h
  .grind
  rcases h with(h|h)|h
  .grind
  .rcases yv h with h|h
   .grind
   grind
  grind
 refine .inl ?_;split at h
 .unfold xp at h;split at h
  .exact h
  rename_i h1;have hd:=bN (JJ (l:=c.aD) (n:=x.name) (by omega)).1;split at h
  .rename_i h2;have hf:=bN (JJ h2).1;rcases h with(h|h)|h
   .rcases yv h with h|h
    .grind
    .exact .inl (.inl (xm h))
   .exact .inl (.inr (xm h))
   .rcases yv h with h|h
    .subst h;exact .inl (.inl hf)
    .exact .inr h
  .rcases h with(h|h)|h
   .rcases yv h with h|h
    .subst h;exact .inl (.inr hd)
    .exact .inl (.inl h)
   .exact .inl (.inr (xm h))
   .exact .inr h
 split at h
 .unfold yB at h;split at h
  .exact h
  rename_i h1;have hf:=bN (JJ (l:=c.features) (n:=x.name) (by omega)).1;split at h
  .exact h
  rename_i h2;have hp:=bN (A8 (l:=c.past) (n:=x.name) fun h=>h2 (.inl h)).1;rcases h with(h|h)|h
  .rcases yv h with h|h
   .subst h;exact .inr hp
   .exact .inl (.inl (xm h))
  .rcases yv h with h|h
   .subst h;exact .inl (.inl hf)
   .exact .inl (.inr h)
  .exact .inr (xm h)
 .unfold s9 at h;split at h
  .exact h
  rcases h with(h|h)|h
  .exact .inl (.inl h)
  .exact .inl (.inr (xm h))
  .exact .inr h
structure FB(f:aj):Prop where
 s:f.body.size<=1000
 n:f.name.size<=2^60
 w:f.body.wt<=2^60
structure CB(n:Nat)(c:ay):Prop where
 t:c.tables.length<=n
 f:c.features.length<=n
 d:c.aD.length<=n
 p:c.past.length<=n
 b:∀f∈c.all,FB f
theorem FB.v{f:aj}(h:FB f)(v:Int):FB (f.gL v):=⟨h.s,h.n,h.w⟩
theorem CB.change{n:Nat}{c:ay}{x:dY}(h:CB n c)(hx:FB x.feature):CB (n+1) (dZ c x).1:=by
 have hb:∀f∈(dZ c x).1.all,FB f:=fun f hf=>by
  rcases aaX hf with h1|⟨v,rfl⟩
  .exact h.b f h1
  .exact hx.v v
 obtain⟨h1,h2,h3,h4,_⟩:=h;have l1:(dZ c x).1.tables.length<=n+1/\(dZ c x).1.features.length<=n+1/\(dZ c x).1.aD.length<=n+1/\(dZ c x).1.past.length<=n+1:=by
  unfold dZ;split
  .unfold xa;split<;>simp only[Bo]<;>omega
  split
  .unfold nY;repeat' split
   all_goals simp only[iW,Bo];omega
  split
  .unfold xp;have e1:=fun k=>zE (l:=c.aD) (k:=k);have e2:=fun k=>zE (l:=c.features) (k:=k);repeat' split
   .grind
   .simp only[iW,Bo];grind
   .simp only[iW,Bo];grind
  split
  .unfold yB;have e1:=fun k=>zE (l:=c.past) (k:=k);have e2:=fun k=>zE (l:=c.features) (k:=k);repeat' split
   .refine⟨?_,?_,?_,?_⟩<;>dsimp only<;>omega
   .refine⟨?_,?_,?_,?_⟩<;>dsimp only<;>omega
   .simp only[iW,Bo];exact⟨by omega,by have:=e2 (dN c.features x.name).toNat;omega,by omega,by have:=e1 (gn x.name c.past 0 (-1)).toNat;omega⟩
  .unfold s9;have e1:=fun k=>zE (l:=c.aD) (k:=k);repeat' split
   .refine⟨?_,?_,?_,?_⟩<;>dsimp only<;>omega
   .dsimp only;exact⟨by omega,by omega,by have:=e1 (dN c.aD x.name).toNat;omega,by omega⟩
 exact⟨l1.1,l1.2.1,l1.2.2.1,l1.2.2.2,hb⟩
theorem CB.fit{n:Nat}{c:ay}(h:CB n c)(hn:n<=100000):wT c.features:=by
 have hm:(2:Nat)^60<=maxLen:=by unfold maxLen;grind
 have hb:∀f∈c.features,FB f:=fun f hf=>h.b f (by unfold ay.all;grind);refine⟨fun f hf=>?_,fun f hf=>ZD (hb f hf).n hm,by have:=h.f;omega⟩;have h1:=(hb f hf).s;have h2:=zM f.body;have h3:=(hb f hf).w;exact⟨by omega,by omega,fun s h=>by have:=LN _ s (.inl h);omega,fun s h=>by have:=LN _ s (.inr h);omega⟩
end Go.Proofs.YtmemninechdogaaGreatDoor
namespace Go.Proofs.YtmemninechdogaaGreatDoor
open _root_.Go.Proofs.Tryz
open Go.Sx Go.Proofs Go.Tb Go.RowKit
theorem zr(c:ay)(x:dY)(fa fp:Nat)(pr:Prop)[Decidable pr](d:ay)(e:Int)(Ja:im prog fa=true)(ry:im prog fp=true)(hf:fu (.int .i64) (.int .i64 x.kind) lB=some (some (.agg [lN fa,lN fp])))
  (hP:Pure prog fp [.agg x.cells] (.v (.bool (decide pr)))) (hA:Pure prog fa [.agg c.cells,.agg x.cells] (cZ (d,e))) (hC:Pure prog 33 [.agg d.cells] (iv (iI d))):
  Pure prog 9 [.agg c.cells,.agg x.cells] (cZ (if¬pr then(ga,1)else if e≠0 then(ga,e)else if iI d≠0 then(ga,iI d)else(d,0))):=by
 refine k9.p fun X=>?_;repeat'((fail_if_success (show WK _ _ _ _ (.eR _ _) _ _ _));(first|exact .nil|refine .k ?_|refine .r1 ?_ ?_|refine .l1 fun b=>?_|(refine .m1 ?_ ?_;intro b)|fail))
 refine Gs 3 6 7 (bb:=true) (.inl ⟨rfl,rfl,rfl⟩) hf rfl rfl rfl rfl rfl rfl rfl fun b9 b6=>?_;repeat'(first|exact .nil|refine .k ?_|refine .r1 ?_ ?_|fail)
 all_goals(try simp only[BL]at*)
 refine w8 (by rfl) rfl ry (fun _=>hP) ?_ ?_
 .exact .cons (fun _=>rfl) (.cons (fun _=>rfl) .nil)
 repeat'(first|exact .nil|refine .k ?_|(refine .cd ?_ ?_<;>intro hc)|refine .r1 ?_ ?_|fail)
 all_goals(try simp only[BL]at*)
 .rw[Z3 (by simpa using hc)];exact Zw
 rw[Z9 (by simpa using hc)];by_cases he:e=0
 .rw[Z9 (by simpa using he)];by_cases DC:iI d=0
  .rw[Z9 (by simpa using DC)];refine w8 (by rfl) rfl Ja (fun _=>hA) .nil ?_;repeat'(first|exact .nil|refine .k ?_|(refine .cd ?_ ?_<;>intro hc)|refine .r1 ?_ ?_|refine .an rfl (by intro ar;exact hC) ?_ ?_|fail)
   all_goals(try simp only[BL]at*)
   all_goals first|(exfalso;contradiction)|(refine Sx.Fin.wk Zs ?_;repeat' first|exact .refl _|fail)
  .rw[Z3 (by simpa using DC)];refine w8 (by rfl) rfl Ja (fun _=>hA) .nil ?_;repeat'(first|exact .nil|refine .k ?_|(refine .cd ?_ ?_<;>intro hc)|refine .r1 ?_ ?_|refine .an rfl (by intro ar;exact hC) ?_ ?_|fail)
   all_goals(try simp only[BL]at*)
   all_goals first|(exfalso;contradiction)|(refine Sx.Fin.wk Zs ?_;repeat' first|exact .refl _|exact .nil|refine .cons ?_ ?_|refine .aG ?_|refine .agg ?_|fail)
 .rw[Z3 (by simpa using he)];refine w8 (by rfl) rfl Ja (fun _=>hA) .nil ?_;repeat'(first|exact .nil|refine .k ?_|(refine .cd ?_ ?_<;>intro hc)|refine .r1 ?_ ?_|refine .an rfl (by intro ar;exact hC) ?_ ?_|fail)
  all_goals(try simp only[BL]at*)
  all_goals first|(exfalso;contradiction)|(refine Sx.Fin.wk Zs ?_;repeat' first|exact .refl _|exact .nil|refine .cons ?_ ?_|refine .aG ?_|refine .agg ?_|fail)
theorem aap(c:ay)(x:dY)(hf:fu (.int .i64) (.int .i64 x.kind) lB=some none):Pure prog 9 [.agg c.cells,.agg x.cells] (cZ (ga,1)):=by
 refine k9.p fun X=>?_;repeat'((fail_if_success (show WK _ _ _ _ (.eR _ _) _ _ _));(first|exact .nil|refine .k ?_|refine .r1 ?_ ?_|refine .l1 fun b=>?_|(refine .m1 ?_ ?_;intro b)|fail))
 refine Gs 3 6 7 (bb:=false) (E:=.v (.agg #[.nilFunc,.nilFunc])) (.inl ⟨rfl,rfl,rfl⟩) hf rfl rfl rfl rfl rfl rfl rfl fun b9 b6=>?_;repeat'(first|exact .nil|refine .k ?_|grind|refine .r1 ?_ ?_|fail)
 all_goals(simp_all)
 refine Mo (b:=true) rfl (Mo (b:=true) rfl (VU (y:=.v (.bool true)) ?_));repeat'(first|exact .nil|refine .k ?_|(refine .cd ?_ ?_<;>first|with_reducible exact tF|(intro hc;skip))|refine .r1 ?_ ?_|fail)
 all_goals(try simp only[BL]at*)
 exact Zw
theorem Cu(hT:mA)(hO:mz)(c:ay)(x:dY)(n:Nat)(hn:n<=90000)(hc:CB n c)(hx:FB x.feature):Pure prog 9 [.agg c.cells,.agg x.cells] (cZ (cV c x)):=by
 have hb:=hc.change hx;have hC:=aaY hT hO (dZ c x).1 (fun f hf=>ZD (hb.b f hf).s (by decide)) (hb.fit (by omega)) (by have:=hb.t;omega);have ht:=hc.t;have hf:=hc.f;have hd:=hc.d;have hp:=hc.p;unfold cV;by_cases h1:x.kind=1
 .have e:dZ c x=xa c x.table:=Z3 h1;have:=zr c x _ _ _ _ _ rfl rfl (by rw[h1];rfl) (Su x) (WZ c x (by omega)) (by rw[e]at hC;exact hC);simp only[e,nX,Z3 h1];exact this
 by_cases h2:x.kind=2
 .have e:dZ c x=nY c x.feature:=(Z9 h1).trans (Z3 h2);have:=zr c x _ _ _ _ _ rfl rfl (by rw[h2];rfl) (aiJ x) (aiO hT hO c x (ZD hx.s (by decide)) (by omega) (by omega) (by omega)) (by rw[e]at hC;exact hC);simp only[e,nX,Z9 h1,Z3 h2];exact this
 by_cases h3:x.kind=3
 .have e:dZ c x=xp c x.name:=(Z9 h1).trans ((Z9 h2).trans (Z3 h3));have:=zr c x _ _ _ _ _ rfl rfl (by rw[h3];rfl) (Ks x) (ab7 c x (by omega) (by omega) (by omega)) (by rw[e]at hC;exact hC);simp only[e,nX,Z9 h1,Z9 h2,h3,true_or,Yg];exact this
 by_cases h4:x.kind=4
 .have e:dZ c x=yB c x.name:=(Z9 h1).trans ((Z9 h2).trans ((Z9 h3).trans (Z3 h4)));have:=zr c x _ _ _ _ _ rfl rfl (by rw[h4];rfl) (Ks x) (ajj c x (by omega) (by omega) (by omega)) (by rw[e]at hC;exact hC);simp only[e,nX,Z9 h1,Z9 h2,h4,true_or,or_true,Yg];exact this
 by_cases h5:x.kind=5
 .have e:dZ c x=s9 c x.name:=(Z9 h1).trans ((Z9 h2).trans ((Z9 h3).trans (Z9 h4)));have:=zr c x _ _ _ _ _ rfl rfl (by rw[h5];rfl) (Ks x) (ab6 c x (by omega)) (by rw[e]at hC;exact hC);simp only[e,nX,Z9 h1,Z9 h2,h5,or_true,Yg];exact this
 .rw[Z3 (by unfold nX;simp[h1,h2,h3,h4,h5])];exact aap c x (ac0 h1 h2 h3 h4 h5)
