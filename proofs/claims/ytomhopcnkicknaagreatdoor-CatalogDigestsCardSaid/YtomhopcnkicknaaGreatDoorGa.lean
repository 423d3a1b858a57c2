/- The layer: slices made, slices laid for good; a slice of one's own whose rows are weakened. -/
import Derived.Test.YtomhopcnkicknaaGreatDoorFb
import Derived.Laws.MakeOwn
set_option linter.unusedSimpArgs false
set_option linter.unusedVariables false
set_option linter.unusedSectionVars false
namespace Go.Sx
open Go.RowKit Go.Proofs
theorem Wk.ahl{ez t t' b u c:Nat}{rows rows':List (List AV)}(h:jG rows rows'):Wk (.own ez t b u c rows) (.own ez t' b u c rows'):=fun M v hv=>by
 obtain⟨hl,hg⟩:=h.get
 cases hv with
 |own _ _ _ _ _ _ off cap cs bC hM hR hc hm hu he=>
  rw[hl]
  refine .own _ _ _ _ _ _ off cap cs (fun i hi=> ?_) (fun k hk=>hM k (by rw[hl];exact hk)) (fun i hi j hj=> ?_) (by omega) hm (by rw[← hl];exact hu) he
  ·have:=(hg i (by omega) hi).get.1
   rw[← this];exact bC i (by omega)
  ·have tA:=(hg i (by omega) hi).get
   have:=hR i (by omega) j (by rw[tA.1];exact hj)
   exact tA.2 j (by rw[tA.1];exact hj) hj M _ this
theorem jG.refl:∀ l:List (List AV),jG l l
 |[]=> .nil
 |x::l=> .cons (.refl x) (.refl l)
theorem jG.app{a b c d:List (List AV)}(h:jG a b)(k:jG c d):jG (a++c) (b++d):=by
 induction h with
 |nil=>exact k
 |cons h _ ih=>exact .cons h ih
section
variable {P:Program}[Glob P]{M:Mem}{w0:Base}{w:World}{σ:Store}
theorem SG(tag:Nat){t ty e:TypeId}{q:TI}{l c:Operand}{i:TypeInfo}{z z0:Value}{n:Nat}(hi:P.info? e=some i)(hz:i.zero=some z)(cj:z.cells= #[z0])(bC:i.size=1)(hn:i.bytes * n≤281474976710656)(FD:n≤maxLen):
  jf P (.makeSlice t l c) ty [.sl e,q] [l,c] [.v (.int .i64 n),.v (.int .i64 n)] σ fun x af=>∃ b,x= .ms tag b 0 n n∧af=(tag,b,.cells (List.replicate n (.v z0)))::σ:=by
 intro db M w0 w ρ hI hR
 simp only[fq,ZS,Zk]at db
 have ht:=IZ db.1
 obtain⟨v1,dI,e1,h1,fh⟩:=hR.bL
 obtain⟨v2,e2,h2⟩:=fh.eJ
 subst e2
 simp only[ZC,Y5,ZS,Zk]at e1
 have g1:=h1.aC
 have g2:=h2.aC
 subst g1 g2
 have iS:(i.bytes:Int) * (n:Int)≤281474976710656:=by
  have h:((i.bytes * n:Nat):Int)≤281474976710656:=by omega
  rwa [Int.natCast_mul]at h
 have hr:=run_make (P:=P) w t e i z ht hi hz .i64 .i64 n n (by omega) (Int.le_refl _) iS (by unfold maxLen at FD;omega)
 rw[cj,bC,YJ,YO]at hr
 have hm:(madeCells #[z0] n).toList=List.replicate n z0:=by
  simp only[madeCells,Array.toList_map,Array.toList_range]
  refine Ys (by simp) fun j h1 h2=> ?_
  simp[Nat.mod_one]
 refine⟨.value (.slice (some ⟨w.heap.size,0,none⟩) n n),w.alloc (.cells (madeCells #[z0] n) e),M,.ms tag w.heap.size 0 n n,_,_,?_,rfl,Mem.le.refl _,?_,.ms _ _ _ _ _,_,rfl,rfl⟩
 ·simp only[execOp,e1.1,e1.2,Sem.run_bind,hr,Result.andThen_ok]
  rfl
 ·have h':=hI.alloc (.cells (madeCells #[z0] n) e)
  refine⟨h'.os,h'.tape,h'.output,h'.size,h'.old,h'.cQ,fun x he=> ?_,?_,h'.gl,h'.gw,h'.bm⟩
  ·rcases ZQ.1 he with rfl|he
   ·refine⟨hI.size,hI.BJ,madeCells #[z0] n,e,heap_alloc_new _ _,?_⟩
    rw[hm]
    have:=RL.exact (M:=M) (List.replicate n z0)
    rwa [List.map_replicate]at this
   ·exact h'.st x he
  ·simp only[ZC,YX]
   exact⟨hI.fresh,hI.nd⟩
theorem Inv.freeze{t b:Nat}{xs:List AV}(hI:Inv P M w0 ((t,b,.cells xs)::σ) w):∃ (M':Mem) (vs:List Value),M.le M'∧Inv P M' w0 σ w∧RL M' xs vs∧∀ k (h:k<vs.length),M' b k=some vs[k]:=by
 obtain⟨bC,hn,cs,ty,hh,hR⟩:=hI.st _ (Zv)
 have hnd:=hI.nd
 simp only[ZC,YX]at hnd
 let M':Mem:=fun b' o=>if b'=b then cs[o]? else M b' o
 have hle:M.le M':=fun b' o v h=>by
  grind
 refine⟨M',cs.toList,hle,⟨hI.os,hI.tape,hI.output,hI.size,hI.old,fun b' o v h=> ?_,fun e he=>⟨(hI.st e (ZL _ he)).1,?_⟩,hnd.2,fun g l e=>(hI.gl g l e).mono hle,hI.gw,fun b' o v hv ax=>hI.bm b' o v (by grind) ax⟩,hR.mono hle,fun k h=> ?_⟩
 ·by_cases e:b'=b
  ·subst e
   have h2:cs[o]? =some v:=by grind
   show w.cell? _=_
   simp[World.cell?,hh,h2]
  ·exact hI.cQ b' o v (by grind)
 ·obtain⟨tg,b2,x⟩:=e
  have hk:=(hI.st _ (ZL _ he)).2
  have bB:b2≠b:=fun e=>hnd.1 (e ▸ Yz (f:=fun x:Nat×Nat×aG=>x.2.1) he)
  cases x with
  |cells l=>obtain⟨h1,cs',t',h2,h3⟩:=hk;exact⟨fun o=>by grind,cs',t',h2,h3.mono hle⟩
  |tail u' c=>obtain⟨h1,cs',t',h2,h3⟩:=hk;exact⟨fun o ho=>by grind,cs',t',h2,h3⟩
  |map es k=>obtain⟨h1,l,h2,h3,h4⟩:=hk;exact⟨fun o=>by grind,l,h2,h3,h4.mono hle⟩
 grind
theorem Spec.Fl{f:FuncId}{ys xs:List AV}(h:Spec P f ys σ fun r af=>∃ t b,r= .ret (.ms t b 0 xs.length xs.length)∧Sub ((t,b,.cells xs)::σ) af)(hl:xs.length≤maxLen):Spec P f ys σ fun r af=>r= .ret (.sl false 1 (xs.map fun x=>[x]))∧af=σ:=by
 intro M w0 w cs hI hR
 refine(h M w0 w cs hI hR).mono fun e w' ⟨M',r,af,hM,aS,hr,t,b,e1,e2⟩=> ?_
 subst e1
 obtain⟨M2,vs,hM2,s9,gP,hc⟩:=(aS.sub e2).freeze
 refine⟨M2,_,_,hM.trans hM2,s9,?_,rfl,rfl⟩
 cases e with
 |returned v=>
  have hv:R M' (.ms t b 0 xs.length xs.length) v:=hr
  cases hv
  have key:R M2 (.sl false 1 (xs.map fun x=>[x])) (.slice (some ⟨b,0,none⟩) (xs.map fun x=>[x]).length xs.length):=by
   refine .sl _ _ _ b 0 _ (fun k=>vs.getD k default) (fun i hi=>by rw[ZF];rfl) (fun k hk=> ?_) (fun i hi j hj=> ?_) (by rw[Z7];exact ZR _) hl
   ·have cN:k<vs.length:=by rw[← gP.1];rw[Z7]at hk;omega
    rw[Zl,hc k cN,ZY,ZX cN];rfl
   ·have dw:i<xs.length:=by rw[Z7]at hi;exact hi
    have Gf:j=0:=by rw[ZF]at hj;simp at hj;omega
    subst Gf
    have iV:i<vs.length:=by rw[← gP.1];exact dw
    have:=gP.2 i dw iV
    simp only[ZF,YR,YO,YN,ZY,ZX iV,Zu]
    exact this
  rw[Z7]at key
  exact key
 |_=>exact hr.elim
end
section
variable {P:Program}[Glob P]{cfg:Nat→Nat}{K:ah→Store→Prop}{E:List PanicEntry→Store→Prop}{σ:Store}{l:List CI}{d:Nat}{v:AV}{xr:XR}{ps:List Prop}{og:Option Bool}{ys:List AV}
theorem J8{t e ty:TypeId}{q:TI}{lo co:Operand}{i:TypeInfo}{z z0:Value}{n:Nat}(h:aL xr none [lo,co]=some (og,[.v (.int .i64 n),.v (.int .i64 n)],ps))(hi:P.info? e=some i)(hz:i.zero=some z)(cj:z.cells= #[z0])(bC:i.size=1)(aw:OB ps)(hn:i.bytes * n≤281474976710656)(FD:n≤maxLen)
  (k:∀ b,VX P cfg l K E ((d,.s (.ms d b 0 n n))::xr) ((d,b,.cells (List.replicate n (.v z0)))::σ)):VX P cfg (⟨some d,.exts (.makeSlice t lo co) ty [.sl e,q] [lo,co],none⟩::l) K E xr σ:=by
 obtain⟨hc,he⟩:=cE h
 have cY:=qT h
 subst cY
 constructor
 simp only[fF,dP,ak,he aw rfl]
 refine(SG d hi hz cj bC hn FD).mono fun x af ⟨b,e1,e2⟩=> ?_
 subst e1 e2
 exact(k b).h
end
end Go.Sx
set_option maxRecDepth 100000
set_option maxHeartbeats 4000000
namespace Go.Proofs.YtomhopcnkicknaaGreatDoor
open _root_.Go.Proofs.Tryz
open Go.Sx Go.Proofs Go.Tb
def Gr(du:Nat)(rows:List (List AV))(x:AV)(τ:Store):Prop:=(rows=[]∧x=dM∧τ=[])∨∃ b u c,x= .own 1 du b u c rows∧τ=[(du,b,.tail u c)]
theorem Gr.z{du:Nat}:Gr du [] dM []:= .inl ⟨rfl,rfl,rfl⟩
theorem Gr.n{du:Nat}{rows:List (List AV)}(h:rows=[]):Gr du rows dM []:= .inl ⟨h,rfl,rfl⟩
theorem Gr.s{du b u c:Nat}{rows rows':List (List AV)}(h:rows'=rows):Gr du rows (.own 1 du b u c rows') [(du,b,.tail u c)]:= .inr ⟨b,u,c,by rw[h],rfl⟩
theorem aas(fs:List aj)(n:ae):deps fs n=(ml ((findF fs n).getD xw).body).filter (jt fs):=by
 unfold deps
 split
 ·rename_i f h;rw[h];rfl
 ·rename_i h;rw[h];rfl
theorem abW{l:List ae}{i:Nat}(h:i<l.length)(p:ae→Bool):(l.take (i+1)).filter p=(l.take i).filter p++if p (l.getD i default)=true then[l.getD i default]else[]:=by
 rw[ZV h,← getD_eq h,XF,List.filter_cons];rfl
theorem aaL(x:Ex):(ml x).length≤x.size:=by
 have h1:=(Lg x ([],[])).1
 have h2:=(sX x).1
 simp only[Z5,Zl]at h1
 unfold ml;omega
theorem agK(c:az)(hs:Small c)(gC:c.Fits)(n:ae):Pure prog 123 [.agg c.cells,sv n] (cS (deps c.features n)):=by
 have hA:=LJ c n
 have hg:=(acr hs gC n).1
 have hD:=aaS _ hg
 rw[aas]
 have hl:(ml ((findF c.features n).getD xw).body).length≤5000:=ZJ (aaL _) hg
 refine aea.p fun σ=> ?_
 repeat'(first|exact .nil|refine .k0 ?_|refine .k1 ?_|refine .k2 ?_|refine .k6 ?_|refine .r1 ?_ ?_|(refine .l1 ?_;intro b)|(refine .m1 ?_ ?_;intro b)|refine .an rfl (by intro aq;first|exact hA|exact hD|fail) ?_ ?_|fail)
 all_goals(try simp only[BL]at *)
 all_goals generalize ml ((findF c.features n).getD xw).body=D at *
 rename_i b1
 refine aH (fun m rg af=>∃ (i:Nat) (x:AV) (τ:Store),i≤D.length∧m=D.length-i∧Gr 47 (((D.take i).filter (jt c.features)).map cq) x τ∧af=τ++(2,b1,aG.cells c.cells)::σ∧rg=[(2,.lp 2 b1 0),(7,cS D),(9,x),(10,iv i)]) D.length rfl ⟨_,_,Zr,Zs,0,_,_,Z1 _,rfl,Gr.z,rfl,rfl⟩ ?_
 rintro m _ _ ⟨i,x,τ,hi,hm,hG,rfl,rfl⟩
 have yD:((D.take i).filter (jt c.features)).length≤5000:=ZJ (Yw _ _) (by rw[Z4];omega)
 have fy:=fun(h:i<D.length)=>abW h (jt c.features)
 rcases hG with⟨hE,rfl,rfl⟩|⟨b3,u3,c3,rfl,rfl⟩
 all_goals
  repeat'(first|exact .nil|refine .k0 ?_|refine .k1 ?_|refine .k2 ?_|refine .k3 ?_|refine .k6 ?_|refine .k7 ?_|refine .k8 ?_|refine .k9 ?_|(refine .cd ?_ ?_<;>(intro hc;skip))|refine .r1 ?_ ?_|(refine .l1 ?_;intro b)|(refine .m2 ?_ ?_;intro hlen)|refine .t1 ?_ ?_ ?_|refine .u1 ?_ ?_ ?_ (fun b u c=> ?_)|refine .u2 ?_ ?_ ?_ (fun b u c=> ?_)|refine .an rfl (by intro aq;exact LJ c _) ?_ ?_|(show List.all _ _=true;rfl)|fail)
  try any_goals((intro aq;first|(simp_all;done)|fail))
  all_goals(try simp only[BL]at *)
  all_goals first|(show _≤1000000;simp only[Z8,Z5];omega)|(show _ * _≤_;simp only[Z7,Z8,Z5];omega)|skip
  ·refine⟨m-1,by omega,_,_,Zr,Zs,i+1,_,_,by omega,by omega,Gr.s ?_,rfl,by rw[aO (n:=D.length) (by omega) (by assumption)]⟩
   rw[fy (by omega),show jt _ (D.getD i default)=true from hc,Z3 rfl,Zz]
   first|(rw[hE];rfl)|rfl
  ·refine⟨m-1,by omega,_,_,Zr,Zs,i+1,_,_,by omega,by omega,?_,rfl,by rw[aO (n:=D.length) (by omega) (by assumption)]⟩
   rw[fy (by omega),Z6 (by show¬(findF c.features _).isSome=true;rw[hc];simp),Zb]
   first|exact Gr.n hE|exact Gr.s rfl
  ·rw[ZU (by omega)]at *
   first|(have h0:=Ym.1 hE;rw[h0];(refine Sx.Fin.wk Zs ?_;repeat' first|exact .nil|fail))|(refine Sx.Fin.wk Zs ?_;repeat' exact .own _)
def ck(N l:List ae):List Nat:=(List.range N.length).filter fun k=>decide (N.getD k default∈l)
abbrev tX(l:List Nat):AV:= .sl false 1 (l.map fun(k:Nat)=>[iv k])
abbrev mW(N:List ae)(g:ae→List ae):AV:= .sl false 1 (N.map fun n=>[tX (ck N (g n))])
theorem NS(N l:List ae)(k:Nat):(List.range (k+1)).filter (fun k=>decide (N.getD k default∈l))=(List.range k).filter (fun k=>decide (N.getD k default∈l))++if N.getD k default∈l then[k]else[]:=by
 rw[List.range_succ,XF,List.filter_cons];simp
theorem acv(C:az)(hs:Small C)(gC:C.Fits):Pure prog 75 [.agg C.cells] (.aE [cS (aQ C.features),mW (aQ C.features) (deps C.features)]):=by
 have hN:=agF C (by have:=hs.f;omega)
 have hl:(aQ C.features).length≤40:=ZJ (wu _) hs.f
 generalize aQ C.features=N at *
 refine k75.p fun σ=> ?_
 repeat'(first|exact .nil|refine .k0 ?_|refine .k1 ?_|refine .k2 ?_|refine .k6 ?_|refine .r1 ?_ ?_|(refine .m1 ?_ ?_;intro b)|refine .an rfl (by intro aq;first|exact hN|fail) ?_ ?_|fail)
 all_goals(try simp only[BL]at *)
 rename Nat=>b1
 refine aH (fun m rg af=>∃ (i:Nat) (x:AV) (τ:Store),i≤N.length∧m=N.length-i∧Gr 43 ((N.take i).map fun n=>[tX (ck N (deps C.features n))]) x τ∧af=τ++(1,b1,aG.cells C.cells)::σ∧rg=[(1,.lp 1 b1 0),(4,cS N),(5,x),(6,iv i)]) N.length rfl ⟨_,_,Zr,Zs,0,_,_,Z1 _,rfl,Gr.z,rfl,rfl⟩ ?_
 rintro m _ _ ⟨i,x,τ,hi,hm,hG,rfl,rfl⟩
 rcases hG with⟨hE,rfl,rfl⟩|⟨b3,u3,c3,rfl,rfl⟩
 all_goals
  repeat'(first|exact .nil|refine .k0 ?_|refine .k1 ?_|refine .k2 ?_|refine .k5 ?_|refine .k6 ?_|refine .k7 ?_|refine .k8 ?_|refine .k9 ?_|(refine .cd ?_ ?_<;>(intro hc;skip))|refine .r1 ?_ ?_|(refine .m2 ?_ ?_;intro hlen)|refine .t1 ?_ ?_ ?_|refine .an rfl (by intro aq;first|exact agK C hs gC _|fail) ?_ ?_|fail)
  try any_goals((intro aq;first|(simp_all;done)|fail))
  all_goals(try simp only[BL]at *)
  rotate_left
  ·rw[ZU (by omega)]at *
   first|(have h0:=Ym.1 hE;subst h0;(refine Sx.Fin.wk Zs ?_;repeat' first|exact .refl _|exact .nil|refine .cons ?_ ?_|refine .aE ?_|fail);done)|(show Sx.Fin _ _ _ _;(refine Sx.Fin.wk Zs ?_;repeat' first|exact .refl _|refine .cons ?_ ?_|refine .aE ?_|exact .own _);done)
  first
   |(have _:=b3
     refine aH (fun m rg af=>∃ (k:Nat) (y:AV) (xz:Store),k≤N.length∧m=N.length-k∧Gr 39 (((List.range k).filter fun k=>decide (N.getD k default∈deps C.features (N.getD i default))).map fun(k:Nat)=>[iv k]) y xz∧af=xz++(43,b3,.tail u3 c3)::(1,b1,aG.cells C.cells)::σ∧rg=[(1,.lp 1 b1 0),(4,cS N),(5,.own 1 43 b3 u3 c3 ((N.take i).map fun n=>[tX (ck N (deps C.features n))])),(6,iv i),(7,cS (deps C.features (N.getD i default))),(8,y),(9,iv k)]) N.length rfl ⟨_,_,Zr,Zs,0,_,_,Z1 _,rfl,Gr.z,rfl,rfl⟩ ?_)
   |refine aH (fun m rg af=>∃ (k:Nat) (y:AV) (xz:Store),k≤N.length∧m=N.length-k∧Gr 39 (((List.range k).filter fun k=>decide (N.getD k default∈deps C.features (N.getD i default))).map fun(k:Nat)=>[iv k]) y xz∧af=xz++(1,b1,aG.cells C.cells)::σ∧rg=[(1,.lp 1 b1 0),(4,cS N),(5,dM),(6,iv i),(7,cS (deps C.features (N.getD i default))),(8,y),(9,iv k)]) N.length rfl ⟨_,_,Zr,Zs,0,_,_,Z1 _,rfl,Gr.z,rfl,rfl⟩ ?_
  all_goals
   rintro m2 _ _ ⟨k,y,xz,hk,js,hY,rfl,rfl⟩
   rcases hY with⟨hF,rfl,rfl⟩|⟨b5,u5,c5,rfl,rfl⟩
   all_goals
    repeat'(first|exact .nil|refine .k0 ?_|refine .k1 ?_|refine .k2 ?_|refine .k6 ?_|refine .k8 ?_|refine .k9 ?_|(refine .cd ?_ ?_<;>(intro hc;skip))|refine .r1 ?_ ?_|(refine .m2 ?_ ?_;intro hlen)|refine .t1 ?_ ?_ ?_|refine .u1 ?_ ?_ ?_ (fun b u c=> ?_)|refine .u2 ?_ ?_ ?_ (fun b u c=> ?_)|refine .an rfl (by intro aq;exact adp _ _) ?_ ?_|(show List.all _ _=true;rfl)|fail)
    try any_goals((intro aq;first|(simp_all;done)|fail))
    all_goals(try simp only[BL]at *)
    all_goals first|(show _≤1000000;simp only[Z8,Z5];omega)|(show _ * _≤_;(have yD:=Yw (fun k=>decide (N.getD k default∈deps C.features (N.getD i default))) (List.range k));simp only[Z7,Z8,Z5,Z4,List.length_range]at *;omega)|skip
    ·refine⟨m2-1,by omega,_,_,Zr,Zs,k+1,_,_,by omega,by omega,Gr.s ?_,rfl,by rw[aO (n:=N.length) (by omega) (by assumption)]⟩
     rw[NS,Z3 hc,Zz]
     first|(rw[hF];rfl)|rfl
    ·refine⟨m2-1,by omega,_,_,Zr,Zs,k+1,_,_,by omega,by omega,?_,rfl,by rw[aO (n:=N.length) (by omega) (by assumption)]⟩
     rw[NS,Z6 hc,Zb]
     first|exact Gr.n hF|exact Gr.s rfl
    ·have hk:k=N.length:=by omega
     subst hk
     refine⟨m-1,by omega,_,[(43,b,.tail u c)]++(1,b1,aG.cells C.cells)::σ,(.cons (.refl _) (.cons (.refl _) (.cons (Wk.ahl (t':=43) (rows':=(N.take (i+1)).map fun n=>[tX (ck N (deps C.features n))]) ?_) (.cons (.refl _) .nil)))),Zs,i+1,_,_,by omega,by omega,Gr.s rfl,rfl,by rw[aO (n:=N.length) (by omega) (by assumption)]⟩
     rw[ZV (by omega),Zz]
     have e:tX (ck N (deps C.features N[i]))= .sl false 1 (((List.range N.length).filter fun k=>decide (N.getD k default∈deps C.features (N.getD i default))).map fun(k:Nat)=>[iv k]):=by
      unfold ck;rw[getD_eq (by omega:i<N.length)]
     have key:∀ y,Wk y (tX (ck N (deps C.features N[i])))→jG [[y]] (List.map (fun n=>[tX (ck N (deps C.features n))]) [N[i]]):=fun y h=> .cons (.cons h .nil) .nil
     first|(rw[hE,Y0];refine key _ ?_)|refine jG.app (.refl _) (key _ ?_)
     rw[e]
     first|exact .C9 rfl|(rw[hF];exact .nil)
theorem EZ(g:ae→List ae)(b:ae):∃ d,kZ g b d∧∀ x,d x≤1000:=by
 obtain⟨d,h⟩:=Ll g b
 refine⟨fun x=>min (d x) 1000,⟨fun x hx=> ?_,fun k x hk=> ?_⟩,fun x=>Nat.min_le_right _ _⟩
 ·have h1:d x<1000:=by have hx:min (d x) 1000<1000:=hx;omega
  have h2:min (d x) 1000=d x:=by omega
  show eC g (min (d x) 1000) x b
  rw[h2];exact h.r x h1
 ·have:=h.l k x hk
  show min (d x) 1000≤k;omega
theorem pZ{N l:List ae}{x:Nat}:x∈ck N l↔x<N.length∧N.getD x default∈l:=by
 unfold ck;rw[Zh,Y6,Zn]
structure qR(g:ae→List ae)(N:List ae)(b:ae)(D:List Nat):Prop where
 len:D.length=N.length
 le:∀ j,j<N.length→D.getD j 0≤1000
 st:∀ j,j<N.length→D.getD j 0<1000→eC g (D.getD j 0) (N.getD j default) b
def jj(T:Nat)(D:List Nat)(x:Nat):Nat:=if x=T then 1 else D.getD x 0+1
theorem Mb{D:List Nat}{j k v:Nat}(h:j<D.length):(D.set j v).getD k 0=if k=j then v else D.getD k 0:=by
 rw[ZY,List.getElem?_set,ZY]
 by_cases e:j=k
 ·subst e;simp[h]
 ·rw[Z6 e,Z6 (fun h=>e h.symm)]
theorem qR.set{g:ae→List ae}{N:List ae}{T:Nat}{D:List Nat}(h:qR g N (N.getD T default) D){j x:Nat}(hj:j<N.length)(hx:x∈ck N (g (N.getD j default)))(ax:jj T D x<D.getD j 0):qR g N (N.getD T default) (D.set j (jj T D x)):=by
 have M8:j<D.length:=by rw[h.len];exact hj
 have hle:=h.le j hj
 refine⟨by rw[List.length_set,h.len],fun k hk=> ?_,fun k hk h1=> ?_⟩
 ·rw[Mb M8];split
  ·omega
  ·exact h.le k hk
 ·rw[Mb M8]at h1 ⊢
  by_cases e:k=j
  ·subst e
   rw[Z3 rfl]
   obtain⟨zA,fM⟩:=pZ.1 hx
   unfold jj at ax ⊢
   by_cases e2:x=T
   ·subst e2;rw[Z3 rfl];exact .one fM
   ·rw[Z6 e2]at ax ⊢
    exact .cons fM (h.st x zA (by omega))
  ·rw[Z6 e]at h1 ⊢;exact h.st k hk h1
theorem QP{D:List Nat}{j v:Nat}(h:j<D.length)(ax:v<D.getD j 0):(D.set j v).sum<D.sum:=by
 induction D generalizing j with
 |nil=>simp at h
 |cons a D ih=>
  cases j with
  |zero=>simp at ax ⊢;omega
  |succ j=>have:=ih (j:=j) (by simpa using h) (by simpa using ax);simp;omega
def AQ(g:ae→List ae)(N:List ae)(T:Nat)(D:List Nat):Prop:=∀ j,j<N.length→∀ x∈ck N (g (N.getD j default)),D.getD j 0≤jj T D x
theorem AQ.le{g:ae→List ae}{N:List ae}{T:Nat}{D:List Nat}(hc:AQ g N T D)(hT:T<N.length)(hg:∀ x y,y∈g x→y∈N){k:Nat}{a b:ae}(hs:eC g k a b)(hb:b=N.getD T default):∀ j,j<N.length→N.getD j default=a→D.getD j 0≤k:=by
 induction hs with
 |one h=>
  intro j hj e
  subst hb e
  have:=hc j hj T (pZ.2 ⟨hT,h⟩)
  unfold jj at this
  rwa [Z3 rfl]at this
 |cons h t ih=>
  rename_i k a c b
  intro j hj e
  subst e
  obtain⟨x,hx,e⟩:=Zj (hg _ _ h)
  have e':N.getD x default=c:=by rw[getD_eq hx];exact e
  have h1:=hc j hj x (pZ.2 ⟨hx,by rw[e'];exact h⟩)
  have h2:=ih hb x hx e'
  have h3:=t.pos
  unfold jj at h1
  split at h1<;>omega
theorem aLO{g:ae→List ae}{N:List ae}{T:Nat}{D:List Nat}{d:ae→Nat}(hd:kZ g (N.getD T default) d)(jo:∀ x,d x≤1000)(hT:T<N.length)(hg:∀ x y,y∈g x→y∈N)(h:qR g N (N.getD T default) D)(hc:AQ g N T D):D=N.map d:=by
 refine Ys (by rw[Z7,h.len]) fun j h1 h2=> ?_
 have hj:j<N.length:=by rw[← h.len];exact h1
 have e1:D.getD j 0=D[j]:=by rw[ZY,ZX h1];rfl
 rw[← e1,ZF,← getD_eq hj]
 have h3:=h.le j hj
 have h4:=jo (N.getD j default)
 have h5:D.getD j 0<1000→d (N.getD j default)≤D.getD j 0:=fun ax=>hd.l _ _ (h.st j hj ax)
 have h6:d (N.getD j default)<1000→D.getD j 0≤d (N.getD j default):=fun ax=>hc.le hT hg (hd.r _ ax) rfl j hj rfl
 omega
abbrev jY(D:List Nat):List AV:=D.map fun(d:Nat)=>iv d
theorem abV{i n:Nat}(h:i<n):(List.replicate i 1000++List.replicate (n-i) 0).set i 1000=List.replicate (i+1) 1000++List.replicate (n-(i+1)) 0:=by
 obtain⟨k,e⟩:∃ k,n-i=k+1:=⟨n-i-1,by omega⟩
 rw[e,show n-(i+1)=k by omega,List.set_append_right _ _ (by simp),Yx,Nat.sub_self,List.replicate_succ,List.set_cons_zero,List.replicate_succ',ZB]
 rfl
theorem adE:∃ i,prog.info? 3=some i∧i.zero=some (.int .i64 0)∧i.size=1∧i.bytes=8:=by
 have h:(prog.info? 3).map (fun i=>(i.zero,i.size,i.bytes))=some (some (.int .i64 0),1,8):=by kernel_rfl
 obtain⟨i,h1,h2⟩:=ZO.1 h
 simp only[YH]at h2
 exact⟨i,h1,h2.1,h2.2.1,h2.2.2⟩
theorem H7{D:List Nat}{o j v:Nat}(h:o=j)(hj:j<D.length):over (jY D) o [iv v]=jY (D.set j v)∧o+1≤(jY D).length:=by
 subst h
 refine⟨?_,by rw[Z7];omega⟩
 unfold over
 have e:jY (D.set o v)=(jY D).set o (iv v):=List.map_set
 rw[e,List.set_eq_take_append_cons_drop,Z3 (by rw[Z7];exact hj)]
 simp
theorem Me{D:List Nat}{o j:Nat}(h:o=j)(hj:j<D.length):(jY D)[o]? =some (iv (D.getD j 0)):=by
 subst h
 rw[YK,ZX hj,ZY,ZX hj];rfl
theorem aLN{N:List ae}{g:ae→List ae}{T:Nat}(hN:N.length≤40)(hT:T<N.length)(hg:∀ x y,y∈g x→y∈N){d:ae→Nat}(hd:kZ g (N.getD T default) d)(jo:∀ x,d x≤1000):
  Pure prog 76 [mW N g,iv T] (.sl false 1 (N.map fun x=>[iv (d x)])):=by
 obtain⟨i,ni,iV,hi3,yJ⟩:=adE
 have hlen:(jY (N.map d)).length=N.length:=by simp
 have acS:=fun(σ:Store)=>(show Sx.Spec prog 76 [mW N g,iv T] σ fun r af=>∃ t b,r= .ret (.ms t b 0 (jY (N.map d)).length (jY (N.map d)).length)∧Sub ((t,b,.cells (jY (N.map d)))::σ) af by
  rw[hlen]
  refine Spec.nO (fun d=>bif ([1000047,1000062,1000022,1000068]:List Nat).elem d then 1 else 0) func76 Xj aa5 (ZW rfl) ?_
  repeat'(first|exact .nil|refine .k0 ?_|refine .k1 ?_|refine .k2 ?_|refine .r1 ?_ ?_|(refine .m2 ?_ ?_;intro hlen)|fail)
  all_goals(try simp only[BL]at *)
  refine J8 rfl ni iV rfl hi3 ?_ (by rw[yJ];omega) (by unfold maxLen;omega) fun b=> ?_
  repeat'(first|exact .nil|refine .k0 ?_|refine .k1 ?_|refine .k2 ?_|refine .k6 ?_|refine .r1 ?_ ?_|fail)
  all_goals(try simp only[BL]at *)
  rw[show List.replicate N.length (AV.v (.int .i64 0))=jY (List.replicate 0 1000++List.replicate (N.length-0) 0) by simp]
  refine aH (fun m rg af=>∃ i:Nat,i≤N.length∧m=N.length-i∧af=(13,b,.cells (jY (List.replicate i 1000++List.replicate (N.length-i) 0)))::σ∧rg=[(0,mW N g),(1,iv T),(5,.ms 13 b 0 N.length N.length),(6,iv i)]) N.length rfl ⟨_,_,Zr,Zs,0,Z1 _,rfl,rfl,rfl⟩ ?_
  rintro m _ _ ⟨i,hi,hm,rfl,rfl⟩
  repeat'(first|exact .nil|refine .k0 ?_|refine .k1 ?_|refine .k2 ?_|refine .k6 ?_|refine .k8 ?_|refine .k9 ?_|(refine .cd ?_ ?_<;>(intro hc;skip))|refine .r1 ?_ ?_|(refine .m2 ?_ ?_;intro hlen)|refine .r8 ?_ ?_|fail)
  all_goals(try simp only[BL]at *)
  ·omega
  ·refine A4 rfl rfl rfl rfl rfl (H7 (j:=i) (v:=1000) (by omega) (by simp;omega)) OB.nil ?_
   repeat'(first|exact .nil|refine .k0 ?_|refine .k1 ?_|refine .k2 ?_|refine .r1 ?_ ?_|fail)
   all_goals(try simp only[BL]at *)
   refine⟨m-1,by omega,_,_,Zr,.refl _,i+1,by omega,by omega,?_,by rw[aO (n:=50) (by omega) (by decide)]⟩
   rw[abV (by omega)]
   rfl
  rw[show N.length-i=0 by omega,List.replicate_zero,Zb,show i=N.length by omega]
  generalize Mn:List.replicate N.length 1000=D0
  have hI0:qR g N (N.getD T default) D0:=by
   have e:∀ j,j<N.length→D0.getD j 0=1000:=fun j hj=>by rw[← Mn,ZY,List.getElem?_replicate,Z3 hj];rfl
   exact⟨by rw[← Mn,Yx],fun j hj=>by rw[e j hj];omega,fun j hj h=>by rw[e j hj]at h;omega⟩
  refine aH (fun m rg af=>∃ (D:List Nat) (q:Bool),qR g N (N.getD T default) D∧(q=false→AQ g N T D)∧m=2 * D.sum+(if q=true then 1 else 0)∧af=(13,b,.cells (jY D))::σ∧rg=[(0,mW N g),(1,iv T),(5,.ms 13 b 0 N.length N.length),(7,.v (.bool q))]) (2 * D0.sum+1) rfl ⟨_,_,Zr,Zs,D0,true,hI0,fun h=>(by cases h),rfl,rfl,rfl⟩ ?_
  rintro m2 _ _ ⟨D,q,hD,hq,js,rfl,rfl⟩
  repeat'(first|exact .nil|refine .k0 ?_|refine .k1 ?_|refine .k2 ?_|refine .k6 ?_|refine .k7 ?_|refine .k8 ?_|refine .k9 ?_|(refine .cd ?_ ?_<;>(intro hc;skip))|refine .r1 ?_ ?_|fail)
  all_goals(try simp only[BL]at *)
  rotate_left
  ·exact⟨13,b,rfl,by rw[aLO hd jo hT hg hD (hq hc)];exact .refl _⟩
  rw[hc,Z3 rfl]at js
  refine aH (fun m rg af=>∃ (D1:List Nat) (q1:Bool) (i:Nat),qR g N (N.getD T default) D1∧i≤N.length∧m=N.length-i∧(q1=false→D1=D∧∀ j,j<i→∀ x∈ck N (g (N.getD j default)),D.getD j 0≤jj T D x)∧(q1=true→D1.sum<D.sum)∧af=(13,b,.cells (jY D1))::σ∧rg=[(0,mW N g),(1,iv T),(5,.ms 13 b 0 N.length N.length),(7,.v (.bool q1)),(8,iv i)]) N.length rfl ⟨_,_,Zr,Zs,D,false,0,hD,Z1 _,rfl,fun _=>⟨rfl,fun j hj=>absurd hj (by omega)⟩,fun h=>(by cases h),rfl,rfl⟩ ?_
  rintro m3 _ _ ⟨D1,q1,i,FF,hi,Ce,vU,jU,rfl,rfl⟩
  repeat'(first|exact .nil|refine .k0 ?_|refine .k1 ?_|refine .k2 ?_|refine .k6 ?_|refine .k8 ?_|refine .k9 ?_|(refine .cd ?_ ?_<;>(intro hc;skip))|refine .r1 ?_ ?_|(refine .m2 ?_ ?_;intro hlen)|fail)
  all_goals(try simp only[BL]at *)
  rotate_left
  ·cases q1 with
   |true=>exact⟨2 * D1.sum+1,by have:=jU rfl;omega,_,_,Zr,Zs,D1,true,FF,fun h=>(by cases h),rfl,rfl,rfl⟩
   |false=>
    obtain⟨rfl,h2⟩:=vU rfl
    exact⟨2 * D1.sum,by omega,_,_,Zr,Zs,D1,false,FF,fun _ j hj=>h2 j (by omega),rfl,rfl,rfl⟩
  have fi:i<N.length:=by omega
  refine aH (fun m rg af=>∃ (D2:List Nat) (q2:Bool) (k:Nat),qR g N (N.getD T default) D2∧k≤(ck N (g (N.getD i default))).length∧m=(ck N (g (N.getD i default))).length-k∧(q2=false→D2=D∧(∀ j,j<i→∀ x∈ck N (g (N.getD j default)),D.getD j 0≤jj T D x)∧∀ j,j<k→D.getD i 0≤jj T D ((ck N (g (N.getD i default))).getD j default))∧(q2=true→D2.sum<D.sum)∧af=(13,b,.cells (jY D2))::σ∧rg=[(0,mW N g),(1,iv T),(5,.ms 13 b 0 N.length N.length),(7,.v (.bool q2)),(8,iv i),(9,iv k)]) (ck N (g (N.getD i default))).length rfl ⟨_,_,Zr,Zs,D1,q1,0,FF,Z1 _,rfl,fun h=>⟨(vU h).1,(vU h).2,fun j hj=>absurd hj (by omega)⟩,jU,rfl,rfl⟩ ?_
  rintro m4 _ _ ⟨D2,q2,k,ri,hk,hm4,iq,dL,rfl,rfl⟩
  repeat'(first|exact .nil|refine .k0 ?_|refine .k1 ?_|refine .k2 ?_|refine .k6 ?_|refine .k8 ?_|refine .k9 ?_|(refine .cd ?_ ?_<;>(intro hc;skip))|refine .r1 ?_ ?_|(refine .m2 ?_ ?_;intro hlen)|refine .t1 ?_ ?_ ?_|refine .r8 ?_ ?_|fail)
  try any_goals((intro aq;first|(simp_all;done)|fail))
  all_goals(try simp only[BL]at *)
  rotate_left 2
  ·have c9:k=(ck N (g (N.getD i default))).length:=by omega
   refine⟨m3-1,by omega,_,_,Zr,Zs,D2,q2,i+1,ri,by omega,by omega,fun h=>⟨(iq h).1,dp (iq h).2.1 fun x hx=> ?_⟩,dL,rfl,by rw[aO (n:=50) (by omega) (by decide)]⟩
   obtain⟨j,hj,rfl⟩:=Zj hx
   have:=(iq h).2.2 j (by omega)
   have e:(ck N (g (N.getD i default))).getD j default=(ck N (g (N.getD i default)))[j]:=by rw[ZY,ZX hj];rfl
   rwa [e]at this
  all_goals have hX:=bu (l:=ck N (g (N.getD i default))) (i:=k) (by omega)
  all_goals have hX1:=(pZ.1 hX).1
  ·omega
  have hDX:=ri.le _ hX1
  have hDi:=ri.le _ fi
  have oG:=ri.len
  refine Ep rfl rfl rfl (Me (D:=D2) (j:=(ck N (g (N.getD i default))).getD k default) (by omega) (by omega)) OB.nil ?_
  repeat'(first|exact .nil|refine .k0 ?_|refine .k1 ?_|refine .k2 ?_|refine .k9 ?_|(refine .cd ?_ ?_<;>(intro hc;skip))|refine .r1 ?_ ?_|refine .t1 ?_ ?_ ?_|refine .r8 ?_ ?_|fail)
  try any_goals((intro aq;first|(simp_all;done)|fail))
  all_goals(try simp only[BL]at *)
  all_goals try(refine Ep rfl rfl rfl (Me (D:=D2) (j:=i) (by omega) (by omega)) OB.nil ?_)
  all_goals repeat'(first|exact .nil|refine .k0 ?_|refine .k1 ?_|refine .k2 ?_|refine .k9 ?_|(refine .cd ?_ ?_<;>(intro hc;skip))|refine .r1 ?_ ?_|refine .r8 ?_ ?_|fail)
  all_goals try any_goals((intro aq;fail))
  all_goals(try simp only[BL]at *)
  all_goals try(show(0:Int)≤_∧_;omega)
  ·have mw:jj T D2 ((ck N (g (N.getD i default))).getD k default)=1:=Z3 (by omega)
   refine A4 rfl rfl rfl rfl rfl (H7 (j:=i) (v:=1) (by omega) (by omega)) OB.nil ?_
   repeat'(first|exact .nil|refine .k0 ?_|refine .k1 ?_|refine .k2 ?_|refine .r1 ?_ ?_|fail)
   all_goals(try simp only[BL]at *)
   have ax:jj T D2 ((ck N (g (N.getD i default))).getD k default)<D2.getD i 0:=by rw[mw];omega
   refine⟨m4-1,by omega,_,_,Zr,.refl _,D2.set i (jj T D2 ((ck N (g (N.getD i default))).getD k default)),true,k+1,ri.set fi hX ax,by omega,by omega,fun h=>(by cases h),fun _=> ?_,by rw[mw];rfl,by rw[aO (n:=(ck N (g (N.getD i default))).length) (by omega) (by assumption)]⟩
   have h1:=QP (D:=D2) (j:=i) (by omega) ax
   cases q2 with
   |true=>have:=dL rfl;omega
   |false=>rw[(iq rfl).1]at h1 ⊢;exact h1
  ·have mw:jj T D2 ((ck N (g (N.getD i default))).getD k default)=1:=Z3 (by omega)
   refine⟨m4-1,by omega,_,_,Zr,Zs,D2,q2,k+1,ri,by omega,by omega,fun h=>⟨(iq h).1,(iq h).2.1,dp (iq h).2.2 ?_⟩,dL,rfl,by rw[aO (n:=(ck N (g (N.getD i default))).length) (by omega) (by assumption)]⟩
   rw[← (iq h).1,mw];omega
  all_goals
   have mw:jj T D2 ((ck N (g (N.getD i default))).getD k default)=D2.getD ((ck N (g (N.getD i default))).getD k default) 0+1:=Z6 (by omega)
   have hup:=aO (i:=D2.getD ((ck N (g (N.getD i default))).getD k default) 0) (n:=1001) (by omega) (by decide)
   simp only[hup]at *
  ·refine A4 rfl rfl rfl rfl rfl (H7 (j:=i) (v:=D2.getD ((ck N (g (N.getD i default))).getD k default) 0+1) (by omega) (by omega)) OB.nil ?_
   repeat'(first|exact .nil|refine .k0 ?_|refine .k1 ?_|refine .k2 ?_|refine .r1 ?_ ?_|fail)
   all_goals(try simp only[BL]at *)
   have ax:jj T D2 ((ck N (g (N.getD i default))).getD k default)<D2.getD i 0:=by rw[mw];omega
   refine⟨m4-1,by omega,_,_,Zr,.refl _,D2.set i (jj T D2 ((ck N (g (N.getD i default))).getD k default)),true,k+1,ri.set fi hX ax,by omega,by omega,fun h=>(by cases h),fun _=> ?_,by rw[mw];rfl,by rw[aO (n:=(ck N (g (N.getD i default))).length) (by omega) (by assumption)]⟩
   have h1:=QP (D:=D2) (j:=i) (by omega) ax
   cases q2 with
   |true=>have:=dL rfl;omega
   |false=>rw[(iq rfl).1]at h1 ⊢;exact h1
  ·refine⟨m4-1,by omega,_,_,Zr,Zs,D2,q2,k+1,ri,by omega,by omega,fun h=>⟨(iq h).1,(iq h).2.1,dp (iq h).2.2 ?_⟩,dL,rfl,by rw[aO (n:=(ck N (g (N.getD i default))).length) (by omega) (by assumption)]⟩
   rw[← (iq h).1,mw];omega)
 have:=fun σ=>Spec.Fl (acS σ) (by rw[hlen];unfold maxLen;omega)
 refine⟨fun σ=> ?_⟩
 have h1:=this σ
 rw[Yk,Yk]at h1
 exact h1
section
variable {g:ae→List ae}{N:List ae}{dd:Nat→ae→Nat}
theorem aLK(jM:bg N){k j:Nat}(hk:k<N.length)(hj:j<N.length)(h:ct (N.getD j default) (N.getD k default)=true):j<k:=by
 rw[getD_eq hk,getD_eq hj]at h
 rcases YF j k with h1|h1
 ·exact h1
 ·rcases XH h1 with rfl|h2
  ·rw[rP]at h;cases h
  ·have:=YL.1 jM k j hk hj h2
   rw[Dm this]at h;cases h
theorem aac(hg:∀ n,bg (g n))(jM:bg N)(hd:∀ j,j<N.length→kZ g (N.getD j default) (dd j)){k e:Nat}{L:List ae}(hk:k<N.length)(hde:dd k (N.getD k default)=e+1)(h1:e+1<1000)(ax:∀ j,j<k→e+1<dd j (N.getD j default))(hle:∀ j,j<N.length→e+1≤dd j (N.getD j default))(hG:jd g (dd k) e (N.getD k default) L):N.getD k default::L=gM g N:=by
 have hl:=hG.len
 refine(u9 (.inr ⟨_,L,rfl,bu hk,hG.N6 hg (hd k hk) hde (by omega),fun b hb hs m hm=> ?_,fun b hb m hm=> ?_⟩)).symm
 ·obtain⟨j,hj,rfl⟩:=Zj hb
  rw[← getD_eq hj]at hs hm
  have h2:=ax j (aLK jM hk hj hs)
  have h3:=(hd j hj).l _ _ (hm.1.um hm.2)
  omega
 ·obtain⟨j,hj,rfl⟩:=Zj hb
  rw[← getD_eq hj]at hm
  have h2:=hle j hj
  have h3:=(hd j hj).l _ _ (hm.1.um hm.2)
  omega
theorem aht(hN:∀ x y,y∈g x→y∈N):∀ (q:List ae) (a:ae),c6 g a q→∀ s∈q,s∈N:=fun q=>by
 induction q with
 |nil=>intro a _ s h;cases h
 |cons b q ih=>
  intro a hp s h
  rcases ZQ.1 h with rfl|h
  ·exact hN _ _ hp.1
  ·exact ih b hp.2 s h
theorem aad(hg:∀ n,bg (g n))(jM:bg N)(hN:∀ x y,y∈g x→y∈N)(hl:N.length≤40)(hd:∀ j,j<N.length→kZ g (N.getD j default) (dd j))(cH:∀ j,j<N.length→1000≤dd j (N.getD j default)):gM g N=[]:=by
 rcases Xv g hg jM hN (by omega)with⟨e,_⟩|⟨a,q,e,ha,hb,_⟩
 ·exact e
 ·exfalso
  have h1:=gn (YX.1 (Qr hb.c hb.s)).2 (aht hN q a hb.c.1)
  obtain⟨j,hj,rfl⟩:=Zj ha
  have h2:=cH j hj
  have h3:=(hd j hj).l _ _ (hb.c.1.um (by rw[getD_eq hj];exact hb.c.2))
  rw[← getD_eq hj]at h3
  omega
theorem agm(jM:bg N){l:List ae}(hl:bg l)(hs:∀ y∈l,y∈N):(ck N l).map (fun k=>N.getD k default)=l:=by
 refine mH ?_ hl fun x=> ?_
 ·unfold bg
  rw[XC]
  have h1:(ck N l).Pairwise (·<·):=List.Pairwise.filter _ List.pairwise_lt_range
  refine h1.imp_of_mem fun {a b} ha hb vF=> ?_
  have ME:=(pZ.1 ha).1
  have iS:=(pZ.1 hb).1
  rw[getD_eq ME,getD_eq iS]
  exact YL.1 jM a b ME iS vF
 ·rw[Y9]
  constructor
  ·rintro⟨k,hk,rfl⟩;exact(pZ.1 hk).2
  ·intro hx
   obtain⟨k,hk,rfl⟩:=Zj (hs x hx)
   exact⟨k,pZ.2 ⟨hk,by rw[getD_eq hk];exact hx⟩,getD_eq hk⟩
theorem ab4(jM:bg N){l:List ae}(hl:bg l)(hs:∀ y∈l,y∈N){p:ae→Bool}{b:ae}(h:l.find? p=some b):∃ k,k<(ck N l).length∧N.getD ((ck N l).getD k default) default=b∧p b=true∧∀ j,j<k→p (N.getD ((ck N l).getD j default) default)=false:=by
 rw[← agm jM hl hs,List.find?_map,ZO]at h
 obtain⟨x,hx,rfl⟩:=h
 rw[YM]at hx
 obtain⟨h1,k,hk,e,h2⟩:=hx
 have ek:∀ j (hj:j<(ck N l).length),(ck N l).getD j default=(ck N l)[j]:=fun j hj=>by rw[ZY,ZX hj];rfl
 refine⟨k,hk,by rw[ek k hk,e],h1,fun j hj=> ?_⟩
 have:=h2 j hj
 rw[ek j (by omega)]
 simpa using this
end
def Sp(du:Nat)(rows:List (List AV))(x:AV)(τ:Store):Prop:=(x= .fl 1 rows∧τ=[])∨∃ b u c,x= .own 1 du b u c rows∧τ=[(du,b,.tail u c)]
theorem aaf(C:az)(hs:Small C)(gC:C.Fits):Pure prog 43 [.agg C.cells] (cS (gM (deps C.features) (aQ C.features))):=by
 have hG:=acv C hs gC
 have hl:(aQ C.features).length≤40:=ZJ (wu _) hs.f
 have jM:=zR C.features
 have hg:∀ x y,y∈deps C.features x→y∈aQ C.features:=fun x y h=>vf h
 have yH:=Bp C.features
 generalize deps C.features=g at *
 generalize aQ C.features=N at *
 obtain⟨dd,na,jo⟩:∃ dd:Nat→ae→Nat,(∀ j,kZ g (N.getD j default) (dd j))∧∀ j x,dd j x≤1000:=by
  refine⟨fun j=>(EZ g (N.getD j default)).choose,fun j=>(EZ g (N.getD j default)).choose_spec.1,fun j=>(EZ g (N.getD j default)).choose_spec.2⟩
 have vA:=fun(j:Nat) (h:j<N.length)=>aLN (d:=dd j) hl h hg (na j) (jo j)
 refine k43.pc (fun d=>bif ([45]:List Nat).elem d then 3 else 0) fun σ=> ?_
 repeat'(first|exact .nil|refine .k0 ?_|refine .k1 ?_|refine .k2 ?_|refine .k6 ?_|refine .r1 ?_ ?_|(refine .m1 ?_ ?_;intro b)|refine .an rfl (by intro aq;first|exact hG|fail) ?_ ?_|fail)
 all_goals(try simp only[BL]at *)
 refine aH (fun m rg af=>∃ (i:Nat) (qU least:Int),i≤N.length∧m=N.length-i∧((qU= -1∧least=1000∧∀ j,j<i→1000≤dd j (N.getD j default))∨∃ k:Nat,k<i∧qU=k∧least=dd k (N.getD k default)∧dd k (N.getD k default)<1000∧(∀ j,j<k→dd k (N.getD k default)<dd j (N.getD j default))∧∀ j,j<i→dd k (N.getD k default)≤dd j (N.getD j default))∧af=σ∧rg=[(3,cS N),(4,mW N g),(5,iv qU),(6,iv least),(7,iv i)]) N.length rfl ⟨_,_,Zr,Zs,0, -1,1000,Z1 _,rfl,.inl ⟨rfl,rfl,fun j hj=>absurd hj (by omega)⟩,rfl,rfl⟩ ?_
 rintro m _ _ ⟨i,qU,least,hi,hm,hb,rfl,rfl⟩
 have hS:=vA i
 repeat'(first|exact .nil|refine .k0 ?_|refine .k1 ?_|refine .k2 ?_|refine .k6 ?_|refine .k7 ?_|refine .k8 ?_|refine .k9 ?_|(refine .cd ?_ ?_<;>(intro hc;skip))|refine .r1 ?_ ?_|(refine .m2 ?_ ?_;intro hlen)|refine .t1 ?_ ?_ ?_|refine .an rfl (by intro aq;first|exact hS (by(simp only[BL]at *;omega))|fail) ?_ ?_|fail)
 try any_goals((intro aq;first|(simp_all;done)|fail))
 all_goals(try simp only[BL]at *)
 ·rcases hb with⟨rfl,rfl,h1⟩|⟨k,hk,rfl,rfl,h1,h2,h3⟩
  ·exact⟨m-1,by omega,_,_,Zr,Zs,i+1,i,_,by omega,by omega,.inr ⟨i,by omega,rfl,rfl,by omega,fun j hj=>by have:=h1 j hj;omega,dp (fun j hj=>by have:=h1 j hj;omega) (ZR _)⟩,rfl,by rw[aO (n:=50) (by omega) (by decide)]⟩
  ·exact⟨m-1,by omega,_,_,Zr,Zs,i+1,i,_,by omega,by omega,.inr ⟨i,by omega,rfl,rfl,by omega,fun j hj=>by have:=h3 j hj;omega,dp (fun j hj=>by have:=h3 j hj;omega) (ZR _)⟩,rfl,by rw[aO (n:=50) (by omega) (by decide)]⟩
 ·have fi:i<N.length:=by clear hb;omega
  refine⟨m-1,by clear hb;omega,_,_,Zr,Zs,i+1,qU,least,fi,by clear hb;omega,?_,rfl,by clear hb;rw[aO (n:=50) (by omega) (by decide)]⟩
  rcases hb with⟨rfl,rfl,h1⟩|⟨k,hk,rfl,rfl,h1,h2,h3⟩
  ·exact .inl ⟨rfl,rfl,dp h1 (by omega)⟩
  ·exact .inr ⟨k,by omega,rfl,rfl,h1,h2,dp h3 (by omega)⟩
 ·rcases hb with⟨rfl,rfl,h1⟩|⟨k,hk,rfl,rfl,h1,h2,h3⟩
  ·rw[aad yH jM hg hl (fun j _=>na j) (fun j hj=>h1 j (by omega))]
   exact Zw
  ·omega
 obtain⟨k0,tC,rfl,rfl,h1,h2,h3⟩:∃ k:Nat,k<i∧qU=k∧least=dd k (N.getD k default)∧dd k (N.getD k default)<1000∧(∀ j,j<k→dd k (N.getD k default)<dd j (N.getD j default))∧∀ j,j<i→dd k (N.getD k default)≤dd j (N.getD j default):=by
  rcases hb with⟨rfl,rfl,h1⟩|h;omega;exact h
 clear hb hS
 have rl:=vA k0 (by omega)
 obtain⟨e,he⟩:∃ e,dd k0 (N.getD k0 default)=e+1:=⟨dd k0 (N.getD k0 default)-1,by have:=((na k0).r _ h1).pos;omega⟩
 obtain⟨L,hL⟩:=Fx (na k0) e _ he h1
 have nf:=aac yH jM (fun j _=>na j) (by omega) he (by omega) (fun j hj=>by have:=h2 j hj;omega) (fun j hj=>by have:=h3 j (by omega);omega) hL
 have hLl:=hL.len
 rw[← nf]
 rw[he]
 repeat'(first|exact .nil|refine .k0 ?_|refine .k1 ?_|refine .k2 ?_|refine .k6 ?_|refine .r1 ?_ ?_|refine .t1 ?_ ?_ ?_|refine .an rfl (by intro aq;exact rl) ?_ ?_|fail)
 try any_goals((intro aq;(simp only[BL]at *;omega)))
 all_goals(try simp only[BL]at *)
 all_goals try(show(0:Int)≤_∧_;omega)
 all_goals try(show 1≤1000000;decide)
 rename Store=>fa
 rw[show IntKind.i64.wrap (((e+1:Nat):Int)-1)=(e:Int) by rw[aM (by omega)];omega]
 refine aH (fun m rg af=>∃ (r a:Nat) (p l:List ae) (x:AV) (τ:Store),a<N.length∧m=r∧jd g (dd k0) r (N.getD a default) l∧L=p++l∧Sp 80 ((N.getD k0 default::p).map cq) x τ∧af=τ++fa∧rg=[(3,cS N),(4,mW N g),(9,.sl false 1 (N.map fun x=>[iv (dd k0 x)])),(10,x),(11,iv a),(12,iv r)]) e rfl ⟨_,_,Zr,Zs,e,k0,[],L,_,_,by omega,rfl,hL,rfl,.inl ⟨rfl,rfl⟩,rfl,rfl⟩ ?_
 rintro m2 _ _ ⟨r,a,p,l,x,τ,ha,js,FI,BR,hx,rfl,rfl⟩
 have Np:p.length≤1000:=by have:=Zy List.length BR;rw[Z9]at this;omega
 have jT:r≤1000:=by
  have h1:=Zy List.length BR
  have h2:=FI.len
  rw[Z9]at h1;omega
 rcases hx with⟨rfl,rfl⟩|⟨b4,u4,c4,rfl,rfl⟩
 all_goals
  repeat'(first|exact .nil|refine .k0 ?_|refine .k1 ?_|refine .k2 ?_|refine .k6 ?_|refine .k7 ?_|refine .k8 ?_|refine .k9 ?_|(refine .cd ?_ ?_<;>(intro hc;skip))|refine .r1 ?_ ?_|fail)
  all_goals(try simp only[BL]at *)
  rotate_left
  ·obtain rfl:r=0:=by omega
   cases FI
   rw[BR,Zb]
   first|(refine Sx.Fin.wk Zs ?_;exact .Fh rfl)|(refine Sx.Fin.wk Zs ?_;repeat' exact .own _)
  obtain⟨y1,l1,r1,rfl,rfl,hfb,Mr⟩:∃ y1 l1 r1,r=r1+1∧l=y1::l1∧(g (N.getD a default)).find? (fun x=>decide (dd k0 x=r1+1))=some y1∧jd g (dd k0) r1 y1 l1:=by
   cases FI with
   |nil=>exact absurd hc (by simp)
   |cons h t=>exact⟨_,_,_,rfl,rfl,h,t⟩
  obtain⟨k1,pP,yM,B9,yO⟩:=ab4 jM (yH _) (fun y h=>hg _ y h) hfb
  have B9:=Yq B9
  have yO:∀ j,j<k1→¬dd k0 (N.getD ((ck N (g (N.getD a default))).getD j default) default)=r1+1:=fun j hj=>of_decide_eq_false (yO j hj)
  rw[← yM]at B9
  have bp:(ck N (g (N.getD a default))).length≤40:=ZJ (Yw _ _) (by rw[List.length_range];exact hl)
  have hXl:∀ j,j<(ck N (g (N.getD a default))).length→(ck N (g (N.getD a default))).getD j default<N.length:=fun j hj=>(pZ.1 (bu hj)).1
  first
   |(have _:=b4
     refine aH (fun m rg af=>∃ k:Nat,k≤k1∧m=k1-k∧af=(80,b4,.tail u4 c4)::fa∧rg=[(3,cS N),(4,mW N g),(9,.sl false 1 (N.map fun x=>[iv (dd k0 x)])),(10,.own 1 80 b4 u4 c4 ((N.getD k0 default::p).map cq)),(11,iv a),(12,iv (r1+1:Nat)),(13,iv k)]) k1 rfl ⟨_,_,Zr,Zs,0,Z1 _,rfl,rfl,rfl⟩ ?_)
   |refine aH (fun m rg af=>∃ k:Nat,k≤k1∧m=k1-k∧af=fa∧rg=[(3,cS N),(4,mW N g),(9,.sl false 1 (N.map fun x=>[iv (dd k0 x)])),(10,.fl 1 ((N.getD k0 default::p).map cq)),(11,iv a),(12,iv (r1+1:Nat)),(13,iv k)]) k1 rfl ⟨_,_,Zr,Zs,0,Z1 _,rfl,rfl,rfl⟩ ?_
  all_goals
   rintro m3 _ _ ⟨k,hk,Ce,rfl,rfl⟩
   have hXk:=hXl k (by omega)
   repeat'(first|exact .nil|refine .k0 ?_|refine .k1 ?_|refine .k2 ?_|refine .k6 ?_|refine .k8 ?_|refine .k9 ?_|(refine .cd ?_ ?_<;>(intro hc;skip))|refine .r1 ?_ ?_|refine .t1 ?_ ?_ ?_|refine .u2 ?_ ?_ ?_ (fun b u c=> ?_)|refine .u4 ?_ ?_ (fun b u c=> ?_)|(show List.all _ _=true;rfl)|fail)
   try any_goals((intro aq;first|(simp_all;done)|(simp only[BL]at *;omega)))
   all_goals(try simp only[BL]at *)
   all_goals try(show(0:Int)≤_∧_;omega)
   all_goals try(show 1≤1000000;decide)
   all_goals try(show _ * _≤_;simp only[Z7,Z8,Z5];omega)
   ·have bB:k≠k1:=fun e=>by subst e;exact hc (by rw[B9])
    exact⟨m3-1,by omega,_,_,Zr,Zs,k+1,by omega,by omega,rfl,by rw[aO (n:=50) (by omega) (by decide)]⟩
   ·obtain rfl:k=k1:=by
     rcases YF k k1 with h|h
     ·exact absurd (by omega) (yO k h)
     ·omega
    rw[← yM]at Mr
    refine⟨r1,by omega,_,[(80,b,.tail u c)]++_,Zr,Zs,r1,(ck N (g (N.getD a default))).getD k default,p++[y1],l1,_,_,hXk,rfl,Mr,by rw[BR];simp,.inr ⟨b,u,c,rfl,rfl⟩,rfl,?_⟩
    rw[aM (by omega),← yM]
    rw[show((r1+1:Nat):Int)-1=(r1:Int) by omega]
    simp[cq]
end Go.Proofs.YtomhopcnkicknaaGreatDoor
