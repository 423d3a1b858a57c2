import Derived.Test.YtmemninechdogaaGreatDoorFa
set_option linter.all false
namespace Go.Sx
open Go.RowKit Go.Proofs
theorem Wk.aiB{ez t t' b u c:Nat}{rows rows':List (List AV)}(h:kz rows rows'):Wk (.own ez t b u c rows) (.own ez t' b u c rows'):=fun M v hv=>by
 obtain⟨hl,hg⟩:=h.get;cases hv with
 |own _ _ _ _ _ _ off cap cs bl hM hR hc hm hu he=>
  rw[hl];refine .own _ _ _ _ _ _ off cap cs (fun i hi=>?_) (fun k hk=>hM k (by grind)) (fun i hi j hj=>?_) (by omega) hm (by grind) he
  .have:=(hg i (by omega) hi).get.1;grind
  .have vI:=(hg i (by omega) hi).get;have:=hR i (by omega) j (by grind);exact vI.2 j (by omega) hj M _ this
theorem kz.refl:∀l:List (List AV),kz l l
 |[]=>.nil|x::l=>.cons (.refl x) (.refl l)
theorem kz.app{a b c d:List (List AV)}(h:kz a b)(k:kz c d):kz (a++c) (b++d):=by
 induction h with
 |nil=>exact k|cons h _ ih=>exact .cons h ih
section
variable {P:Program}[Glob P]{M:Mem}{w0:Base}{w:World}{X:Store}
theorem Vl(tag:Nat){t ty e:TypeId}{q:TI}{l c:Operand}{i:TypeInfo}{z z0:Value}{n:Nat}(hi:P.info? e=some i)(hz:i.zero=some z)(iz:z.cells= #[z0])(bl:i.size=1)(hn:i.bytes*n<=281474976710656)(Ii:n<=maxLen):
  fH P (.makeSlice t l c) ty [.sl e,q] [l,c] [.v (.int .i64 n),.v (.int .i64 n)] X fun x af=>∃b,x= .ms tag b 0 n n/\af=(tag,b,.cells (List.replicate n (.v z0)))::X:=by
 intro bu M w0 w Z hI hR;simp only[ey,Z2,Zn]at bu;have ht:=wM bu.1;obtain⟨v1,cB,e1,h1,bV⟩:=hR.aZ;obtain⟨v2,e2,h2⟩:=bV.cR;subst e2;simp only[Zz,YJ,Z2,Zn]at e1;have g1:=h1.aC;have g2:=h2.aC;subst g1 g2;have jA:(i.bytes:Int)*(n:Int)<=281474976710656:=by grind
 have hr:=run_make (P:=P) w t e i z ht hi hz .i64 .i64 n n (by omega) (Int.le_refl _) jA (by unfold maxLen at Ii;omega);rw[iz,bl,Yk,Yt]at hr;have hm:(madeCells #[z0] n).toList=List.replicate n z0:=by simp only[madeCells,Array.toList_map,Array.toList_range];refine X9 (by simp) fun j h1 h2=>?_;grind
 refine⟨.value (.slice (some ⟨w.heap.size,0,none⟩) n n),w.alloc (.cells (madeCells #[z0] n) e),M,.ms tag w.heap.size 0 n n,_,_,?_,rfl,Mem.le.refl _,?_,.ms _ _ _ _ _,_,rfl,rfl⟩
 .simp only[execOp,e1.1,e1.2,Sem.run_bind,hr,Result.andThen_ok];rfl
 .have h':=hI.alloc (.cells (madeCells #[z0] n) e);refine⟨h'.os,h'.tape,h'.output,h'.size,h'.old,h'.bZ,fun x he=>?_,?_,h'.gl,h'.gw,h'.bm⟩
  .rcases ZR.1 he with rfl|he
   .refine⟨hI.size,hI.Dd,madeCells #[z0] n,e,heap_alloc_new _ _,?_⟩;rw[hm];have:=RL.exact (M:=M) (List.replicate n z0);simp_all
   .exact h'.st x he
  .simp only[Zz,YQ];exact⟨hI.fresh,hI.nd⟩
theorem Inv.freeze{t b:Nat}{xs:List AV}(hI:Inv P M w0 ((t,b,.cells xs)::X) w):∃(M':Mem) (vs:List Value),M.le M'/\Inv P M' w0 X w/\RL M' xs vs/\∀k (h:k<vs.length),M' b k=some vs[k]:=by
 obtain⟨bl,hn,cs,ty,hh,hR⟩:=hI.st _ (ZK);have BE:=hI.nd;simp only[Zz,YQ]at BE
 let M':Mem:=fun b' o=>if b'=b then cs[o]? else M b' o
 have hle:M.le M':=fun b' o v h=>by grind
 refine⟨M',cs.toList,hle,⟨hI.os,hI.tape,hI.output,hI.size,hI.old,fun b' o v h=>?_,fun e he=>⟨(hI.st e (ZN _ he)).1,?_⟩,BE.2,fun g l e=>(hI.gl g l e).mono hle,hI.gw,fun b' o v hv az=>hI.bm b' o v (by grind) az⟩,hR.mono hle,fun k h=>?_⟩
 .by_cases e:b'=b
  .subst e;have h2:cs[o]? =some v:=by grind
   show w.cell? _=_;simp[World.cell?,hh,h2]
  .exact hI.bZ b' o v (by grind)
 .obtain⟨tg,b2,x⟩:=e;have hk:=(hI.st _ (ZN _ he)).2;have aW:b2≠b:=fun e=>BE.1 (e ▸ Ye (f:=fun x:Nat×Nat×aE=>x.2.1) he);cases x with
  |cells l=>obtain⟨h1,cs',t',h2,h3⟩:=hk;exact⟨fun o=>by grind,cs',t',h2,h3.mono hle⟩
  |tail u' c=>obtain⟨h1,cs',t',h2,h3⟩:=hk;exact⟨fun o ho=>by grind,cs',t',h2,h3⟩
  |map es k=>obtain⟨h1,l,h2,h3,h4⟩:=hk;exact⟨fun o=>by grind,l,h2,h3,h4.mono hle⟩
 grind
theorem Spec.HY{f:FuncId}{ys xs:List AV}(h:Spec P f ys X fun r af=>∃t b,r= .ret (.ms t b 0 xs.length xs.length)/\Sub ((t,b,.cells xs)::X) af)(hl:xs.length<=maxLen):Spec P f ys X fun r af=>r= .ret (.sl false 1 (xs.map fun x=>[x]))/\af=X:=by
 intro M w0 w cs hI hR;refine(h M w0 w cs hI hR).mono fun e w' ⟨M',r,af,hM,bg,hr,t,b,e1,e2⟩=>?_;subst e1;obtain⟨M2,vs,oF,gD,ef,hc⟩:=(bg.sub e2).freeze;refine⟨M2,_,_,hM.trans oF,gD,?_,rfl,rfl⟩;cases e with
 |returned v=>
  have hv:R M' (.ms t b 0 xs.length xs.length) v:=hr;cases hv;have key:R M2 (.sl false 1 (xs.map fun x=>[x])) (.slice (some ⟨b,0,none⟩) (xs.map fun x=>[x]).length xs.length):=by
   refine .sl _ _ _ b 0 _ (fun k=>vs.getD k default) (fun i hi=>by grind) (fun k hk=>?_) (fun i hi j hj=>?_) (by grind) hl
   .have cN:k<vs.length:=by rw[← ef.1];grind
    grind
   .have cJ:i<xs.length:=by grind
    have I7:j=0:=by grind
    subst I7;have jD:i<vs.length:=by rw[← ef.1];grind
    have:=ef.2 i cJ jD;grind
  rw[Z5]at key;exact key
 |_=>exact hr.elim
end
section
variable {P:Program}[Glob P]{cfg:Nat->Nat}{K:ag->Store->Prop}{E:List PanicEntry->Store->Prop}{X:Store}{l:List CI}{d:Nat}{v:AV}{xr:XR}{ps:List Prop}{og:Option Bool}{ys:List AV}
theorem Mn{t e ty:TypeId}{q:TI}{lo co:Operand}{i:TypeInfo}{z z0:Value}{n:Nat}(h:wa xr none [lo,co]=some (og,[.v (.int .i64 n),.v (.int .i64 n)],ps))(hi:P.info? e=some i)(hz:i.zero=some z)(iz:z.cells= #[z0])(bl:i.size=1)(aw:OB ps)(hn:i.bytes*n<=281474976710656)(Ii:n<=maxLen)
  (k:∀b,VX P cfg l K E ((d,.s (.ms d b 0 n n))::xr) ((d,b,.cells (List.replicate n (.v z0)))::X)):VX P cfg (⟨some d,.exts (.makeSlice t lo co) ty [.sl e,q] [lo,co],none⟩::l) K E xr X:=by
 obtain⟨hc,he⟩:=cC h;have cO:=qT h;subst cO;constructor;simp only[fb,cE,ak,he aw rfl];refine(Vl d hi hz iz bl hn Ii).mono fun x af ⟨b,e1,e2⟩=>?_;subst e1 e2;exact(k b).h
end
end Go.Sx
set_option maxRecDepth 100000
set_option maxHeartbeats 4000000
namespace Go.Proofs.YtmemninechdogaaGreatDoor
open _root_.Go.Proofs.Tryz
open Go.Sx Go.Proofs Go.Tb
def Gr(lab:Nat)(rows:List (List AV))(x:AV)(Y:Store):Prop:=(rows=[]/\x=ej/\Y=[])\/∃b u c,x= .own 1 lab b u c rows/\Y=[(lab,b,.tail u c)]
theorem Gr.z{lab:Nat}:Gr lab [] ej []:=.inl ⟨rfl,rfl,rfl⟩
theorem Gr.n{lab:Nat}{rows:List (List AV)}(h:rows=[]):Gr lab rows ej []:=.inl ⟨h,rfl,rfl⟩
theorem Gr.s{lab b u c:Nat}{rows rows':List (List AV)}(h:rows'=rows):Gr lab rows (.own 1 lab b u c rows') [(lab,b,.tail u c)]:=.inr ⟨b,u,c,by rw[h],rfl⟩
theorem abB(fs:List aj)(n:ae):deps fs n=(ny ((findF fs n).getD BZ).body).filter (nL fs):=by
 unfold deps;split
 .grind
 .rename_i h;rw[h];rfl
theorem acP{l:List ae}{i:Nat}(h:i<l.length)(p:ae->Bool):(l.take (i+1)).filter p=(l.take i).filter p++if p (l.getD i default)=true then[l.getD i default]else[]:=by rw[ZU h,<-getD_eq h,X0,Xp];rfl
theorem abO(x:Ex):(ny x).length<=x.size:=by have h1:=(Np x ([],[])).1;have h2:=(zM x).1;simp at h1;unfold ny;omega
structure pH(C:ay):Prop where
 t:C.tables.length<=40
 f:C.features.length<=40
 d:C.aD.length<=40
 p:C.past.length<=40
 b:∀f∈C.all,f.body.size<=2000
theorem Rr:∀{l:List Ex} {x:Ex},x∈l->x.size<=Ex.c8 l
 |y::l,x,h=>by
  rw[Ex.c8];rcases ZR.1 h with rfl|h
  .omega
  .have:=Rr h;omega
theorem Small.sb{C:ay}(hs:Small C):pH C:=⟨hs.t,hs.f,hs.d,hs.p,fun f hf=>by
 have h1:=Fq (C.all.map aj.body) 2000 0 hs.n;have h2:=hs.n;have h3:=Rr (Ye (f:=aj.body) hf)
 omega⟩
theorem pH.got{C:ay}(hs:pH C)(n:ae):((findF C.features n).getD BZ).body.size<=5000:=by
 cases h:findF C.features n with
 |none=>decide|some f=>exact ZD (hs.b f (Zy _ (Zy _ (Hy h).1))) (by decide)
theorem ah7(c:ay)(hs:pH c)(eY:c.Fits)(n:ae):Pure prog 121 [.agg c.cells,sv n] (dJ (deps c.features n)):=by
 have hA:=NV c n;have hg:=hs.got n;have hD:=abV _ hg;rw[abB];have hl:(ny ((findF c.features n).getD BZ).body).length<=5000:=ZD (abO _) hg;refine afg.p fun X=>?_;repeat'(first|exact .nil|refine .k ?_|refine .r1 ?_ ?_|refine .l1 fun b=>?_|(refine .m1 ?_ ?_;intro b)|refine .an rfl (by intro ar;first|exact hA|exact hD|fail) ?_ ?_|fail)
 all_goals(try simp only[BL]at*)
 all_goals generalize ny ((findF c.features n).getD BZ).body=D at*
 rename_i b1;refine aP (fun m rg af=>∃(i:Nat) (x:AV) (Y:Store),i<=D.length/\m=D.length-i/\Gr 47 (((D.take i).filter (nL c.features)).map dq) x Y/\af=Y++(2,b1,aE.cells c.cells)::X/\rg=[(2,.lp 2 b1 0),(7,dJ D),(9,x),(10,iv i)]) D.length rfl ⟨_,_,Zr,Zs,0,_,_,Z4 _,rfl,Gr.z,rfl,rfl⟩ ?_;rintro m _ _ ⟨i,x,Y,hi,hm,hG,rfl,rfl⟩;have eg:((D.take i).filter (nL c.features)).length<=5000:=ZD (Yd _ _) (by rw[ZL];omega);have gj:=fun(h:i<D.length)=>acP h (nL c.features);rcases hG with⟨hE,rfl,rfl⟩|⟨b3,u3,c3,rfl,rfl⟩
 all_goals
  repeat'(first|exact .nil|refine .k ?_|(refine .cd ?_ ?_<;>intro hc)|refine .r1 ?_ ?_|refine .l1 fun b=>?_|(refine .m2 ?_ ?_;intro hlen)|refine .t1 ?_ ?_ ?_|refine .u1 ?_ ?_ ?_ (fun b u c=>?_)|refine .u2 ?_ ?_ ?_ (fun b u c=>?_)|refine .an rfl (by intro ar;exact NV c _) ?_ ?_|(show List.all _ _=true;rfl)|fail)
  try any_goals((intro ar;first|(simp_all;done)|fail))
  all_goals(try simp only[BL]at*)
  all_goals first|(show _<=1000000;simp only[ZY,ZP];omega)|(show _ * _<=_;simp only[Z5,ZY,ZP];omega)|skip
  .refine⟨m-1,by omega,_,_,Zr,Zs,i+1,_,_,by omega,by omega,Gr.s ?_,rfl,by rw[bj (n:=D.length) (by omega) (by assumption)]⟩;rw[gj (by omega),show nL _ (D.getD i default)=true from hc,Z3 rfl,Zl];first|(rw[hE];rfl)|rfl
  .refine⟨m-1,by omega,_,_,Zr,Zs,i+1,_,_,by omega,by omega,?_,rfl,by rw[bj (n:=D.length) (by omega) (by assumption)]⟩;rw[gj (by omega),Z9 (by show¬(findF c.features _).isSome=true;rw[hc];simp),Y5];first|exact Gr.n hE|exact Gr.s rfl
  .rw[ZM (by omega)]at*;first|(have h0:=Yn.1 hE;rw[h0];(refine Sx.Fin.wk Zs ?_;repeat' first|exact .nil|fail))|(refine Sx.Fin.wk Zs ?_;repeat' exact .own _)
def cu(N l:List ae):List Nat:=(List.range N.length).filter fun k=>decide (N.getD k default∈l)
abbrev wu(l:List Nat):AV:=.sl false 1 (l.map fun(k:Nat)=>[iv k])
abbrev oC(N:List ae)(g:ae->List ae):AV:=.sl false 1 (N.map fun n=>[wu (cu N (g n))])
theorem P3(N l:List ae)(k:Nat):(List.range (k+1)).filter (fun k=>decide (N.getD k default∈l))=(List.range k).filter (fun k=>decide (N.getD k default∈l))++if N.getD k default∈l then[k]else[]:=by rw[List.range_succ,X0,Xp];simp
theorem adl(C:ay)(hs:pH C)(eY:C.Fits):Pure prog 64 [.agg C.cells] (.aG [dJ (bX C.features),oC (bX C.features) (deps C.features)]):=by
 have hN:=ah1 C (by have:=hs.f;omega);have hl:(bX C.features).length<=40:=ZD (Be _) hs.f;generalize bX C.features=N at*;refine k64.p fun X=>?_;repeat'(first|exact .nil|refine .k ?_|refine .r1 ?_ ?_|(refine .m1 ?_ ?_;intro b)|refine .an rfl (by intro ar;first|exact hN|fail) ?_ ?_|fail)
 all_goals(try simp only[BL]at*)
 rename Nat=>b1
 refine aP (fun m rg af=>∃(i:Nat) (x:AV) (Y:Store),i<=N.length/\m=N.length-i/\Gr 43 ((N.take i).map fun n=>[wu (cu N (deps C.features n))]) x Y/\af=Y++(1,b1,aE.cells C.cells)::X/\rg=[(1,.lp 1 b1 0),(4,dJ N),(5,x),(6,iv i)]) N.length rfl ⟨_,_,Zr,Zs,0,_,_,Z4 _,rfl,Gr.z,rfl,rfl⟩ ?_;rintro m _ _ ⟨i,x,Y,hi,hm,hG,rfl,rfl⟩;rcases hG with⟨hE,rfl,rfl⟩|⟨b3,u3,c3,rfl,rfl⟩
 all_goals
  repeat'(first|exact .nil|refine .k ?_|(refine .cd ?_ ?_<;>intro hc)|refine .r1 ?_ ?_|(refine .m2 ?_ ?_;intro hlen)|refine .t1 ?_ ?_ ?_|refine .an rfl (by intro ar;first|exact ah7 C hs eY _|fail) ?_ ?_|fail)
  try any_goals((intro ar;first|(simp_all;done)|fail))
  all_goals(try simp only[BL]at*)
  rotate_left
  .rw[ZM (by omega)]at*;first|(have h0:=Yn.1 hE;subst h0;(refine Sx.Fin.wk Zs ?_;repeat' first|exact .refl _|exact .nil|refine .cons ?_ ?_|refine .aG ?_|fail);done)|(show Sx.Fin _ _ _ _;(refine Sx.Fin.wk Zs ?_;repeat' first|exact .refl _|refine .cons ?_ ?_|refine .aG ?_|exact .own _);done)
  first
   |(have _:=b3
     refine aP (fun m rg af=>∃(k:Nat) (y:AV) (y8:Store),k<=N.length/\m=N.length-k/\Gr 39 (((List.range k).filter fun k=>decide (N.getD k default∈deps C.features (N.getD i default))).map fun(k:Nat)=>[iv k]) y y8/\af=y8++(43,b3,.tail u3 c3)::(1,b1,aE.cells C.cells)::X/\rg=[(1,.lp 1 b1 0),(4,dJ N),(5,.own 1 43 b3 u3 c3 ((N.take i).map fun n=>[wu (cu N (deps C.features n))])),(6,iv i),(7,dJ (deps C.features (N.getD i default))),(8,y),(9,iv k)]) N.length rfl ⟨_,_,Zr,Zs,0,_,_,Z4 _,rfl,Gr.z,rfl,rfl⟩ ?_)
   |refine aP (fun m rg af=>∃(k:Nat) (y:AV) (y8:Store),k<=N.length/\m=N.length-k/\Gr 39 (((List.range k).filter fun k=>decide (N.getD k default∈deps C.features (N.getD i default))).map fun(k:Nat)=>[iv k]) y y8/\af=y8++(1,b1,aE.cells C.cells)::X/\rg=[(1,.lp 1 b1 0),(4,dJ N),(5,ej),(6,iv i),(7,dJ (deps C.features (N.getD i default))),(8,y),(9,iv k)]) N.length rfl ⟨_,_,Zr,Zs,0,_,_,Z4 _,rfl,Gr.z,rfl,rfl⟩ ?_
  all_goals
   rintro m2 _ _ ⟨k,y,y8,hk,fg,hY,rfl,rfl⟩;rcases hY with⟨hF,rfl,rfl⟩|⟨b5,u5,c5,rfl,rfl⟩
   all_goals
    repeat'(first|exact .nil|refine .k ?_|(refine .cd ?_ ?_<;>intro hc)|refine .r1 ?_ ?_|(refine .m2 ?_ ?_;intro hlen)|refine .t1 ?_ ?_ ?_|refine .u1 ?_ ?_ ?_ (fun b u c=>?_)|refine .u2 ?_ ?_ ?_ (fun b u c=>?_)|refine .an rfl (by intro ar;exact aet _ _) ?_ ?_|(show List.all _ _=true;rfl)|fail)
    try any_goals((intro ar;first|(simp_all;done)|fail))
    all_goals(try simp only[BL]at*)
    all_goals first|(show _<=1000000;simp only[ZY,ZP];omega)|(show _ * _<=_;(have eg:=Yd (fun k=>decide (N.getD k default∈deps C.features (N.getD i default))) (List.range k));simp only[Z5,ZY,ZP,ZL,List.length_range]at*;omega)|skip
    .refine⟨m2-1,by omega,_,_,Zr,Zs,k+1,_,_,by omega,by omega,Gr.s ?_,rfl,by rw[bj (n:=N.length) (by omega) (by assumption)]⟩;rw[P3,Z3 hc,Zl];first|(rw[hF];rfl)|rfl
    .refine⟨m2-1,by omega,_,_,Zr,Zs,k+1,_,_,by omega,by omega,?_,rfl,by rw[bj (n:=N.length) (by omega) (by assumption)]⟩;rw[P3,Z9 hc,Y5];first|exact Gr.n hF|exact Gr.s rfl
    .have hk:k=N.length:=by omega
     subst hk;refine⟨m-1,by omega,_,[(43,b,.tail u c)]++(1,b1,aE.cells C.cells)::X,(.cons (.refl _) (.cons (.refl _) (.cons (Wk.aiB (t':=43) (rows':=(N.take (i+1)).map fun n=>[wu (cu N (deps C.features n))]) ?_) (.cons (.refl _) .nil)))),Zs,i+1,_,_,by omega,by omega,Gr.s rfl,rfl,by rw[bj (n:=N.length) (by omega) (by assumption)]⟩;rw[ZU (by omega),Zl];have e:wu (cu N (deps C.features N[i]))= .sl false 1 (((List.range N.length).filter fun k=>decide (N.getD k default∈deps C.features (N.getD i default))).map fun(k:Nat)=>[iv k]):=by unfold cu;rw[getD_eq (by omega:i<N.length)]
     have key:∀y,Wk y (wu (cu N (deps C.features N[i])))->kz [[y]] (List.map (fun n=>[wu (cu N (deps C.features n))]) [N[i]]):=fun y h=>.cons (.cons h .nil) .nil;first|(rw[hE,Zf];refine key _ ?_)|refine kz.app (.refl _) (key _ ?_)
     rw[e];first|exact .Kl rfl|(rw[hF];exact .nil)
theorem Hb(g:ae->List ae)(b:ae):∃d,mr g b d/\∀x,d x<=1000:=by
 obtain⟨d,h⟩:=Nv g b;refine⟨fun x=>min (d x) 1000,⟨fun x hx=>?_,fun k x hk=>?_⟩,fun x=>Nat.min_le_right _ _⟩
 .have h1:d x<1000:=by grind
  have h2:min (d x) 1000=d x:=by omega
  rw[h2];exact h.r x h1
 .have:=h.l k x hk;grind
theorem rG{N l:List ae}{x:Nat}:x∈cu N l↔x<N.length/\N.getD x default∈l:=by unfold cu;rw[Y6,YW,ZQ]
structure sQ(g:ae->List ae)(N:List ae)(b:ae)(D:List Nat):Prop where
 len:D.length=N.length
 le:∀j,j<N.length->D.getD j 0<=1000
 st:∀j,j<N.length->D.getD j 0<1000->eX g (D.getD j 0) (N.getD j default) b
def jY(T:Nat)(D:List Nat)(x:Nat):Nat:=if x=T then 1 else D.getD x 0+1
theorem Ot{D:List Nat}{j k v:Nat}(h:j<D.length):(D.set j v).getD k 0=if k=j then v else D.getD k 0:=by grind
theorem sQ.set{g:ae->List ae}{N:List ae}{T:Nat}{D:List Nat}(h:sQ g N (N.getD T default) D){j x:Nat}(hj:j<N.length)(hx:x∈cu N (g (N.getD j default)))(az:jY T D x<D.getD j 0):sQ g N (N.getD T default) (D.set j (jY T D x)):=by
 have Pq:j<D.length:=by grind
 have hle:=h.le j hj;refine⟨by rw[XB,h.len],fun k hk=>?_,fun k hk h1=>?_⟩
 .rw[Ot Pq];split
  .omega
  .exact h.le k hk
 .rw[Ot Pq]at h1|-;by_cases e:k=j
  .subst e;rw[Z3 rfl];obtain⟨kU,eu⟩:=rG.1 hx;unfold jY at az|-;by_cases e2:x=T
   .subst e2;rw[Z3 rfl];exact .one eu
   .rw[Z9 e2]at az|-;exact .cons eu (h.st x kU (by omega))
  .rw[Z9 e]at h1|-;exact h.st k hk h1
theorem TM{D:List Nat}{j v:Nat}(h:j<D.length)(az:v<D.getD j 0):(D.set j v).sum<D.sum:=by
 induction D generalizing j with
 |nil=>grind|cons a D ih=>
  cases j with
  |zero=>grind|succ j=>grind
def B4(g:ae->List ae)(N:List ae)(T:Nat)(D:List Nat):Prop:=∀j,j<N.length->∀x∈cu N (g (N.getD j default)),D.getD j 0<=jY T D x
theorem B4.le{g:ae->List ae}{N:List ae}{T:Nat}{D:List Nat}(hc:B4 g N T D)(hT:T<N.length)(hg:∀x y,y∈g x->y∈N){k:Nat}{a b:ae}(hs:eX g k a b)(hb:b=N.getD T default):∀j,j<N.length->N.getD j default=a->D.getD j 0<=k:=by
 induction hs with
 |one h=>intro j hj e;subst hb e;have:=hc j hj T (rG.2 ⟨hT,h⟩);unfold jY at this;grind|cons h t ih=>intro j hj e;obtain⟨x,hx,e⟩:=Zc (hg _ _ h);have h1:=hc j hj x (rG.2 ⟨hx,by grind⟩);unfold jY at h1;grind
theorem alg{g:ae->List ae}{N:List ae}{T:Nat}{D:List Nat}{d:ae->Nat}(hd:mr g (N.getD T default) d)(Al:∀x,d x<=1000)(hT:T<N.length)(hg:∀x y,y∈g x->y∈N)(h:sQ g N (N.getD T default) D)(hc:B4 g N T D):D=N.map d:=by
 refine X9 (by rw[Z5,h.len]) fun j h1 h2=>?_;have hj:j<N.length:=by grind
 have e1:D.getD j 0=D[j]:=by grind
 rw[<-e1,Zv,<-getD_eq hj];have h3:=h.le j hj;have h4:=Al (N.getD j default);have h5:D.getD j 0<1000->d (N.getD j default)<=D.getD j 0:=fun az=>hd.l _ _ (h.st j hj az);have h6:d (N.getD j default)<1000->D.getD j 0<=d (N.getD j default):=fun az=>hc.le hT hg (hd.r _ az) rfl j hj rfl;omega
abbrev kX(D:List Nat):List AV:=D.map fun(d:Nat)=>iv d
theorem acO{i n:Nat}(h:i<n):(List.replicate i 1000++List.replicate (n-i) 0).set i 1000=List.replicate (i+1) 1000++List.replicate (n-(i+1)) 0:=by
 obtain⟨k,e⟩:∃k,n-i=k+1:=⟨n-i-1,by omega⟩
 rw[e,show n-(i+1)=k by omega,List.set_append_right _ _ (by simp),W9,Nat.sub_self,List.replicate_succ,Zh,List.replicate_succ',Zq];rfl
theorem aeI:∃i,prog.info? 3=some i/\i.zero=some (.int .i64 0)/\i.size=1/\i.bytes=8:=by
 have h:(prog.info? 3).map (fun i=>(i.zero,i.size,i.bytes))=some (some (.int .i64 0),1,8):=by kernel_rfl
 obtain⟨i,h1,h2⟩:=Z8.1 h;simp only[YX]at h2;exact⟨i,h1,h2.1,h2.2.1,h2.2.2⟩
theorem Kj{D:List Nat}{o j v:Nat}(h:o=j)(hj:j<D.length):over (kX D) o [iv v]=kX (D.set j v)/\o+1<=(kX D).length:=by subst h;refine⟨?_,by grind⟩;unfold over;have e:kX (D.set o v)=(kX D).set o (iv v):=List.map_set;rw[e,List.set_eq_take_append_cons_drop,Z3 (by grind)];simp
theorem Ow{D:List Nat}{o j:Nat}(h:o=j)(hj:j<D.length):(kX D)[o]? =some (iv (D.getD j 0)):=by grind
theorem alf{N:List ae}{g:ae->List ae}{T:Nat}(hN:N.length<=40)(hT:T<N.length)(hg:∀x y,y∈g x->y∈N){d:ae->Nat}(hd:mr g (N.getD T default) d)(Al:∀x,d x<=1000):
  Pure prog 65 [oC N g,iv T] (.sl false 1 (N.map fun x=>[iv (d x)])):=by
 obtain⟨i,oP,jD,hi3,Ar⟩:=aeI;have hlen:(kX (N.map d)).length=N.length:=by simp
 have adT:=fun(X:Store)=>(show Sx.Spec prog 65 [oC N g,iv T] X fun r af=>∃t b,r= .ret (.ms t b 0 (kX (N.map d)).length (kX (N.map d)).length)/\Sub ((t,b,.cells (kX (N.map d)))::X) af by
  rw[hlen];refine k65.sc (fun d=>bif ([1000047,1000062,1000022,1000068]:List Nat).elem d then 1 else 0) ?_;repeat'(first|exact .nil|refine .k ?_|refine .r1 ?_ ?_|(refine .m2 ?_ ?_;intro hlen)|fail)
  all_goals(try simp only[BL]at*)
  refine Mn rfl oP jD rfl hi3 ?_ (by rw[Ar];omega) (by unfold maxLen;omega) fun b=>?_;repeat'(first|exact .nil|refine .k ?_|refine .r1 ?_ ?_|fail)
  all_goals(try simp only[BL]at*)
  rw[show List.replicate N.length (AV.v (.int .i64 0))=kX (List.replicate 0 1000++List.replicate (N.length-0) 0) by simp];refine aP (fun m rg af=>∃i:Nat,i<=N.length/\m=N.length-i/\af=(13,b,.cells (kX (List.replicate i 1000++List.replicate (N.length-i) 0)))::X/\rg=[(0,oC N g),(1,iv T),(5,.ms 13 b 0 N.length N.length),(6,iv i)]) N.length rfl ⟨_,_,Zr,Zs,0,Z4 _,rfl,rfl,rfl⟩ ?_;rintro m _ _ ⟨i,hi,hm,rfl,rfl⟩;repeat'(first|exact .nil|refine .k ?_|(refine .cd ?_ ?_<;>intro hc)|refine .r1 ?_ ?_|(refine .m2 ?_ ?_;intro hlen)|refine .r8 ?_ ?_|fail)
  all_goals(try simp only[BL]at*)
  .omega
  .refine Cn rfl rfl rfl rfl rfl (Kj (j:=i) (v:=1000) (by omega) (by simp;omega)) OB.nil ?_;repeat'(first|exact .nil|refine .k ?_|refine .r1 ?_ ?_|fail)
   all_goals(try simp only[BL]at*)
   refine⟨m-1,by omega,_,_,Zr,.refl _,i+1,by omega,by omega,?_,by rw[bj (n:=50) (by omega) (by decide)]⟩;rw[acO (by omega)];rfl
  rw[show N.length-i=0 by omega,List.replicate_zero,Y5,show i=N.length by omega];generalize OO:List.replicate N.length 1000=D0;have hI0:sQ g N (N.getD T default) D0:=by
   have e:∀j,j<N.length->D0.getD j 0=1000:=fun j hj=>by rw[<-OO,Z1,List.getElem?_replicate,Z3 hj];rfl
   exact⟨by rw[<-OO,W9],fun j hj=>by rw[e j hj];omega,fun j hj h=>by rw[e j hj]at h;omega⟩
  refine aP (fun m rg af=>∃(D:List Nat) (q:Bool),sQ g N (N.getD T default) D/\(q=false->B4 g N T D)/\m=2*D.sum+(if q=true then 1 else 0)/\af=(13,b,.cells (kX D))::X/\rg=[(0,oC N g),(1,iv T),(5,.ms 13 b 0 N.length N.length),(7,.v (.bool q))]) (2*D0.sum+1) rfl ⟨_,_,Zr,Zs,D0,true,hI0,fun h=>(by cases h),rfl,rfl,rfl⟩ ?_;rintro m2 _ _ ⟨D,q,hD,hq,fg,rfl,rfl⟩;repeat'(first|exact .nil|refine .k ?_|(refine .cd ?_ ?_<;>intro hc)|refine .r1 ?_ ?_|fail)
  all_goals(try simp only[BL]at*)
  rotate_left
  .exact⟨13,b,rfl,by rw[alg hd Al hT hg hD (hq hc)];exact .refl _⟩
  rw[hc,Z3 rfl]at fg;refine aP (fun m rg af=>∃(D1:List Nat) (q1:Bool) (i:Nat),sQ g N (N.getD T default) D1/\i<=N.length/\m=N.length-i/\(q1=false->D1=D/\∀j,j<i->∀x∈cu N (g (N.getD j default)),D.getD j 0<=jY T D x)/\(q1=true->D1.sum<D.sum)/\af=(13,b,.cells (kX D1))::X/\rg=[(0,oC N g),(1,iv T),(5,.ms 13 b 0 N.length N.length),(7,.v (.bool q1)),(8,iv i)]) N.length rfl ⟨_,_,Zr,Zs,D,false,0,hD,Z4 _,rfl,fun _=>⟨rfl,fun j hj=>absurd hj (by omega)⟩,fun h=>(by cases h),rfl,rfl⟩ ?_;rintro m3 _ _ ⟨D1,q1,i,Il,hi,hm3,AJ,kS,rfl,rfl⟩;repeat'(first|exact .nil|refine .k ?_|(refine .cd ?_ ?_<;>intro hc)|refine .r1 ?_ ?_|(refine .m2 ?_ ?_;intro hlen)|fail)
  all_goals(try simp only[BL]at*)
  rotate_left
  .cases q1 with
   |true=>exact⟨2*D1.sum+1,by have:=kS rfl;omega,_,_,Zr,Zs,D1,true,Il,fun h=>(by cases h),rfl,rfl,rfl⟩|false=>
    obtain⟨rfl,h2⟩:=AJ rfl;exact⟨2*D1.sum,by omega,_,_,Zr,Zs,D1,false,Il,fun _ j hj=>h2 j (by omega),rfl,rfl,rfl⟩
  have fL:i<N.length:=by omega
  refine aP (fun m rg af=>∃(D2:List Nat) (q2:Bool) (k:Nat),sQ g N (N.getD T default) D2/\k<=(cu N (g (N.getD i default))).length/\m=(cu N (g (N.getD i default))).length-k/\(q2=false->D2=D/\(∀j,j<i->∀x∈cu N (g (N.getD j default)),D.getD j 0<=jY T D x)/\∀j,j<k->D.getD i 0<=jY T D ((cu N (g (N.getD i default))).getD j default))/\(q2=true->D2.sum<D.sum)/\af=(13,b,.cells (kX D2))::X/\rg=[(0,oC N g),(1,iv T),(5,.ms 13 b 0 N.length N.length),(7,.v (.bool q2)),(8,iv i),(9,iv k)]) (cu N (g (N.getD i default))).length rfl ⟨_,_,Zr,Zs,D1,q1,0,Il,Z4 _,rfl,fun h=>⟨(AJ h).1,(AJ h).2,fun j hj=>absurd hj (by omega)⟩,kS,rfl,rfl⟩ ?_;rintro m4 _ _ ⟨D2,q2,k,tw,hk,hm4,ic,fy,rfl,rfl⟩;repeat'(first|exact .nil|refine .k ?_|(refine .cd ?_ ?_<;>intro hc)|refine .r1 ?_ ?_|(refine .m2 ?_ ?_;intro hlen)|refine .t1 ?_ ?_ ?_|refine .r8 ?_ ?_|fail)
  try any_goals((intro ar;first|(simp_all;done)|fail))
  all_goals(try simp only[BL]at*)
  rotate_left 2
  .have fO:k=(cu N (g (N.getD i default))).length:=by omega
   refine⟨m3-1,by omega,_,_,Zr,Zs,D2,q2,i+1,tw,by omega,by omega,fun h=>⟨(ic h).1,dj (ic h).2.1 fun x hx=>?_⟩,fy,rfl,by rw[bj (n:=50) (by omega) (by decide)]⟩;obtain⟨j,hj,rfl⟩:=Zc hx;have:=(ic h).2.2 j (by omega);have e:(cu N (g (N.getD i default))).getD j default=(cu N (g (N.getD i default)))[j]:=by rw[Z1,ZX hj];rfl
   rwa [e]at this
  all_goals have hX:=bN (l:=cu N (g (N.getD i default))) (i:=k) (by omega)
  all_goals have hX1:=(rG.1 hX).1
  .omega
  have hDX:=tw.le _ hX1;have hDi:=tw.le _ fL;have qa:=tw.len;refine Gm rfl rfl rfl (Ow (D:=D2) (j:=(cu N (g (N.getD i default))).getD k default) (by omega) (by omega)) OB.nil ?_;repeat'(first|exact .nil|refine .k ?_|(refine .cd ?_ ?_<;>intro hc)|refine .r1 ?_ ?_|refine .t1 ?_ ?_ ?_|refine .r8 ?_ ?_|fail)
  try any_goals((intro ar;first|(simp_all;done)|fail))
  all_goals(try simp only[BL]at*)
  all_goals try(refine Gm rfl rfl rfl (Ow (D:=D2) (j:=i) (by omega) (by omega)) OB.nil ?_)
  all_goals repeat'(first|exact .nil|refine .k ?_|(refine .cd ?_ ?_<;>intro hc)|refine .r1 ?_ ?_|refine .r8 ?_ ?_|fail)
  all_goals try any_goals((intro ar;fail))
  all_goals(try simp only[BL]at*)
  all_goals try(show(0:Int)<=_/\_;omega)
  .have iu:jY T D2 ((cu N (g (N.getD i default))).getD k default)=1:=Z3 (by omega);refine Cn rfl rfl rfl rfl rfl (Kj (j:=i) (v:=1) (by omega) (by omega)) OB.nil ?_;repeat'(first|exact .nil|refine .k ?_|refine .r1 ?_ ?_|fail)
   all_goals(try simp only[BL]at*)
   have az:jY T D2 ((cu N (g (N.getD i default))).getD k default)<D2.getD i 0:=by rw[iu];omega
   refine⟨m4-1,by omega,_,_,Zr,.refl _,D2.set i (jY T D2 ((cu N (g (N.getD i default))).getD k default)),true,k+1,tw.set fL hX az,by omega,by omega,fun h=>(by cases h),fun _=>?_,by rw[iu];rfl,by rw[bj (n:=(cu N (g (N.getD i default))).length) (by omega) (by assumption)]⟩;have h1:=TM (D:=D2) (j:=i) (by omega) az;cases q2 with
   |true=>have:=fy rfl;omega|false=>rw[(ic rfl).1]at h1|-;exact h1
  .have iu:jY T D2 ((cu N (g (N.getD i default))).getD k default)=1:=Z3 (by omega);refine⟨m4-1,by omega,_,_,Zr,Zs,D2,q2,k+1,tw,by omega,by omega,fun h=>⟨(ic h).1,(ic h).2.1,dj (ic h).2.2 ?_⟩,fy,rfl,by rw[bj (n:=(cu N (g (N.getD i default))).length) (by omega) (by assumption)]⟩;rw[<-(ic h).1,iu];omega
  all_goals
   have iu:jY T D2 ((cu N (g (N.getD i default))).getD k default)=D2.getD ((cu N (g (N.getD i default))).getD k default) 0+1:=Z9 (by omega);have hup:=bj (i:=D2.getD ((cu N (g (N.getD i default))).getD k default) 0) (n:=1001) (by omega) (by decide);simp only[hup]at*
  .refine Cn rfl rfl rfl rfl rfl (Kj (j:=i) (v:=D2.getD ((cu N (g (N.getD i default))).getD k default) 0+1) (by omega) (by omega)) OB.nil ?_;repeat'(first|exact .nil|refine .k ?_|refine .r1 ?_ ?_|fail)
   all_goals(try simp only[BL]at*)
   have az:jY T D2 ((cu N (g (N.getD i default))).getD k default)<D2.getD i 0:=by rw[iu];omega
   refine⟨m4-1,by omega,_,_,Zr,.refl _,D2.set i (jY T D2 ((cu N (g (N.getD i default))).getD k default)),true,k+1,tw.set fL hX az,by omega,by omega,fun h=>(by cases h),fun _=>?_,by rw[iu];rfl,by rw[bj (n:=(cu N (g (N.getD i default))).length) (by omega) (by assumption)]⟩;have h1:=TM (D:=D2) (j:=i) (by omega) az;cases q2 with
   |true=>have:=fy rfl;omega|false=>rw[(ic rfl).1]at h1|-;exact h1
  .refine⟨m4-1,by omega,_,_,Zr,Zs,D2,q2,k+1,tw,by omega,by omega,fun h=>⟨(ic h).1,(ic h).2.1,dj (ic h).2.2 ?_⟩,fy,rfl,by rw[bj (n:=(cu N (g (N.getD i default))).length) (by omega) (by assumption)]⟩
   rw[<-(ic h).1,iu];omega)
 have:=fun X=>Spec.HY (adT X) (by rw[hlen];unfold maxLen;omega);refine⟨fun X=>?_⟩;have h1:=this X;rw[Yu,Yu]at h1;exact h1
section
variable {g:ae->List ae}{N:List ae}{dd:Nat->ae->Nat}
theorem alb(kH:bI N){k j:Nat}(hk:k<N.length)(hj:j<N.length)(h:c6 (N.getD j default) (N.getD k default)=true):j<k:=by
 rw[getD_eq hk,getD_eq hj]at h;rcases YN j k with h1|h1
 .exact h1
 .rcases Xj h1 with rfl|h2
  .rw[qy]at h;grind
  .have:=Yo.1 kH k j hk hj h2;rw[E2 this]at h;grind
theorem abo(hg:∀n,bI (g n))(kH:bI N)(hd:∀j,j<N.length->mr g (N.getD j default) (dd j)){k e:Nat}{L:List ae}(hk:k<N.length)(hde:dd k (N.getD k default)=e+1)(h1:e+1<1000)(az:∀j,j<k->e+1<dd j (N.getD j default))(hle:∀j,j<N.length->e+1<=dd j (N.getD j default))(hG:jS g (dd k) e (N.getD k default) L):N.getD k default::L=lJ g N:=by
 have hl:=hG.len;refine(CR (.inr ⟨_,L,rfl,bN hk,hG.Qm hg (hd k hk) hde (by omega),fun b hb hs m hm=>?_,fun b hb m hm=>?_⟩)).symm
 .obtain⟨j,hj,rfl⟩:=Zc hb;rw[<-getD_eq hj]at hs hm;have h2:=az j (alb kH hk hj hs);have h3:=(hd j hj).l _ _ (hm.1.wK hm.2);omega
 .obtain⟨j,hj,rfl⟩:=Zc hb;rw[<-getD_eq hj]at hm;have h2:=hle j hj;have h3:=(hd j hj).l _ _ (hm.1.wK hm.2);omega
theorem aiM(hN:∀x y,y∈g x->y∈N):∀(q:List ae) (a:ae),dw g a q->∀s∈q,s∈N:=fun q=>by
 induction q with
 |nil=>grind|cons b q ih=>
  intro a hp s h;rcases ZR.1 h with rfl|h
  .exact hN _ _ hp.1
  .exact ih b hp.2 s h
theorem abp(hg:∀n,bI (g n))(kH:bI N)(hN:∀x y,y∈g x->y∈N)(hl:N.length<=40)(hd:∀j,j<N.length->mr g (N.getD j default) (dd j))(bW:∀j,j<N.length->1000<=dd j (N.getD j default)):lJ g N=[]:=by
 rcases abn g hg kH hN (by omega)with⟨e,_⟩|⟨a,q,e,ha,hb,_⟩
 .exact e
 .have h1:=jh (YQ.1 (Tn hb.c hb.s)).2 (aiM hN q a hb.c.1);obtain⟨j,hj,rfl⟩:=Zc ha;have h3:=(hd j hj).l _ _ (hb.c.1.wK (by rw[getD_eq hj];exact hb.c.2));grind
theorem ahF(kH:bI N){l:List ae}(hl:bI l)(hs:∀y∈l,y∈N):(cu N l).map (fun k=>N.getD k default)=l:=by
 refine qA ?_ hl fun x=>?_
 .unfold bI;rw[Xe];have h1:(cu N l).Pairwise (·<·):=List.Pairwise.filter _ List.pairwise_lt_range;refine h1.imp_of_mem fun {a b} ha hb xX=>?_;have O1:=(rG.1 ha).1;have jA:=(rG.1 hb).1;rw[getD_eq O1,getD_eq jA];exact Yo.1 kH a b O1 jA xX
 .rw[Ze];constructor
  .rintro⟨k,hk,rfl⟩;exact(rG.1 hk).2
  .intro hx;obtain⟨k,hk,rfl⟩:=Zc (hs x hx);exact⟨k,rG.2 ⟨hk,by grind⟩,getD_eq hk⟩
theorem acX(kH:bI N){l:List ae}(hl:bI l)(hs:∀y∈l,y∈N){p:ae->Bool}{b:ae}(h:l.find? p=some b):∃k,k<(cu N l).length/\N.getD ((cu N l).getD k default) default=b/\p b=true/\∀j,j<k->p (N.getD ((cu N l).getD j default) default)=false:=by
 rw[← ahF kH hl hs,List.find?_map,Z8]at h;obtain⟨x,hx,rfl⟩:=h;rw[Ya]at hx;have ek:∀j (hj:j<(cu N l).length),(cu N l).getD j default=(cu N l)[j]:=fun j hj=>by grind
 grind
end
def U3(lab:Nat)(rows:List (List AV))(x:AV)(Y:Store):Prop:=(x= .fl 1 rows/\Y=[])\/∃b u c,x= .own 1 lab b u c rows/\Y=[(lab,b,.tail u c)]
theorem abq(C:ay)(hs:pH C)(eY:C.Fits):Pure prog 31 [.agg C.cells] (dJ (lJ (deps C.features) (bX C.features))):=by
 have hG:=adl C hs eY;have hl:(bX C.features).length<=40:=ZD (Be _) hs.f;have kH:=Ka C.features;have hg:∀x y,y∈deps C.features x->y∈bX C.features:=fun x y h=>xo h;have Ap:=CS C.features;generalize deps C.features=g at*;generalize bX C.features=N at*;obtain⟨dd,oL,Al⟩:∃dd:Nat->ae->Nat,(∀j,mr g (N.getD j default) (dd j))/\∀j x,dd j x<=1000:=by refine⟨fun j=>(Hb g (N.getD j default)).choose,fun j=>(Hb g (N.getD j default)).choose_spec.1,fun j=>(Hb g (N.getD j default)).choose_spec.2⟩
 have OW:=fun(j:Nat) (h:j<N.length)=>alf (d:=dd j) hl h hg (oL j) (Al j);refine k31.pc (fun d=>bif ([45]:List Nat).elem d then 3 else 0) fun X=>?_;repeat'(first|exact .nil|refine .k ?_|refine .r1 ?_ ?_|(refine .m1 ?_ ?_;intro b)|refine .an rfl (by intro ar;first|exact hG|fail) ?_ ?_|fail)
 all_goals(try simp only[BL]at*)
 refine aP (fun m rg af=>∃(i:Nat) (sX least:Int),i<=N.length/\m=N.length-i/\((sX= -1/\least=1000/\∀j,j<i->1000<=dd j (N.getD j default))\/∃k:Nat,k<i/\sX=k/\least=dd k (N.getD k default)/\dd k (N.getD k default)<1000/\(∀j,j<k->dd k (N.getD k default)<dd j (N.getD j default))/\∀j,j<i->dd k (N.getD k default)<=dd j (N.getD j default))/\af=X/\rg=[(3,dJ N),(4,oC N g),(5,iv sX),(6,iv least),(7,iv i)]) N.length rfl ⟨_,_,Zr,Zs,0, -1,1000,Z4 _,rfl,.inl ⟨rfl,rfl,fun j hj=>absurd hj (by omega)⟩,rfl,rfl⟩ ?_;rintro m _ _ ⟨i,sX,least,hi,hm,hb,rfl,rfl⟩;have hS:=OW i;repeat'(first|exact .nil|refine .k ?_|(refine .cd ?_ ?_<;>intro hc)|refine .r1 ?_ ?_|(refine .m2 ?_ ?_;intro hlen)|refine .t1 ?_ ?_ ?_|refine .an rfl (by intro ar;first|exact hS (by(simp only[BL]at*;omega))|fail) ?_ ?_|fail)
 try any_goals((intro ar;first|(simp_all;done)|fail))
 all_goals(try simp only[BL]at*)
 .rcases hb with⟨rfl,rfl,h1⟩|⟨k,hk,rfl,rfl,h1,h2,h3⟩
  .exact⟨m-1,by omega,_,_,Zr,Zs,i+1,i,_,by omega,by omega,.inr ⟨i,by omega,rfl,rfl,by omega,fun j hj=>by have:=h1 j hj;omega,dj (fun j hj=>by have:=h1 j hj;omega) (ZO _)⟩,rfl,by rw[bj (n:=50) (by omega) (by decide)]⟩
  .exact⟨m-1,by omega,_,_,Zr,Zs,i+1,i,_,by omega,by omega,.inr ⟨i,by omega,rfl,rfl,by omega,fun j hj=>by have:=h3 j hj;omega,dj (fun j hj=>by have:=h3 j hj;omega) (ZO _)⟩,rfl,by rw[bj (n:=50) (by omega) (by decide)]⟩
 .have fL:i<N.length:=by clear hb;omega
  refine⟨m-1,by clear hb;omega,_,_,Zr,Zs,i+1,sX,least,fL,by clear hb;omega,?_,rfl,by clear hb;rw[bj (n:=50) (by omega) (by decide)]⟩;rcases hb with⟨rfl,rfl,h1⟩|⟨k,hk,rfl,rfl,h1,h2,h3⟩
  .exact .inl ⟨rfl,rfl,dj h1 (by omega)⟩
  .exact .inr ⟨k,by omega,rfl,rfl,h1,h2,dj h3 (by omega)⟩
 .rcases hb with⟨rfl,rfl,h1⟩|⟨k,hk,rfl,rfl,h1,h2,h3⟩
  .rw[abp Ap kH hg hl (fun j _=>oL j) (fun j hj=>h1 j (by omega))];exact Zw
  .omega
 obtain⟨k0,vK,rfl,rfl,h1,h2,h3⟩:∃k:Nat,k<i/\sX=k/\least=dd k (N.getD k default)/\dd k (N.getD k default)<1000/\(∀j,j<k->dd k (N.getD k default)<dd j (N.getD j default))/\∀j,j<i->dd k (N.getD k default)<=dd j (N.getD j default):=by rcases hb with⟨rfl,rfl,h1⟩|h;omega;exact h
 clear hb hS;have vr:=OW k0 (by omega);obtain⟨e,he⟩:∃e,dd k0 (N.getD k0 default)=e+1:=⟨dd k0 (N.getD k0 default)-1,by have:=((oL k0).r _ h1).pos;omega⟩
 obtain⟨L,hL⟩:=Ih (oL k0) e _ he h1;have oN:=abo Ap kH (fun j _=>oL j) (by omega) he (by omega) (fun j hj=>by have:=h2 j hj;omega) (fun j hj=>by have:=h3 j (by omega);omega) hL;have hLl:=hL.len;rw[<-oN];rw[he];repeat'(first|exact .nil|refine .k ?_|refine .r1 ?_ ?_|refine .t1 ?_ ?_ ?_|refine .an rfl (by intro ar;exact vr) ?_ ?_|fail)
 try any_goals((intro ar;(simp only[BL]at*;omega)))
 all_goals(try simp only[BL]at*)
 all_goals try(show(0:Int)<=_/\_;omega)
 all_goals try(show 1<=1000000;decide)
 rename Store=>eM
 rw[show IntKind.i64.wrap (((e+1:Nat):Int)-1)=(e:Int) by rw[bn (by omega)];omega];refine aP (fun m rg af=>∃(r a:Nat) (p l:List ae) (x:AV) (Y:Store),a<N.length/\m=r/\jS g (dd k0) r (N.getD a default) l/\L=p++l/\U3 80 ((N.getD k0 default::p).map dq) x Y/\af=Y++eM/\rg=[(3,dJ N),(4,oC N g),(9,.sl false 1 (N.map fun x=>[iv (dd k0 x)])),(10,x),(11,iv a),(12,iv r)]) e rfl ⟨_,_,Zr,Zs,e,k0,[],L,_,_,by omega,rfl,hL,rfl,.inl ⟨rfl,rfl⟩,rfl,rfl⟩ ?_;rintro m2 _ _ ⟨r,a,p,l,x,Y,ha,fg,Is,Dr,hx,rfl,rfl⟩;have vP:p.length<=1000:=by have:=Zk List.length Dr;rw[Z7]at this;omega
 have kR:r<=1000:=by have h1:=Zk List.length Dr;have h2:=Is.len;rw[Z7]at h1;omega
 rcases hx with⟨rfl,rfl⟩|⟨b4,u4,c4,rfl,rfl⟩
 all_goals
  repeat'(first|exact .nil|refine .k ?_|(refine .cd ?_ ?_<;>intro hc)|refine .r1 ?_ ?_|fail)
  all_goals(try simp only[BL]at*)
  rotate_left
  .obtain rfl:r=0:=by omega
   cases Is;rw[Dr,Y5];first|(refine Sx.Fin.wk Zs ?_;exact .Db rfl)|(refine Sx.Fin.wk Zs ?_;repeat' exact .own _)
  obtain⟨y1,l1,r1,rfl,rfl,hfb,hG1⟩:∃y1 l1 r1,r=r1+1/\l=y1::l1/\(g (N.getD a default)).find? (fun x=>decide (dd k0 x=r1+1))=some y1/\jS g (dd k0) r1 y1 l1:=by
   cases Is with
   |nil=>exact absurd hc (by simp)|cons h t=>exact⟨_,_,_,rfl,rfl,h,t⟩
  obtain⟨k1,kN,Aw,ry,Ay⟩:=acX kH (Ap _) (fun y h=>hg _ y h) hfb;have ry:=Yl ry;have Ay:∀j,j<k1->¬dd k0 (N.getD ((cu N (g (N.getD a default))).getD j default) default)=r1+1:=fun j hj=>of_decide_eq_false (Ay j hj);rw[<-Aw]at ry;have bp:(cu N (g (N.getD a default))).length<=40:=ZD (Yd _ _) (by rw[List.length_range];exact hl);have hXl:∀j,j<(cu N (g (N.getD a default))).length->(cu N (g (N.getD a default))).getD j default<N.length:=fun j hj=>(rG.1 (bN hj)).1;first
   |(have _:=b4
     refine aP (fun m rg af=>∃k:Nat,k<=k1/\m=k1-k/\af=(80,b4,.tail u4 c4)::eM/\rg=[(3,dJ N),(4,oC N g),(9,.sl false 1 (N.map fun x=>[iv (dd k0 x)])),(10,.own 1 80 b4 u4 c4 ((N.getD k0 default::p).map dq)),(11,iv a),(12,iv (r1+1:Nat)),(13,iv k)]) k1 rfl ⟨_,_,Zr,Zs,0,Z4 _,rfl,rfl,rfl⟩ ?_)
   |refine aP (fun m rg af=>∃k:Nat,k<=k1/\m=k1-k/\af=eM/\rg=[(3,dJ N),(4,oC N g),(9,.sl false 1 (N.map fun x=>[iv (dd k0 x)])),(10,.fl 1 ((N.getD k0 default::p).map dq)),(11,iv a),(12,iv (r1+1:Nat)),(13,iv k)]) k1 rfl ⟨_,_,Zr,Zs,0,Z4 _,rfl,rfl,rfl⟩ ?_
  all_goals
   rintro m3 _ _ ⟨k,hk,hm3,rfl,rfl⟩;have hXk:=hXl k (by omega);repeat'(first|exact .nil|refine .k ?_|(refine .cd ?_ ?_<;>intro hc)|refine .r1 ?_ ?_|refine .t1 ?_ ?_ ?_|refine .u2 ?_ ?_ ?_ (fun b u c=>?_)|refine .u4 ?_ ?_ (fun b u c=>?_)|(show List.all _ _=true;rfl)|fail)
   try any_goals((intro ar;first|(simp_all;done)|(simp only[BL]at*;omega)))
   all_goals(try simp only[BL]at*)
   all_goals try(show(0:Int)<=_/\_;omega)
   all_goals try(show 1<=1000000;decide)
   all_goals try(show _ * _<=_;simp only[Z5,ZY,ZP];omega)
   .have aW:k≠k1:=fun e=>by subst e;exact hc (by rw[ry])
    exact⟨m3-1,by omega,_,_,Zr,Zs,k+1,by omega,by omega,rfl,by rw[bj (n:=50) (by omega) (by decide)]⟩
   .obtain rfl:k=k1:=by
     rcases YN k k1 with h|h
     .exact absurd (by omega) (Ay k h)
     .omega
    rw[<-Aw]at hG1;refine⟨r1,by omega,_,[(80,b,.tail u c)]++_,Zr,Zs,r1,(cu N (g (N.getD a default))).getD k default,p++[y1],l1,_,_,hXk,rfl,hG1,by rw[Dr];simp,.inr ⟨b,u,c,rfl,rfl⟩,rfl,?_⟩;rw[bn (by omega),<-Aw];rw[show((r1+1:Nat):Int)-1=(r1:Int) by omega];simp[dq]
