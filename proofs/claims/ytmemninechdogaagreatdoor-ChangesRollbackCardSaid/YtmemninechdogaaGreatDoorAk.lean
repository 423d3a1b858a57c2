import Derived.Test.YtmemninechdogaaGreatDoorAf
import Derived.Test.YtmemninechdogaaGreatDoorHa
set_option linter.all false
set_option maxRecDepth 100000
set_option maxHeartbeats 4000000
namespace Go.Proofs.YtmemninechdogaaGreatDoor
open _root_.Go.Proofs.Tryz
section
open Go.RowKit Go.Proofs Go.Shelf
theorem ajs{P:Program}(w:World)(t ty e:TypeId)(z:Value)(ht:P.underlying t=some (.slice e))(hv:∀w,(zeroValue e).run P w= .ok z w)(hz:0<z.cells.size)(h1:∀v∈z.cells.toList,v.oneCell'=true)(g o c:Nat)
  (hc:∀j,j<z.cells.size->(w.cell? ⟨g,o+j,none⟩).isSome=true) (hf:∀j,j<z.cells.size->w.frozen? ⟨g,o+j,none⟩=false):
  (Builtin.clear_ #[t] ty #[.slice (some ⟨g,o,none⟩) 1 c]).run P w= .ok (.tuple #[]) (w.setCells g o z.cells.toList):=by
 have AZ:(Builtin.zeroCells z.cells 1).toList=z.cells.toList:=by
  apply X9
  .simp[Builtin.zeroCells]
  .intro i h1 h2;have OG:i<z.cells.size:=by grind
   simp[Builtin.zeroCells,Nat.mod_eq_of_lt OG,OG]
 have fD:=run_storeCells_cells (P:=P) g o z.cells.toList 0 w (by grind) (by grind) h1;simp[Builtin.clear_,run_underlying ht,hv,AZ,fD]
theorem aby{w:World}{n i g cap:Nat}{xs:List Value}{cm:Array Value}{ta:TypeId}(hg:w.heap[g]? =some (.cells cm ta (0,0)))(bY:cm.size=cap*18)(iR:cm.toList.take (n*18)=xs)(kG:∀u∈xs,u.oneCell'=true)(hi:i<n)(DQ:n<=cap)(lT:cap<=maxLen):
  Calls prog 175 #[.slice (some ⟨g,0,none⟩) n cap,.int .i64 i,.int .i64 ((i+1:Nat):Int)] w fun e w'=>e= .returned (.slice (some ⟨g,0,none⟩) (n-1) cap)/\w'=(w.drew.setCells g (i*18) (xs.drop ((i+1)*18))).setCells g ((n-1)*18) zF.cells.toList:=by
 unfold maxLen at lT;obtain⟨i0,eH,ew,PZ,JH⟩:=info_parts we;have ct:xs.length=n*18:=by rw[<-iR,ZL,Zu,bY,Ys (Y4 _ (by omega))]
 have gR:∀j u,xs[j]? =some u->w.cell? ⟨g,j,none⟩=some u:=fun j u hj=>by
  simp only[World.cell?,hg];rw[<-iR,YV]at hj;split at hj
  .rw[Zi]at hj;exact hj
  .cases hj
 have dM:∀j,j<cap*18->(w.cell? ⟨g,j,none⟩).isSome=true:=fun j hj=>by simp only[World.cell?,hg];simp[bY,hj]
 have hfz:∀j,w.frozen? ⟨g,j,none⟩=false:=fun j=>by simp[World.frozen?,hg]
 clear hg iR bY;obtain⟨news,AE⟩:∃news,news=xs.drop ((i+1)*18):=⟨_,rfl⟩
 rw[<-AE];have hlen:news.length=(n-(i+1))*18:=by rw[AE,YZ,ct,Nat.sub_mul]
 obtain⟨A,hA,rC⟩:∃A:Addr,(if cap=i+1 then(some (⟨g,0,none⟩:Addr))else some ⟨g,(i+1)*18,none⟩)=some A/\Hid (∀t u,news[t]? =some u->w.drew.cell? (A.add t)=some u):=by
  by_cases h:cap=i+1
  .refine⟨⟨g,0,none⟩,by simp[h],fun t u hu=>?_⟩;have h0:news.length=0:=by rw[hlen];omega
   rw[Yi.1 h0]at hu;simp at hu
  .refine⟨⟨g,(i+1)*18,none⟩,by simp[h],fun t u hu=>?_⟩;rw[Addr.add_lit];rw[AE,YE]at hu;exact gR _ _ hu
 have s1:Hid (news.length=(n-(i+1))*18):=hlen;have s2:Hid (∀u∈news,u.oneCell'=true):=fun u hu=>by rw[AE]at hu;exact kG _ (YP hu)
 have s3:Hid (∀t,t<news.length->(w.drew.cell? ⟨g,0+i*18+t,none⟩).isSome=true/\w.drew.frozen? ⟨g,0+i*18+t,none⟩=false):=fun t ht=>by rw[hlen]at ht;rw[ZH];exact⟨dM _ (by omega),hfz _⟩
 obtain⟨W1,ff⟩:∃W1,W1=w.drew.setCells g (0+i*18) news:=⟨_,rfl⟩
 have bL:∀ty,(Builtin.clear_ #[23] ty #[.slice (some ⟨g,(i+(n-(i+1)))*18,none⟩) (n-(i+(n-(i+1)))) (cap-(i+(n-(i+1))))]).run prog W1= .ok (.tuple #[]) (W1.setCells g ((n-1)*18) zF.cells.toList):=fun ty=>by rw[show n-(i+(n-(i+1)))=1 by omega,show i+(n-(i+1))=n-1 by omega];refine ajs W1 _ ty _ zF underlying23 zeroValue37 (by rw[wS];decide) (by decide) g ((n-1)*18) _ (fun j hj=>?_) (fun j hj=>by rw[ff,World.frozen?_setCells];exact hfz _);rw[wS]at hj;rw[ff];exact isSome_setCells g news (0+i*18) w.drew (fun j hj=>by rw[ZH];rw[hlen]at hj;exact dM _ (by omega)) _ (dM _ (by omega))
 have hW:Hid (W1=w.drew.setCells g (0+i*18) news):=ff;have hic:i<=cap:=by omega
 have hjc:i+1<=cap:=by omega
 have gH:i<=i+1:=by omega
 have hj:i+1<=n:=by omega
 have aW:¬((i:Int)=((i+1:Nat):Int)):=by omega
 have iz:(0:Int)<=(i:Int)+1:=by omega
 have gV:(i:Int)+1<=(n:Int):=by omega
 have mixed:prog.follows Departure.mixedOrders=true:=by kernel_rfl
 clear ff AE hlen gR dM hfz ct
 go_enter func175,ntmps175
 go_wp2_with fail
 go_region_law_o (refine step_append_room rfl (.tmp 22) (.tmp 25) 23 rfl 37 i0 18 underlying23 eH PZ g 0 i cap (by simp[Act.eval,Act.put]) A (n-(i+1)) (cap-(i+1)) news (by simp[Act.eval,Act.put,hA]) s1.out rC.out s2.out (by omega) s3.out ?_;rw[<-hW.out])
 go_wp2
 go_ret
 refine⟨by rw[show i+(n-(i+1))=n-1 by omega];rfl,?_⟩;have:=hW.out;rw[ZH]at this;rw[this];rename_i h;rw[h,Value.cells]
end
open Go.Sx Go.Proofs Go.RowKit
theorem abx{rows:List (List AV)}{x:AV}{Y q:Store}{i:Nat}(hx:oj 18 rows x Y)(hK:∀r∈rows,r.length=18)(h1:∀r∈rows,r.all AV.one=true)(hi:i<rows.length):
  Sx.Spec prog 175 [x,.v (.int .i64 (i:Int)),.v (.int .i64 ((i:Int)+1))] (Y++q) fun r af=>r= .ret (.sl true 18 (rows.take i++rows.drop (i+1)))/\af=q:=by
 intro M w0 w cs hI hR;obtain⟨v1,cB,rfl,q1,bV⟩:=hR.aZ;obtain⟨v2,qG,rfl,q2,ef⟩:=bV.aZ;obtain⟨v3,rfl,q3⟩:=RL.cR ef;obtain rfl:=q2.aC;obtain rfl:=q3.aC;rcases hx with⟨rfl,rfl,rfl⟩|⟨b,c,rest,rfl,rfl,hc,hm,j7⟩
 .grind
 .obtain rfl:=q1.pd;have eg:=xy hK;have hA:(rows.flatten++rest).length=c*18:=by grind
  have nE:Inv prog M w0 ((40,b,.cells (rows.flatten++rest))::q) w:=hI;obtain⟨OS,cm,T5,hh,tz⟩:=(nE.st _ ZK).2;have bY:cm.size=c*18:=by rw[<-Zu,<-tz.1,hA]
  have di:RL M rows.flatten (cm.toList.take (rows.length*18)):=by have:=tz.take (rows.length*18);grind
  have hD:=di.drop ((i+1)*18);have qc:(rows.length-1)*18+18=rows.length*18:=by omega
  have gM:(rows.flatten.drop ((i+1)*18)).length=(rows.length-1)*18-i*18:=by grind
  have oY:(zF.cells.toList.map AV.v).length=18:=by rfl
  have gS:i*18+18<=rows.length*18:=by omega
  have hcK:rows.length*18<=c*18:=Y4 _ hc;have hDv:((cm.toList.take (rows.length*18)).drop ((i+1)*18)).length=(rows.length-1)*18-i*18:=by grind
  refine(aby hh bY rfl (fun u hu=>ZA.1 (di.ov (xz h1)) u hu) hi hc hm).mono fun e w' ⟨g5,g6⟩=>?_;have cq:=(nE.ft.setCells (o:=i*18) hD (by grind)).setCells (o:=(rows.length-1)*18) (RL.exact zF.cells.toList) (by rw[Bm _ _ _ (by grind),hA,← Z5 (f:=AV.v),oY];omega);rw[← g6]at cq;have AD:∀j (h:j<(rows.take i++rows.drop (i+1)).length),(rows.take i++rows.drop (i+1))[j].length=18:=fun j h=>by grind
  have gT:(rows.take i++rows.drop (i+1)).length=rows.length-1:=by grind
  obtain⟨M2,a1,a2,a3⟩:=De (rows:=rows.take i++rows.drop (i+1)) (c:=c) cq AD (by
   rw[gT,List.flatten_append,Da i hK,C9 (i+1) hK];unfold over;have e0:(rows.flatten++rest).take (i*18)=rows.flatten.take (i*18):=Zg (by omega);have e1:(rows.flatten.take (i*18)).length=i*18:=by rw[ZL,eg];omega
   rw[e0];have e2:(rows.flatten.take (i*18)++rows.flatten.drop ((i+1)*18)).length=(rows.length-1)*18:=by rw[Z7,e1,gM];omega
   generalize rows.flatten.take (i*18)++rows.flatten.drop ((i+1)*18)=X at e2|-
   grind) (by rw[gT];omega) hm
  refine⟨M2,_,q,a1,a2,?_,rfl,rfl⟩;subst g5;rw[gT]at a3;exact a3
section
open Go.RowKit Go.Proofs Go.Shelf
theorem adq{w:World}{n:Nat}(h0:0<n)(hn:n<=200000):
  Calls prog 171 #[.slice none 0 0,.int .i64 (n:Int)] w fun e w'=>∃G pv,e= .returned (.slice (some ⟨w.heap.size,0,none⟩) 0 G)/\n<=G/\G<=maxLen/\pv.size=G*18/\w'=w.drew.alloc (.cells pv 37):=by
 obtain⟨i0,eH,ew,PZ,JH⟩:=info_parts we;have h1:¬((n:Int)<0):=by omega
 have h3:wrap64 ((n:Int))=(n:Int):=by unfold wrap64;omega
 have h4:(n:Int)>0:=by omega
 have hold:(Builtin.firstCells i0.size 0 (.slice none 0 0)).run prog w.drew= .ok #[] w.drew:=run_firstCells_none w.drew i0.size 0 0 0
 have mS:∀ty,(Builtin.append_ #[23,3] ty #[.slice none 0 0,.int .i64 (n:Int)]).run prog w=
   .ok (.slice (some ⟨w.heap.size,0,none⟩) n (grownCap w n 0 37)) (w.drew.alloc (.cells (#[]++Builtin.zeroCells zF.cells n++Builtin.zeroCells zF.cells (grownCap w n 0 37-n)) 37)):=fun ty=>by
  have h:=Lib.run_append_grow_zeros w 23 3 ty 37 i0 zF .i64 .i64 underlying23 (by kernel_rfl) eH ew none 0 0 [] hold n (by omega) (by omega) (by omega) (by omega) (by rw[JH];omega) (growslice_fits (by omega) (by rw[JH];omega));rw[ZH]at h;exact h
 have j4:n<=grownCap w n 0 37:=grownCap_ge w _ _ _;have jy:=grownCap_le_maxLen w n 0 37 (by unfold maxLen;omega);generalize grownCap w n 0 37=G at mS j4 jy;obtain⟨pv,gF⟩:∃pv,pv= #[]++Builtin.zeroCells zF.cells n++Builtin.zeroCells zF.cells (G-n):=⟨_,rfl⟩
 have mM:pv.size=G*18:=by rw[gF];simp only[Xb,Builtin.zeroCells,Array.size_map,Array.size_range,wS];simp;omega
 rw[<-gF]at mS;have Pv:maxLen=9223372036854775807:=by decide
 have adu:G<=9223372036854775807:=by omega
 clear hold gF eH
 go_enter func171,ntmps171
 go_wp2_with (at_builtin;refine Lib.wpList_append_run _ rfl _ _ _ _ rfl _ _ rfl rfl _ _ (mS _) ?_)
 all_goals(go_ret;exact⟨G,rfl,j4,adu,pv,mM,rfl⟩)
end
open Go.Sx Go.Proofs Go.RowKit
theorem aeY{P:Program}[Glob P]{M:Mem}{w0:Base}{w:World}{q:Store}{t b c:Nat}{l:List AV}(hI:Inv P M w0 ((t,b,.cells l)::q) w)(hc:l.length=c):Inv P M w0 ((t,b,.tail 0 c)::q) w:=by
 refine⟨hI.os,hI.tape,hI.output,hI.size,hI.old,hI.bZ,fun e he=>?_,hI.nd,hI.gl,hI.gw,hI.bm⟩;rcases ZR.1 he with rfl|he
 .obtain⟨h1,h2,cs,ty,h3,h4⟩:=hI.st _ ZK;exact⟨h1,fun o _=>h2 o,cs,ty,h3,by rw[<-hc,h4.1,Zu],Z4 _⟩
 .exact hI.st e (ZN _ he)
theorem adn{n:Nat}(h0:0<n)(hn:n<=200000)(q:Store):Sx.Spec prog 171 [.v (.slice none 0 0),.v (.int .i64 (n:Int))] q fun r af=>∃b c,r= .ret (.own 18 0 b 0 c [])/\af=(0,b,.tail 0 c)::q:=by intro M w0 w cs hI hR;obtain⟨v1,cB,rfl,q1,bV⟩:=hR.aZ;obtain⟨v2,rfl,q2⟩:=RL.cR bV;obtain rfl:=q1.aC;obtain rfl:=q2.aC;refine(adq (w:=w) h0 hn).mono fun e w' ⟨G,pv,g1,g2,g3,g4,g5⟩=>?_;subst g5;have gD:=hI.ft;have cq:=Inv.box gD (cs:=pv.toList) (l:=pv.toList.map .v) 37 (RL.exact _) 0;refine⟨M,_,_,Mem.le.refl _,aeY (c:=G*18) cq (by simp[g4]),?_,w.heap.size,G*18,rfl,rfl⟩;subst g1;exact .own 18 0 _ 0 _ [] 0 G (fun _=>default) (fun _ h=>absurd h (Nat.not_lt_zero _)) (fun _ h=>absurd h (by simp)) (fun _ h=>absurd h (Nat.not_lt_zero _)) (Z4 _) g3 (.inr ⟨by simp,by omega⟩) (by decide)
section
open Go.RowKit Go.Proofs Go.Shelf
theorem adp(w:World):Calls prog 171 #[.slice none 0 0,.int .i64 0] w fun e w'=>e= .returned (.slice none 0 0)/\w'=w:=by
 go_wp2
 go_ret
 simp_all
end
end Go.Proofs.YtmemninechdogaaGreatDoor
namespace Go.Sx
theorem VX.u0{P:Program}[Glob P]{cfg:Nat->Nat}{l:List CI}{K:ag->Store->Prop}{E:List PanicEntry->Store->Prop}{xr:XR}{q:Store}{og:Option Bool}{ps:List Prop}{d:Nat}{t:TypeId}{ah bytes:Nat}{z:List Value}{x y:Operand}{w:AV}(h:wa xr none [x,y]=some (og,[.v (.slice none 0 0),w],ps))(hw:dH ah w=some [])(aw:OB ps)
  (k:VX P cfg l K E ((d,.s (.v (.slice none 0 0)))::xr) q):VX P cfg (⟨some d,.append t ah bytes z x y,none⟩::l) K E xr q:=by
 obtain⟨_,he⟩:=cC h;obtain⟨bD,h',_,_⟩:=ie h;have cO:og=none:=by grind
 subst cO;have:=he aw rfl;simp only[aL,Z2,Zn]at this;constructor;simp only[fb,cE,ak,this.1,this.2,hw];exact⟨by simp,fun _=>k.h,fun e=>absurd rfl e⟩
end Go.Sx
namespace Go.Proofs.YtmemninechdogaaGreatDoor
open _root_.Go.Proofs.Tryz
open Go.Sx Go.Proofs
theorem ado:Pure prog 171 [.v (.slice none 0 0),iv 0] (.v (.slice none 0 0)):=by refine⟨fun q M w0 w cs hI hR=>?_⟩;obtain⟨v1,cB,rfl,q1,bV⟩:=hR.aZ;obtain⟨v2,rfl,q2⟩:=RL.cR bV;obtain rfl:=q1.aC;obtain rfl:=q2.aC;exact(adp w).mono fun e w' ⟨h1,h2⟩=>⟨M,.ret (.v (.slice none 0 0)),q,Mem.le.refl _,by grind,by subst h1;exact .v _,rfl,rfl⟩
theorem P7(F:FuncId)(row:List AV)(p:aj->Bool)(bL:im prog F=true)(h:∀x:aj,Pure prog F [.agg x.cells,.pc row] (.v (.bool (p x))))(fs:List aj):Pure prog 80 [.sl false 18 (fs.map aj.cells),.cl F [] [.pc row]] (iv (firstIdx p fs 0)):=by
 refine JW.p fun q=>?_;repeat'(first|exact .nil|refine .k ?_|refine .r1 ?_ ?_|(refine .m2 ?_ ?_;intro hlen)|fail)
 all_goals(simp_all)
 refine aP (fun m rg af=>∃i:Nat,i<=fs.length/\m=fs.length-i/\(∀j,j<i->p (fs.getD j default)=false)/\af=q/\rg=[(0,.sl false 18 (fs.map aj.cells)),(1,.cl F [] [.pc row]),(7,iv fs.length),(8,iv i)]) fs.length rfl ⟨_,_,Zr,Zs,0,Z4 _,rfl,fun j hj=>absurd hj (by omega),rfl,rfl⟩ ?_;rintro m _ _ ⟨i,hi,hn,hp,rfl,rfl⟩;repeat'(first|exact .nil|refine .k ?_|(refine .cd ?_ ?_<;>intro hc)|refine .r1 ?_ ?_|refine .t1 ?_ ?_ ?_|fail)
 try any_goals(exact Zo)
 all_goals(try simp only[BL]at*)
 .refine Ml (by rfl) bL (fun _=>h (fs.getD i default)) OB.nil ?_;repeat'(first|exact .nil|refine .k ?_|(refine .cd ?_ ?_<;>intro hc)|refine .r1 ?_ ?_|fail)
  all_goals(try simp only[BL]at*)
  .rw[q8 (p:=p) (l:=fs) (k:=0) (i:=i) (fun j hj=>hp j hj) (by omega) hc,ZH];exact Zw
  .refine⟨fs.length-(i+1),by omega,_,_,Zr,Zs,i+1,by omega,rfl,dj hp (by simpa using hc),rfl,by rw[bj (n:=fs.length) (by omega) (by assumption)]⟩
 .rw[q9 (fun y hy=>by have:=kj (p:=fun y:aj=>p y=false) (fun j hj=>hp j (by omega)) y hy;exact this)];exact Zw
theorem ahV(n:ae)(x:aj):Pure prog 170 [.agg x.cells,.pc [sv n]] (.v (.bool (decide (x.name=n)))):=by
 refine afE.p fun q=>?_;repeat'(first|exact .nil|refine .k ?_|refine .r1 ?_ ?_|(refine .m1 ?_ ?_;intro b)|fail)
 .exact Sx.Fin.intro Zs rfl
def jc(a b:ae):Bool:= !(Op.bytesLess (ByteArray.toList a) (ByteArray.toList b)||decide (a=b))
theorem OC(a b:ae):jc a b=c6 b a:=by
 show(!(c6 a b||decide (a=b)))=c6 b a;cases h:c6 a b with
 |true=>
  cases h2:c6 b a with
  |true=>have:=E4 h h2;rw[qy]at this;grind|false=>rfl
 |false=>
  cases h2:c6 b a with
  |true=>grind|false=>simp[KR h h2]
theorem ahU(f x:aj):Pure prog 172 [.agg x.cells,.pc f.cells] (.v (.bool (jc x.name f.name))):=by
 refine afF.p fun q=>?_;repeat'(first|exact .nil|refine .k ?_|refine .r1 ?_ ?_|(refine .m1 ?_ ?_;intro b)|fail)
 .exact Sx.Fin.intro Zs rfl
theorem xw(l:List aj)(n:ae):Pure prog 126 [.sl false 18 (l.map aj.cells),sv n] (iv (firstIdx (fun x=>decide (x.name=n)) l 0)):=by
 refine afi.p fun q=>?_;refine .k ?_;refine .k ?_;repeat'((fail_if_success (show WK _ _ _ _ _ _ _ _));(first|exact .nil|refine .k ?_|refine .r1 ?_ ?_|(refine .m1 ?_ ?_;intro b)|fail))
 refine .k ?_;refine sR 3 b .here (.same (.p0 .nil)) ?_;repeat'(first|exact .nil|refine .k ?_|refine .r1 ?_ ?_|refine .an rfl (by intro ar;exact P7 _ _ _ rfl (ahV n) _) ?_ ?_|fail)
 all_goals exact Zw
theorem C2(l:List aj):∀r∈l.map aj.cells,r.length=18:=fun r hr=>by obtain⟨f,_,rfl⟩:=Ze.1 hr;rfl
theorem C3(l:List aj):∀r∈l.map aj.cells,r.all AV.one=true:=fun r hr=>by obtain⟨f,_,rfl⟩:=Ze.1 hr;rfl
theorem wL(l:List aj)(i:Nat)(hi:i<l.length)(hn:l.length<=100000):Pure prog 129 [.sl false 18 (l.map aj.cells),iv i] (.sl false 18 ((l.take i++l.drop (i+1)).map aj.cells)):=by
 refine afj.p fun q=>?_;repeat'(first|exact .nil|refine .k ?_|refine .r1 ?_ ?_|fail)
 all_goals(try grind)
 refine uP (by rfl) (MX (l.map aj.cells) (C2 l) (C3 l) (by grind) _) OB.nil (fun x af h=>?_) (fun ch af ⟨_,_,h,_⟩=>by cases h);obtain⟨x',Y,h,rfl,hx⟩:=h;cases h;repeat'(first|exact .nil|grind|refine .r1 ?_ ?_|fail)
 all_goals(try grind)
 have hw:IntKind.i64.wrap ((i:Int)+1)=(i:Int)+1:=by rw[IntKind.wrap_i64];omega
 rcases id hx with⟨h0,rfl,rfl⟩|⟨b,c,rest,rfl,rfl,h0⟩
 .simp_all
 refine uP (by rw[hw];rfl) (abx (i:=i) hx (C2 l) (C3 l) (by grind)) OB.nil (fun y af h=>?_) (fun ch af ⟨h,_⟩=>by cases h);obtain⟨h,rfl⟩:=h;cases h;repeat'(first|exact .nil|refine .k ?_|refine .r1 ?_ ?_|fail)
 all_goals(try simp only[BL]at*)
 rw[Zl,XJ,Xn];exact Zw
theorem abj:Pure prog 127 [.sl false 1 [[.sl false 18 []],[.sl false 18 []]]] (.sl false 18 []):=by
 refine Qo.pc (fun d=>bif ([33]:List Nat).elem d then 1 else 0) fun q=>?_;repeat'(first|exact .nil|refine .k ?_|refine .r1 ?_ ?_|(refine .m3 ?_ ?_;intro hlen)|fail)
 all_goals(try simp only[BL]at*)
 refine aP (fun m rg af=>∃i:Nat,i<=2/\m=2-i/\af=q/\rg=[(0,.sl false 1 [[.sl false 18 []],[.sl false 18 []]]),(3,iv 0),(9,.sl false 1 [[.sl false 18 []],[.sl false 18 []]]),(10,iv 2),(11,iv i)]) 2 rfl ⟨_,_,Zr,Zs,0,by omega,rfl,rfl,rfl⟩ ?_;rintro m _ aR ⟨i,hi,hm,rfl,rfl⟩;rcases(show i=0\/i=1\/i=2 by omega)with rfl|rfl|rfl
 all_goals
  repeat'(first|exact .nil|refine .k ?_|(refine .cd ?_ ?_<;>intro hc)|refine .r1 ?_ ?_|(refine .m3 ?_ ?_;intro hlen)|refine .an rfl (by intro ar;exact ado) ?_ ?_|refine .r8 ?_ ?_|fail)
  all_goals(try simp only[BL]at*)
 all_goals try(show True/\_;exact⟨trivial,by decide,by simp only[ZY,ZP];omega⟩)
 all_goals try(exfalso;revert hc;decide)
 .exact⟨2-1,by omega,_,_,Zr,Zs,1,by omega,rfl,rfl,rfl⟩
 .exact⟨2-2,by omega,_,_,Zr,Zs,2,by omega,rfl,rfl,rfl⟩
 refine aP (fun m rg af=>∃i:Nat,i<=2/\m=2-i/\af=aR/\rg=[(6,NO),(25,.sl false 1 [[.sl false 18 []],[.sl false 18 []]]),(26,iv 2),(27,iv i)]) 2 rfl ⟨_,_,Zr,Zs,0,by omega,rfl,rfl,rfl⟩ ?_;rintro m _ aK ⟨i,hi,hm,rfl,rfl⟩;rcases(show i=0\/i=1\/i=2 by omega)with rfl|rfl|rfl
 all_goals
  repeat'(first|refine .u0 rfl rfl .nil ?_|first|exact .nil|refine .k ?_|(refine .cd ?_ ?_<;>intro hc)|refine .r1 ?_ ?_|refine .r8 ?_ ?_|fail)
  all_goals(try simp only[BL]at*)
 all_goals try(show True/\_;exact⟨trivial,by decide,by simp only[ZY,ZP];omega⟩)
 all_goals try(exfalso;revert hc;decide)
 .exact⟨2-1,by omega,_,_,Zr,Zs,1,by omega,rfl,rfl,rfl⟩
 .exact⟨2-2,by omega,_,_,Zr,Zs,2,by omega,rfl,rfl,rfl⟩
 .exact Zw
theorem abk(a e:List aj)(ha:a.length<=100000)(hb:e.length<=100000):Pure prog 127 [.sl false 1 [[.sl false 18 (a.map aj.cells)],[.sl false 18 (e.map aj.cells)]]] (.sl false 18 ((a++e).map aj.cells)):=by
 have Jw:a.length+e.length<=200000:=by omega
 by_cases h0:a.length+e.length=0
 .obtain rfl:a=[]:=Yi.1 (by omega);obtain rfl:e=[]:=Yi.1 (by omega);exact abj
 refine Qo.pc (fun d=>bif ([33]:List Nat).elem d then 1 else 0) fun q=>?_;repeat'(first|exact .nil|refine .k ?_|refine .r1 ?_ ?_|(refine .m3 ?_ ?_;intro hlen)|fail)
 all_goals(try simp only[BL]at*)
 refine aP (fun m rg af=>∃i s:Nat,(i=0/\s=0\/i=1/\s=a.length\/i=2/\s=a.length+e.length)/\m=2-i/\af=q/\rg=[(0,.sl false 1 [[.sl false 18 (a.map aj.cells)],[.sl false 18 (e.map aj.cells)]]),(3,iv s),(9,.sl false 1 [[.sl false 18 (a.map aj.cells)],[.sl false 18 (e.map aj.cells)]]),(10,iv 2),(11,iv i)]) 2 rfl ⟨_,_,Zr,Zs,0,0,.inl ⟨rfl,rfl⟩,rfl,rfl,rfl⟩ ?_;rintro m _ aR ⟨i,s,hi,hm,rfl,rfl⟩;rcases hi with⟨rfl,rfl⟩|⟨rfl,rfl⟩|⟨rfl,rfl⟩
 all_goals
  repeat'(first|exact .nil|refine .k ?_|(refine .cd ?_ ?_<;>intro hc)|refine .r1 ?_ ?_|(refine .m2 ?_ ?_;intro hlen)|refine .r8 ?_ ?_|fail)
  all_goals(try simp only[BL]at*)
 all_goals try(show True/\_;exact⟨trivial,by decide,by simp only[ZY,ZP];omega⟩)
 all_goals try(exfalso;revert hc;decide)
 all_goals try(exfalso;revert hc;rw[IntKind.wrap_i64];omega)
 .refine⟨2-1,by omega,_,_,Zr,Zs,1,a.length,.inr (.inl ⟨rfl,rfl⟩),rfl,rfl,by rw[show((0:Nat):Int)+(a.length:Int)=(a.length:Int) by omega,show IntKind.i64.wrap (a.length:Int)=(a.length:Int) by rw[IntKind.wrap_i64];omega];rfl⟩
 .refine⟨2-2,by omega,_,_,Zr,Zs,2,a.length+e.length,.inr (.inr ⟨rfl,rfl⟩),rfl,rfl,by rw[show IntKind.i64.wrap ((a.length:Int)+(e.length:Int))=((a.length+e.length:Nat):Int) by rw[IntKind.wrap_i64];omega];rfl⟩
 refine uP (by rfl) (adn (n:=a.length+e.length) (by omega) Jw _) OB.nil (fun x af h=>?_) (fun ch af ⟨_,_,h,_⟩=>by cases h);obtain⟨b0,c0,h,rfl⟩:=h;cases h;repeat'(first|exact .nil|refine .k ?_|refine .r1 ?_ ?_|(refine .m3 ?_ ?_;intro hlen)|fail)
 all_goals(try simp only[BL]at*)
 refine aP (fun m rg af=>∃(i bb u c:Nat) (l:List aj),(i=0/\l=[]\/i=1/\l=a\/i=2/\l=a++e)/\m=2-i/\af=(0,bb,.tail u c)::aR/\rg=[(6,.own 18 0 bb u c (l.map aj.cells)),(25,.sl false 1 [[.sl false 18 (a.map aj.cells)],[.sl false 18 (e.map aj.cells)]]),(26,iv 2),(27,iv i)]) 2 rfl ⟨_,_,Zr,Zs,0,b0,0,c0,[],.inl ⟨rfl,rfl⟩,rfl,rfl,rfl⟩ ?_;rintro m _ aK ⟨i,bb,u,c,l,hi,hm,rfl,rfl⟩;rcases hi with⟨rfl,rfl⟩|⟨rfl,rfl⟩|⟨rfl,rfl⟩
 all_goals
  repeat'(first|exact .nil|refine .k ?_|(refine .cd ?_ ?_<;>intro hc)|refine .r1 ?_ ?_|refine .u2 ?_ ?_ ?_ (fun b u c=>?_)|refine .r8 ?_ ?_|fail)
  all_goals(try simp only[BL]at*)
 all_goals try(show True/\_;exact⟨trivial,by decide,by simp only[ZY,ZP];omega⟩)
 all_goals try(exfalso;revert hc;decide)
 any_goals((simp only[ZY,ZP,Z7,Z5,ZL,Mx,TN,TH,YB];omega))
 any_goals exact Hr _
 .exact⟨2-1,by omega,_,_,Zr,Zs,1,_,_,_,a,.inr (.inl ⟨rfl,rfl⟩),rfl,rfl,rfl⟩
 .exact⟨2-2,by omega,_,_,Zr,Zs,2,_,_,_,l++e,.inr (.inr ⟨rfl,rfl⟩),rfl,rfl,by rw[Zl];rfl⟩
 .exact Zw
