/- slices.Delete of features, one of them: the walk and the contract in the layer's words. -/
import Derived.Test.YthdeaajdmdmfnaaGreatDoorAf
import Derived.Deep.LoopGhost
import Derived.Deep.RegionLaw
import Derived.Deep.AppendSrc
import Derived.Test.YthdeaajdmdmfnaaGreatDoorSet
import Derived.Test.YthdeaajdmdmfnaaGreatDoorHa
set_option linter.unusedSimpArgs false
set_option linter.unusedVariables false
set_option maxRecDepth 100000
set_option maxHeartbeats 4000000
namespace Go.Proofs.YthdeaajdmdmfnaaGreatDoor
open _root_.Go.Proofs.Tryz
section
open Go.RowKit Go.Proofs Go.Shelf
theorem agu{P:Program}(w:World)(t ty e:TypeId)(z:Value)(ht:P.underlying t=some (.slice e))(hv:∀ w,(zeroValue e).run P w= .ok z w)(hz:0<z.cells.size)(h1:∀ v∈z.cells.toList,v.oneCell'=true)(g o c:Nat)
  (hc:∀ j,j<z.cells.size→(w.cell? ⟨g,o+j,none⟩).isSome=true) (hf:∀ j,j<z.cells.size→w.frozen? ⟨g,o+j,none⟩=false):
  (Builtin.clear_ #[t] ty #[.slice (some ⟨g,o,none⟩) 1 c]).run P w= .ok (.tuple #[]) (w.setCells g o z.cells.toList):=by
 have AE:(Builtin.zeroCells z.cells 1).toList=z.cells.toList:=by
  apply XW
  ·simp[Builtin.zeroCells]
  ·intro i h1 h2
   have NQ:i<z.cells.size:=by simpa using h2
   simp[Builtin.zeroCells,Nat.mod_eq_of_lt NQ,NQ]
 have fb:=run_storeCells_cells (P:=P) g o z.cells.toList 0 w (by simpa using hc) (by simpa using hf) h1
 simp only[Ym]at fb
 simp[Builtin.clear_,run_underlying ht,hv,AE,fb]
theorem aam{w:World}{n i g cap:Nat}{xs:List Value}{cj:Array Value}{ta:TypeId}(hg:w.heap[g]? =some (.cells cj ta (0,0)))(bK:cj.size=cap * 18)(iw:cj.toList.take (n * 18)=xs)(j9:∀ u∈xs,u.oneCell'=true)(hi:i<n)(Di:n≤cap)(iQ:cap≤maxLen):
  Calls prog 167 #[.slice (some ⟨g,0,none⟩) n cap,.int .i64 i,.int .i64 ((i+1:Nat):Int)] w fun e w'=>e= .returned (.slice (some ⟨g,0,none⟩) (n-1) cap)∧w'=(w.drew.setCells g (i * 18) (xs.drop ((i+1) * 18))).setCells g ((n-1) * 18) zF.cells.toList:=by
 unfold maxLen at iQ
 obtain⟨i0,eE,dR,Pf,Jb⟩:=info_parts vr
 have cQ:xs.length=n * 18:=by rw[← iw,Zx,ZQ,bK,Yi (Y9 _ (by omega))]
 have gq:∀ j u,xs[j]? =some u→w.cell? ⟨g,j,none⟩=some u:=fun j u hj=>by
  simp only[World.cell?,hg]
  rw[← iw,Y4]at hj
  split at hj
  ·rw[Zj]at hj;exact hj
  ·cases hj
 have dE:∀ j,j<cap * 18→(w.cell? ⟨g,j,none⟩).isSome=true:=fun j hj=>by
  simp only[World.cell?,hg]
  simp[bK,hj]
 have hfz:∀ j,w.frozen? ⟨g,j,none⟩=false:=fun j=>by simp[World.frozen?,hg]
 clear hg iw bK
 obtain⟨news,qB⟩:∃ news,news=xs.drop ((i+1) * 18):=⟨_,rfl⟩
 rw[← qB]
 have hlen:news.length=(n-(i+1)) * 18:=by rw[qB,YQ,cQ,Nat.sub_mul]
 obtain⟨A,hA,qF⟩:∃ A:Addr,(if cap=i+1 then(some (⟨g,0,none⟩:Addr))else some ⟨g,(i+1) * 18,none⟩)=some A∧Hid (∀ t u,news[t]? =some u→w.drew.cell? (A.add t)=some u):=by
  by_cases h:cap=i+1
  ·refine⟨⟨g,0,none⟩,by simp[h],fun t u hu=> ?_⟩
   have h0:news.length=0:=by rw[hlen];omega
   rw[Yd.1 h0]at hu
   simp at hu
  ·refine⟨⟨g,(i+1) * 18,none⟩,by simp[h],fun t u hu=> ?_⟩
   rw[Addr.add_lit]
   rw[qB,Yz]at hu
   exact gq _ _ hu
 have s1:Hid (news.length=(n-(i+1)) * 18):=hlen
 have s2:Hid (∀ u∈news,u.oneCell'=true):=fun u hu=>by rw[qB]at hu;exact j9 _ (YE hu)
 have s3:Hid (∀ t,t<news.length→(w.drew.cell? ⟨g,0+i * 18+t,none⟩).isSome=true∧w.drew.frozen? ⟨g,0+i * 18+t,none⟩=false):=fun t ht=>by
  rw[hlen]at ht
  rw[ZH]
  exact⟨dE _ (by omega),hfz _⟩
 obtain⟨W1,dq⟩:∃ W1,W1=w.drew.setCells g (0+i * 18) news:=⟨_,rfl⟩
 have bC:∀ ty,(Builtin.clear_ #[23] ty #[.slice (some ⟨g,(i+(n-(i+1))) * 18,none⟩) (n-(i+(n-(i+1)))) (cap-(i+(n-(i+1))))]).run prog W1= .ok (.tuple #[]) (W1.setCells g ((n-1) * 18) zF.cells.toList):=fun ty=>by
  rw[show n-(i+(n-(i+1)))=1 by omega,show i+(n-(i+1))=n-1 by omega]
  refine agu W1 _ ty _ zF underlying23 zeroValue37 (by rw[wu];decide) (by decide) g ((n-1) * 18) _ (fun j hj=> ?_) (fun j hj=>by rw[dq,World.frozen?_setCells];exact hfz _)
  rw[wu]at hj
  rw[dq]
  exact isSome_setCells g news (0+i * 18) w.drew (fun j hj=>by rw[ZH];rw[hlen]at hj;exact dE _ (by omega)) _ (dE _ (by omega))
 have hW:Hid (W1=w.drew.setCells g (0+i * 18) news):=dq
 have hic:i≤cap:=by omega
 have hjc:i+1≤cap:=by omega
 have gd:i≤i+1:=by omega
 have hj:i+1≤n:=by omega
 have aE:¬((i:Int)=((i+1:Nat):Int)):=by omega
 have jT:(0:Int)≤(i:Int)+1:=by omega
 have gy:(i:Int)+1≤(n:Int):=by omega
 have mixed:prog.follows Departure.mixedOrders=true:=by kernel_rfl
 clear dq qB hlen gq dE hfz cQ
 go_enter func167,ntmps167
 go_wp2_with fail
 go_region_law_o (refine step_append_room rfl (.tmp 22) (.tmp 25) 23 rfl 37 i0 18 underlying23 eE Pf g 0 i cap (by simp[Act.eval,Act.put]) A (n-(i+1)) (cap-(i+1)) news (by simp[Act.eval,Act.put,hA]) s1.out qF.out s2.out (by omega) s3.out ?_;rw[← hW.out])
 go_wp2
 go_ret
 refine⟨by rw[show i+(n-(i+1))=n-1 by omega];rfl,?_⟩
 have:=hW.out
 rw[ZH]at this
 rw[this]
 rename_i h
 rw[h,Value.cells]
end
open Go.Sx Go.Proofs Go.RowKit
theorem aal{rows:List (List AV)}{x:AV}{τ σ:Store}{i:Nat}(hx:nF 18 rows x τ)(hK:∀ r∈rows,r.length=18)(h1:∀ r∈rows,r.all AV.one=true)(hi:i<rows.length):
  Sx.Spec prog 167 [x,.v (.int .i64 (i:Int)),.v (.int .i64 ((i:Int)+1))] (τ++σ) fun r σ'=>r= .ret (.sl true 18 (rows.take i++rows.drop (i+1)))∧σ'=σ:=by
 intro M w0 w cs hI hR
 obtain⟨v1,cq,rfl,q1,bY⟩:=hR.aX
 obtain⟨v2,oP,rfl,q2,dM⟩:=bY.aX
 obtain⟨v3,rfl,q3⟩:=RL.cJ dM
 obtain rfl:=q2.ay
 obtain rfl:=q3.ay
 rcases hx with⟨rfl,rfl,rfl⟩|⟨b,c,rest,rfl,rfl,hc,hm,jR⟩
 ·exact absurd hi (Nat.not_lt_zero _)
 ·obtain rfl:=q1.pO
  have eu:=xc hK
  have hA:(rows.flatten++rest).length=c * 18:=by rw[Z4,eu,jR,← YI];congr 1;omega
  have jL:Inv prog M w0 ((40,b,.cells (rows.flatten++rest))::σ) w:=hI
  obtain⟨N6,cj,SH,hh,sq⟩:=(jL.st _ ZD).2
  have bK:cj.size=c * 18:=by rw[← ZQ,← sq.1,hA]
  have c9:RL M rows.flatten (cj.toList.take (rows.length * 18)):=by
   have:=sq.take (rows.length * 18)
   rwa [Y5 eu]at this
  have hD:=c9.drop ((i+1) * 18)
  have im:(rows.length-1) * 18+18=rows.length * 18:=by omega
  have gj:(rows.flatten.drop ((i+1) * 18)).length=(rows.length-1) * 18-i * 18:=by rw[YQ,eu];omega
  have hzl:(zF.cells.toList.map AV.v).length=18:=by rw[ZW,ZQ,wu]
  have gr:i * 18+18≤rows.length * 18:=by omega
  have hcK:rows.length * 18≤c * 18:=Y9 _ hc
  have hDv:((cj.toList.take (rows.length * 18)).drop ((i+1) * 18)).length=(rows.length-1) * 18-i * 18:=by rw[← hD.1,gj]
  refine(aam hh bK rfl (fun u hu=>Zz.1 (c9.iK (xd h1)) u hu) hi hc hm).mono fun e w' ⟨g5,g6⟩=> ?_
  have bU:=(jL.eI.setCells (o:=i * 18) hD (by rw[hDv,hA];omega)).setCells (o:=(rows.length-1) * 18) (RL.exact zF.cells.toList) (by rw[A3 _ _ _ (by rw[gj,hA];omega),hA,← ZW (f:=AV.v),hzl];omega)
  rw[← g6]at bU
  have Am:∀ j (h:j<(rows.take i++rows.drop (i+1)).length),(rows.take i++rows.drop (i+1))[j].length=18:=fun j h=>by
   have hm:(rows.take i++rows.drop (i+1))[j]∈rows.take i++rows.drop (i+1):=Zf h
   rw[Zy]at hm
   rcases hm with hm|hm
   ·exact hK _ (YS hm)
   ·exact hK _ (YE hm)
  have gJ:(rows.take i++rows.drop (i+1)).length=rows.length-1:=by simp;omega
  obtain⟨M2,a1,a2,a3⟩:=CJ (rows:=rows.take i++rows.drop (i+1)) (c:=c) bU Am (by
   rw[gJ,List.flatten_append,CF i hK,CC (i+1) hK]
   unfold over
   have e0:(rows.flatten++rest).take (i * 18)=rows.flatten.take (i * 18):=Za (by omega)
   have e1:(rows.flatten.take (i * 18)).length=i * 18:=by rw[Zx,eu];omega
   rw[e0]
   have e2:(rows.flatten.take (i * 18)++rows.flatten.drop ((i+1) * 18)).length=(rows.length-1) * 18:=by rw[Z4,e1,gj];omega
   generalize rows.flatten.take (i * 18)++rows.flatten.drop ((i+1) * 18)=X at e2 ⊢
   rw[show(X++(rows.flatten++rest).drop (i * 18+(rows.flatten.drop ((i+1) * 18)).length)).take ((rows.length-1) * 18)=X from Y5 e2,Zb]
   exact Y5 e2) (by rw[gJ];omega) hm
  refine⟨M2,_,σ,a1,a2,?_,rfl,rfl⟩
  subst g5
  rw[gJ]at a3
  exact a3
section
open Go.RowKit Go.Proofs Go.Shelf
theorem abG{w:World}{n:Nat}(h0:0<n)(hn:n≤200000):
  Calls prog 163 #[.slice none 0 0,.int .i64 (n:Int)] w fun e w'=>∃ G ROW,e= .returned (.slice (some ⟨w.heap.size,0,none⟩) 0 G)∧n≤G∧G≤maxLen∧ROW.size=G * 18∧w'=w.drew.alloc (.cells ROW 37):=by
 obtain⟨i0,eE,dR,Pf,Jb⟩:=info_parts vr
 have h1:¬((n:Int)<0):=by omega
 have h3:wrap64 ((n:Int))=(n:Int):=by unfold wrap64;omega
 have h4:(n:Int)>0:=by omega
 have hold:(Builtin.firstCells i0.size 0 (.slice none 0 0)).run prog w.drew= .ok #[] w.drew:=run_firstCells_none w.drew i0.size 0 0 0
 have lX:∀ ty,(Builtin.append_ #[23,3] ty #[.slice none 0 0,.int .i64 (n:Int)]).run prog w=
   .ok (.slice (some ⟨w.heap.size,0,none⟩) n (grownCap w n 0 37)) (w.drew.alloc (.cells (#[]++Builtin.zeroCells zF.cells n++Builtin.zeroCells zF.cells (grownCap w n 0 37-n)) 37)):=fun ty=>by
  have h:=Lib.run_append_grow_zeros w 23 3 ty 37 i0 zF .i64 .i64 underlying23 (by kernel_rfl) eE dR none 0 0 [] hold n (by omega) (by omega) (by omega) (by omega) (by rw[Jb];omega) (growslice_fits (by omega) (by rw[Jb];omega))
  rw[ZH]at h
  exact h
 have jK:n≤grownCap w n 0 37:=grownCap_ge w _ _ _
 have jl:=grownCap_le_maxLen w n 0 37 (by unfold maxLen;omega)
 generalize grownCap w n 0 37=G at lX jK jl
 obtain⟨ROW,ga⟩:∃ ROW,ROW= #[]++Builtin.zeroCells zF.cells n++Builtin.zeroCells zF.cells (G-n):=⟨_,rfl⟩
 have lR:ROW.size=G * 18:=by
  rw[ga]
  simp only[Xk,Builtin.zeroCells,Array.size_map,Array.size_range,wu]
  simp
  omega
 rw[← ga]at lX
 have OI:maxLen=9223372036854775807:=by decide
 have abK:G≤9223372036854775807:=by omega
 clear hold ga eE
 go_enter func163,ntmps163
 go_wp2_with (at_builtin;refine Lib.wpList_append_run _ rfl _ _ _ _ rfl _ _ rfl rfl _ _ (lX _) ?_)
 all_goals(go_ret;exact⟨G,rfl,jK,abK,ROW,lR,rfl⟩)
end
open Go.Sx Go.Proofs Go.RowKit
theorem ade{P:Program}[Glob P]{M:Mem}{w0:Base}{w:World}{σ:Store}{t b c:Nat}{l:List AV}(hI:Inv P M w0 ((t,b,.cells l)::σ) w)(hc:l.length=c):Inv P M w0 ((t,b,.tail 0 c)::σ) w:=by
 refine⟨hI.os,hI.tape,hI.output,hI.size,hI.old,hI.bL,fun e he=> ?_,hI.nd,hI.gl,hI.gw,hI.bm⟩
 rcases ZK.1 he with rfl|he
 ·obtain⟨h1,h2,cs,ty,h3,h4⟩:=hI.st _ ZD
  exact⟨h1,fun o _=>h2 o,cs,ty,h3,by rw[← hc,h4.1,ZQ],ZM _⟩
 ·exact hI.st e (ZL _ he)
theorem abE{n:Nat}(h0:0<n)(hn:n≤200000)(σ:Store):Sx.Spec prog 163 [.v (.slice none 0 0),.v (.int .i64 (n:Int))] σ fun r σ'=>∃ b c,r= .ret (.own 18 0 b 0 c [])∧σ'=(0,b,.tail 0 c)::σ:=by
 intro M w0 w cs hI hR
 obtain⟨v1,cq,rfl,q1,bY⟩:=hR.aX
 obtain⟨v2,rfl,q2⟩:=RL.cJ bY
 obtain rfl:=q1.ay
 obtain rfl:=q2.ay
 refine(abG (w:=w) h0 hn).mono fun e w' ⟨G,ROW,g1,g2,g3,g4,g5⟩=> ?_
 subst g5
 have fY:=hI.eI
 have bU:=Inv.box fY (cs:=ROW.toList) (l:=ROW.toList.map .v) 37 (RL.exact _) 0
 rw[show(ROW.toList.toArray:Array Value)=ROW by simp]at bU
 refine⟨M,_,_,Mem.le.refl _,ade (c:=G * 18) bU (by simp[g4]),?_,w.heap.size,G * 18,rfl,rfl⟩
 subst g1
 exact .own 18 0 _ 0 _ [] 0 G (fun _=>default) (fun _ h=>absurd h (Nat.not_lt_zero _)) (fun _ h=>absurd h (by simp)) (fun _ h=>absurd h (Nat.not_lt_zero _)) (ZM _) g3 (.inr ⟨by simp,by omega⟩) (by decide)
section
open Go.RowKit Go.Proofs Go.Shelf
theorem abF(w:World):Calls prog 163 #[.slice none 0 0,.int .i64 0] w fun e w'=>e= .returned (.slice none 0 0)∧w'=w:=by
 go_enter func163,ntmps163
 go_wp2
 go_ret
 exact⟨rfl,rfl⟩
end
end Go.Proofs.YthdeaajdmdmfnaaGreatDoor
namespace Go.Sx
theorem VX.u0{P:Program}[Glob P]{cfg:Nat→Nat}{l:List CI}{K:ag→Store→Prop}{E:List PanicEntry→Store→Prop}{xr:XR}{σ:Store}{og:Option Bool}{ps:List Prop}{d:Nat}{t:TypeId}{ah bytes:Nat}{z:List Value}{x y:Operand}{w:AV}(h:aS xr none [x,y]=some (og,[.v (.slice none 0 0),w],ps))(hw:dG ah w=some [])(hps:OB ps)
  (k:VX P cfg l K E ((d,.s (.v (.slice none 0 0)))::xr) σ):VX P cfg (⟨some d,.append t ah bytes z x y,none⟩::l) K E xr σ:=by
 obtain⟨_,he⟩:=cM h
 unfold aS gX at h
 obtain⟨bE,h',_,_⟩:=iT h
 have dy:og=none:=by split at h'<;>cases h';rfl
 subst dy
 have:=he hps rfl
 simp only[aL,Z2,Zn]at this
 constructor
 simp only[fh,cK,aj,this.1,this.2,hw]
 exact⟨by simp,fun _=>k.h,fun e=>absurd rfl e⟩
end Go.Sx
namespace Go.Proofs.YthdeaajdmdmfnaaGreatDoor
open _root_.Go.Proofs.Tryz
open Go.Sx Go.Proofs
theorem GZ:Pure prog 163 [.v (.slice none 0 0),iv 0] (.v (.slice none 0 0)):=by
 refine⟨fun σ M w0 w cs hI hR=> ?_⟩
 obtain⟨v1,cq,rfl,q1,bY⟩:=hR.aX
 obtain⟨v2,rfl,q2⟩:=RL.cJ bY
 obtain rfl:=q1.ay
 obtain rfl:=q2.ay
 exact(abF w).mono fun e w' ⟨h1,h2⟩=>⟨M,.ret (.v (.slice none 0 0)),σ,Mem.le.refl _,by rw[h2];exact hI,by subst h1;exact .v _,rfl,rfl⟩
theorem Ji(F:FuncId)(row:List AV)(p:aq→Bool)(bC:gR prog F=true)(h:∀ x:aq,Pure prog F [.agg x.cells,.pc row] (.v (.bool (p x))))(fs:List aq):Pure prog 78 [.sl false 18 (fs.map aq.cells),.cl F [] [.pc row]] (iv (firstIdx p fs 0)):=by
 refine P1.p fun σ=> ?_
 repeat'(first|exact .nil|refine .k0 ?_|refine .k1 ?_|refine .k2 ?_|refine .k3 ?_|refine .k4 ?_|refine .k5 ?_|refine .k6 ?_|refine .k7 ?_|refine .k8 ?_|refine .k9 ?_|(refine .cd ?_ ?_<;>first|with_reducible exact tF|with_reducible exact fT|(intro hc;first|exact kf hc (by assumption)|exact kt hc (by assumption)|skip))|refine .r1 ?_ ?_|(refine .l1 ?_;intro b)|(refine .m1 ?_ ?_;intro b)|(refine .m2 ?_ ?_;intro hlen)|(refine .m3 ?_ ?_;intro hlen)|refine .t1 ?_ ?_ ?_|refine .t2 ?_ ?_ ?_|refine .t3 ?_ ?_ ?_|refine .t4 ?_ ?_ ?_|(refine .l2 ?_;intro b)|refine .u1 ?_ ?_ ?_ (fun b u c=> ?_)|refine .u2 ?_ ?_ ?_ (fun b u c=> ?_)|refine .u4 ?_ ?_ (fun b u c=> ?_)|refine .u5 ?_ ?_ ?_|refine .u3 ?_ ?_ (fun jr=> ?_) (fun ey b u c=> ?_)|refine .an rfl (by intro aI;first|exact h (fs.getD i default)) ?_ ?_|refine .t5 ?_ ?_ ?_|refine .t6 ?_ ?_ ?_|refine .t7 ?_ ?_ ?_|refine .r2 ?_ ?_|refine .r3 ?_ ?_|refine .r4 ?_ ?_|refine .r5 ?_ ?_|(refine .l3 ?_;intro b)|refine .r6 ?_ ?_|refine .r7 ?_ ?_|refine .r8 ?_ ?_|refine .r9 ?_ ?_|refine .ra ?_ ?_|(show List.all _ _=true;rfl)|(show(_:Nat)=_;rfl))
 try any_goals(exact Zo)
 all_goals(try simp only[BL]at *)
 refine cr (fun m rg σ'=>∃ i:Nat,i≤fs.length∧m=fs.length-i∧(∀ j,j<i→p (fs.getD j default)=false)∧σ'=σ∧rg=[(0,.sl false 18 (fs.map aq.cells)),(1,.cl F [] [.pc row]),(7,iv fs.length),(8,iv i)]) fs.length rfl ⟨_,_,Zr,Zs,0,ZM _,rfl,fun j hj=>absurd hj (by omega),rfl,rfl⟩ ?_
 rintro m _ _ ⟨i,hi,hn,hp,rfl,rfl⟩
 repeat'(first|exact .nil|refine .k0 ?_|refine .k1 ?_|refine .k2 ?_|refine .k3 ?_|refine .k4 ?_|refine .k5 ?_|refine .k6 ?_|refine .k7 ?_|refine .k8 ?_|refine .k9 ?_|(refine .cd ?_ ?_<;>first|with_reducible exact tF|with_reducible exact fT|(intro hc;first|exact kf hc (by assumption)|exact kt hc (by assumption)|skip))|refine .r1 ?_ ?_|(refine .l1 ?_;intro b)|(refine .m1 ?_ ?_;intro b)|(refine .m2 ?_ ?_;intro hlen)|(refine .m3 ?_ ?_;intro hlen)|refine .t1 ?_ ?_ ?_|refine .t2 ?_ ?_ ?_|refine .t3 ?_ ?_ ?_|refine .t4 ?_ ?_ ?_|(refine .l2 ?_;intro b)|refine .u1 ?_ ?_ ?_ (fun b u c=> ?_)|refine .u2 ?_ ?_ ?_ (fun b u c=> ?_)|refine .u4 ?_ ?_ (fun b u c=> ?_)|refine .u5 ?_ ?_ ?_|refine .u3 ?_ ?_ (fun jr=> ?_) (fun ey b u c=> ?_)|refine .an rfl (by intro aI;first|exact h (fs.getD i default)) ?_ ?_|refine .t5 ?_ ?_ ?_|refine .t6 ?_ ?_ ?_|refine .t7 ?_ ?_ ?_|refine .r2 ?_ ?_|refine .r3 ?_ ?_|refine .r4 ?_ ?_|refine .r5 ?_ ?_|(refine .l3 ?_;intro b)|refine .r6 ?_ ?_|refine .r7 ?_ ?_|refine .r8 ?_ ?_|refine .r9 ?_ ?_|refine .ra ?_ ?_|(show List.all _ _=true;rfl)|(show(_:Nat)=_;rfl))
 try any_goals(exact Zo)
 all_goals(try simp only[BL]at *)
 ·refine LP (by rfl) bC (fun _=>h (fs.getD i default)) OB.nil ?_
  repeat'(first|exact .nil|refine .k0 ?_|refine .k1 ?_|refine .k2 ?_|refine .k3 ?_|refine .k4 ?_|refine .k5 ?_|refine .k6 ?_|refine .k7 ?_|refine .k8 ?_|refine .k9 ?_|(refine .cd ?_ ?_<;>first|with_reducible exact tF|with_reducible exact fT|(intro hc;first|exact kf hc (by assumption)|exact kt hc (by assumption)|skip))|refine .r1 ?_ ?_|(refine .l1 ?_;intro b)|(refine .m1 ?_ ?_;intro b)|(refine .m2 ?_ ?_;intro hlen)|(refine .m3 ?_ ?_;intro hlen)|refine .t1 ?_ ?_ ?_|refine .t2 ?_ ?_ ?_|refine .t3 ?_ ?_ ?_|refine .t4 ?_ ?_ ?_|(refine .l2 ?_;intro b)|refine .u1 ?_ ?_ ?_ (fun b u c=> ?_)|refine .u2 ?_ ?_ ?_ (fun b u c=> ?_)|refine .u4 ?_ ?_ (fun b u c=> ?_)|refine .u5 ?_ ?_ ?_|refine .u3 ?_ ?_ (fun jr=> ?_) (fun ey b u c=> ?_)|refine .an rfl (by intro aI;first|exact h (fs.getD i default)) ?_ ?_|refine .t5 ?_ ?_ ?_|refine .t6 ?_ ?_ ?_|refine .t7 ?_ ?_ ?_|refine .r2 ?_ ?_|refine .r3 ?_ ?_|refine .r4 ?_ ?_|refine .r5 ?_ ?_|(refine .l3 ?_;intro b)|refine .r6 ?_ ?_|refine .r7 ?_ ?_|refine .r8 ?_ ?_|refine .r9 ?_ ?_|refine .ra ?_ ?_|(show List.all _ _=true;rfl)|(show(_:Nat)=_;rfl))
  try any_goals(exact Zo)
  all_goals(try simp only[BL]at *)
  ·rw[rY (p:=p) (l:=fs) (k:=0) (i:=i) (fun j hj=>hp j hj) (by omega) hc,ZH]
   exact Zw
  ·refine⟨fs.length-(i+1),by omega,_,_,Zr,Zs,i+1,by omega,rfl,iM hp (by simpa using hc),rfl,by rw[cm (n:=fs.length) (by omega) (by assumption)]⟩
 ·rw[rZ (fun y hy=>by have:=nz (p:=fun y:aq=>p y=false) (fun j hj=>hp j (by omega)) y hy;exact this)]
  exact Zw
theorem QF(n:af)(x:aq):Pure prog 85 [.agg x.cells,.pc [sv n]] (.v (.bool (decide (x.name=n)))):=by
 refine k85.p fun σ=> ?_
 repeat'(first|exact .nil|refine .k0 ?_|refine .k1 ?_|refine .k2 ?_|refine .k3 ?_|refine .k4 ?_|refine .k5 ?_|refine .k6 ?_|refine .k7 ?_|refine .k8 ?_|refine .k9 ?_|(refine .cd ?_ ?_<;>first|with_reducible exact tF|with_reducible exact fT|(intro hc;first|exact kf hc (by assumption)|exact kt hc (by assumption)|skip))|refine .r1 ?_ ?_|(refine .l1 ?_;intro b)|(refine .m1 ?_ ?_;intro b)|(refine .m2 ?_ ?_;intro hlen)|(refine .m3 ?_ ?_;intro hlen)|refine .t1 ?_ ?_ ?_|refine .t2 ?_ ?_ ?_|refine .t3 ?_ ?_ ?_|refine .t4 ?_ ?_ ?_|(refine .l2 ?_;intro b)|refine .u1 ?_ ?_ ?_ (fun b u c=> ?_)|refine .u2 ?_ ?_ ?_ (fun b u c=> ?_)|refine .u4 ?_ ?_ (fun b u c=> ?_)|refine .u5 ?_ ?_ ?_|refine .u3 ?_ ?_ (fun jr=> ?_) (fun ey b u c=> ?_)|refine .an rfl (by intro aI;first|fail) ?_ ?_|refine .t5 ?_ ?_ ?_|refine .t6 ?_ ?_ ?_|refine .t7 ?_ ?_ ?_|refine .r2 ?_ ?_|refine .r3 ?_ ?_|refine .r4 ?_ ?_|refine .r5 ?_ ?_|(refine .l3 ?_;intro b)|refine .r6 ?_ ?_|refine .r7 ?_ ?_|refine .r8 ?_ ?_|refine .r9 ?_ ?_|refine .ra ?_ ?_|(show List.all _ _=true;rfl)|(show(_:Nat)=_;rfl))
 try any_goals(exact Zo)
 all_goals(try simp only[BL]at *)
 ·exact Sx.Fin.intro Zs rfl
def iO(a b:af):Bool:= !(Op.bytesLess (ByteArray.toList a) (ByteArray.toList b) || decide (a=b))
theorem NL(a b:af):iO a b=dU b a:=by
 unfold iO
 show(!(dU a b || decide (a=b)))=dU b a
 cases h:dU a b with
 |true=>
  cases h2:dU b a with
  |true=>have:=Et h h2;rw[tE]at this;cases this
  |false=>rfl
 |false=>
  cases h2:dU b a with
  |true=>
   have:¬a=b:=fun e=>by subst e;rw[tE]at h2;cases h2
   simp[this]
  |false=>simp[Kg h h2]
theorem ae6(f x:aq):Pure prog 164 [.agg x.cells,.pc f.cells] (.v (.bool (iO x.name f.name))):=by
 refine adw.p fun σ=> ?_
 repeat'(first|exact .nil|refine .k0 ?_|refine .k1 ?_|refine .k2 ?_|refine .k3 ?_|refine .k4 ?_|refine .k5 ?_|refine .k6 ?_|refine .k7 ?_|refine .k8 ?_|refine .k9 ?_|(refine .cd ?_ ?_<;>first|with_reducible exact tF|with_reducible exact fT|(intro hc;first|exact kf hc (by assumption)|exact kt hc (by assumption)|skip))|refine .r1 ?_ ?_|(refine .l1 ?_;intro b)|(refine .m1 ?_ ?_;intro b)|(refine .m2 ?_ ?_;intro hlen)|(refine .m3 ?_ ?_;intro hlen)|refine .t1 ?_ ?_ ?_|refine .t2 ?_ ?_ ?_|refine .t3 ?_ ?_ ?_|refine .t4 ?_ ?_ ?_|(refine .l2 ?_;intro b)|refine .u1 ?_ ?_ ?_ (fun b u c=> ?_)|refine .u2 ?_ ?_ ?_ (fun b u c=> ?_)|refine .u4 ?_ ?_ (fun b u c=> ?_)|refine .u5 ?_ ?_ ?_|refine .u3 ?_ ?_ (fun jr=> ?_) (fun ey b u c=> ?_)|refine .an rfl (by intro aI;first|fail) ?_ ?_|refine .t5 ?_ ?_ ?_|refine .t6 ?_ ?_ ?_|refine .t7 ?_ ?_ ?_|refine .r2 ?_ ?_|refine .r3 ?_ ?_|refine .r4 ?_ ?_|refine .r5 ?_ ?_|(refine .l3 ?_;intro b)|refine .r6 ?_ ?_|refine .r7 ?_ ?_|refine .r8 ?_ ?_|refine .r9 ?_ ?_|refine .ra ?_ ?_|(show List.all _ _=true;rfl)|(show(_:Nat)=_;rfl))
 try any_goals(exact Zo)
 all_goals(try simp only[BL]at *)
 ·exact Sx.Fin.intro Zs rfl
theorem uv(l:List aq)(n:af):Pure prog 42 [.sl false 18 (l.map aq.cells),sv n] (iv (firstIdx (fun x=>decide (x.name=n)) l 0)):=by
 refine DJ.p fun σ=> ?_
 refine .k1 ?_
 refine .k2 ?_
 repeat'((fail_if_success (show WK _ _ _ _ _ _ _ _));(first|exact .nil|refine .k0 ?_|refine .k1 ?_|refine .k2 ?_|refine .k3 ?_|refine .k4 ?_|refine .k5 ?_|refine .k6 ?_|refine .k7 ?_|refine .k8 ?_|refine .k9 ?_|(refine .cd ?_ ?_<;>first|with_reducible exact tF|with_reducible exact fT|(intro hc;first|exact kf hc (by assumption)|exact kt hc (by assumption)|skip))|refine .r1 ?_ ?_|(refine .l1 ?_;intro b)|(refine .m1 ?_ ?_;intro b)|(refine .m2 ?_ ?_;intro hlen)|(refine .m3 ?_ ?_;intro hlen)|refine .t1 ?_ ?_ ?_|refine .t2 ?_ ?_ ?_|refine .t3 ?_ ?_ ?_|refine .t4 ?_ ?_ ?_|(refine .l2 ?_;intro b)|refine .u1 ?_ ?_ ?_ (fun b u c=> ?_)|refine .u2 ?_ ?_ ?_ (fun b u c=> ?_)|refine .u4 ?_ ?_ (fun b u c=> ?_)|refine .u5 ?_ ?_ ?_|refine .u3 ?_ ?_ (fun jr=> ?_) (fun ey b u c=> ?_)|refine .an rfl (by intro aI;first|exact Ji _ _ _ rfl (QF n) _) ?_ ?_|refine .t5 ?_ ?_ ?_|refine .t6 ?_ ?_ ?_|refine .t7 ?_ ?_ ?_|refine .r2 ?_ ?_|refine .r3 ?_ ?_|refine .r4 ?_ ?_|refine .r5 ?_ ?_|(refine .l3 ?_;intro b)|refine .r6 ?_ ?_|refine .r7 ?_ ?_|refine .r8 ?_ ?_|refine .r9 ?_ ?_|refine .ra ?_ ?_|(show List.all _ _=true;rfl)|(show(_:Nat)=_;rfl)))
 refine .k0 ?_
 refine rL 3 b .here (.same (.p0 .nil)) ?_
 repeat'(first|exact .nil|refine .k0 ?_|refine .k1 ?_|refine .k2 ?_|refine .k3 ?_|refine .k4 ?_|refine .k5 ?_|refine .k6 ?_|refine .k7 ?_|refine .k8 ?_|refine .k9 ?_|(refine .cd ?_ ?_<;>first|with_reducible exact tF|with_reducible exact fT|(intro hc;first|exact kf hc (by assumption)|exact kt hc (by assumption)|skip))|refine .r1 ?_ ?_|(refine .l1 ?_;intro b)|(refine .m1 ?_ ?_;intro b)|(refine .m2 ?_ ?_;intro hlen)|(refine .m3 ?_ ?_;intro hlen)|refine .t1 ?_ ?_ ?_|refine .t2 ?_ ?_ ?_|refine .t3 ?_ ?_ ?_|refine .t4 ?_ ?_ ?_|(refine .l2 ?_;intro b)|refine .u1 ?_ ?_ ?_ (fun b u c=> ?_)|refine .u2 ?_ ?_ ?_ (fun b u c=> ?_)|refine .u4 ?_ ?_ (fun b u c=> ?_)|refine .u5 ?_ ?_ ?_|refine .u3 ?_ ?_ (fun jr=> ?_) (fun ey b u c=> ?_)|refine .an rfl (by intro aI;first|exact Ji _ _ _ rfl (QF n) _) ?_ ?_|refine .t5 ?_ ?_ ?_|refine .t6 ?_ ?_ ?_|refine .t7 ?_ ?_ ?_|refine .r2 ?_ ?_|refine .r3 ?_ ?_|refine .r4 ?_ ?_|refine .r5 ?_ ?_|(refine .l3 ?_;intro b)|refine .r6 ?_ ?_|refine .r7 ?_ ?_|refine .r8 ?_ ?_|refine .r9 ?_ ?_|refine .ra ?_ ?_|(show List.all _ _=true;rfl)|(show(_:Nat)=_;rfl))
 try any_goals(exact Zo)
 all_goals(try simp only[BL]at *)
 all_goals exact Zw
theorem Cv(l:List aq):∀ r∈l.map aq.cells,r.length=18:=fun r hr=>by
 obtain⟨f,_,rfl⟩:=Zi.1 hr;rfl
theorem Cw(l:List aq):∀ r∈l.map aq.cells,r.all AV.one=true:=fun r hr=>by
 obtain⟨f,_,rfl⟩:=Zi.1 hr;rfl
theorem vZ(l:List aq)(i:Nat)(hi:i<l.length)(hn:l.length≤100000):Pure prog 121 [.sl false 18 (l.map aq.cells),iv i] (.sl false 18 ((l.take i++l.drop (i+1)).map aq.cells)):=by
 refine adk.p fun σ=> ?_
 repeat'(first|exact .nil|refine .k0 ?_|refine .k1 ?_|refine .k2 ?_|refine .k3 ?_|refine .k4 ?_|refine .k5 ?_|refine .k6 ?_|refine .k7 ?_|refine .k8 ?_|refine .k9 ?_|(refine .cd ?_ ?_<;>first|with_reducible exact tF|with_reducible exact fT|(intro hc;first|exact kf hc (by assumption)|exact kt hc (by assumption)|skip))|refine .r1 ?_ ?_|(refine .l1 ?_;intro b)|(refine .m1 ?_ ?_;intro b)|(refine .m2 ?_ ?_;intro hlen)|(refine .m3 ?_ ?_;intro hlen)|refine .t1 ?_ ?_ ?_|refine .t2 ?_ ?_ ?_|refine .t3 ?_ ?_ ?_|refine .t4 ?_ ?_ ?_|(refine .l2 ?_;intro b)|refine .u1 ?_ ?_ ?_ (fun b u c=> ?_)|refine .u2 ?_ ?_ ?_ (fun b u c=> ?_)|refine .u4 ?_ ?_ (fun b u c=> ?_)|refine .u5 ?_ ?_ ?_|refine .u3 ?_ ?_ (fun jr=> ?_) (fun ey b u c=> ?_)|refine .an rfl (by intro aI;first|fail) ?_ ?_|refine .t5 ?_ ?_ ?_|refine .t6 ?_ ?_ ?_|refine .t7 ?_ ?_ ?_|refine .r2 ?_ ?_|refine .r3 ?_ ?_|refine .r4 ?_ ?_|refine .r5 ?_ ?_|(refine .l3 ?_;intro b)|refine .r6 ?_ ?_|refine .r7 ?_ ?_|refine .r8 ?_ ?_|refine .r9 ?_ ?_|refine .ra ?_ ?_|(show List.all _ _=true;rfl)|(show(_:Nat)=_;rfl))
 try any_goals(exact Zo)
 all_goals(try simp only[BL]at *)
 refine yW (by rfl) (Mu (l.map aq.cells) (Cv l) (Cw l) (by simpa using hn) _) OB.nil (fun x σ' h=> ?_) (fun ch σ' ⟨_,_,h,_⟩=>by cases h)
 obtain⟨x',τ,h,rfl,hx⟩:=h
 cases h
 repeat'(first|exact .nil|refine .k0 ?_|refine .k1 ?_|refine .k2 ?_|refine .k3 ?_|refine .k4 ?_|refine .k5 ?_|refine .k6 ?_|refine .k7 ?_|refine .k8 ?_|refine .k9 ?_|(refine .cd ?_ ?_<;>first|with_reducible exact tF|with_reducible exact fT|(intro hc;first|exact kf hc (by assumption)|exact kt hc (by assumption)|skip))|refine .r1 ?_ ?_|(refine .l1 ?_;intro b)|(refine .m1 ?_ ?_;intro b)|(refine .m2 ?_ ?_;intro hlen)|(refine .m3 ?_ ?_;intro hlen)|refine .t1 ?_ ?_ ?_|refine .t2 ?_ ?_ ?_|refine .t3 ?_ ?_ ?_|refine .t4 ?_ ?_ ?_|(refine .l2 ?_;intro b)|refine .u1 ?_ ?_ ?_ (fun b u c=> ?_)|refine .u2 ?_ ?_ ?_ (fun b u c=> ?_)|refine .u4 ?_ ?_ (fun b u c=> ?_)|refine .u5 ?_ ?_ ?_|refine .u3 ?_ ?_ (fun jr=> ?_) (fun ey b u c=> ?_)|refine .an rfl (by intro aI;first|fail) ?_ ?_|refine .t5 ?_ ?_ ?_|refine .t6 ?_ ?_ ?_|refine .t7 ?_ ?_ ?_|refine .r2 ?_ ?_|refine .r3 ?_ ?_|refine .r4 ?_ ?_|refine .r5 ?_ ?_|(refine .l3 ?_;intro b)|refine .r6 ?_ ?_|refine .r7 ?_ ?_|refine .r8 ?_ ?_|refine .r9 ?_ ?_|refine .ra ?_ ?_|(show List.all _ _=true;rfl)|(show(_:Nat)=_;rfl))
 try any_goals(exact Zo)
 all_goals(try simp only[BL]at *)
 have hw:IntKind.i64.wrap ((i:Int)+1)=(i:Int)+1:=by rw[IntKind.wrap_i64];omega
 rcases id hx with⟨h0,rfl,rfl⟩|⟨b,c,rest,rfl,rfl,h0⟩
 ·rw[Xz]at h0;subst h0;exact absurd hi (Nat.not_lt_zero _)
 refine yW (by rw[hw];rfl) (aal (i:=i) hx (Cv l) (Cw l) (by simpa using hi)) OB.nil (fun y σ' h=> ?_) (fun ch σ' ⟨h,_⟩=>by cases h)
 obtain⟨h,rfl⟩:=h
 cases h
 repeat'(first|exact .nil|refine .k0 ?_|refine .k1 ?_|refine .k2 ?_|refine .k3 ?_|refine .k4 ?_|refine .k5 ?_|refine .k6 ?_|refine .k7 ?_|refine .k8 ?_|refine .k9 ?_|(refine .cd ?_ ?_<;>first|with_reducible exact tF|with_reducible exact fT|(intro hc;first|exact kf hc (by assumption)|exact kt hc (by assumption)|skip))|refine .r1 ?_ ?_|(refine .l1 ?_;intro b)|(refine .m1 ?_ ?_;intro b)|(refine .m2 ?_ ?_;intro hlen)|(refine .m3 ?_ ?_;intro hlen)|refine .t1 ?_ ?_ ?_|refine .t2 ?_ ?_ ?_|refine .t3 ?_ ?_ ?_|refine .t4 ?_ ?_ ?_|(refine .l2 ?_;intro b)|refine .u1 ?_ ?_ ?_ (fun b u c=> ?_)|refine .u2 ?_ ?_ ?_ (fun b u c=> ?_)|refine .u4 ?_ ?_ (fun b u c=> ?_)|refine .u5 ?_ ?_ ?_|refine .u3 ?_ ?_ (fun jr=> ?_) (fun ey b u c=> ?_)|refine .an rfl (by intro aI;first|fail) ?_ ?_|refine .t5 ?_ ?_ ?_|refine .t6 ?_ ?_ ?_|refine .t7 ?_ ?_ ?_|refine .r2 ?_ ?_|refine .r3 ?_ ?_|refine .r4 ?_ ?_|refine .r5 ?_ ?_|(refine .l3 ?_;intro b)|refine .r6 ?_ ?_|refine .r7 ?_ ?_|refine .r8 ?_ ?_|refine .r9 ?_ ?_|refine .ra ?_ ?_|(show List.all _ _=true;rfl)|(show(_:Nat)=_;rfl))
 try any_goals(exact Zo)
 all_goals(try simp only[BL]at *)
 rw[YZ,Yu,Xx]
 exact Zw
theorem aac:Pure prog 119 [.sl false 1 [[.sl false 18 []],[.sl false 18 []]]] (.sl false 18 []):=by
 refine PC.pc (fun d=>bif ([33]:List Nat).elem d then 1 else 0) fun σ=> ?_
 repeat'(first|exact .nil|refine .k0 ?_|refine .k1 ?_|refine .k2 ?_|refine .k3 ?_|refine .k4 ?_|refine .k5 ?_|refine .k6 ?_|refine .k7 ?_|refine .k8 ?_|refine .k9 ?_|(refine .cd ?_ ?_<;>first|with_reducible exact tF|with_reducible exact fT|(intro hc;first|exact kf hc (by assumption)|exact kt hc (by assumption)|skip))|refine .r1 ?_ ?_|(refine .l1 ?_;intro b)|(refine .m1 ?_ ?_;intro b)|(refine .m2 ?_ ?_;intro hlen)|(refine .m3 ?_ ?_;intro hlen)|refine .t1 ?_ ?_ ?_|refine .t2 ?_ ?_ ?_|refine .t3 ?_ ?_ ?_|refine .t4 ?_ ?_ ?_|(refine .l2 ?_;intro b)|refine .u1 ?_ ?_ ?_ (fun b u c=> ?_)|refine .u2 ?_ ?_ ?_ (fun b u c=> ?_)|refine .u4 ?_ ?_ (fun b u c=> ?_)|refine .u5 ?_ ?_ ?_|refine .u3 ?_ ?_ (fun jr=> ?_) (fun ey b u c=> ?_)|refine .an rfl (by intro aI;first|exact GZ) ?_ ?_|refine .t5 ?_ ?_ ?_|refine .t6 ?_ ?_ ?_|refine .t7 ?_ ?_ ?_|refine .r2 ?_ ?_|refine .r3 ?_ ?_|refine .r4 ?_ ?_|refine .r5 ?_ ?_|(refine .l3 ?_;intro b)|refine .r6 ?_ ?_|refine .r7 ?_ ?_|refine .r8 ?_ ?_|refine .r9 ?_ ?_|refine .ra ?_ ?_|(show List.all _ _=true;rfl)|(show(_:Nat)=_;rfl))
 try any_goals(exact Zo)
 all_goals(try simp only[BL]at *)
 refine cr (fun m rg σ'=>∃ i:Nat,i≤2∧m=2-i∧σ'=σ∧rg=[(0,.sl false 1 [[.sl false 18 []],[.sl false 18 []]]),(3,iv 0),(9,.sl false 1 [[.sl false 18 []],[.sl false 18 []]]),(10,iv 2),(11,iv i)]) 2 rfl ⟨_,_,Zr,Zs,0,by omega,rfl,rfl,rfl⟩ ?_
 rintro m _ aP ⟨i,hi,hm,rfl,rfl⟩
 rcases(show i=0∨i=1∨i=2 by omega)with rfl|rfl|rfl
 all_goals
  repeat'(first|exact .nil|refine .k0 ?_|refine .k1 ?_|refine .k2 ?_|refine .k3 ?_|refine .k4 ?_|refine .k5 ?_|refine .k6 ?_|refine .k7 ?_|refine .k8 ?_|refine .k9 ?_|(refine .cd ?_ ?_<;>first|with_reducible exact tF|with_reducible exact fT|(intro hc;first|exact kf hc (by assumption)|exact kt hc (by assumption)|skip))|refine .r1 ?_ ?_|(refine .l1 ?_;intro b)|(refine .m1 ?_ ?_;intro b)|(refine .m2 ?_ ?_;intro hlen)|(refine .m3 ?_ ?_;intro hlen)|refine .t1 ?_ ?_ ?_|refine .t2 ?_ ?_ ?_|refine .t3 ?_ ?_ ?_|refine .t4 ?_ ?_ ?_|(refine .l2 ?_;intro b)|refine .u1 ?_ ?_ ?_ (fun b u c=> ?_)|refine .u2 ?_ ?_ ?_ (fun b u c=> ?_)|refine .u4 ?_ ?_ (fun b u c=> ?_)|refine .u5 ?_ ?_ ?_|refine .u3 ?_ ?_ (fun jr=> ?_) (fun ey b u c=> ?_)|refine .an rfl (by intro aI;first|exact GZ) ?_ ?_|refine .t5 ?_ ?_ ?_|refine .t6 ?_ ?_ ?_|refine .t7 ?_ ?_ ?_|refine .r2 ?_ ?_|refine .r3 ?_ ?_|refine .r4 ?_ ?_|refine .r5 ?_ ?_|(refine .l3 ?_;intro b)|refine .r6 ?_ ?_|refine .r7 ?_ ?_|refine .r8 ?_ ?_|refine .r9 ?_ ?_|refine .ra ?_ ?_|(show List.all _ _=true;rfl)|(show(_:Nat)=_;rfl))
  try any_goals(exact Zo)
  all_goals(try simp only[BL]at *)
 all_goals try(show True∧_;exact⟨trivial,by decide,by simp only[ZS,ZA];omega⟩)
 all_goals try(exfalso;revert hc;decide)
 ·exact⟨2-1,by omega,_,_,Zr,Zs,1,by omega,rfl,rfl,rfl⟩
 ·exact⟨2-2,by omega,_,_,Zr,Zs,2,by omega,rfl,rfl,rfl⟩
 refine cr (fun m rg σ'=>∃ i:Nat,i≤2∧m=2-i∧σ'=aP∧rg=[(6,eB),(25,.sl false 1 [[.sl false 18 []],[.sl false 18 []]]),(26,iv 2),(27,iv i)]) 2 rfl ⟨_,_,Zr,Zs,0,by omega,rfl,rfl,rfl⟩ ?_
 rintro m _ aJ ⟨i,hi,hm,rfl,rfl⟩
 rcases(show i=0∨i=1∨i=2 by omega)with rfl|rfl|rfl
 all_goals
  repeat'(first|refine .u0 rfl rfl .nil ?_|first|exact .nil|refine .k0 ?_|refine .k1 ?_|refine .k2 ?_|refine .k3 ?_|refine .k4 ?_|refine .k5 ?_|refine .k6 ?_|refine .k7 ?_|refine .k8 ?_|refine .k9 ?_|(refine .cd ?_ ?_<;>first|with_reducible exact tF|with_reducible exact fT|(intro hc;first|exact kf hc (by assumption)|exact kt hc (by assumption)|skip))|refine .r1 ?_ ?_|(refine .l1 ?_;intro b)|(refine .m1 ?_ ?_;intro b)|(refine .m2 ?_ ?_;intro hlen)|(refine .m3 ?_ ?_;intro hlen)|refine .t1 ?_ ?_ ?_|refine .t2 ?_ ?_ ?_|refine .t3 ?_ ?_ ?_|refine .t4 ?_ ?_ ?_|(refine .l2 ?_;intro b)|refine .u1 ?_ ?_ ?_ (fun b u c=> ?_)|refine .u2 ?_ ?_ ?_ (fun b u c=> ?_)|refine .u4 ?_ ?_ (fun b u c=> ?_)|refine .u5 ?_ ?_ ?_|refine .u3 ?_ ?_ (fun jr=> ?_) (fun ey b u c=> ?_)|refine .an rfl (by intro aI;first|exact GZ) ?_ ?_|refine .t5 ?_ ?_ ?_|refine .t6 ?_ ?_ ?_|refine .t7 ?_ ?_ ?_|refine .r2 ?_ ?_|refine .r3 ?_ ?_|refine .r4 ?_ ?_|refine .r5 ?_ ?_|(refine .l3 ?_;intro b)|refine .r6 ?_ ?_|refine .r7 ?_ ?_|refine .r8 ?_ ?_|refine .r9 ?_ ?_|refine .ra ?_ ?_|(show List.all _ _=true;rfl)|(show(_:Nat)=_;rfl))
  try any_goals(exact Zo)
  all_goals(try simp only[BL]at *)
 all_goals try(show True∧_;exact⟨trivial,by decide,by simp only[ZS,ZA];omega⟩)
 all_goals try(exfalso;revert hc;decide)
 ·exact⟨2-1,by omega,_,_,Zr,Zs,1,by omega,rfl,rfl,rfl⟩
 ·exact⟨2-2,by omega,_,_,Zr,Zs,2,by omega,rfl,rfl,rfl⟩
 ·exact Zw
theorem aad(a e:List aq)(ha:a.length≤100000)(hb:e.length≤100000):Pure prog 119 [.sl false 1 [[.sl false 18 (a.map aq.cells)],[.sl false 18 (e.map aq.cells)]]] (.sl false 18 ((a++e).map aq.cells)):=by
 have Av:a.length+e.length≤200000:=by omega
 by_cases h0:a.length+e.length=0
 ·obtain rfl:a=[]:=Yd.1 (by omega)
  obtain rfl:e=[]:=Yd.1 (by omega)
  exact aac
 refine PC.pc (fun d=>bif ([33]:List Nat).elem d then 1 else 0) fun σ=> ?_
 repeat'(first|exact .nil|refine .k0 ?_|refine .k1 ?_|refine .k2 ?_|refine .k3 ?_|refine .k4 ?_|refine .k5 ?_|refine .k6 ?_|refine .k7 ?_|refine .k8 ?_|refine .k9 ?_|(refine .cd ?_ ?_<;>first|with_reducible exact tF|with_reducible exact fT|(intro hc;first|exact kf hc (by assumption)|exact kt hc (by assumption)|skip))|refine .r1 ?_ ?_|(refine .l1 ?_;intro b)|(refine .m1 ?_ ?_;intro b)|(refine .m2 ?_ ?_;intro hlen)|(refine .m3 ?_ ?_;intro hlen)|refine .t1 ?_ ?_ ?_|refine .t2 ?_ ?_ ?_|refine .t3 ?_ ?_ ?_|refine .t4 ?_ ?_ ?_|(refine .l2 ?_;intro b)|refine .u1 ?_ ?_ ?_ (fun b u c=> ?_)|refine .u2 ?_ ?_ ?_ (fun b u c=> ?_)|refine .u4 ?_ ?_ (fun b u c=> ?_)|refine .u5 ?_ ?_ ?_|refine .u3 ?_ ?_ (fun jr=> ?_) (fun ey b u c=> ?_)|refine .an rfl (by intro aI;first|fail) ?_ ?_|refine .t5 ?_ ?_ ?_|refine .t6 ?_ ?_ ?_|refine .t7 ?_ ?_ ?_|refine .r2 ?_ ?_|refine .r3 ?_ ?_|refine .r4 ?_ ?_|refine .r5 ?_ ?_|(refine .l3 ?_;intro b)|refine .r6 ?_ ?_|refine .r7 ?_ ?_|refine .r8 ?_ ?_|refine .r9 ?_ ?_|refine .ra ?_ ?_|(show List.all _ _=true;rfl)|(show(_:Nat)=_;rfl))
 try any_goals(exact Zo)
 all_goals(try simp only[BL]at *)
 refine cr (fun m rg σ'=>∃ i s:Nat,(i=0∧s=0∨i=1∧s=a.length∨i=2∧s=a.length+e.length)∧m=2-i∧σ'=σ∧rg=[(0,.sl false 1 [[.sl false 18 (a.map aq.cells)],[.sl false 18 (e.map aq.cells)]]),(3,iv s),(9,.sl false 1 [[.sl false 18 (a.map aq.cells)],[.sl false 18 (e.map aq.cells)]]),(10,iv 2),(11,iv i)]) 2 rfl ⟨_,_,Zr,Zs,0,0,.inl ⟨rfl,rfl⟩,rfl,rfl,rfl⟩ ?_
 rintro m _ aP ⟨i,s,hi,hm,rfl,rfl⟩
 rcases hi with⟨rfl,rfl⟩|⟨rfl,rfl⟩|⟨rfl,rfl⟩
 all_goals
  repeat'(first|exact .nil|refine .k0 ?_|refine .k1 ?_|refine .k2 ?_|refine .k3 ?_|refine .k4 ?_|refine .k5 ?_|refine .k6 ?_|refine .k7 ?_|refine .k8 ?_|refine .k9 ?_|(refine .cd ?_ ?_<;>first|with_reducible exact tF|with_reducible exact fT|(intro hc;first|exact kf hc (by assumption)|exact kt hc (by assumption)|skip))|refine .r1 ?_ ?_|(refine .l1 ?_;intro b)|(refine .m1 ?_ ?_;intro b)|(refine .m2 ?_ ?_;intro hlen)|(refine .m3 ?_ ?_;intro hlen)|refine .t1 ?_ ?_ ?_|refine .t2 ?_ ?_ ?_|refine .t3 ?_ ?_ ?_|refine .t4 ?_ ?_ ?_|(refine .l2 ?_;intro b)|refine .u1 ?_ ?_ ?_ (fun b u c=> ?_)|refine .u2 ?_ ?_ ?_ (fun b u c=> ?_)|refine .u4 ?_ ?_ (fun b u c=> ?_)|refine .u5 ?_ ?_ ?_|refine .u3 ?_ ?_ (fun jr=> ?_) (fun ey b u c=> ?_)|refine .an rfl (by intro aI;first|fail) ?_ ?_|refine .t5 ?_ ?_ ?_|refine .t6 ?_ ?_ ?_|refine .t7 ?_ ?_ ?_|refine .r2 ?_ ?_|refine .r3 ?_ ?_|refine .r4 ?_ ?_|refine .r5 ?_ ?_|(refine .l3 ?_;intro b)|refine .r6 ?_ ?_|refine .r7 ?_ ?_|refine .r8 ?_ ?_|refine .r9 ?_ ?_|refine .ra ?_ ?_|(show List.all _ _=true;rfl)|(show(_:Nat)=_;rfl))
  try any_goals(exact Zo)
  all_goals(try simp only[BL]at *)
 all_goals try(show True∧_;exact⟨trivial,by decide,by simp only[ZS,ZA];omega⟩)
 all_goals try(exfalso;revert hc;decide)
 all_goals try(exfalso;revert hc;rw[IntKind.wrap_i64];omega)
 ·refine⟨2-1,by omega,_,_,Zr,Zs,1,a.length,.inr (.inl ⟨rfl,rfl⟩),rfl,rfl,by rw[show((0:Nat):Int)+(a.length:Int)=(a.length:Int) by omega,show IntKind.i64.wrap (a.length:Int)=(a.length:Int) by rw[IntKind.wrap_i64];omega];rfl⟩
 ·refine⟨2-2,by omega,_,_,Zr,Zs,2,a.length+e.length,.inr (.inr ⟨rfl,rfl⟩),rfl,rfl,by rw[show IntKind.i64.wrap ((a.length:Int)+(e.length:Int))=((a.length+e.length:Nat):Int) by rw[IntKind.wrap_i64];omega];rfl⟩
 refine yW (by rfl) (abE (n:=a.length+e.length) (by omega) Av _) OB.nil (fun x σ' h=> ?_) (fun ch σ' ⟨_,_,h,_⟩=>by cases h)
 obtain⟨b0,c0,h,rfl⟩:=h
 cases h
 repeat'(first|exact .nil|refine .k0 ?_|refine .k1 ?_|refine .k2 ?_|refine .k3 ?_|refine .k4 ?_|refine .k5 ?_|refine .k6 ?_|refine .k7 ?_|refine .k8 ?_|refine .k9 ?_|(refine .cd ?_ ?_<;>first|with_reducible exact tF|with_reducible exact fT|(intro hc;first|exact kf hc (by assumption)|exact kt hc (by assumption)|skip))|refine .r1 ?_ ?_|(refine .l1 ?_;intro b)|(refine .m1 ?_ ?_;intro b)|(refine .m2 ?_ ?_;intro hlen)|(refine .m3 ?_ ?_;intro hlen)|refine .t1 ?_ ?_ ?_|refine .t2 ?_ ?_ ?_|refine .t3 ?_ ?_ ?_|refine .t4 ?_ ?_ ?_|(refine .l2 ?_;intro b)|refine .u1 ?_ ?_ ?_ (fun b u c=> ?_)|refine .u2 ?_ ?_ ?_ (fun b u c=> ?_)|refine .u4 ?_ ?_ (fun b u c=> ?_)|refine .u5 ?_ ?_ ?_|refine .u3 ?_ ?_ (fun jr=> ?_) (fun ey b u c=> ?_)|refine .an rfl (by intro aI;first|fail) ?_ ?_|refine .t5 ?_ ?_ ?_|refine .t6 ?_ ?_ ?_|refine .t7 ?_ ?_ ?_|refine .r2 ?_ ?_|refine .r3 ?_ ?_|refine .r4 ?_ ?_|refine .r5 ?_ ?_|(refine .l3 ?_;intro b)|refine .r6 ?_ ?_|refine .r7 ?_ ?_|refine .r8 ?_ ?_|refine .r9 ?_ ?_|refine .ra ?_ ?_|(show List.all _ _=true;rfl)|(show(_:Nat)=_;rfl))
 try any_goals(exact Zo)
 all_goals(try simp only[BL]at *)
 refine cr (fun m rg σ'=>∃ (i bb u c:Nat) (l:List aq),(i=0∧l=[]∨i=1∧l=a∨i=2∧l=a++e)∧m=2-i∧σ'=(0,bb,.tail u c)::aP∧rg=[(6,.own 18 0 bb u c (l.map aq.cells)),(25,.sl false 1 [[.sl false 18 (a.map aq.cells)],[.sl false 18 (e.map aq.cells)]]),(26,iv 2),(27,iv i)]) 2 rfl ⟨_,_,Zr,Zs,0,b0,0,c0,[],.inl ⟨rfl,rfl⟩,rfl,rfl,rfl⟩ ?_
 rintro m _ aJ ⟨i,bb,u,c,l,hi,hm,rfl,rfl⟩
 rcases hi with⟨rfl,rfl⟩|⟨rfl,rfl⟩|⟨rfl,rfl⟩
 all_goals
  repeat'(first|exact .nil|refine .k0 ?_|refine .k1 ?_|refine .k2 ?_|refine .k3 ?_|refine .k4 ?_|refine .k5 ?_|refine .k6 ?_|refine .k7 ?_|refine .k8 ?_|refine .k9 ?_|(refine .cd ?_ ?_<;>first|with_reducible exact tF|with_reducible exact fT|(intro hc;first|exact kf hc (by assumption)|exact kt hc (by assumption)|skip))|refine .r1 ?_ ?_|(refine .l1 ?_;intro b)|(refine .m1 ?_ ?_;intro b)|(refine .m2 ?_ ?_;intro hlen)|(refine .m3 ?_ ?_;intro hlen)|refine .t1 ?_ ?_ ?_|refine .t2 ?_ ?_ ?_|refine .t3 ?_ ?_ ?_|refine .t4 ?_ ?_ ?_|(refine .l2 ?_;intro b)|refine .u1 ?_ ?_ ?_ (fun b u c=> ?_)|refine .u2 ?_ ?_ ?_ (fun b u c=> ?_)|refine .u4 ?_ ?_ (fun b u c=> ?_)|refine .u5 ?_ ?_ ?_|refine .u3 ?_ ?_ (fun jr=> ?_) (fun ey b u c=> ?_)|refine .an rfl (by intro aI;first|fail) ?_ ?_|refine .t5 ?_ ?_ ?_|refine .t6 ?_ ?_ ?_|refine .t7 ?_ ?_ ?_|refine .r2 ?_ ?_|refine .r3 ?_ ?_|refine .r4 ?_ ?_|refine .r5 ?_ ?_|(refine .l3 ?_;intro b)|refine .r6 ?_ ?_|refine .r7 ?_ ?_|refine .r8 ?_ ?_|refine .r9 ?_ ?_|refine .ra ?_ ?_|(show List.all _ _=true;rfl)|(show(_:Nat)=_;rfl))
  try any_goals(exact Zo)
  all_goals(try simp only[BL]at *)
 all_goals try(show True∧_;exact⟨trivial,by decide,by simp only[ZS,ZA];omega⟩)
 all_goals try(exfalso;revert hc;decide)
 any_goals(first|omega|(simp only[ZS,ZA,Z4,ZW,Zx,L1,Su,Sp,Y0];omega))
 any_goals exact Nd _
 ·exact⟨2-1,by omega,_,_,Zr,Zs,1,_,_,_,a,.inr (.inl ⟨rfl,rfl⟩),rfl,rfl,rfl⟩
 ·exact⟨2-2,by omega,_,_,Zr,Zs,2,_,_,_,l++e,.inr (.inr ⟨rfl,rfl⟩),rfl,rfl,by rw[YZ];rfl⟩
 ·exact Zw
end Go.Proofs.YthdeaajdmdmfnaaGreatDoor
