import Derived.Test.YtmemninechdogaaGreatDoorAb
import Derived.Test.YtmemninechdogaaGreatDoorGa
set_option linter.all false
namespace Go.Sx
open Go.RowKit
theorem Sg{y:Type}{A row D:List y}{a K:Nat}(hr:row.length=K)(ha:a+K+D.length<=A.length):over (over A (a+K) D) a row=A.take a++row++D++A.drop (a+K+D.length):=by
 unfold over;have h1:(A.take (a+K)).length=a+K:=by grind
 grind
section
variable {P:Program}[Glob P]{M:Mem}{w0:Base}{w w':World}{q:Store}
theorem Qi{g lab:Nat}{cur:Array Value}{ty:TypeId}{l:List AV}(hI:Inv P M w0 q w)(hb:Below w.heap.size w w')(hg:w.heap.size<=g)(hh:w'.heap[g]? =some (.cells cur ty (0,0)))(hl:RL M l cur.toList):Inv P M w0 ((lab,g,.cells l)::q) w':=by
 have h1:=hI.after hb;have Am:∀o,M g o=none:=fun o=>by
  cases h:M g o with
  |none=>rfl|some v=>have:=World.block_lt_of_cell? _ _ (hI.bZ g o v h);grind
 refine⟨h1.os,h1.tape,h1.output,h1.size,h1.old,h1.bZ,fun e he=>?_,?_,h1.gl,h1.gw,h1.bm⟩
 .rcases ZR.1 he with rfl|he
  .exact⟨ZD hI.size hg,Am,cur,ty,hh,hl⟩
  .exact h1.st e he
 .simp only[Zz,YQ];refine⟨fun h=>?_,h1.nd⟩;obtain⟨e,he,heq⟩:=Ze.1 h;have:=hI.ub he;omega
theorem De{t b K c:Nat}{L:List AV}{rows:List (List AV)}(hI:Inv P M w0 ((t,b,.cells L)::q) w)(hK:∀i (h:i<rows.length),rows[i].length=K)(hL:L.take (rows.length*K)=rows.flatten)(hc:rows.length<=c)(hm:c<=maxLen):
  ∃M',M.le M'/\Inv P M' w0 q w/\R M' (.sl true K rows) (.slice (some ⟨b,0,none⟩) rows.length c):=by
 obtain⟨M',vs,h1,h2,h3,h4⟩:=hI.freeze;have hv:RL M' rows.flatten (vs.take (rows.length*K)):=by rw[<-hL];exact h3.take _
 have hr:=Rows.of_flat (M:=M') (b:=b) (off:=0) hK hv (fun k v hk=>by
  grind)
 exact⟨M',h1,h2,.sl true K rows b 0 c _ hr.size hr.mem hr.rel hc hm⟩
theorem Inv.bR{l:List Value}:RL M (l.map .v) l:=RL.exact l
end
theorem Da{K:Nat}:∀{rows:List (List AV)} (k:Nat),(∀r∈rows,r.length=K)->(rows.take k).flatten=rows.flatten.take (k*K)
 |[],k,_=>by simp|r::rows,0,_=>by simp|r::rows,k+1,h=>by rw[Xo,XL,XL,Da k (fun x hx=>h x (ZN _ hx)),show(k+1)*K=r.length+k*K by grind,List.take_length_add_append]
theorem C9{K:Nat}:∀{rows:List (List AV)} (k:Nat),(∀r∈rows,r.length=K)->(rows.drop k).flatten=rows.flatten.drop (k*K)
 |[],k,_=>by simp|r::rows,0,_=>by simp|r::rows,k+1,h=>by rw[List.drop_succ_cons,XL,C9 k (fun x hx=>h x (ZN _ hx)),show(k+1)*K=r.length+k*K by grind,List.drop_length_add_append]
theorem xy{K:Nat}:∀{rows:List (List AV)},(∀r∈rows,r.length=K)->rows.flatten.length=rows.length*K
 |[],_=>by simp|r::rows,h=>by rw[XL,Z7,h r ZK,xy fun x hx=>h x (ZN _ hx),ZY,YG];omega
theorem xz:∀{rows:List (List AV)},(∀r∈rows,r.all AV.one=true)->rows.flatten.all AV.one=true
 |[],_=>rfl|r::rows,h=>by grind
def oj(K:Nat)(rows:List (List AV))(x:AV)(z:Store):Prop:=(rows=[]/\x= .v (.slice none 0 0)/\z=[])\/∃b c rest,x= .ms 40 b 0 rows.length c/\z=[(40,b,.cells (rows.flatten++rest))]/\rows.length<=c/\c<=maxLen/\rest.length=(c-rows.length)*K
end Go.Sx
set_option maxRecDepth 100000
set_option maxHeartbeats 4000000
namespace Go.Proofs.YtmemninechdogaaGreatDoor
open _root_.Go.Proofs.Tryz
section
open Go.RowKit Go.Proofs Go.Shelf
theorem aa8{w:World}{ad:Addr}{n c:Nat}{news:List Value}(hlen:news.length=n*18)(hc:∀j u,news[j]? =some u->w.cell? (ad.add j)=some u)(h1:∀u∈news,u.oneCell'=true)(hn:n<=100000):
  Calls prog 174 #[.slice (some ad) n c] w fun e w'=>∃v',e= .returned v'/\w'.ownsRow w.heap.size 37 18 v' n news/\v'≠.slice none 0 0/\Below w.heap.size w w':=by
 obtain⟨i0,hi,ew,iz,gV⟩:=info_parts we;have yx:∀(w:World) (a:Option Addr) (n c n' c':Nat),(binOp .eql 23 (.slice a n c) (.slice none n' c')).run prog w= .ok (.bool a.isNone) w:=fun w a n c n' c'=>Lib.run_eql_slice_nil w _ _ a n c n' c' underlying23
 go_enter func174,ntmps174
 go_wp2_with (refine wpList_append_own _ rfl _ _ 23 rfl w.heap.size 37 i0 zF 18 248 underlying23 hi ew iz gV wS (by decide) _ _ _ rfl (World.ownsRow_made w #[] 0 (ZO _) (Z4 _) rfl) ad n c news rfl hlen ?qc2 h1 ?qc4 ?qc5 ?qc6 ?_)
 case qc2=>
  intro j u hj;exact Lib.cell?_alloc_some _ (hc j u hj)
 case qc4=>unfold maxLen;omega
 case qc5=>omega
 case qc6=>simp
 intro v' w1 dL Ao iQ
 go_wp2
 go_ret
 refine⟨v',rfl,by grind,?_,?_⟩
 .grind
 .exact((Below.refl _ w).alloc (ZO _) _).grown Ao (by simp) (by intro k hk;simp[Value.ownBlock]at hk;omega)
theorem aa6(n c:Nat)(w:World):Calls prog 174 #[.slice none n c] w fun e w'=>e= .returned (.slice none 0 0)/\w'=w:=by
 have yx:∀(w:World) (a:Option Addr) (n c n' c':Nat),(binOp .eql 23 (.slice a n c) (.slice none n' c')).run prog w= .ok (.bool a.isNone) w:=fun w a n c n' c'=>Lib.run_eql_slice_nil w _ _ a n c n' c' underlying23
 go_wp2
 go_ret
 simp_all
end
open Go.Sx Go.Proofs Go.RowKit
theorem MX(rows:List (List AV))(hK:∀r∈rows,r.length=18)(h1:∀r∈rows,r.all AV.one=true)(hn:rows.length<=100000)(q:Store):Sx.Spec prog 174 [.sl false 18 rows] q fun r af=>∃x z,r= .ret x/\af=z++q/\oj 18 rows x z:=by
 intro M w0 w cs hI hR;obtain⟨v,rfl,hv⟩:=RL.cR hR
 have key:∀(ad:Addr) (c:Nat) (L:List Value),RL M rows.flatten L->(∀j u,L[j]? =some u->w.cell? (ad.add j)=some u)->v= .slice (some ad) rows.length c->
   Calls prog 174 #[v] w fun e w'=>∃M' r af,M.le M'/\Inv prog M' w0 af w'/\jV M' r e/\∃x z,r= .ret x/\af=z++q/\oj 18 rows x z:=fun ad c L hL hc hv=>by
  subst hv;refine(aa8 (w:=w) (ad:=ad) (n:=rows.length) (c:=c) (news:=L) (by rw[<-hL.1,xy hK]) hc (fun u hu=>ZA.1 (hL.ov (xz h1)) u hu) hn).mono fun e w' ⟨v',he,dL,AF,hb⟩=>?_;obtain⟨g1,g2⟩:=dL;rcases g2 with⟨iQ,_⟩|⟨g,cap,cur,rfl,anl,hh,hc,hm,hs,ht⟩
  .grind
  .have jI:cur.toList=L++cur.toList.drop (rows.length*18):=by rw[<-ht,Y9]
   refine⟨M,.ret (.ms 40 g 0 rows.length cap),_,Mem.le.refl _,Qi (lab:=40) hI hb anl hh (by rw[jI];exact hL.append (RL.exact _)),by subst he;exact .ms _ _ _ _ _,_,[_],rfl,rfl,.inr ⟨g,cap,_,rfl,rfl,hc,hm,?_⟩⟩;grind
 rcases hv.nT with⟨a,_,rfl,rfl⟩|⟨b,off,cap,f,rfl,hr,hc,hm⟩
 .cases a with
  |none=>exact(aa6 0 0 w).mono fun e w' ⟨h1,h2⟩=>⟨M,.ret (.v (.slice none 0 0)),q,Mem.le.refl _,by grind,by subst h1;exact .v _,_,[],rfl,rfl,.inl ⟨rfl,rfl,rfl⟩⟩
  |some ad=>exact key ad 0 [] RL.nil (fun j u h=>by grind) rfl
 .refine key ⟨b,off,none⟩ cap _ hr.flat (fun j u hj=>?_) rfl;have jE:j<rows.length*18:=by have:=(ZG.1 hj).1;simpa using this
  rw[Addr.add_lit,hI.bZ _ _ _ (hr.mem j jE)];grind
theorem aeM{rows:List (List AV)}{row:List AV}{x:AV}{z q:Store}{k tv bv:Nat}(hx:oj 18 rows x z)(hK:∀r∈rows,r.length=18)(h1:∀r∈rows,r.all AV.one=true)(fR:row.length=18)(lV:row.all AV.one=true)(hk:k<=rows.length)(hn:rows.length<=100000):
  Sx.Spec prog 173 [x,.v (.int .i64 (k:Int)),.ms tv bv 0 1 1] ((tv,bv,.cells row)::(z++q)) fun r af=>r= .ret (.sl true 18 (rows.take k++row::rows.drop k))/\af=q:=by
 intro M w0 w cs hI hR;obtain⟨v1,cB,rfl,q1,bV⟩:=hR.aZ;obtain⟨v2,qG,rfl,q2,ef⟩:=bV.aZ;obtain⟨v3,rfl,q3⟩:=RL.cR ef;obtain rfl:=q2.aC;obtain rfl:=q3.pd;obtain⟨hMv,oA,tyv,oO,gh⟩:=(hI.st _ ZK).2;have gm:oA.toList.length=18:=by rw[<-gh.1,fR]
 have jf:∀u∈oA.toList,u.oneCell'=true:=fun u hu=>ZA.1 (gh.ov lV) u hu;have AD:∀i (h:i<(rows.take k++row::rows.drop k).length),(rows.take k++row::rows.drop k)[i].length=18:=fun i h=>by grind
 have gT:(rows.take k++row::rows.drop k).length=rows.length+1:=by grind
 have IZ:(rows.take k++row::rows.drop k).flatten=rows.flatten.take (k*18)++row++rows.flatten.drop (k*18):=by rw[List.flatten_append,XL,Da k hK,C9 k hK,Zq]
 have eg:=xy hK
 have done:∀{M':Mem} {w':World} {g G:Nat} {L:List AV} {lab:Nat} {e:Ending},M.le M'->Inv prog M' w0 ((lab,g,.cells L)::q) w'->L.take ((rows.length+1)*18)=rows.flatten.take (k*18)++row++rows.flatten.drop (k*18)->rows.length+1<=G->G<=maxLen->e= .returned (.slice (some ⟨g,0,none⟩) (rows.length+1) G)->
   ∃M' r af,M.le M'/\Inv prog M' w0 af w'/\jV M' r e/\r= .ret (.sl true 18 (rows.take k++row::rows.drop k))/\af=q:=fun {M' w' g G L lab e} hM bg hL hG xF he=>by
  obtain⟨M2,a1,a2,a3⟩:=De (rows:=rows.take k++row::rows.drop k) bg AD (by grind) (by grind) xF;refine⟨M2,_,q,hM.trans a1,a2,?_,rfl,rfl⟩;subst he;rw[gT]at a3;exact a3
 rcases hx with⟨rfl,rfl,rfl⟩|⟨b,c,rest,rfl,rfl,hc,hm,j7⟩
 .obtain rfl:=q1.aC;obtain rfl:k=0:=by simpa using hk
  have gD:Inv prog M w0 q w:=hI.sub (show List.Sublist _ _ by simp);refine(Qg (w:=w) (n:=0) (cap:=0) (base:=none) (xs:=[]) rfl (fun _ _=>rfl) (fun _=>⟨rfl,rfl⟩) (ZO _) (by omega) (by omega) oO rfl gm jf).mono fun e w' ⟨G,pv,g1,g2,g3,g4,g5,g6⟩=>?_;have jI:pv.toList=oA.toList++pv.toList.drop 18:=by have:=Y9 18 pv.toList;rw[show pv.toList.take 18=oA.toList by simpa using g4]at this;exact this.symm
  have cq:Inv prog M w0 ((40,w.heap.size,.cells (row++(pv.toList.drop 18).map .v))::q) w':=by rw[g6];exact(Inv.box gD (cs:=pv.toList) 37 (by rw[jI];simpa[<-jI]using gh.append (RL.exact (pv.toList.drop 18))) 40).ft
  exact done (Mem.le.refl _) cq (by simp[fR]) g1 g2 g5
 .obtain rfl:=q1.pd;have hA:(rows.flatten++rest).length=c*18:=by rw[Z7,eg,j7,<-YG];congr 1;omega
  have nE:Inv prog M w0 ((40,b,.cells (rows.flatten++rest))::q) w:=hI.sub (show List.Sublist _ _ by simp);have gD:Inv prog M w0 q w:=nE.sub (show List.Sublist _ _ by simp);obtain⟨OS,cm,T5,hh,tz⟩:=(nE.st _ ZK).2;have aW:bv≠b:=fun e=>by have:=hI.nd;simp[e]at this
  have bY:cm.size=c*18:=by rw[<-Zu,<-tz.1,hA]
  have di:RL M rows.flatten (cm.toList.take (rows.length*18)):=by have:=tz.take (rows.length*18);rwa [Y2 eg]at this
  have ct:(cm.toList.take (rows.length*18)).length=rows.length*18:=by rw[<-di.1,eg]
  have kG:∀u∈cm.toList.take (rows.length*18),u.oneCell'=true:=fun u hu=>ZA.1 (di.ov (xz h1)) u hu;have hD:=di.drop (k*18);have gM:(rows.flatten.drop (k*18)).length=rows.length*18-k*18:=by rw[YZ,eg]
  have zZ:((cm.toList.take (rows.length*18)).drop (k*18)).length=rows.length*18-k*18:=by rw[YZ,ct]
  have hT:=di.take (k*18);have hkK:k*18<=rows.length*18:=Y4 _ hk;have vu:(rows.flatten.take (k*18)).length=k*18:=by rw[ZL,eg];omega
  rcases YN k rows.length with vL|vL
  .have kN:(k+1)*18=k*18+18:=by omega
   rcases YN rows.length c with eJ|eJ
   .refine(aeQ hh bY rfl kG vL eJ hm aW oO rfl gm jf).mono fun e w' ⟨g5,g6⟩=>?_;have cq:=(nE.ft.setCells (o:=(k+1)*18) hD (by rw[zZ,hA];omega)).setCells (o:=k*18) gh (by rw[Bm _ _ _ (by rw[gM,hA];omega),gm,hA];omega);rw[<-g6]at cq;refine done (Mem.le.refl _) cq ?_ eJ hm g5;rw[kN,Sg fR (by rw[gM,hA];omega),Zg (by simp only[Z7,ZL,hA,fR,gM];omega),ZM (by simp only[Z7,ZL,hA,fR,gM];omega),Zg (by omega)]
   .refine(aeK hh bY rfl kG vL (by omega) (by omega) hn oO rfl gm jf).mono fun e w' ⟨G,pv,g1,g2,g3,g4,g5,g6⟩=>?_;have jI:pv.toList=(cm.toList.take (rows.length*18)).take (k*18)++pv.toList.drop (k*18):=by rw[<-g4,Y9]
    have rj:RL M (rows.flatten.take (k*18)++(pv.toList.drop (k*18)).map .v) pv.toList:=by have:=hT.append (RL.exact (M:=M) (pv.toList.drop (k*18)));rwa [<-jI]at this
    have rk:(rows.flatten.take (k*18)++(pv.toList.drop (k*18)).map AV.v).length=G*18:=by rw[rj.1,Zu,g3]
    have hG1:(rows.length+1)*18<=G*18:=Y4 _ g1;have cq:=(((Inv.box gD (cs:=pv.toList) 37 rj 40).ft.setCells (o:=k*18) gh (by rw[rk,gm];omega)).ft).setCells (o:=(k+1)*18) hD (by rw[Bm _ _ _ (by rw[rk,fR];omega),rk,zZ];omega);rw[show(pv.toList.toArray:Array Value)=pv by simp,<-g6]at cq;refine done (Mem.le.refl _) cq ?_ g1 g2 g5;generalize hX:rows.flatten.take (k*18)++(pv.toList.drop (k*18)).map AV.v=X at rk|-;have Iz:X.take (k*18)=rows.flatten.take (k*18):=by rw[<-hX];exact Y2 vu
    unfold over;rw[kN,Iz,fR,gM];have e1:(rows.flatten.take (k*18)++row++X.drop (k*18+18)).take (k*18+18)=rows.flatten.take (k*18)++row:=Y2 (by rw[Z7,vu,fR]);rw[e1];exact Y2 (by simp only[Z7,vu,fR,gM];omega)
  .obtain rfl:k=rows.length:=by omega
   have je:rows.flatten.drop (rows.length*18)=[]:=Yy (by omega);have rF:rows.flatten.take (rows.length*18)=rows.flatten:=ZM (by omega);rcases YN rows.length c with eJ|eJ
   .refine(aeO (n:=rows.length) hh bY eJ hm oO rfl gm jf).mono fun e w' ⟨g5,g6⟩=>?_;have cq:=nE.setCells (o:=rows.length*18) gh (by rw[gm,hA];omega);rw[<-g6]at cq;refine done (Mem.le.refl _) cq ?_ eJ hm g5;unfold over;rw[je,rF,Y5,Y2 eg];exact Y2 (by rw[Z7,eg,fR];omega)
   .refine(Qg (w:=w) (n:=rows.length) (cap:=c) (base:=some ⟨b,0,none⟩) (xs:=cm.toList.take (rows.length*18)) ct (fun w' hw=>run_firstCells_some w' 18 rows.length ⟨b,0,none⟩ rows.length c _ ct (fun j v hj=>by
     rw[Addr.add_lit,ZH];simp only[World.cell?,hw,hh];rw[YV]at hj;split at hj
     .rw[Zi]at hj;exact hj
     .cases hj)) (fun h=>by cases h) hc (by omega) hn oO rfl gm jf).mono fun e w' ⟨G,pv,g1,g2,g3,g4,g5,g6⟩=>?_
    have jI:pv.toList=(cm.toList.take (rows.length*18)++oA.toList)++pv.toList.drop ((rows.length+1)*18):=by rw[<-g4,Y9]
    have rj:RL M ((rows.flatten++row)++(pv.toList.drop ((rows.length+1)*18)).map .v) pv.toList:=by have:=(di.append gh).append (RL.exact (M:=M) (pv.toList.drop ((rows.length+1)*18)));rwa [<-jI]at this
    have cq:=(Inv.box gD (cs:=pv.toList) 37 rj 40).ft;rw[show(pv.toList.toArray:Array Value)=pv by simp,<-g6]at cq;refine done (Mem.le.refl _) cq ?_ g1 g2 g5;rw[je,rF,Y5];exact Y2 (by rw[Z7,eg,fR];omega)
section
open Go.RowKit Go.Proofs Go.Shelf
theorem aa7{w:World}{ad:Addr}{n c:Nat}{news:List Value}(hlen:news.length=n*4)(hc:∀j u,news[j]? =some u->w.cell? (ad.add j)=some u)(h1:∀u∈news,u.oneCell'=true)(hn:n<=100000):
  Calls prog 125 #[.slice (some ad) n c] w fun e w'=>∃v',e= .returned v'/\w'.ownsRow w.heap.size 45 4 v' n news/\v'≠.slice none 0 0/\Below w.heap.size w w':=by
 obtain⟨i0,hi,ew,iz,gV⟩:=info_parts A1;have yx:∀(w:World) (a:Option Addr) (n c n' c':Nat),(binOp .eql 22 (.slice a n c) (.slice none n' c')).run prog w= .ok (.bool a.isNone) w:=fun w a n c n' c'=>Lib.run_eql_slice_nil w _ _ a n c n' c' underlying22
 go_enter func125,ntmps125
 go_wp2_with (refine wpList_append_own _ rfl _ _ 22 rfl w.heap.size 45 i0 zB 4 64 underlying22 hi ew iz gV LR (by decide) _ _ _ rfl (World.ownsRow_made w #[] 0 (ZO _) (Z4 _) rfl) ad n c news rfl hlen ?qc2 h1 ?qc4 ?qc5 ?qc6 ?_)
 case qc2=>
  intro j u hj;exact Lib.cell?_alloc_some _ (hc j u hj)
 case qc4=>unfold maxLen;omega
 case qc5=>omega
 case qc6=>simp
 intro v' w1 dL Ao iQ
 go_wp2
 go_ret
 refine⟨v',rfl,by grind,?_,?_⟩
 .grind
 .exact((Below.refl _ w).alloc (ZO _) _).grown Ao (by simp) (by intro k hk;simp[Value.ownBlock]at hk;omega)
theorem aa5(n c:Nat)(w:World):Calls prog 125 #[.slice none n c] w fun e w'=>e= .returned (.slice none 0 0)/\w'=w:=by
 have yx:∀(w:World) (a:Option Addr) (n c n' c':Nat),(binOp .eql 22 (.slice a n c) (.slice none n' c')).run prog w= .ok (.bool a.isNone) w:=fun w a n c n' c'=>Lib.run_eql_slice_nil w _ _ a n c n' c' underlying22
 go_wp2
 go_ret
 simp_all
end
open Go.Sx Go.Proofs Go.RowKit
theorem aa4(rows:List (List AV))(hK:∀r∈rows,r.length=4)(h1:∀r∈rows,r.all AV.one=true)(hn:rows.length<=100000)(q:Store):Sx.Spec prog 125 [.sl false 4 rows] q fun r af=>∃x z,r= .ret x/\af=z++q/\oj 4 rows x z:=by
 intro M w0 w cs hI hR;obtain⟨v,rfl,hv⟩:=RL.cR hR
 have key:∀(ad:Addr) (c:Nat) (L:List Value),RL M rows.flatten L->(∀j u,L[j]? =some u->w.cell? (ad.add j)=some u)->v= .slice (some ad) rows.length c->
   Calls prog 125 #[v] w fun e w'=>∃M' r af,M.le M'/\Inv prog M' w0 af w'/\jV M' r e/\∃x z,r= .ret x/\af=z++q/\oj 4 rows x z:=fun ad c L hL hc hv=>by
  subst hv;refine(aa7 (w:=w) (ad:=ad) (n:=rows.length) (c:=c) (news:=L) (by rw[<-hL.1,xy hK]) hc (fun u hu=>ZA.1 (hL.ov (xz h1)) u hu) hn).mono fun e w' ⟨v',he,dL,AF,hb⟩=>?_;obtain⟨g1,g2⟩:=dL;rcases g2 with⟨iQ,_⟩|⟨g,cap,cur,rfl,anl,hh,hc,hm,hs,ht⟩
  .grind
  .have jI:cur.toList=L++cur.toList.drop (rows.length*4):=by rw[<-ht,Y9]
   refine⟨M,.ret (.ms 40 g 0 rows.length cap),_,Mem.le.refl _,Qi (lab:=40) hI hb anl hh (by rw[jI];exact hL.append (RL.exact _)),by subst he;exact .ms _ _ _ _ _,_,[_],rfl,rfl,.inr ⟨g,cap,_,rfl,rfl,hc,hm,?_⟩⟩;grind
 rcases hv.nT with⟨a,_,rfl,rfl⟩|⟨b,off,cap,f,rfl,hr,hc,hm⟩
 .cases a with
  |none=>exact(aa5 0 0 w).mono fun e w' ⟨h1,h2⟩=>⟨M,.ret (.v (.slice none 0 0)),q,Mem.le.refl _,by grind,by subst h1;exact .v _,_,[],rfl,rfl,.inl ⟨rfl,rfl,rfl⟩⟩
  |some ad=>exact key ad 0 [] RL.nil (fun j u h=>by grind) rfl
 .refine key ⟨b,off,none⟩ cap _ hr.flat (fun j u hj=>?_) rfl;have jE:j<rows.length*4:=by have:=(ZG.1 hj).1;simpa using this
  rw[Addr.add_lit,hI.bZ _ _ _ (hr.mem j jE)];simpa[jE]using hj
theorem aeL{rows:List (List AV)}{row:List AV}{x:AV}{z q:Store}{k tv bv:Nat}(hx:oj 4 rows x z)(hK:∀r∈rows,r.length=4)(h1:∀r∈rows,r.all AV.one=true)(fR:row.length=4)(lV:row.all AV.one=true)(hk:k<=rows.length)(hn:rows.length<=100000):
  Sx.Spec prog 124 [x,.v (.int .i64 (k:Int)),.ms tv bv 0 1 1] ((tv,bv,.cells row)::(z++q)) fun r af=>r= .ret (.sl true 4 (rows.take k++row::rows.drop k))/\af=q:=by
 intro M w0 w cs hI hR;obtain⟨v1,cB,rfl,q1,bV⟩:=hR.aZ;obtain⟨v2,qG,rfl,q2,ef⟩:=bV.aZ;obtain⟨v3,rfl,q3⟩:=RL.cR ef;obtain rfl:=q2.aC;obtain rfl:=q3.pd;obtain⟨hMv,oA,tyv,oO,gh⟩:=(hI.st _ ZK).2;have gm:oA.toList.length=4:=by rw[<-gh.1,fR]
 have jf:∀u∈oA.toList,u.oneCell'=true:=fun u hu=>ZA.1 (gh.ov lV) u hu;have AD:∀i (h:i<(rows.take k++row::rows.drop k).length),(rows.take k++row::rows.drop k)[i].length=4:=fun i h=>by grind
 have gT:(rows.take k++row::rows.drop k).length=rows.length+1:=by grind
 have IZ:(rows.take k++row::rows.drop k).flatten=rows.flatten.take (k*4)++row++rows.flatten.drop (k*4):=by rw[List.flatten_append,XL,Da k hK,C9 k hK,Zq]
 have eg:=xy hK
 have done:∀{M':Mem} {w':World} {g G:Nat} {L:List AV} {lab:Nat} {e:Ending},M.le M'->Inv prog M' w0 ((lab,g,.cells L)::q) w'->L.take ((rows.length+1)*4)=rows.flatten.take (k*4)++row++rows.flatten.drop (k*4)->rows.length+1<=G->G<=maxLen->e= .returned (.slice (some ⟨g,0,none⟩) (rows.length+1) G)->
   ∃M' r af,M.le M'/\Inv prog M' w0 af w'/\jV M' r e/\r= .ret (.sl true 4 (rows.take k++row::rows.drop k))/\af=q:=fun {M' w' g G L lab e} hM bg hL hG xF he=>by
  obtain⟨M2,a1,a2,a3⟩:=De (rows:=rows.take k++row::rows.drop k) bg AD (by rw[gT,IZ];exact hL) (by rw[gT];exact hG) xF;refine⟨M2,_,q,hM.trans a1,a2,?_,rfl,rfl⟩;subst he;rw[gT]at a3;exact a3
 rcases hx with⟨rfl,rfl,rfl⟩|⟨b,c,rest,rfl,rfl,hc,hm,j7⟩
 .obtain rfl:=q1.aC;obtain rfl:k=0:=by simpa using hk
  have gD:Inv prog M w0 q w:=hI.sub (show List.Sublist _ _ by simp);refine(Qf (w:=w) (n:=0) (cap:=0) (base:=none) (xs:=[]) rfl (fun _ _=>rfl) (fun _=>⟨rfl,rfl⟩) (ZO _) (by omega) (by omega) oO rfl gm jf).mono fun e w' ⟨G,pv,g1,g2,g3,g4,g5,g6⟩=>?_;have jI:pv.toList=oA.toList++pv.toList.drop 4:=by have:=Y9 4 pv.toList;rw[show pv.toList.take 4=oA.toList by simpa using g4]at this;exact this.symm
  have cq:Inv prog M w0 ((40,w.heap.size,.cells (row++(pv.toList.drop 4).map .v))::q) w':=by rw[g6];exact(Inv.box gD (cs:=pv.toList) 45 (by rw[jI];simpa[<-jI]using gh.append (RL.exact (pv.toList.drop 4))) 40).ft
  exact done (Mem.le.refl _) cq (by simp[fR]) g1 g2 g5
 .obtain rfl:=q1.pd;have hA:(rows.flatten++rest).length=c*4:=by rw[Z7,eg,j7,<-YG];congr 1;omega
  have nE:Inv prog M w0 ((40,b,.cells (rows.flatten++rest))::q) w:=hI.sub (show List.Sublist _ _ by simp);have gD:Inv prog M w0 q w:=nE.sub (show List.Sublist _ _ by simp);obtain⟨OS,cm,T5,hh,tz⟩:=(nE.st _ ZK).2;have aW:bv≠b:=fun e=>by have:=hI.nd;simp[e]at this
  have bY:cm.size=c*4:=by rw[<-Zu,<-tz.1,hA]
  have di:RL M rows.flatten (cm.toList.take (rows.length*4)):=by have:=tz.take (rows.length*4);rwa [Y2 eg]at this
  have ct:(cm.toList.take (rows.length*4)).length=rows.length*4:=by rw[<-di.1,eg]
  have kG:∀u∈cm.toList.take (rows.length*4),u.oneCell'=true:=fun u hu=>ZA.1 (di.ov (xz h1)) u hu;have hD:=di.drop (k*4);have gM:(rows.flatten.drop (k*4)).length=rows.length*4-k*4:=by rw[YZ,eg]
  have zZ:((cm.toList.take (rows.length*4)).drop (k*4)).length=rows.length*4-k*4:=by rw[YZ,ct]
  have hT:=di.take (k*4);have hkK:k*4<=rows.length*4:=Y4 _ hk;have vu:(rows.flatten.take (k*4)).length=k*4:=by rw[ZL,eg];omega
  rcases YN k rows.length with vL|vL
  .have kN:(k+1)*4=k*4+4:=by omega
   rcases YN rows.length c with eJ|eJ
   .refine(aeP hh bY rfl kG vL eJ hm aW oO rfl gm jf).mono fun e w' ⟨g5,g6⟩=>?_;have cq:=(nE.ft.setCells (o:=(k+1)*4) hD (by rw[zZ,hA];omega)).setCells (o:=k*4) gh (by rw[Bm _ _ _ (by rw[gM,hA];omega),gm,hA];omega);rw[<-g6]at cq;refine done (Mem.le.refl _) cq ?_ eJ hm g5;rw[kN,Sg fR (by rw[gM,hA];omega),Zg (by simp only[Z7,ZL,hA,fR,gM];omega),ZM (by simp only[Z7,ZL,hA,fR,gM];omega),Zg (by omega)]
   .refine(aeJ hh bY rfl kG vL (by omega) (by omega) hn oO rfl gm jf).mono fun e w' ⟨G,pv,g1,g2,g3,g4,g5,g6⟩=>?_;have jI:pv.toList=(cm.toList.take (rows.length*4)).take (k*4)++pv.toList.drop (k*4):=by rw[<-g4,Y9]
    have rj:RL M (rows.flatten.take (k*4)++(pv.toList.drop (k*4)).map .v) pv.toList:=by have:=hT.append (RL.exact (M:=M) (pv.toList.drop (k*4)));rwa [<-jI]at this
    have rk:(rows.flatten.take (k*4)++(pv.toList.drop (k*4)).map AV.v).length=G*4:=by rw[rj.1,Zu,g3]
    have hG1:(rows.length+1)*4<=G*4:=Y4 _ g1;have cq:=(((Inv.box gD (cs:=pv.toList) 45 rj 40).ft.setCells (o:=k*4) gh (by rw[rk,gm];omega)).ft).setCells (o:=(k+1)*4) hD (by rw[Bm _ _ _ (by rw[rk,fR];omega),rk,zZ];omega);rw[show(pv.toList.toArray:Array Value)=pv by simp,<-g6]at cq;refine done (Mem.le.refl _) cq ?_ g1 g2 g5;generalize hX:rows.flatten.take (k*4)++(pv.toList.drop (k*4)).map AV.v=X at rk|-;have Iz:X.take (k*4)=rows.flatten.take (k*4):=by rw[<-hX];exact Y2 vu
    unfold over;rw[kN,Iz,fR,gM];have e1:(rows.flatten.take (k*4)++row++X.drop (k*4+4)).take (k*4+4)=rows.flatten.take (k*4)++row:=Y2 (by rw[Z7,vu,fR]);rw[e1];exact Y2 (by simp only[Z7,vu,fR,gM];omega)
  .obtain rfl:k=rows.length:=by omega
   have je:rows.flatten.drop (rows.length*4)=[]:=Yy (by omega);have rF:rows.flatten.take (rows.length*4)=rows.flatten:=ZM (by omega);rcases YN rows.length c with eJ|eJ
   .refine(aeN (n:=rows.length) hh bY eJ hm oO rfl gm jf).mono fun e w' ⟨g5,g6⟩=>?_;have cq:=nE.setCells (o:=rows.length*4) gh (by rw[gm,hA];omega);rw[<-g6]at cq;refine done (Mem.le.refl _) cq ?_ eJ hm g5;unfold over;rw[je,rF,Y5,Y2 eg];exact Y2 (by rw[Z7,eg,fR];omega)
   .refine(Qf (w:=w) (n:=rows.length) (cap:=c) (base:=some ⟨b,0,none⟩) (xs:=cm.toList.take (rows.length*4)) ct (fun w' hw=>run_firstCells_some w' 4 rows.length ⟨b,0,none⟩ rows.length c _ ct (fun j v hj=>by
     rw[Addr.add_lit,ZH];simp only[World.cell?,hw,hh];rw[YV]at hj;split at hj
     .rw[Zi]at hj;exact hj
     .cases hj)) (fun h=>by cases h) hc (by omega) hn oO rfl gm jf).mono fun e w' ⟨G,pv,g1,g2,g3,g4,g5,g6⟩=>?_
    have jI:pv.toList=(cm.toList.take (rows.length*4)++oA.toList)++pv.toList.drop ((rows.length+1)*4):=by rw[<-g4,Y9]
    have rj:RL M ((rows.flatten++row)++(pv.toList.drop ((rows.length+1)*4)).map .v) pv.toList:=by have:=(di.append gh).append (RL.exact (M:=M) (pv.toList.drop ((rows.length+1)*4)));rwa [<-jI]at this
    have cq:=(Inv.box gD (cs:=pv.toList) 45 rj 40).ft;rw[show(pv.toList.toArray:Array Value)=pv by simp,<-g6]at cq;refine done (Mem.le.refl _) cq ?_ g1 g2 g5;rw[je,rF,Y5];exact Y2 (by rw[Z7,eg,fR];omega)
