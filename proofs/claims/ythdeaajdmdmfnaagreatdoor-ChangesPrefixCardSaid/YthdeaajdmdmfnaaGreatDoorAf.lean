/- Changes: rows written into a block of one's own, then laid for good: in the layer's words, at any size of an element. -/
import Derived.Test.YthdeaajdmdmfnaaGreatDoorAb
import Derived.Test.YthdeaajdmdmfnaaGreatDoorGa
import Derived.Test.YthdeaajdmdmfnaaGreatDoorAd
import Derived.Test.YthdeaajdmdmfnaaGreatDoorSxE
import Derived.Below
import Derived.Laws.AppendOwn
set_option linter.unusedSimpArgs false
set_option linter.unusedVariables false
namespace Go.Sx
open Go.RowKit
theorem Q7{α:Type}{A row D:List α}{a K:Nat}(hr:row.length=K)(ha:a+K+D.length≤A.length):over (over A (a+K) D) a row=A.take a++row++D++A.drop (a+K+D.length):=by
 unfold over
 have h1:(A.take (a+K)).length=a+K:=by rw[Zx];omega
 rw[Zb (A.take (a+K)),Za (by omega),List.take_take,Yi (by omega),hr,List.drop_append,Xl (by omega),h1,Nat.sub_self,List.drop_zero,Zl,Zb,Zb,Zb]
section
variable {P:Program}[Glob P]{M:Mem}{w0:Base}{w w':World}{σ:Store}
theorem Px{g lab:Nat}{cur:Array Value}{ty:TypeId}{l:List AV}(hI:Inv P M w0 σ w)(hb:Below w.heap.size w w')(hg:w.heap.size≤g)(hh:w'.heap[g]? =some (.cells cur ty (0,0)))(hl:RL M l cur.toList):Inv P M w0 ((lab,g,.cells l)::σ) w':=by
 have h1:=hI.after hb
 have Im:∀ o,M g o=none:=fun o=>by
  cases h:M g o with
  |none=>rfl
  |some v=>
   have:=World.block_lt_of_cell? _ _ (hI.bL g o v h)
   simp at this;omega
 refine⟨h1.os,h1.tape,h1.output,h1.size,h1.old,h1.bL,fun e he=> ?_,?_,h1.gl,h1.gw,h1.bm⟩
 ·rcases ZK.1 he with rfl|he
  ·exact⟨ZI hI.size hg,Im,cur,ty,hh,hl⟩
  ·exact h1.st e he
 ·simp only[Zv,Yy]
  refine⟨fun h=> ?_,h1.nd⟩
  obtain⟨e,he,heq⟩:=Zi.1 h
  have:=hI.pM he
  omega
theorem CJ{t b K c:Nat}{L:List AV}{rows:List (List AV)}(hI:Inv P M w0 ((t,b,.cells L)::σ) w)(hK:∀ i (h:i<rows.length),rows[i].length=K)(hL:L.take (rows.length * K)=rows.flatten)(hc:rows.length≤c)(hm:c≤maxLen):
  ∃ M',M.le M'∧Inv P M' w0 σ w∧R M' (.sl true K rows) (.slice (some ⟨b,0,none⟩) rows.length c):=by
 obtain⟨M',vs,h1,h2,h3,h4⟩:=hI.freeze
 have hf:=mL rows hK
 have hv:RL M' rows.flatten (vs.take (rows.length * K)):=by rw[← hL];exact h3.take _
 have hr:=Rows.of_flat (M:=M') (b:=b) (off:=0) hK hv (fun k v hk=>by
  rw[Y4]at hk
  split at hk
  ·obtain⟨aw,rfl⟩:=ZE.1 hk
   rw[ZH];exact h4 k aw
  ·cases hk)
 exact⟨M',h1,h2,.sl true K rows b 0 c _ hr.size hr.mem hr.rel hc hm⟩
theorem Inv.bP{l:List Value}:RL M (l.map .v) l:=RL.exact l
end
theorem CF{K:Nat}:∀ {rows:List (List AV)} (k:Nat),(∀ r∈rows,r.length=K)→(rows.take k).flatten=rows.flatten.take (k * K)
 |[],k,_=>by simp
 |r::rows,0,_=>by simp
 |r::rows,k+1,h=>by
  have hr:=h r ZD
  rw[List.take_succ_cons,X1,X1,CF k (fun x hx=>h x (ZL _ hx)),show(k+1) * K=r.length+k * K by rw[hr,Nat.succ_mul];omega,List.take_length_add_append]
theorem CC{K:Nat}:∀ {rows:List (List AV)} (k:Nat),(∀ r∈rows,r.length=K)→(rows.drop k).flatten=rows.flatten.drop (k * K)
 |[],k,_=>by simp
 |r::rows,0,_=>by simp
 |r::rows,k+1,h=>by
  have hr:=h r ZD
  rw[List.drop_succ_cons,X1,CC k (fun x hx=>h x (ZL _ hx)),show(k+1) * K=r.length+k * K by rw[hr,Nat.succ_mul];omega,List.drop_length_add_append]
theorem xc{K:Nat}:∀ {rows:List (List AV)},(∀ r∈rows,r.length=K)→rows.flatten.length=rows.length * K
 |[],_=>by simp
 |r::rows,h=>by rw[X1,Z4,h r ZD,xc fun x hx=>h x (ZL _ hx),ZS,YI];omega
theorem xd:∀ {rows:List (List AV)},(∀ r∈rows,r.all AV.one=true)→rows.flatten.all AV.one=true
 |[],_=>rfl
 |r::rows,h=>by rw[X1,List.all_append,h r ZD,xd fun x hx=>h x (ZL _ hx)];rfl
def nF(K:Nat)(rows:List (List AV))(x:AV)(τ:Store):Prop:=(rows=[]∧x= .v (.slice none 0 0)∧τ=[])∨∃ b c rest,x= .ms 40 b 0 rows.length c∧τ=[(40,b,.cells (rows.flatten++rest))]∧rows.length≤c∧c≤maxLen∧rest.length=(c-rows.length) * K
end Go.Sx
set_option maxRecDepth 100000
set_option maxHeartbeats 4000000
namespace Go.Proofs.YthdeaajdmdmfnaaGreatDoor
open _root_.Go.Proofs.Tryz
section
open Go.RowKit Go.Proofs Go.Shelf
theorem Xb{w:World}{ad:Addr}{n c:Nat}{news:List Value}(hlen:news.length=n * 18)(hc:∀ j u,news[j]? =some u→w.cell? (ad.add j)=some u)(h1:∀ u∈news,u.oneCell'=true)(hn:n≤100000):
  Calls prog 166 #[.slice (some ad) n c] w fun e w'=>∃ v',e= .returned v'∧w'.ownsRow w.heap.size 37 18 v' n news∧v'≠.slice none 0 0∧Below w.heap.size w w':=by
 obtain⟨i0,hi,dR,jT,gy⟩:=info_parts vr
 have tz:∀ (w:World) (a:Option Addr) (n c n' c':Nat),(binOp .eql 23 (.slice a n c) (.slice none n' c')).run prog w= .ok (.bool a.isNone) w:=fun w a n c n' c'=>Lib.run_eql_slice_nil w _ _ a n c n' c' underlying23
 go_enter func166,ntmps166
 go_wp2_with (at_builtin;refine wpList_append_own _ rfl _ _ 23 rfl w.heap.size 37 i0 zF 18 248 underlying23 hi dR jT gy wu (by decide) _ _ _ rfl (World.ownsRow_made w #[] 0 (ZX _) (ZM _) rfl) ad n c news rfl hlen ?qc2 h1 ?qc4 ?qc5 ?qc6 ?_)
 case qc2=>
  intro j u hj
  exact Lib.cell?_alloc_some _ (hc j u hj)
 case qc4=>unfold maxLen;omega
 case qc5=>omega
 case qc6=>simp
 intro v' w1 dt Aa iq
 go_wp2
 go_ret
 refine⟨v',rfl,by simpa using dt,?_,?_⟩
 ·first|exact iq|fail
 ·exact((Below.refl _ w).alloc (ZX _) _).grown Aa (by simp) (by intro k hk;simp[Value.ownBlock]at hk;omega)
theorem W8(n c:Nat)(w:World):Calls prog 166 #[.slice none n c] w fun e w'=>e= .returned (.slice none 0 0)∧w'=w:=by
 have tz:∀ (w:World) (a:Option Addr) (n c n' c':Nat),(binOp .eql 23 (.slice a n c) (.slice none n' c')).run prog w= .ok (.bool a.isNone) w:=fun w a n c n' c'=>Lib.run_eql_slice_nil w _ _ a n c n' c' underlying23
 go_enter func166,ntmps166
 go_wp2
 go_ret
 exact⟨rfl,rfl⟩
end
open Go.Sx Go.Proofs Go.RowKit
theorem Mu(rows:List (List AV))(hK:∀ r∈rows,r.length=18)(h1:∀ r∈rows,r.all AV.one=true)(hn:rows.length≤100000)(σ:Store):Sx.Spec prog 166 [.sl false 18 rows] σ fun r σ'=>∃ x τ,r= .ret x∧σ'=τ++σ∧nF 18 rows x τ:=by
 intro M w0 w cs hI hR
 obtain⟨v,rfl,hv⟩:=RL.cJ hR
 have key:∀ (ad:Addr) (c:Nat) (L:List Value),RL M rows.flatten L→(∀ j u,L[j]? =some u→w.cell? (ad.add j)=some u)→v= .slice (some ad) rows.length c→
   Calls prog 166 #[v] w fun e w'=>∃ M' r σ',M.le M'∧Inv prog M' w0 σ' w'∧iH M' r e∧∃ x τ,r= .ret x∧σ'=τ++σ∧nF 18 rows x τ:=fun ad c L hL hc hv=>by
  subst hv
  refine(Xb (w:=w) (ad:=ad) (n:=rows.length) (c:=c) (news:=L) (by rw[← hL.1,xc hK]) hc (fun u hu=>Zz.1 (hL.iK (xd h1)) u hu) hn).mono fun e w' ⟨v',he,dt,An,hb⟩=> ?_
  obtain⟨g1,g2⟩:=dt
  rcases g2 with⟨iq,_⟩|⟨g,cap,cur,rfl,pk,hh,hc,hm,hs,ht⟩
  ·exact absurd iq An
  ·have jt:cur.toList=L++cur.toList.drop (rows.length * 18):=by rw[← ht,Y7]
   refine⟨M,.ret (.ms 40 g 0 rows.length cap),_,Mem.le.refl _,Px (lab:=40) hI hb pk hh (by rw[jt];exact hL.append (RL.exact _)),by subst he;exact .ms _ _ _ _ _,_,[_],rfl,rfl,.inr ⟨g,cap,_,rfl,rfl,hc,hm,?_⟩⟩
   rw[ZW,YQ,ZQ,hs,Nat.sub_mul]
 rcases hv.nj with⟨a,_,rfl,rfl⟩|⟨b,off,cap,f,rfl,hr,hc,hm⟩
 ·cases a with
  |none=>exact(W8 0 0 w).mono fun e w' ⟨h1,h2⟩=>⟨M,.ret (.v (.slice none 0 0)),σ,Mem.le.refl _,by rw[h2];exact hI,by subst h1;exact .v _,_,[],rfl,rfl,.inl ⟨rfl,rfl,rfl⟩⟩
  |some ad=>exact key ad 0 [] RL.nil (fun j u h=>by simp at h) rfl
 ·refine key ⟨b,off,none⟩ cap _ hr.flat (fun j u hj=> ?_) rfl
  have ik:j<rows.length * 18:=by have:=(ZE.1 hj).1;simpa using this
  rw[Addr.add_lit,hI.bL _ _ _ (hr.mem j ik)]
  simpa[ik]using hj
theorem ac2{rows:List (List AV)}{row:List AV}{x:AV}{τ σ:Store}{k tv bv:Nat}(hx:nF 18 rows x τ)(hK:∀ r∈rows,r.length=18)(h1:∀ r∈rows,r.all AV.one=true)(ft:row.length=18)(ey:row.all AV.one=true)(hk:k≤rows.length)(hn:rows.length≤100000):
  Sx.Spec prog 165 [x,.v (.int .i64 (k:Int)),.ms tv bv 0 1 1] ((tv,bv,.cells row)::(τ++σ)) fun r σ'=>r= .ret (.sl true 18 (rows.take k++row::rows.drop k))∧σ'=σ:=by
 intro M w0 w cs hI hR
 obtain⟨v1,cq,rfl,q1,bY⟩:=hR.aX
 obtain⟨v2,oP,rfl,q2,dM⟩:=bY.aX
 obtain⟨v3,rfl,q3⟩:=RL.cJ dM
 obtain rfl:=q2.ay
 obtain rfl:=q3.pO
 obtain⟨hMv,nN,tyv,nX,fH⟩:=(hI.st _ ZD).2
 have fL:nN.toList.length=18:=by rw[← fH.1,ft]
 have jS:∀ u∈nN.toList,u.oneCell'=true:=fun u hu=>Zz.1 (fH.iK ey) u hu
 have Am:∀ i (h:i<(rows.take k++row::rows.drop k).length),(rows.take k++row::rows.drop k)[i].length=18:=fun i h=>by
  have hm:(rows.take k++row::rows.drop k)[i]∈rows.take k++row::rows.drop k:=Zf h
  rw[Zy,ZK]at hm
  rcases hm with hm|hm|hm
  ·exact hK _ (YS hm)
  ·rw[hm];exact ft
  ·exact hK _ (YE hm)
 have gJ:(rows.take k++row::rows.drop k).length=rows.length+1:=by simp;omega
 have Ik:(rows.take k++row::rows.drop k).flatten=rows.flatten.take (k * 18)++row++rows.flatten.drop (k * 18):=by rw[List.flatten_append,X1,CF k hK,CC k hK,Zb]
 have eu:=xc hK
 have done:∀ {M':Mem} {w':World} {g G:Nat} {L:List AV} {lab:Nat} {e:Ending},M.le M'→Inv prog M' w0 ((lab,g,.cells L)::σ) w'→L.take ((rows.length+1) * 18)=rows.flatten.take (k * 18)++row++rows.flatten.drop (k * 18)→rows.length+1≤G→G≤maxLen→e= .returned (.slice (some ⟨g,0,none⟩) (rows.length+1) G)→
   ∃ M' r σ',M.le M'∧Inv prog M' w0 σ' w'∧iH M' r e∧r= .ret (.sl true 18 (rows.take k++row::rows.drop k))∧σ'=σ:=fun {M' w' g G L lab e} hM bp hL hG xi he=>by
  obtain⟨M2,a1,a2,a3⟩:=CJ (rows:=rows.take k++row::rows.drop k) bp Am (by rw[gJ,Ik];exact hL) (by rw[gJ];exact hG) xi
  refine⟨M2,_,σ,hM.trans a1,a2,?_,rfl,rfl⟩
  subst he
  rw[gJ]at a3
  exact a3
 rcases hx with⟨rfl,rfl,rfl⟩|⟨b,c,rest,rfl,rfl,hc,hm,jR⟩
 ·obtain rfl:=q1.ay
  obtain rfl:k=0:=by simpa using hk
  have fY:Inv prog M w0 σ w:=hI.sub (show List.Sublist _ _ by simp)
  refine(Pw (w:=w) (n:=0) (cap:=0) (base:=none) (xs:=[]) rfl (fun _ _=>rfl) (fun _=>⟨rfl,rfl⟩) (ZX _) (by omega) (by omega) nX rfl fL jS).mono fun e w' ⟨G,ROW,g1,g2,g3,g4,g5,g6⟩=> ?_
  have jt:ROW.toList=nN.toList++ROW.toList.drop 18:=by
   have:=Y7 18 ROW.toList
   rw[show ROW.toList.take 18=nN.toList by simpa using g4]at this
   exact this.symm
  have bU:Inv prog M w0 ((40,w.heap.size,.cells (row++(ROW.toList.drop 18).map .v))::σ) w':=by
   rw[g6]
   exact(Inv.box fY (cs:=ROW.toList) 37 (by rw[jt];simpa[← jt]using fH.append (RL.exact (ROW.toList.drop 18))) 40).eI
  exact done (Mem.le.refl _) bU (by simp[ft]) g1 g2 g5
 ·obtain rfl:=q1.pO
  have hA:(rows.flatten++rest).length=c * 18:=by rw[Z4,eu,jR,← YI];congr 1;omega
  have jL:Inv prog M w0 ((40,b,.cells (rows.flatten++rest))::σ) w:=hI.sub (show List.Sublist _ _ by simp)
  have fY:Inv prog M w0 σ w:=jL.sub (show List.Sublist _ _ by simp)
  obtain⟨N6,cj,SH,hh,sq⟩:=(jL.st _ ZD).2
  have aE:bv≠b:=fun e=>by
   have:=hI.nd
   simp[e]at this
  have bK:cj.size=c * 18:=by rw[← ZQ,← sq.1,hA]
  have c9:RL M rows.flatten (cj.toList.take (rows.length * 18)):=by
   have:=sq.take (rows.length * 18)
   rwa [Y5 eu]at this
  have cQ:(cj.toList.take (rows.length * 18)).length=rows.length * 18:=by rw[← c9.1,eu]
  have j9:∀ u∈cj.toList.take (rows.length * 18),u.oneCell'=true:=fun u hu=>Zz.1 (c9.iK (xd h1)) u hu
  have hD:=c9.drop (k * 18)
  have gj:(rows.flatten.drop (k * 18)).length=rows.length * 18-k * 18:=by rw[YQ,eu]
  have zJ:((cj.toList.take (rows.length * 18)).drop (k * 18)).length=rows.length * 18-k * 18:=by rw[YQ,cQ]
  have hT:=c9.take (k * 18)
  have hkK:k * 18≤rows.length * 18:=Y9 _ hk
  have uF:(rows.flatten.take (k * 18)).length=k * 18:=by rw[Zx,eu];omega
  rcases YU k rows.length with uW|uW
  ·have ku:(k+1) * 18=k * 18+18:=by omega
   rcases YU rows.length c with dL|dL
   ·refine(ac6 hh bK rfl j9 uW dL hm aE nX rfl fL jS).mono fun e w' ⟨g5,g6⟩=> ?_
    have bU:=(jL.eI.setCells (o:=(k+1) * 18) hD (by rw[zJ,hA];omega)).setCells (o:=k * 18) fH (by rw[A3 _ _ _ (by rw[gj,hA];omega),fL,hA];omega)
    rw[← g6]at bU
    refine done (Mem.le.refl _) bU ?_ dL hm g5
    rw[ku,Q7 ft (by rw[gj,hA];omega),Za (by simp only[Z4,Zx,hA,ft,gj];omega),Zq (by simp only[Z4,Zx,hA,ft,gj];omega),Za (by omega)]
   ·refine(ac0 hh bK rfl j9 uW (by omega) (by omega) hn nX rfl fL jS).mono fun e w' ⟨G,ROW,g1,g2,g3,g4,g5,g6⟩=> ?_
    have jt:ROW.toList=(cj.toList.take (rows.length * 18)).take (k * 18)++ROW.toList.drop (k * 18):=by rw[← g4,Y7]
    have qt:RL M (rows.flatten.take (k * 18)++(ROW.toList.drop (k * 18)).map .v) ROW.toList:=by
     have:=hT.append (RL.exact (M:=M) (ROW.toList.drop (k * 18)))
     rwa [← jt]at this
    have qu:(rows.flatten.take (k * 18)++(ROW.toList.drop (k * 18)).map AV.v).length=G * 18:=by rw[qt.1,ZQ,g3]
    have zL:(rows.length+1) * 18≤G * 18:=Y9 _ g1
    have bU:=(((Inv.box fY (cs:=ROW.toList) 37 qt 40).eI.setCells (o:=k * 18) fH (by rw[qu,fL];omega)).eI).setCells (o:=(k+1) * 18) hD (by rw[A3 _ _ _ (by rw[qu,ft];omega),qu,zJ];omega)
    rw[show(ROW.toList.toArray:Array Value)=ROW by simp,← g6]at bU
    refine done (Mem.le.refl _) bU ?_ g1 g2 g5
    generalize hX:rows.flatten.take (k * 18)++(ROW.toList.drop (k * 18)).map AV.v=X at qu ⊢
    have Hv:X.take (k * 18)=rows.flatten.take (k * 18):=by rw[← hX];exact Y5 uF
    unfold over
    rw[ku,Hv,ft,gj]
    have e1:(rows.flatten.take (k * 18)++row++X.drop (k * 18+18)).take (k * 18+18)=rows.flatten.take (k * 18)++row:=Y5 (by rw[Z4,uF,ft])
    rw[e1]
    exact Y5 (by simp only[Z4,uF,ft,gj];omega)
  ·obtain rfl:k=rows.length:=by omega
   have iS:rows.flatten.drop (rows.length * 18)=[]:=Xl (by omega)
   have qH:rows.flatten.take (rows.length * 18)=rows.flatten:=Zq (by omega)
   rcases YU rows.length c with dL|dL
   ·refine(ac4 (n:=rows.length) hh bK dL hm nX rfl fL jS).mono fun e w' ⟨g5,g6⟩=> ?_
    have bU:=jL.setCells (o:=rows.length * 18) fH (by rw[fL,hA];omega)
    rw[← g6]at bU
    refine done (Mem.le.refl _) bU ?_ dL hm g5
    unfold over
    rw[iS,qH,YP,Y5 eu]
    exact Y5 (by rw[Z4,eu,ft];omega)
   ·refine(Pw (w:=w) (n:=rows.length) (cap:=c) (base:=some ⟨b,0,none⟩) (xs:=cj.toList.take (rows.length * 18)) cQ (fun w' hw=>run_firstCells_some w' 18 rows.length ⟨b,0,none⟩ rows.length c _ cQ (fun j v hj=>by
     rw[Addr.add_lit,ZH]
     simp only[World.cell?,hw,hh]
     rw[Y4]at hj
     split at hj
     ·rw[Zj]at hj;exact hj
     ·cases hj)) (fun h=>by cases h) hc (by omega) hn nX rfl fL jS).mono fun e w' ⟨G,ROW,g1,g2,g3,g4,g5,g6⟩=> ?_
    have jt:ROW.toList=(cj.toList.take (rows.length * 18)++nN.toList)++ROW.toList.drop ((rows.length+1) * 18):=by rw[← g4,Y7]
    have qt:RL M ((rows.flatten++row)++(ROW.toList.drop ((rows.length+1) * 18)).map .v) ROW.toList:=by
     have:=(c9.append fH).append (RL.exact (M:=M) (ROW.toList.drop ((rows.length+1) * 18)))
     rwa [← jt]at this
    have bU:=(Inv.box fY (cs:=ROW.toList) 37 qt 40).eI
    rw[show(ROW.toList.toArray:Array Value)=ROW by simp,← g6]at bU
    refine done (Mem.le.refl _) bU ?_ g1 g2 g5
    rw[iS,qH,YP]
    exact Y5 (by rw[Z4,eu,ft];omega)
section
open Go.RowKit Go.Proofs Go.Shelf
theorem Xa{w:World}{ad:Addr}{n c:Nat}{news:List Value}(hlen:news.length=n * 4)(hc:∀ j u,news[j]? =some u→w.cell? (ad.add j)=some u)(h1:∀ u∈news,u.oneCell'=true)(hn:n≤100000):
  Calls prog 118 #[.slice (some ad) n c] w fun e w'=>∃ v',e= .returned v'∧w'.ownsRow w.heap.size 45 4 v' n news∧v'≠.slice none 0 0∧Below w.heap.size w w':=by
 obtain⟨i0,hi,dR,jT,gy⟩:=info_parts AG
 have tz:∀ (w:World) (a:Option Addr) (n c n' c':Nat),(binOp .eql 22 (.slice a n c) (.slice none n' c')).run prog w= .ok (.bool a.isNone) w:=fun w a n c n' c'=>Lib.run_eql_slice_nil w _ _ a n c n' c' underlying22
 go_enter func118,ntmps118
 go_wp2_with (at_builtin;refine wpList_append_own _ rfl _ _ 22 rfl w.heap.size 45 i0 zB 4 64 underlying22 hi dR jT gy Lf (by decide) _ _ _ rfl (World.ownsRow_made w #[] 0 (ZX _) (ZM _) rfl) ad n c news rfl hlen ?qc2 h1 ?qc4 ?qc5 ?qc6 ?_)
 case qc2=>
  intro j u hj
  exact Lib.cell?_alloc_some _ (hc j u hj)
 case qc4=>unfold maxLen;omega
 case qc5=>omega
 case qc6=>simp
 intro v' w1 dt Aa iq
 go_wp2
 go_ret
 refine⟨v',rfl,by simpa using dt,?_,?_⟩
 ·first|exact iq|fail
 ·exact((Below.refl _ w).alloc (ZX _) _).grown Aa (by simp) (by intro k hk;simp[Value.ownBlock]at hk;omega)
theorem WZ(n c:Nat)(w:World):Calls prog 118 #[.slice none n c] w fun e w'=>e= .returned (.slice none 0 0)∧w'=w:=by
 have tz:∀ (w:World) (a:Option Addr) (n c n' c':Nat),(binOp .eql 22 (.slice a n c) (.slice none n' c')).run prog w= .ok (.bool a.isNone) w:=fun w a n c n' c'=>Lib.run_eql_slice_nil w _ _ a n c n' c' underlying22
 go_enter func118,ntmps118
 go_wp2
 go_ret
 exact⟨rfl,rfl⟩
end
open Go.Sx Go.Proofs Go.RowKit
theorem WY(rows:List (List AV))(hK:∀ r∈rows,r.length=4)(h1:∀ r∈rows,r.all AV.one=true)(hn:rows.length≤100000)(σ:Store):Sx.Spec prog 118 [.sl false 4 rows] σ fun r σ'=>∃ x τ,r= .ret x∧σ'=τ++σ∧nF 4 rows x τ:=by
 intro M w0 w cs hI hR
 obtain⟨v,rfl,hv⟩:=RL.cJ hR
 have key:∀ (ad:Addr) (c:Nat) (L:List Value),RL M rows.flatten L→(∀ j u,L[j]? =some u→w.cell? (ad.add j)=some u)→v= .slice (some ad) rows.length c→
   Calls prog 118 #[v] w fun e w'=>∃ M' r σ',M.le M'∧Inv prog M' w0 σ' w'∧iH M' r e∧∃ x τ,r= .ret x∧σ'=τ++σ∧nF 4 rows x τ:=fun ad c L hL hc hv=>by
  subst hv
  refine(Xa (w:=w) (ad:=ad) (n:=rows.length) (c:=c) (news:=L) (by rw[← hL.1,xc hK]) hc (fun u hu=>Zz.1 (hL.iK (xd h1)) u hu) hn).mono fun e w' ⟨v',he,dt,An,hb⟩=> ?_
  obtain⟨g1,g2⟩:=dt
  rcases g2 with⟨iq,_⟩|⟨g,cap,cur,rfl,pk,hh,hc,hm,hs,ht⟩
  ·exact absurd iq An
  ·have jt:cur.toList=L++cur.toList.drop (rows.length * 4):=by rw[← ht,Y7]
   refine⟨M,.ret (.ms 40 g 0 rows.length cap),_,Mem.le.refl _,Px (lab:=40) hI hb pk hh (by rw[jt];exact hL.append (RL.exact _)),by subst he;exact .ms _ _ _ _ _,_,[_],rfl,rfl,.inr ⟨g,cap,_,rfl,rfl,hc,hm,?_⟩⟩
   rw[ZW,YQ,ZQ,hs,Nat.sub_mul]
 rcases hv.nj with⟨a,_,rfl,rfl⟩|⟨b,off,cap,f,rfl,hr,hc,hm⟩
 ·cases a with
  |none=>exact(WZ 0 0 w).mono fun e w' ⟨h1,h2⟩=>⟨M,.ret (.v (.slice none 0 0)),σ,Mem.le.refl _,by rw[h2];exact hI,by subst h1;exact .v _,_,[],rfl,rfl,.inl ⟨rfl,rfl,rfl⟩⟩
  |some ad=>exact key ad 0 [] RL.nil (fun j u h=>by simp at h) rfl
 ·refine key ⟨b,off,none⟩ cap _ hr.flat (fun j u hj=> ?_) rfl
  have ik:j<rows.length * 4:=by have:=(ZE.1 hj).1;simpa using this
  rw[Addr.add_lit,hI.bL _ _ _ (hr.mem j ik)]
  simpa[ik]using hj
theorem ac1{rows:List (List AV)}{row:List AV}{x:AV}{τ σ:Store}{k tv bv:Nat}(hx:nF 4 rows x τ)(hK:∀ r∈rows,r.length=4)(h1:∀ r∈rows,r.all AV.one=true)(ft:row.length=4)(ey:row.all AV.one=true)(hk:k≤rows.length)(hn:rows.length≤100000):
  Sx.Spec prog 117 [x,.v (.int .i64 (k:Int)),.ms tv bv 0 1 1] ((tv,bv,.cells row)::(τ++σ)) fun r σ'=>r= .ret (.sl true 4 (rows.take k++row::rows.drop k))∧σ'=σ:=by
 intro M w0 w cs hI hR
 obtain⟨v1,cq,rfl,q1,bY⟩:=hR.aX
 obtain⟨v2,oP,rfl,q2,dM⟩:=bY.aX
 obtain⟨v3,rfl,q3⟩:=RL.cJ dM
 obtain rfl:=q2.ay
 obtain rfl:=q3.pO
 obtain⟨hMv,nN,tyv,nX,fH⟩:=(hI.st _ ZD).2
 have fL:nN.toList.length=4:=by rw[← fH.1,ft]
 have jS:∀ u∈nN.toList,u.oneCell'=true:=fun u hu=>Zz.1 (fH.iK ey) u hu
 have Am:∀ i (h:i<(rows.take k++row::rows.drop k).length),(rows.take k++row::rows.drop k)[i].length=4:=fun i h=>by
  have hm:(rows.take k++row::rows.drop k)[i]∈rows.take k++row::rows.drop k:=Zf h
  rw[Zy,ZK]at hm
  rcases hm with hm|hm|hm
  ·exact hK _ (YS hm)
  ·rw[hm];exact ft
  ·exact hK _ (YE hm)
 have gJ:(rows.take k++row::rows.drop k).length=rows.length+1:=by simp;omega
 have Ik:(rows.take k++row::rows.drop k).flatten=rows.flatten.take (k * 4)++row++rows.flatten.drop (k * 4):=by rw[List.flatten_append,X1,CF k hK,CC k hK,Zb]
 have eu:=xc hK
 have done:∀ {M':Mem} {w':World} {g G:Nat} {L:List AV} {lab:Nat} {e:Ending},M.le M'→Inv prog M' w0 ((lab,g,.cells L)::σ) w'→L.take ((rows.length+1) * 4)=rows.flatten.take (k * 4)++row++rows.flatten.drop (k * 4)→rows.length+1≤G→G≤maxLen→e= .returned (.slice (some ⟨g,0,none⟩) (rows.length+1) G)→
   ∃ M' r σ',M.le M'∧Inv prog M' w0 σ' w'∧iH M' r e∧r= .ret (.sl true 4 (rows.take k++row::rows.drop k))∧σ'=σ:=fun {M' w' g G L lab e} hM bp hL hG xi he=>by
  obtain⟨M2,a1,a2,a3⟩:=CJ (rows:=rows.take k++row::rows.drop k) bp Am (by rw[gJ,Ik];exact hL) (by rw[gJ];exact hG) xi
  refine⟨M2,_,σ,hM.trans a1,a2,?_,rfl,rfl⟩
  subst he
  rw[gJ]at a3
  exact a3
 rcases hx with⟨rfl,rfl,rfl⟩|⟨b,c,rest,rfl,rfl,hc,hm,jR⟩
 ·obtain rfl:=q1.ay
  obtain rfl:k=0:=by simpa using hk
  have fY:Inv prog M w0 σ w:=hI.sub (show List.Sublist _ _ by simp)
  refine(Pv (w:=w) (n:=0) (cap:=0) (base:=none) (xs:=[]) rfl (fun _ _=>rfl) (fun _=>⟨rfl,rfl⟩) (ZX _) (by omega) (by omega) nX rfl fL jS).mono fun e w' ⟨G,ROW,g1,g2,g3,g4,g5,g6⟩=> ?_
  have jt:ROW.toList=nN.toList++ROW.toList.drop 4:=by
   have:=Y7 4 ROW.toList
   rw[show ROW.toList.take 4=nN.toList by simpa using g4]at this
   exact this.symm
  have bU:Inv prog M w0 ((40,w.heap.size,.cells (row++(ROW.toList.drop 4).map .v))::σ) w':=by
   rw[g6]
   exact(Inv.box fY (cs:=ROW.toList) 45 (by rw[jt];simpa[← jt]using fH.append (RL.exact (ROW.toList.drop 4))) 40).eI
  exact done (Mem.le.refl _) bU (by simp[ft]) g1 g2 g5
 ·obtain rfl:=q1.pO
  have hA:(rows.flatten++rest).length=c * 4:=by rw[Z4,eu,jR,← YI];congr 1;omega
  have jL:Inv prog M w0 ((40,b,.cells (rows.flatten++rest))::σ) w:=hI.sub (show List.Sublist _ _ by simp)
  have fY:Inv prog M w0 σ w:=jL.sub (show List.Sublist _ _ by simp)
  obtain⟨N6,cj,SH,hh,sq⟩:=(jL.st _ ZD).2
  have aE:bv≠b:=fun e=>by
   have:=hI.nd
   simp[e]at this
  have bK:cj.size=c * 4:=by rw[← ZQ,← sq.1,hA]
  have c9:RL M rows.flatten (cj.toList.take (rows.length * 4)):=by
   have:=sq.take (rows.length * 4)
   rwa [Y5 eu]at this
  have cQ:(cj.toList.take (rows.length * 4)).length=rows.length * 4:=by rw[← c9.1,eu]
  have j9:∀ u∈cj.toList.take (rows.length * 4),u.oneCell'=true:=fun u hu=>Zz.1 (c9.iK (xd h1)) u hu
  have hD:=c9.drop (k * 4)
  have gj:(rows.flatten.drop (k * 4)).length=rows.length * 4-k * 4:=by rw[YQ,eu]
  have zJ:((cj.toList.take (rows.length * 4)).drop (k * 4)).length=rows.length * 4-k * 4:=by rw[YQ,cQ]
  have hT:=c9.take (k * 4)
  have hkK:k * 4≤rows.length * 4:=Y9 _ hk
  have uF:(rows.flatten.take (k * 4)).length=k * 4:=by rw[Zx,eu];omega
  rcases YU k rows.length with uW|uW
  ·have ku:(k+1) * 4=k * 4+4:=by omega
   rcases YU rows.length c with dL|dL
   ·refine(ac5 hh bK rfl j9 uW dL hm aE nX rfl fL jS).mono fun e w' ⟨g5,g6⟩=> ?_
    have bU:=(jL.eI.setCells (o:=(k+1) * 4) hD (by rw[zJ,hA];omega)).setCells (o:=k * 4) fH (by rw[A3 _ _ _ (by rw[gj,hA];omega),fL,hA];omega)
    rw[← g6]at bU
    refine done (Mem.le.refl _) bU ?_ dL hm g5
    rw[ku,Q7 ft (by rw[gj,hA];omega),Za (by simp only[Z4,Zx,hA,ft,gj];omega),Zq (by simp only[Z4,Zx,hA,ft,gj];omega),Za (by omega)]
   ·refine(acZ hh bK rfl j9 uW (by omega) (by omega) hn nX rfl fL jS).mono fun e w' ⟨G,ROW,g1,g2,g3,g4,g5,g6⟩=> ?_
    have jt:ROW.toList=(cj.toList.take (rows.length * 4)).take (k * 4)++ROW.toList.drop (k * 4):=by rw[← g4,Y7]
    have qt:RL M (rows.flatten.take (k * 4)++(ROW.toList.drop (k * 4)).map .v) ROW.toList:=by
     have:=hT.append (RL.exact (M:=M) (ROW.toList.drop (k * 4)))
     rwa [← jt]at this
    have qu:(rows.flatten.take (k * 4)++(ROW.toList.drop (k * 4)).map AV.v).length=G * 4:=by rw[qt.1,ZQ,g3]
    have zL:(rows.length+1) * 4≤G * 4:=Y9 _ g1
    have bU:=(((Inv.box fY (cs:=ROW.toList) 45 qt 40).eI.setCells (o:=k * 4) fH (by rw[qu,fL];omega)).eI).setCells (o:=(k+1) * 4) hD (by rw[A3 _ _ _ (by rw[qu,ft];omega),qu,zJ];omega)
    rw[show(ROW.toList.toArray:Array Value)=ROW by simp,← g6]at bU
    refine done (Mem.le.refl _) bU ?_ g1 g2 g5
    generalize hX:rows.flatten.take (k * 4)++(ROW.toList.drop (k * 4)).map AV.v=X at qu ⊢
    have Hv:X.take (k * 4)=rows.flatten.take (k * 4):=by rw[← hX];exact Y5 uF
    unfold over
    rw[ku,Hv,ft,gj]
    have e1:(rows.flatten.take (k * 4)++row++X.drop (k * 4+4)).take (k * 4+4)=rows.flatten.take (k * 4)++row:=Y5 (by rw[Z4,uF,ft])
    rw[e1]
    exact Y5 (by simp only[Z4,uF,ft,gj];omega)
  ·obtain rfl:k=rows.length:=by omega
   have iS:rows.flatten.drop (rows.length * 4)=[]:=Xl (by omega)
   have qH:rows.flatten.take (rows.length * 4)=rows.flatten:=Zq (by omega)
   rcases YU rows.length c with dL|dL
   ·refine(ac3 (n:=rows.length) hh bK dL hm nX rfl fL jS).mono fun e w' ⟨g5,g6⟩=> ?_
    have bU:=jL.setCells (o:=rows.length * 4) fH (by rw[fL,hA];omega)
    rw[← g6]at bU
    refine done (Mem.le.refl _) bU ?_ dL hm g5
    unfold over
    rw[iS,qH,YP,Y5 eu]
    exact Y5 (by rw[Z4,eu,ft];omega)
   ·refine(Pv (w:=w) (n:=rows.length) (cap:=c) (base:=some ⟨b,0,none⟩) (xs:=cj.toList.take (rows.length * 4)) cQ (fun w' hw=>run_firstCells_some w' 4 rows.length ⟨b,0,none⟩ rows.length c _ cQ (fun j v hj=>by
     rw[Addr.add_lit,ZH]
     simp only[World.cell?,hw,hh]
     rw[Y4]at hj
     split at hj
     ·rw[Zj]at hj;exact hj
     ·cases hj)) (fun h=>by cases h) hc (by omega) hn nX rfl fL jS).mono fun e w' ⟨G,ROW,g1,g2,g3,g4,g5,g6⟩=> ?_
    have jt:ROW.toList=(cj.toList.take (rows.length * 4)++nN.toList)++ROW.toList.drop ((rows.length+1) * 4):=by rw[← g4,Y7]
    have qt:RL M ((rows.flatten++row)++(ROW.toList.drop ((rows.length+1) * 4)).map .v) ROW.toList:=by
     have:=(c9.append fH).append (RL.exact (M:=M) (ROW.toList.drop ((rows.length+1) * 4)))
     rwa [← jt]at this
    have bU:=(Inv.box fY (cs:=ROW.toList) 45 qt 40).eI
    rw[show(ROW.toList.toArray:Array Value)=ROW by simp,← g6]at bU
    refine done (Mem.le.refl _) bU ?_ g1 g2 g5
    rw[iS,qH,YP]
    exact Y5 (by rw[Z4,eu,ft];omega)
end Go.Proofs.YthdeaajdmdmfnaaGreatDoor
