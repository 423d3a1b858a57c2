/- Changes: rows written into a block of one's own, then laid for good: in the layer's words, at any size of an element. -/
import Derived.Test.YtajimcniogfpcaaGreatDoorAb
import Derived.Test.YtajimcniogfpcaaGreatDoorGa
import Derived.Test.YtajimcniogfpcaaGreatDoorAd
import Derived.Test.YtajimcniogfpcaaGreatDoorSxE
import Derived.Below
import Derived.Laws.AppendOwn
set_option linter.unusedSimpArgs false
set_option linter.unusedVariables false
namespace Go.Sx
open Go.RowKit
theorem TE{α:Type}{A row D:List α}{a K:Nat}(hr:row.length=K)(ha:a+K+D.length≤A.length):over (over A (a+K) D) a row=A.take a++row++D++A.drop (a+K+D.length):=by
 unfold over
 have h1:(A.take (a+K)).length=a+K:=by rw[ZQ];omega
 rw[Zt (A.take (a+K)),Y1 (by omega),List.take_take,X0 (by omega),hr,List.drop_append,Xv (by omega),h1,Nat.sub_self,List.drop_zero,Zl,Zt,Zt,Zt]
section
variable {P:Program}[Glob P]{M:Mem}{w0:Base}{w w':World}{σ:Store}
theorem RP{g lab:Nat}{cur:Array Value}{ty:TypeId}{l:List AV}(hI:Inv P M w0 σ w)(hb:Below w.heap.size w w')(hg:w.heap.size≤g)(hh:w'.heap[g]? =some (.cells cur ty (0,0)))(hl:RL M l cur.toList):Inv P M w0 ((lab,g,.cells l)::σ) w':=by
 have h1:=hI.after hb
 have Kf:∀ o,M g o=none:=fun o=>by
  cases h:M g o with
  |none=>rfl
  |some v=>
   have:=World.block_lt_of_cell? _ _ (hI.cH g o v h)
   simp at this;omega
 refine⟨h1.os,h1.tape,h1.output,h1.size,h1.old,h1.cH,fun e he=> ?_,?_,h1.gl,h1.gw,h1.bm⟩
 ·rcases ZT.1 he with rfl|he
  ·exact⟨ZG hI.size hg,Kf,cur,ty,hh,hl⟩
  ·exact h1.st e he
 ·simp only[ZE,YV]
  refine⟨fun h=> ?_,h1.nd⟩
  obtain⟨e,he,heq⟩:=Y9.1 h
  have:=hI.sq he
  omega
theorem Ev{t b K c:Nat}{L:List AV}{rows:List (List AV)}(hI:Inv P M w0 ((t,b,.cells L)::σ) w)(hK:∀ i (h:i<rows.length),rows[i].length=K)(hL:L.take (rows.length * K)=rows.flatten)(hc:rows.length≤c)(hm:c≤maxLen):
  ∃ M',M.le M'∧Inv P M' w0 σ w∧R M' (.sl true K rows) (.slice (some ⟨b,0,none⟩) rows.length c):=by
 obtain⟨M',vs,h1,h2,h3,h4⟩:=hI.freeze
 have hf:=nJ rows hK
 have hv:RL M' rows.flatten (vs.take (rows.length * K)):=by rw[← hL];exact h3.take _
 have hr:=Rows.of_flat (M:=M') (b:=b) (off:=0) hK hv (fun k v hk=>by
  rw[YU]at hk
  split at hk
  ·obtain⟨ar,rfl⟩:=ZK.1 hk
   rw[ZA];exact h4 k ar
  ·cases hk)
 exact⟨M',h1,h2,.sl true K rows b 0 c _ hr.size hr.mem hr.rel hc hm⟩
theorem Inv.bV{l:List Value}:RL M (l.map .v) l:=RL.exact l
end
theorem Ep{K:Nat}:∀ {rows:List (List AV)} (k:Nat),(∀ r∈rows,r.length=K)→(rows.take k).flatten=rows.flatten.take (k * K)
 |[],k,_=>by simp
 |r::rows,0,_=>by simp
 |r::rows,k+1,h=>by
  have hr:=h r ZC
  rw[XD,Yz,Yz,Ep k (fun x hx=>h x (ZO _ hx)),show(k+1) * K=r.length+k * K by rw[hr,XI];omega,List.take_length_add_append]
theorem Eo{K:Nat}:∀ {rows:List (List AV)} (k:Nat),(∀ r∈rows,r.length=K)→(rows.drop k).flatten=rows.flatten.drop (k * K)
 |[],k,_=>by simp
 |r::rows,0,_=>by simp
 |r::rows,k+1,h=>by
  have hr:=h r ZC
  rw[List.drop_succ_cons,Yz,Eo k (fun x hx=>h x (ZO _ hx)),show(k+1) * K=r.length+k * K by rw[hr,XI];omega,List.drop_length_add_append]
theorem zm{K:Nat}:∀ {rows:List (List AV)},(∀ r∈rows,r.length=K)→rows.flatten.length=rows.length * K
 |[],_=>by simp
 |r::rows,h=>by rw[Yz,Z9,h r ZC,zm fun x hx=>h x (ZO _ hx),Z8,YI];omega
theorem zn:∀ {rows:List (List AV)},(∀ r∈rows,r.all AV.one=true)→rows.flatten.all AV.one=true
 |[],_=>rfl
 |r::rows,h=>by rw[Yz,List.all_append,h r ZC,zn fun x hx=>h x (ZO _ hx)];rfl
def oG(K:Nat)(rows:List (List AV))(x:AV)(τ:Store):Prop:=(rows=[]∧x= .v (.slice none 0 0)∧τ=[])∨∃ b c rest,x= .ms 40 b 0 rows.length c∧τ=[(40,b,.cells (rows.flatten++rest))]∧rows.length≤c∧c≤maxLen∧rest.length=(c-rows.length) * K
end Go.Sx
set_option maxRecDepth 100000
set_option maxHeartbeats 4000000
namespace Go.Proofs.YtajimcniogfpcaaGreatDoor
open _root_.Go.Proofs.Tryz
section
open Go.RowKit Go.Proofs Go.Shelf
theorem acx{w:World}{ad:Addr}{n c:Nat}{news:List Value}(hlen:news.length=n * 18)(hc:∀ j u,news[j]? =some u→w.cell? (ad.add j)=some u)(h1:∀ u∈news,u.oneCell'=true)(hn:n≤100000):
  Calls prog 161 #[.slice (some ad) n c] w fun e w'=>∃ v',e= .returned v'∧w'.ownsRow w.heap.size 40 18 v' n news∧v'≠.slice none 0 0∧Below w.heap.size w w':=by
 obtain⟨i0,hi,ep,fy,fz⟩:=info_parts xz
 have vy:∀ (w:World) (a:Option Addr) (n c n' c':Nat),(binOp .eql 23 (.slice a n c) (.slice none n' c')).run prog w= .ok (.bool a.isNone) w:=fun w a n c n' c'=>Lib.run_eql_slice_nil w _ _ a n c n' c' underlying23
 go_enter func161,ntmps161
 go_wp2_with (at_builtin;refine wpList_append_own _ rfl _ _ 23 rfl w.heap.size 40 i0 zF 18 248 underlying23 hi ep fy fz yz (by decide) _ _ _ rfl (World.ownsRow_made w #[] 0 (ZM _) (ZL _) rfl) ad n c news rfl hlen ?qc2 h1 ?qc4 ?qc5 ?qc6 ?_)
 case qc2=>
  intro j u hj
  exact Lib.cell?_alloc_some _ (hc j u hj)
 case qc4=>unfold maxLen;omega
 case qc5=>omega
 case qc6=>simp
 intro v' w1 dY Ch jj
 go_wp2
 go_ret
 refine⟨v',rfl,by simpa using dY,?_,?_⟩
 ·first|exact jj|fail
 ·exact((Below.refl _ w).alloc (ZM _) _).grown Ch (by simp) (by intro k hk;simp[Value.ownBlock]at hk;omega)
theorem acv(n c:Nat)(w:World):Calls prog 161 #[.slice none n c] w fun e w'=>e= .returned (.slice none 0 0)∧w'=w:=by
 have vy:∀ (w:World) (a:Option Addr) (n c n' c':Nat),(binOp .eql 23 (.slice a n c) (.slice none n' c')).run prog w= .ok (.bool a.isNone) w:=fun w a n c n' c'=>Lib.run_eql_slice_nil w _ _ a n c n' c' underlying23
 go_enter func161,ntmps161
 go_wp2
 go_ret
 exact⟨rfl,rfl⟩
end
open Go.Sx Go.Proofs Go.RowKit
theorem Oq(rows:List (List AV))(hK:∀ r∈rows,r.length=18)(h1:∀ r∈rows,r.all AV.one=true)(hn:rows.length≤100000)(σ:Store):Sx.Spec prog 161 [.sl false 18 rows] σ fun r σ'=>∃ x τ,r= .ret x∧σ'=τ++σ∧oG 18 rows x τ:=by
 intro M w0 w cs hI hR
 obtain⟨v,rfl,hv⟩:=RL.cT hR
 have key:∀ (ad:Addr) (c:Nat) (L:List Value),RL M rows.flatten L→(∀ j u,L[j]? =some u→w.cell? (ad.add j)=some u)→v= .slice (some ad) rows.length c→
   Calls prog 161 #[v] w fun e w'=>∃ M' r σ',M.le M'∧Inv prog M' w0 σ' w'∧kq M' r e∧∃ x τ,r= .ret x∧σ'=τ++σ∧oG 18 rows x τ:=fun ad c L hL hc hv=>by
  subst hv
  refine(acx (w:=w) (ad:=ad) (n:=rows.length) (c:=c) (news:=L) (by rw[← hL.1,zm hK]) hc (fun u hu=>ZB.1 (hL.oL (zn h1)) u hu) hn).mono fun e w' ⟨v',he,dY,Ct,hb⟩=> ?_
  obtain⟨g1,g2⟩:=dY
  rcases g2 with⟨jj,_⟩|⟨g,cap,cur,rfl,qj,hh,hc,hm,hs,ht⟩
  ·exact absurd jj Ct
  ·have jZ:cur.toList=L++cur.toList.drop (rows.length * 18):=by rw[← ht,Zh]
   refine⟨M,.ret (.ms 40 g 0 rows.length cap),_,Mem.le.refl _,RP (lab:=40) hI hb qj hh (by rw[jZ];exact hL.append (RL.exact _)),by subst he;exact .ms _ _ _ _ _,_,[_],rfl,rfl,.inr ⟨g,cap,_,rfl,rfl,hc,hm,?_⟩⟩
   rw[Z4,YN,Zv,hs,Nat.sub_mul]
 rcases hv.om with⟨a,_,rfl,rfl⟩|⟨b,off,cap,f,rfl,hr,hc,hm⟩
 ·cases a with
  |none=>exact(acv 0 0 w).mono fun e w' ⟨h1,h2⟩=>⟨M,.ret (.v (.slice none 0 0)),σ,Mem.le.refl _,by rw[h2];exact hI,by subst h1;exact .v _,_,[],rfl,rfl,.inl ⟨rfl,rfl,rfl⟩⟩
  |some ad=>exact key ad 0 [] RL.nil (fun j u h=>by simp at h) rfl
 ·refine key ⟨b,off,none⟩ cap _ hr.flat (fun j u hj=> ?_) rfl
  have iU:j<rows.length * 18:=by have:=(ZK.1 hj).1;simpa using this
  rw[Addr.add_lit,hI.cH _ _ _ (hr.mem j iU)]
  simpa[iU]using hj
theorem afs{rows:List (List AV)}{row:List AV}{x:AV}{τ σ:Store}{k tv bv:Nat}(hx:oG 18 rows x τ)(hK:∀ r∈rows,r.length=18)(h1:∀ r∈rows,r.all AV.one=true)(gr:row.length=18)(eZ:row.all AV.one=true)(hk:k≤rows.length)(hn:rows.length≤100000):
  Sx.Spec prog 160 [x,.v (.int .i64 (k:Int)),.ms tv bv 0 1 1] ((tv,bv,.cells row)::(τ++σ)) fun r σ'=>r= .ret (.sl true 18 (rows.take k++row::rows.drop k))∧σ'=σ:=by
 intro M w0 w cs hI hR
 obtain⟨v1,cP,rfl,q1,cJ⟩:=hR.bg
 obtain⟨v2,qX,rfl,q2,eA⟩:=cJ.bg
 obtain⟨v3,rfl,q3⟩:=RL.cT eA
 obtain rfl:=q2.ay
 obtain rfl:=q3.qG
 obtain⟨hMv,oQ,tyv,o8,gF⟩:=(hI.st _ ZC).2
 have gu:oQ.toList.length=18:=by rw[← gF.1,gr]
 have j1:∀ u∈oQ.toList,u.oneCell'=true:=fun u hu=>ZB.1 (gF.oL eZ) u hu
 have Cr:∀ i (h:i<(rows.take k++row::rows.drop k).length),(rows.take k++row::rows.drop k)[i].length=18:=fun i h=>by
  have hm:(rows.take k++row::rows.drop k)[i]∈rows.take k++row::rows.drop k:=Zc h
  rw[ZJ,ZT]at hm
  rcases hm with hm|hm|hm
  ·exact hK _ (Yh hm)
  ·rw[hm];exact gr
  ·exact hK _ (Yx hm)
 have iI:(rows.take k++row::rows.drop k).length=rows.length+1:=by simp;omega
 have Kd:(rows.take k++row::rows.drop k).flatten=rows.flatten.take (k * 18)++row++rows.flatten.drop (k * 18):=by rw[List.flatten_append,Yz,Ep k hK,Eo k hK,Zt]
 have eY:=zm hK
 have done:∀ {M':Mem} {w':World} {g G:Nat} {L:List AV} {lab:Nat} {e:Ending},M.le M'→Inv prog M' w0 ((lab,g,.cells L)::σ) w'→L.take ((rows.length+1) * 18)=rows.flatten.take (k * 18)++row++rows.flatten.drop (k * 18)→rows.length+1≤G→G≤maxLen→e= .returned (.slice (some ⟨g,0,none⟩) (rows.length+1) G)→
   ∃ M' r σ',M.le M'∧Inv prog M' w0 σ' w'∧kq M' r e∧r= .ret (.sl true 18 (rows.take k++row::rows.drop k))∧σ'=σ:=fun {M' w' g G L lab e} hM bw hL hG zt he=>by
  obtain⟨M2,a1,a2,a3⟩:=Ev (rows:=rows.take k++row::rows.drop k) bw Cr (by rw[iI,Kd];exact hL) (by rw[iI];exact hG) zt
  refine⟨M2,_,σ,hM.trans a1,a2,?_,rfl,rfl⟩
  subst he
  rw[iI]at a3
  exact a3
 rcases hx with⟨rfl,rfl,rfl⟩|⟨b,c,rest,rfl,rfl,hc,hm,kK⟩
 ·obtain rfl:=q1.ay
  obtain rfl:k=0:=by simpa using hk
  have ji:Inv prog M w0 σ w:=hI.sub (show List.Sublist _ _ by simp)
  refine(RH (w:=w) (n:=0) (cap:=0) (base:=none) (xs:=[]) rfl (fun _ _=>rfl) (fun _=>⟨rfl,rfl⟩) (ZM _) (by omega) (by omega) o8 rfl gu j1).mono fun e w' ⟨G,ROW,g1,g2,g3,g4,g5,g6⟩=> ?_
  have jZ:ROW.toList=oQ.toList++ROW.toList.drop 18:=by
   have:=Zh 18 ROW.toList
   rw[show ROW.toList.take 18=oQ.toList by simpa using g4]at this
   exact this.symm
  have cB:Inv prog M w0 ((40,w.heap.size,.cells (row++(ROW.toList.drop 18).map .v))::σ) w':=by
   rw[g6]
   exact(Inv.box ji (cs:=ROW.toList) 40 (by rw[jZ];simpa[← jZ]using gF.append (RL.exact (ROW.toList.drop 18))) 40).fG
  exact done (Mem.le.refl _) cB (by simp[gr]) g1 g2 g5
 ·obtain rfl:=q1.qG
  have hA:(rows.flatten++rest).length=c * 18:=by rw[Z9,eY,kK,← YI];congr 1;omega
  have lQ:Inv prog M w0 ((40,b,.cells (rows.flatten++rest))::σ) w:=hI.sub (show List.Sublist _ _ by simp)
  have ji:Inv prog M w0 σ w:=lQ.sub (show List.Sublist _ _ by simp)
  obtain⟨Qk,cI,Vs,hh,ux⟩:=(lQ.st _ ZC).2
  have aH:bv≠b:=fun e=>by
   have:=hI.nd
   simp[e]at this
  have cC:cI.size=c * 18:=by rw[← Zv,← ux.1,hA]
  have dA:RL M rows.flatten (cI.toList.take (rows.length * 18)):=by
   have:=ux.take (rows.length * 18)
   rwa [YW eY]at this
  have dp:(cI.toList.take (rows.length * 18)).length=rows.length * 18:=by rw[← dA.1,eY]
  have la:∀ u∈cI.toList.take (rows.length * 18),u.oneCell'=true:=fun u hu=>ZB.1 (dA.oL (zn h1)) u hu
  have hD:=dA.drop (k * 18)
  have il:(rows.flatten.drop (k * 18)).length=rows.length * 18-k * 18:=by rw[YN,eY]
  have BO:((cI.toList.take (rows.length * 18)).drop (k * 18)).length=rows.length * 18-k * 18:=by rw[YN,dp]
  have hT:=dA.take (k * 18)
  have hkK:k * 18≤rows.length * 18:=Y0 _ hk
  have uA:(rows.flatten.take (k * 18)).length=k * 18:=by rw[ZQ,eY];omega
  rcases YO k rows.length with xh|xh
  ·have lU:(k+1) * 18=k * 18+18:=by omega
   rcases YO rows.length c with dU|dU
   ·refine(afw hh cC rfl la xh dU hm aH o8 rfl gu j1).mono fun e w' ⟨g5,g6⟩=> ?_
    have cB:=(lQ.fG.setCells (o:=(k+1) * 18) hD (by rw[BO,hA];omega)).setCells (o:=k * 18) gF (by rw[CW _ _ _ (by rw[il,hA];omega),gu,hA];omega)
    rw[← g6]at cB
    refine done (Mem.le.refl _) cB ?_ dU hm g5
    rw[lU,TE gr (by rw[il,hA];omega),Y1 (by simp only[Z9,ZQ,hA,gr,il];omega),Zq (by simp only[Z9,ZQ,hA,gr,il];omega),Y1 (by omega)]
   ·refine(afq hh cC rfl la xh (by omega) (by omega) hn o8 rfl gu j1).mono fun e w' ⟨G,ROW,g1,g2,g3,g4,g5,g6⟩=> ?_
    have jZ:ROW.toList=(cI.toList.take (rows.length * 18)).take (k * 18)++ROW.toList.drop (k * 18):=by rw[← g4,Zh]
    have rJ:RL M (rows.flatten.take (k * 18)++(ROW.toList.drop (k * 18)).map .v) ROW.toList:=by
     have:=hT.append (RL.exact (M:=M) (ROW.toList.drop (k * 18)))
     rwa [← jZ]at this
    have rK:(rows.flatten.take (k * 18)++(ROW.toList.drop (k * 18)).map AV.v).length=G * 18:=by rw[rJ.1,Zv,g3]
    have BR:(rows.length+1) * 18≤G * 18:=Y0 _ g1
    have cB:=(((Inv.box ji (cs:=ROW.toList) 40 rJ 40).fG.setCells (o:=k * 18) gF (by rw[rK,gu];omega)).fG).setCells (o:=(k+1) * 18) hD (by rw[CW _ _ _ (by rw[rK,gr];omega),rK,BO];omega)
    rw[show(ROW.toList.toArray:Array Value)=ROW by simp,← g6]at cB
    refine done (Mem.le.refl _) cB ?_ g1 g2 g5
    generalize hX:rows.flatten.take (k * 18)++(ROW.toList.drop (k * 18)).map AV.v=X at rK ⊢
    have JP:X.take (k * 18)=rows.flatten.take (k * 18):=by rw[← hX];exact YW uA
    unfold over
    rw[lU,JP,gr,il]
    have e1:(rows.flatten.take (k * 18)++row++X.drop (k * 18+18)).take (k * 18+18)=rows.flatten.take (k * 18)++row:=YW (by rw[Z9,uA,gr])
    rw[e1]
    exact YW (by simp only[Z9,uA,gr,il];omega)
  ·obtain rfl:k=rows.length:=by omega
   have jz:rows.flatten.drop (rows.length * 18)=[]:=Xv (by omega)
   have rZ:rows.flatten.take (rows.length * 18)=rows.flatten:=Zq (by omega)
   rcases YO rows.length c with dU|dU
   ·refine(afu (n:=rows.length) hh cC dU hm o8 rfl gu j1).mono fun e w' ⟨g5,g6⟩=> ?_
    have cB:=lQ.setCells (o:=rows.length * 18) gF (by rw[gu,hA];omega)
    rw[← g6]at cB
    refine done (Mem.le.refl _) cB ?_ dU hm g5
    unfold over
    rw[jz,rZ,YX,YW eY]
    exact YW (by rw[Z9,eY,gr];omega)
   ·refine(RH (w:=w) (n:=rows.length) (cap:=c) (base:=some ⟨b,0,none⟩) (xs:=cI.toList.take (rows.length * 18)) dp (fun w' hw=>run_firstCells_some w' 18 rows.length ⟨b,0,none⟩ rows.length c _ dp (fun j v hj=>by
     rw[Addr.add_lit,ZA]
     simp only[World.cell?,hw,hh]
     rw[YU]at hj
     split at hj
     ·rw[Za]at hj;exact hj
     ·cases hj)) (fun h=>by cases h) hc (by omega) hn o8 rfl gu j1).mono fun e w' ⟨G,ROW,g1,g2,g3,g4,g5,g6⟩=> ?_
    have jZ:ROW.toList=(cI.toList.take (rows.length * 18)++oQ.toList)++ROW.toList.drop ((rows.length+1) * 18):=by rw[← g4,Zh]
    have rJ:RL M ((rows.flatten++row)++(ROW.toList.drop ((rows.length+1) * 18)).map .v) ROW.toList:=by
     have:=(dA.append gF).append (RL.exact (M:=M) (ROW.toList.drop ((rows.length+1) * 18)))
     rwa [← jZ]at this
    have cB:=(Inv.box ji (cs:=ROW.toList) 40 rJ 40).fG
    rw[show(ROW.toList.toArray:Array Value)=ROW by simp,← g6]at cB
    refine done (Mem.le.refl _) cB ?_ g1 g2 g5
    rw[jz,rZ,YX]
    exact YW (by rw[Z9,eY,gr];omega)
section
open Go.RowKit Go.Proofs Go.Shelf
theorem acw{w:World}{ad:Addr}{n c:Nat}{news:List Value}(hlen:news.length=n * 4)(hc:∀ j u,news[j]? =some u→w.cell? (ad.add j)=some u)(h1:∀ u∈news,u.oneCell'=true)(hn:n≤100000):
  Calls prog 109 #[.slice (some ad) n c] w fun e w'=>∃ v',e= .returned v'∧w'.ownsRow w.heap.size 28 4 v' n news∧v'≠.slice none 0 0∧Below w.heap.size w w':=by
 obtain⟨i0,hi,ep,fy,fz⟩:=info_parts CH
 have vy:∀ (w:World) (a:Option Addr) (n c n' c':Nat),(binOp .eql 22 (.slice a n c) (.slice none n' c')).run prog w= .ok (.bool a.isNone) w:=fun w a n c n' c'=>Lib.run_eql_slice_nil w _ _ a n c n' c' underlying22
 go_enter func109,ntmps109
 go_wp2_with (at_builtin;refine wpList_append_own _ rfl _ _ 22 rfl w.heap.size 28 i0 zB 4 64 underlying22 hi ep fy fz Nn (by decide) _ _ _ rfl (World.ownsRow_made w #[] 0 (ZM _) (ZL _) rfl) ad n c news rfl hlen ?qc2 h1 ?qc4 ?qc5 ?qc6 ?_)
 case qc2=>
  intro j u hj
  exact Lib.cell?_alloc_some _ (hc j u hj)
 case qc4=>unfold maxLen;omega
 case qc5=>omega
 case qc6=>simp
 intro v' w1 dY Ch jj
 go_wp2
 go_ret
 refine⟨v',rfl,by simpa using dY,?_,?_⟩
 ·first|exact jj|fail
 ·exact((Below.refl _ w).alloc (ZM _) _).grown Ch (by simp) (by intro k hk;simp[Value.ownBlock]at hk;omega)
theorem acu(n c:Nat)(w:World):Calls prog 109 #[.slice none n c] w fun e w'=>e= .returned (.slice none 0 0)∧w'=w:=by
 have vy:∀ (w:World) (a:Option Addr) (n c n' c':Nat),(binOp .eql 22 (.slice a n c) (.slice none n' c')).run prog w= .ok (.bool a.isNone) w:=fun w a n c n' c'=>Lib.run_eql_slice_nil w _ _ a n c n' c' underlying22
 go_enter func109,ntmps109
 go_wp2
 go_ret
 exact⟨rfl,rfl⟩
end
open Go.Sx Go.Proofs Go.RowKit
theorem acs(rows:List (List AV))(hK:∀ r∈rows,r.length=4)(h1:∀ r∈rows,r.all AV.one=true)(hn:rows.length≤100000)(σ:Store):Sx.Spec prog 109 [.sl false 4 rows] σ fun r σ'=>∃ x τ,r= .ret x∧σ'=τ++σ∧oG 4 rows x τ:=by
 intro M w0 w cs hI hR
 obtain⟨v,rfl,hv⟩:=RL.cT hR
 have key:∀ (ad:Addr) (c:Nat) (L:List Value),RL M rows.flatten L→(∀ j u,L[j]? =some u→w.cell? (ad.add j)=some u)→v= .slice (some ad) rows.length c→
   Calls prog 109 #[v] w fun e w'=>∃ M' r σ',M.le M'∧Inv prog M' w0 σ' w'∧kq M' r e∧∃ x τ,r= .ret x∧σ'=τ++σ∧oG 4 rows x τ:=fun ad c L hL hc hv=>by
  subst hv
  refine(acw (w:=w) (ad:=ad) (n:=rows.length) (c:=c) (news:=L) (by rw[← hL.1,zm hK]) hc (fun u hu=>ZB.1 (hL.oL (zn h1)) u hu) hn).mono fun e w' ⟨v',he,dY,Ct,hb⟩=> ?_
  obtain⟨g1,g2⟩:=dY
  rcases g2 with⟨jj,_⟩|⟨g,cap,cur,rfl,qj,hh,hc,hm,hs,ht⟩
  ·exact absurd jj Ct
  ·have jZ:cur.toList=L++cur.toList.drop (rows.length * 4):=by rw[← ht,Zh]
   refine⟨M,.ret (.ms 40 g 0 rows.length cap),_,Mem.le.refl _,RP (lab:=40) hI hb qj hh (by rw[jZ];exact hL.append (RL.exact _)),by subst he;exact .ms _ _ _ _ _,_,[_],rfl,rfl,.inr ⟨g,cap,_,rfl,rfl,hc,hm,?_⟩⟩
   rw[Z4,YN,Zv,hs,Nat.sub_mul]
 rcases hv.om with⟨a,_,rfl,rfl⟩|⟨b,off,cap,f,rfl,hr,hc,hm⟩
 ·cases a with
  |none=>exact(acu 0 0 w).mono fun e w' ⟨h1,h2⟩=>⟨M,.ret (.v (.slice none 0 0)),σ,Mem.le.refl _,by rw[h2];exact hI,by subst h1;exact .v _,_,[],rfl,rfl,.inl ⟨rfl,rfl,rfl⟩⟩
  |some ad=>exact key ad 0 [] RL.nil (fun j u h=>by simp at h) rfl
 ·refine key ⟨b,off,none⟩ cap _ hr.flat (fun j u hj=> ?_) rfl
  have iU:j<rows.length * 4:=by have:=(ZK.1 hj).1;simpa using this
  rw[Addr.add_lit,hI.cH _ _ _ (hr.mem j iU)]
  simpa[iU]using hj
theorem afr{rows:List (List AV)}{row:List AV}{x:AV}{τ σ:Store}{k tv bv:Nat}(hx:oG 4 rows x τ)(hK:∀ r∈rows,r.length=4)(h1:∀ r∈rows,r.all AV.one=true)(gr:row.length=4)(eZ:row.all AV.one=true)(hk:k≤rows.length)(hn:rows.length≤100000):
  Sx.Spec prog 108 [x,.v (.int .i64 (k:Int)),.ms tv bv 0 1 1] ((tv,bv,.cells row)::(τ++σ)) fun r σ'=>r= .ret (.sl true 4 (rows.take k++row::rows.drop k))∧σ'=σ:=by
 intro M w0 w cs hI hR
 obtain⟨v1,cP,rfl,q1,cJ⟩:=hR.bg
 obtain⟨v2,qX,rfl,q2,eA⟩:=cJ.bg
 obtain⟨v3,rfl,q3⟩:=RL.cT eA
 obtain rfl:=q2.ay
 obtain rfl:=q3.qG
 obtain⟨hMv,oQ,tyv,o8,gF⟩:=(hI.st _ ZC).2
 have gu:oQ.toList.length=4:=by rw[← gF.1,gr]
 have j1:∀ u∈oQ.toList,u.oneCell'=true:=fun u hu=>ZB.1 (gF.oL eZ) u hu
 have Cr:∀ i (h:i<(rows.take k++row::rows.drop k).length),(rows.take k++row::rows.drop k)[i].length=4:=fun i h=>by
  have hm:(rows.take k++row::rows.drop k)[i]∈rows.take k++row::rows.drop k:=Zc h
  rw[ZJ,ZT]at hm
  rcases hm with hm|hm|hm
  ·exact hK _ (Yh hm)
  ·rw[hm];exact gr
  ·exact hK _ (Yx hm)
 have iI:(rows.take k++row::rows.drop k).length=rows.length+1:=by simp;omega
 have Kd:(rows.take k++row::rows.drop k).flatten=rows.flatten.take (k * 4)++row++rows.flatten.drop (k * 4):=by rw[List.flatten_append,Yz,Ep k hK,Eo k hK,Zt]
 have eY:=zm hK
 have done:∀ {M':Mem} {w':World} {g G:Nat} {L:List AV} {lab:Nat} {e:Ending},M.le M'→Inv prog M' w0 ((lab,g,.cells L)::σ) w'→L.take ((rows.length+1) * 4)=rows.flatten.take (k * 4)++row++rows.flatten.drop (k * 4)→rows.length+1≤G→G≤maxLen→e= .returned (.slice (some ⟨g,0,none⟩) (rows.length+1) G)→
   ∃ M' r σ',M.le M'∧Inv prog M' w0 σ' w'∧kq M' r e∧r= .ret (.sl true 4 (rows.take k++row::rows.drop k))∧σ'=σ:=fun {M' w' g G L lab e} hM bw hL hG zt he=>by
  obtain⟨M2,a1,a2,a3⟩:=Ev (rows:=rows.take k++row::rows.drop k) bw Cr (by rw[iI,Kd];exact hL) (by rw[iI];exact hG) zt
  refine⟨M2,_,σ,hM.trans a1,a2,?_,rfl,rfl⟩
  subst he
  rw[iI]at a3
  exact a3
 rcases hx with⟨rfl,rfl,rfl⟩|⟨b,c,rest,rfl,rfl,hc,hm,kK⟩
 ·obtain rfl:=q1.ay
  obtain rfl:k=0:=by simpa using hk
  have ji:Inv prog M w0 σ w:=hI.sub (show List.Sublist _ _ by simp)
  refine(RF (w:=w) (n:=0) (cap:=0) (base:=none) (xs:=[]) rfl (fun _ _=>rfl) (fun _=>⟨rfl,rfl⟩) (ZM _) (by omega) (by omega) o8 rfl gu j1).mono fun e w' ⟨G,ROW,g1,g2,g3,g4,g5,g6⟩=> ?_
  have jZ:ROW.toList=oQ.toList++ROW.toList.drop 4:=by
   have:=Zh 4 ROW.toList
   rw[show ROW.toList.take 4=oQ.toList by simpa using g4]at this
   exact this.symm
  have cB:Inv prog M w0 ((40,w.heap.size,.cells (row++(ROW.toList.drop 4).map .v))::σ) w':=by
   rw[g6]
   exact(Inv.box ji (cs:=ROW.toList) 28 (by rw[jZ];simpa[← jZ]using gF.append (RL.exact (ROW.toList.drop 4))) 40).fG
  exact done (Mem.le.refl _) cB (by simp[gr]) g1 g2 g5
 ·obtain rfl:=q1.qG
  have hA:(rows.flatten++rest).length=c * 4:=by rw[Z9,eY,kK,← YI];congr 1;omega
  have lQ:Inv prog M w0 ((40,b,.cells (rows.flatten++rest))::σ) w:=hI.sub (show List.Sublist _ _ by simp)
  have ji:Inv prog M w0 σ w:=lQ.sub (show List.Sublist _ _ by simp)
  obtain⟨Qk,cI,Vs,hh,ux⟩:=(lQ.st _ ZC).2
  have aH:bv≠b:=fun e=>by
   have:=hI.nd
   simp[e]at this
  have cC:cI.size=c * 4:=by rw[← Zv,← ux.1,hA]
  have dA:RL M rows.flatten (cI.toList.take (rows.length * 4)):=by
   have:=ux.take (rows.length * 4)
   rwa [YW eY]at this
  have dp:(cI.toList.take (rows.length * 4)).length=rows.length * 4:=by rw[← dA.1,eY]
  have la:∀ u∈cI.toList.take (rows.length * 4),u.oneCell'=true:=fun u hu=>ZB.1 (dA.oL (zn h1)) u hu
  have hD:=dA.drop (k * 4)
  have il:(rows.flatten.drop (k * 4)).length=rows.length * 4-k * 4:=by rw[YN,eY]
  have BO:((cI.toList.take (rows.length * 4)).drop (k * 4)).length=rows.length * 4-k * 4:=by rw[YN,dp]
  have hT:=dA.take (k * 4)
  have hkK:k * 4≤rows.length * 4:=Y0 _ hk
  have uA:(rows.flatten.take (k * 4)).length=k * 4:=by rw[ZQ,eY];omega
  rcases YO k rows.length with xh|xh
  ·have lU:(k+1) * 4=k * 4+4:=by omega
   rcases YO rows.length c with dU|dU
   ·refine(afv hh cC rfl la xh dU hm aH o8 rfl gu j1).mono fun e w' ⟨g5,g6⟩=> ?_
    have cB:=(lQ.fG.setCells (o:=(k+1) * 4) hD (by rw[BO,hA];omega)).setCells (o:=k * 4) gF (by rw[CW _ _ _ (by rw[il,hA];omega),gu,hA];omega)
    rw[← g6]at cB
    refine done (Mem.le.refl _) cB ?_ dU hm g5
    rw[lU,TE gr (by rw[il,hA];omega),Y1 (by simp only[Z9,ZQ,hA,gr,il];omega),Zq (by simp only[Z9,ZQ,hA,gr,il];omega),Y1 (by omega)]
   ·refine(afp hh cC rfl la xh (by omega) (by omega) hn o8 rfl gu j1).mono fun e w' ⟨G,ROW,g1,g2,g3,g4,g5,g6⟩=> ?_
    have jZ:ROW.toList=(cI.toList.take (rows.length * 4)).take (k * 4)++ROW.toList.drop (k * 4):=by rw[← g4,Zh]
    have rJ:RL M (rows.flatten.take (k * 4)++(ROW.toList.drop (k * 4)).map .v) ROW.toList:=by
     have:=hT.append (RL.exact (M:=M) (ROW.toList.drop (k * 4)))
     rwa [← jZ]at this
    have rK:(rows.flatten.take (k * 4)++(ROW.toList.drop (k * 4)).map AV.v).length=G * 4:=by rw[rJ.1,Zv,g3]
    have BR:(rows.length+1) * 4≤G * 4:=Y0 _ g1
    have cB:=(((Inv.box ji (cs:=ROW.toList) 28 rJ 40).fG.setCells (o:=k * 4) gF (by rw[rK,gu];omega)).fG).setCells (o:=(k+1) * 4) hD (by rw[CW _ _ _ (by rw[rK,gr];omega),rK,BO];omega)
    rw[show(ROW.toList.toArray:Array Value)=ROW by simp,← g6]at cB
    refine done (Mem.le.refl _) cB ?_ g1 g2 g5
    generalize hX:rows.flatten.take (k * 4)++(ROW.toList.drop (k * 4)).map AV.v=X at rK ⊢
    have JP:X.take (k * 4)=rows.flatten.take (k * 4):=by rw[← hX];exact YW uA
    unfold over
    rw[lU,JP,gr,il]
    have e1:(rows.flatten.take (k * 4)++row++X.drop (k * 4+4)).take (k * 4+4)=rows.flatten.take (k * 4)++row:=YW (by rw[Z9,uA,gr])
    rw[e1]
    exact YW (by simp only[Z9,uA,gr,il];omega)
  ·obtain rfl:k=rows.length:=by omega
   have jz:rows.flatten.drop (rows.length * 4)=[]:=Xv (by omega)
   have rZ:rows.flatten.take (rows.length * 4)=rows.flatten:=Zq (by omega)
   rcases YO rows.length c with dU|dU
   ·refine(aft (n:=rows.length) hh cC dU hm o8 rfl gu j1).mono fun e w' ⟨g5,g6⟩=> ?_
    have cB:=lQ.setCells (o:=rows.length * 4) gF (by rw[gu,hA];omega)
    rw[← g6]at cB
    refine done (Mem.le.refl _) cB ?_ dU hm g5
    unfold over
    rw[jz,rZ,YX,YW eY]
    exact YW (by rw[Z9,eY,gr];omega)
   ·refine(RF (w:=w) (n:=rows.length) (cap:=c) (base:=some ⟨b,0,none⟩) (xs:=cI.toList.take (rows.length * 4)) dp (fun w' hw=>run_firstCells_some w' 4 rows.length ⟨b,0,none⟩ rows.length c _ dp (fun j v hj=>by
     rw[Addr.add_lit,ZA]
     simp only[World.cell?,hw,hh]
     rw[YU]at hj
     split at hj
     ·rw[Za]at hj;exact hj
     ·cases hj)) (fun h=>by cases h) hc (by omega) hn o8 rfl gu j1).mono fun e w' ⟨G,ROW,g1,g2,g3,g4,g5,g6⟩=> ?_
    have jZ:ROW.toList=(cI.toList.take (rows.length * 4)++oQ.toList)++ROW.toList.drop ((rows.length+1) * 4):=by rw[← g4,Zh]
    have rJ:RL M ((rows.flatten++row)++(ROW.toList.drop ((rows.length+1) * 4)).map .v) ROW.toList:=by
     have:=(dA.append gF).append (RL.exact (M:=M) (ROW.toList.drop ((rows.length+1) * 4)))
     rwa [← jZ]at this
    have cB:=(Inv.box ji (cs:=ROW.toList) 28 rJ 40).fG
    rw[show(ROW.toList.toArray:Array Value)=ROW by simp,← g6]at cB
    refine done (Mem.le.refl _) cB ?_ g1 g2 g5
    rw[jz,rZ,YX]
    exact YW (by rw[Z9,eY,gr];omega)
end Go.Proofs.YtajimcniogfpcaaGreatDoor
