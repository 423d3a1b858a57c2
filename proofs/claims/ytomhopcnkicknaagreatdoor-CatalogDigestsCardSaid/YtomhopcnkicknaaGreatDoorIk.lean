/- A new slice that is written to after it was built: from what is known for good back to a block of the store. -/
import Derived.Test.YtomhopcnkicknaaGreatDoorHi
import Derived.Test.YtomhopcnkicknaaGreatDoorHa
import Derived.Test.YtomhopcnkicknaaGreatDoorIa
set_option linter.unusedSimpArgs false
set_option linter.unusedVariables false
set_option linter.unusedSectionVars false
set_option maxRecDepth 100000
set_option maxHeartbeats 4000000
namespace Go.Sx
open Go.RowKit Go.Proofs
inductive qN(b o n c:Nat)(rows:List (List AV)):ah→ah→Prop
 |nil:qN b o n c rows [] []
 |m {i t:Nat} {r r':ah} (h:qN b o n c rows r r'):qN b o n c rows ((i,.ms t b o n c)::r) ((i,.sl false 1 rows)::r')
 |same {i:Nat} {x:AV} {r r':ah} (h:qN b o n c rows r r'):qN b o n c rows ((i,x)::r) ((i,x)::r')
theorem qN.lk{b o n c:Nat}{rows:List (List AV)}{r r':ah}(h:qN b o n c rows r r')(i:Nat):lk r' i=lk r i∨∃ t,lk r i= .ms t b o n c∧lk r' i= .sl false 1 rows:=by
 induction h with
 |nil=>exact .inl rfl
 | @m j t _ _ _ ih=>
  simp only[Sx.lk]
  cases Nat.beq j i with
  |true=>exact .inr ⟨t,rfl,rfl⟩
  |false=>exact ih
 | @same j x _ _ _ ih=>
  simp only[Sx.lk]
  cases Nat.beq j i with
  |true=>exact .inl rfl
  |false=>exact ih
theorem A7{P:Program}[Glob P]{N:Nat}{cfg:Nat→Nat}{Q:Exit→ah→Store→Prop}{a:AC}{k:List Fr}{rg ay:ah}{σ af:Store}{t b n c:Nat}{pre ls post:List AV}(hs:po t b (pre++ls++post) σ af)(hn:n=ls.length)(hc:n≤c∧c≤maxLen)(hr:qN b pre.length n c (ls.map fun x=>[x]) rg ay)(h:WK P N cfg Q a k ay af):WK P N cfg Q a k rg σ:=by
 refine⟨⟨rfl,?_⟩⟩
 intro cd mw M w0 a w hI hR hN hD
 obtain⟨M',vs,hM,aS,fm,hcell⟩:=(hI.perm hs.perm).freeze
 refine xX (h.h.h cd mw M' w0 a w aS (fun i=> ?_) hN hD) fun _ _ _ ⟨M2,dA,bE,h1,h2⟩=>⟨M2,dA,bE,hM.trans h1,h2⟩
 have h1:=(hR i).mono hM
 rcases hr.lk i with e|⟨t',e1,e2⟩
 ·rw[e];exact h1
 ·rw[e1]at h1
  rw[e2,h1.zT,hn]
  have hl:(ls.map fun x=>[x]).length=ls.length:=Z7 _
  have:=R.sl (M:=M') false 1 (ls.map fun x=>[x]) b pre.length c (fun k=>vs.getD (pre.length+k) default) (fun i hi=>by rw[ZF];rfl) (fun k hk=> ?_) (fun i hi j hj=> ?_) (by rw[hl];omega) hc.2
  ·rw[hl]at this;exact this
  ·rw[hl]at hk
   have cN:pre.length+k<vs.length:=by rw[← fm.1];simp;omega
   rw[hcell _ cN,ZY,ZX cN];rfl
  ·rw[hl]at hi
   have Gf:j=0:=by rw[ZF]at hj;simp at hj;omega
   subst Gf
   have cN:pre.length+i<vs.length:=by rw[← fm.1];simp;omega
   have hx:pre.length+i<(pre++ls++post).length:=by simp;omega
   have h3:=fm.2 (pre.length+i) hx cN
   simp only[ZF,YR,YO,YN,ZY,ZX cN,Zu]
   have e:(pre++ls++post)[pre.length+i]=ls[i]:=by
    rw[Y4 (by simp;omega),Y8 (by omega)]
    simp
   rwa [e]at h3
end Go.Sx
namespace Go.Proofs.YtomhopcnkicknaaGreatDoor
open _root_.Go.Proofs.Tryz
open Go.Sx Go.Proofs Go.Tb Go.RowKit
def Df(x:Int):List AV:=[iv x]
abbrev cz(l:List Int):List (List AV):=l.map Df
theorem Iq(l:List Int):cz l=(l.map iv).map fun x=>[x]:=by rw[Yk];rfl
theorem N4{M M':Mem}{w0:Base}{w w':World}{σ:Store}{t b u c:Nat}{l:List Int}{v:Value}(hI:Sx.Inv prog M w0 σ w)(aS:Sx.Inv prog M' ⟨w,M⟩ [(t,b,.tail u c)] w')(hv:R M' (.own 1 t b u c (cz l)) v)(hn:l≠[])(L:Nat):
  ∃ (pre:List AV) (cap:Nat) (post:List AV),v= .slice (some ⟨b,pre.length,none⟩) l.length cap∧l.length≤cap∧cap≤maxLen∧Sx.Inv prog M w0 ((L,b,.cells (pre++l.map iv++post))::σ) w':=by
 obtain⟨off,cap,cs,rfl,hr,h4,h5,h6,h8⟩:=hv.nJ
 have hl:(cz l).length=l.length:=by simp[cz]
 rw[hl]at h4 h6
 have hb:Below w.heap.size w w':=⟨aS.os,aS.tape,aS.output,aS.size,aS.old⟩
 have h1:=hI.after hb
 obtain⟨hg,hN,cur,ty,hh,iU,huc⟩:=aS.st _ Zv
 have hlen:0<l.length:=Yl.2 hn
 have hu:off+l.length * 1=u∧off+cap * 1≤c:=by
  rcases h6 with h|h
  ·omega
  ·exact h
 have Ga:∀ o,M b o=none:=fun o=>by
  cases h:M b o with
  |none=>rfl
  |some v=>
   have:=World.block_lt_of_cell? _ _ (hI.cQ b o v h)
   simp at this hg;omega
 refine⟨List.replicate off .any,cap,List.replicate (c-u) .any,by rw[Yx,hl],h4,h5,h1.os,h1.tape,h1.output,h1.size,h1.old,h1.cQ,fun e he=> ?_,?_,h1.gl,h1.gw,h1.bm⟩
 ·rcases ZQ.1 he with rfl|he
  ·refine⟨ZJ hI.size hg,Ga,cur,ty,hh,?_,fun i g1 g2=> ?_⟩
   ·simp only[Z9,Yx,Z7,Zi];omega
   ·by_cases i1:i<off
    ·have e:(List.replicate off AV.any++l.map iv++List.replicate (c-u) AV.any)[i]= .any:=by
      rw[Y4 (by simp;omega),Y4 (by simp;omega),List.getElem_replicate]
     rw[e];exact .any _
    ·by_cases i2:i-off<l.length
     ·have e:(List.replicate off AV.any++l.map iv++List.replicate (c-u) AV.any)[i]=iv l[i-off]:=by
       rw[Y4 (by simp;omega),Y8 (by simp;omega)]
       simp
      rw[e]
      have hk:i-off<(cz l).length * 1:=by rw[hl];omega
      have h9:=aS.cQ _ _ _ (hr.mem (i-off) hk)
      have h7:=hr.rel (i-off) (by omega) 0 (by simp[Df])
      simp only[Df,ZF,YR,YO,YN]at h7
      rw[show off+(i-off)=i by omega,lh hh,h7.aC]at h9
      have Fz:cur.toList[i]= .int .i64 l[i-off]:=by
       have:=(Z0.1 h9).2
       simpa using this
      rw[Fz]
      exact .v _
     ·have e:(List.replicate off AV.any++l.map iv++List.replicate (c-u) AV.any)[i]= .any:=by
       rw[Y8 (by simp;omega),List.getElem_replicate]
      rw[e];exact .any _
  ·exact h1.st e he
 ·simp only[ZC,YX]
  refine⟨fun h=> ?_,h1.nd⟩
  obtain⟨e,he,heq⟩:=Y9.1 h
  have:=hI.zP he
  simp at hg
  omega
theorem aLH{f:FuncId}{ys:List AV}{l:List Int}(h:Sx.Spec prog f ys [] fun r af=>∃ t b u c,r= .ret (.own 1 t b u c (cz l))∧Sub [(t,b,.tail u c)] af)(hn:l≠[])(L:Nat)(σ:Store):
  Sx.Spec prog f ys σ fun r af=>∃ (b cap:Nat) (pre post:List AV),l.length≤cap∧cap≤maxLen∧r= .ret (.ms L b pre.length l.length cap)∧af=(L,b,.cells (pre++l.map iv++post))::σ:=by
 intro M w0 w cs hI hR
 refine(h M ⟨w,M⟩ w cs (vX hI) hR).mono fun e w' ⟨M',r,af,hM,aS,hr,t,b,u,c,e1,hs⟩=> ?_
 subst e1
 cases e with
 |returned v=>
  obtain⟨pre,cap,post,hv,cW,dj,s9⟩:=N4 hI (aS.sub hs) hr hn L
  refine⟨M,_,_,Mem.le.refl _,s9,?_,b,cap,pre,post,cW,dj,rfl,rfl⟩
  rw[hv];exact .ms _ _ _ _ _
 |_=>exact hr.elim
theorem Ua{N:Nat}{cfg:Nat→Nat}{Q:Exit→ah→Store→Prop}{a:AC}{k:List Fr}{rg:ah}{σ:Store}(l:List Int)(j i:Nat)(y:Value)(L:Nat)(hn:l≠[])
  (h:WK prog N cfg (fun e ay af=>e= .normal∧lk ay j= .v y∧∃ t b u c,lk ay i= .own 1 t b u c (cz l)∧Sub [(t,b,.tail u c)] af) a [] rg [])
  (h2:∀ b cap pre post,l.length≤cap→cap≤maxLen→FK prog N cfg Q .normal k [(j,.v y),(i,.ms L b (List.length pre) l.length cap)] ((L,b,.cells (pre++l.map iv++post))::σ)):WK prog N cfg Q a k rg σ:=by
 refine⟨⟨rfl,?_⟩⟩
 intro cd mw M w0 a w hI hR hN hD
 refine xX (h.h.h cd mw M ⟨w,M⟩ a w (vX hI) hR hN hD) fun e a' w' ⟨M',ay,af,hM,aS,kJ,hN',BN,hq⟩=> ?_
 obtain⟨rfl,hj,t,b,u,c,hi,hs⟩:=hq
 have h3:=kJ i
 rw[hi]at h3
 have h4:=kJ j
 rw[hj]at h4
 obtain⟨pre,cap,post,hv,cW,dj,s9⟩:=N4 hI (aS.sub hs) h3 hn L
 refine⟨M,_,_,Mem.le.refl _,s9,fun x=> ?_,hN',BN,(h2 b cap pre post cW dj).h⟩
 simp only[lk]
 cases e1:Nat.beq j x with
 |true=>rw[← Zm e1,h4.aC];exact .v _
 |false=>
  cases e2:Nat.beq i x with
  |true=>rw[← Zm e2,hv];exact .ms _ _ _ _ _
  |false=>exact .any _
end Go.Proofs.YtomhopcnkicknaaGreatDoor
namespace Go.Proofs.YtomhopcnkicknaaGreatDoor
open _root_.Go.Proofs.Tryz
open Go.Sx Go.Proofs Go.Tb
def pD:Int→List Int→Int
 |m,[]=>m
 |m,d::l=>pD ((d+m) / 65536) l
def iL:Int→List Int→List Int
 |_,[]=>[]
 |m,d::l=>(d+m) % 65536::iL ((d+m) / 65536) l
theorem KO:∀ (l:List Int) (m x:Int),pD m (l++[x])=(x+pD m l) / 65536
 |[],_,_=>rfl
 |d::l,m,x=>KO l _ x
theorem KL:∀ (l:List Int) (m x:Int),iL m (l++[x])=iL m l++[(x+pD m l) % 65536]
 |[],_,_=>rfl
 |d::l,m,x=>Zy (_::·) (KL l _ x)
theorem KJ:∀ (l:List Int) (m:Int),(iL m l).length=l.length
 |[],_=>rfl
 |d::l,m=>Zy (·+1) (KJ l _)
theorem KN:∀ (l:List Int) (m:Int),(∀ x∈l, -1099511627776≤x∧x≤1099511627776)→(-1099511627776≤m∧m≤1099511627776)→-1099511627776≤pD m l∧pD m l≤1099511627776
 |[],_,_,h=>h
 |d::l,m,hl,h=>KN l _ (fun x hx=>hl x (ZL _ hx)) (by have:=hl d Zv;omega)
def aD:Nat→Int→List Int
 |0,_=>[]
 |n+1,z=>z % 65536::aD n (z / 65536)
def qn:Nat→Int→Int
 |0,z=>z
 |n+1,z=>qn n (z / 65536)
theorem ff:∀ (n:Nat) (z:Int),(aD n z).length=n
 |0,_=>rfl
 |n+1,z=>Zy (·+1) (ff n _)
theorem EX:∀ (n:Nat) (z:Int),aD (n+1) z=aD n z++[qn n z % 65536]
 |0,_=>rfl
 |n+1,z=>Zy (_::·) (EX n _)
theorem Ij:∀ (n:Nat) (z:Int),qn (n+1) z=qn n z / 65536
 |0,_=>rfl
 |n+1,z=>Ij n _
theorem jk:∀ (n:Nat) (z:Int),∀ x∈aD n z,0≤x∧x<65536
 |0,_,x,h=>nomatch h
 |n+1,z,x,h=>by
  rcases ZQ.1 h with rfl|h
  ·omega
  ·exact jk n _ x h
theorem Ii:∀ (n:Nat) (z:Int),0≤z∧z<18446744073709551616→0≤qn n z∧qn n z<18446744073709551616
 |0,_,h=>h
 |n+1,z,h=>Ii n _ (by omega)
theorem P9(a b:List Int):cz (a++b)=cz a++cz b:=Zz
def jc(du:Nat)(rows:List (List AV))(x:AV)(τ:Store):Prop:=(rows=[]∧x=dM∧τ=[])∨∃ b u c,x= .own 1 du b u c rows∧τ=[(du,b,.tail u c)]
theorem jc.z{du:Nat}:jc du [] dM []:= .inl ⟨rfl,rfl,rfl⟩
theorem jc.s{du b u c:Nat}{rows rows':List (List AV)}(h:rows'=rows):jc du rows (.own 1 du b u c rows') [(du,b,.tail u c)]:= .inr ⟨b,u,c,by rw[h],rfl⟩
theorem IL(A:Int):A.tdiv 65536=if 0≤A then A / 65536 else -((-A) / 65536):=by
 split
 ·exact XU ‹_›
 ·rw[← XU (by omega),Int.neg_tdiv,Int.neg_neg]
theorem Al(A:Int):A.tmod 65536=if 0≤A then A % 65536 else -((-A) % 65536):=by
 split
 ·exact Yf ‹_›
 ·rw[← Yf (by omega),Int.neg_tmod,Int.neg_neg]
theorem acb{A:Int}(h1: -2199023255552≤A)(h2:A≤2199023255552)(h:A.tmod 65536<0):IntKind.i64.wrap (A.tmod 65536+65536)=A % 65536∧IntKind.i64.wrap (IntKind.i64.wrap (A.tdiv 65536)-1)=A / 65536:=by
 rw[Al]at h
 rw[Al,IL]
 split at h
 ·omega
 ·rw[Z6 ‹_›,Z6 ‹_›,aM (by omega),aM (n:= -(-A / 65536)) (by omega),aM (by omega)];omega
theorem acd{A:Int}(h1: -2199023255552≤A)(h2:A≤2199023255552)(h:¬A.tmod 65536<0):A.tmod 65536=A % 65536∧IntKind.i64.wrap (A.tdiv 65536)=A / 65536:=by
 rw[Al]at h
 rw[Al,IL]
 split at h
 ·rw[Z3 ‹_›,Z3 ‹_›,aM (by omega)];omega
 ·rw[Z6 ‹_›,Z6 ‹_›,aM (by omega)];omega
theorem Bg(d:List Int)(hl:d.length=8)(hb:∀ x∈d, -1099511627776≤x∧x≤1099511627776):Pure prog 267 [.sl false 1 (cz d)] (.sl false 1 (cz (iL 0 d))):=by
 refine afK.p fun σ=> ?_
 repeat'(first|exact .nil|refine .k0 ?_|refine .k1 ?_|refine .k2 ?_|refine .k6 ?_|refine .r1 ?_ ?_|fail)
 all_goals(try simp only[BL]at *)
 refine aH (fun m rg af=>∃ (i:Nat) (x:AV) (τ:Store),i≤8∧m=8-i∧jc 30 (cz (iL 0 (d.take i))) x τ∧af=τ++σ∧rg=[(0,.sl false 1 (cz d)),(3,x),(4,iv (pD 0 (d.take i))),(5,iv i)]) 8 rfl ⟨_,_,Zr,Zs,0,_,_,Z1 _,rfl,jc.z,rfl,rfl⟩ ?_
 rintro m _ _ ⟨i,x,τ,hi,hm,hR,rfl,rfl⟩
 have hM:=KN (d.take i) 0 (fun x hx=>hb x (YZ hx)) (by omega)
 have hA:i<8→∃ A,d.getD i default+pD 0 (d.take i)=A∧IntKind.i64.wrap A=A∧pD 0 (d.take (i+1))=A / 65536∧iL 0 (d.take (i+1))=iL 0 (d.take i)++[A % 65536]∧-2199023255552≤A∧A≤2199023255552:=fun h=>by
  have hx:=hb _ (bu (l:=d) (i:=i) (by omega))
  refine⟨_,rfl,aM (by omega),?_,?_,by omega,by omega⟩
  ·rw[ZV (by omega),← getD_eq (by omega),KO]
  ·rw[ZV (by omega),← getD_eq (by omega),KL]
 rcases hR with⟨hE,rfl,rfl⟩|⟨b3,u3,c3,rfl,rfl⟩
 all_goals
  repeat'(first|exact .nil|refine .k0 ?_|refine .k1 ?_|refine .k2 ?_|refine .k6 ?_|refine .k7 ?_|refine .k8 ?_|refine .k9 ?_|(refine .cd ?_ ?_<;>(intro hc;skip))|refine .r1 ?_ ?_|refine .t1 ?_ ?_ ?_|refine .u1 ?_ ?_ ?_ (fun b u c=> ?_)|refine .u2 ?_ ?_ ?_ (fun b u c=> ?_)|(show List.all _ _=true;rfl)|fail)
  try any_goals((intro aq;first|(simp_all;done)|fail))
  all_goals(try simp only[BL]at *)
  all_goals try(show(_:Nat)≤_;simp only[Z7,KJ,Z4,Z8,Z5];omega)
 any_goals
  obtain⟨A,e0,e1,e4,e5,h1,h2⟩:=hA (by omega)
  clear hA
  simp only[e0,e1]at hc ⊢
  first|(obtain⟨g1,g2⟩:=acb h1 h2 hc;rw[g1,g2])|(obtain⟨g1,g2⟩:=acd h1 h2 hc;rw[g1,g2])
  refine⟨m-1,by omega,_,_,Zr,Zs,i+1,_,_,by omega,by omega,jc.s ?_,rfl,by rw[e4,aM (by omega)];rfl⟩
  rw[e5,P9]
  first|(rw[hE];rfl)|rfl
 all_goals
  rw[show d.take i=d from ZU (by omega)]at *
 ·rw[hE];exact Zw
 ·exact Zw
abbrev uv(n:Int):AV:= .v (.int .u64 n)
theorem aaD(z:Int):cz (aD 4 z)≠[]:=by simp[aD]
theorem Br{q:Int}(h:0≤q∧q<18446744073709551616):IntKind.i64.wrap (q.tmod 65536)=q % 65536∧IntKind.u64.wrap (q.tdiv 65536)=q / 65536:=by
 rw[Al,IL,Z3 h.1,Z3 h.1,aM (by omega),IntKind.wrap_u64];omega
theorem Dh{a b:List Int}{x:Int}(h:a=b++[x]):cz a=cz b++[Df x]:=by rw[h,P9];rfl
theorem La(hi lo:Int)(tE:0≤lo∧lo<18446744073709551616)(σ:Store):Sx.Spec prog 265 [.agg [iv hi,uv lo]] σ fun r af=>∃ t b u c,r= .ret (.own 1 t b u c (cz (aD 4 lo++aD 4 (IntKind.u64.wrap hi))))∧Sx.Sub ((t,b,.tail u c)::σ) af:=by
 have yI:0≤IntKind.u64.wrap hi∧IntKind.u64.wrap hi<18446744073709551616:=by rw[IntKind.wrap_u64];omega
 refine Spec.nO (fun _=>0) func265 Xg aa2 (ZW rfl) ?_
 repeat'(first|exact .nil|refine .k0 ?_|refine .k1 ?_|refine .k2 ?_|refine .k6 ?_|refine .r1 ?_ ?_|(refine .m1 ?_ ?_;intro b)|fail)
 all_goals(try simp only[BL]at *)
 generalize IntKind.u64.wrap hi=h2 at *
 refine aH (fun m rg af=>∃ (i:Nat) (x:AV) (τ:Store),i≤4∧m=4-i∧jc 22 (cz (aD i lo)) x τ∧af=τ++σ∧rg=[(3,x),(4,uv (qn i lo)),(5,uv h2),(6,iv i)]) 4 rfl ⟨_,_,Zr,Zs,0,_,_,Z1 _,rfl,jc.z,rfl,rfl⟩ ?_
 rintro m _ _ ⟨i,x,τ,hi,hm,hR,rfl,rfl⟩
 have hq:=Ii i lo tE
 have yB:=EX i lo
 rcases hR with⟨hE,rfl,rfl⟩|⟨b3,u3,c3,rfl,rfl⟩
 all_goals
  repeat'(first|exact .nil|refine .k0 ?_|refine .k1 ?_|refine .k2 ?_|refine .k6 ?_|refine .k8 ?_|refine .k9 ?_|(refine .cd ?_ ?_<;>(intro hc;skip))|refine .r1 ?_ ?_|refine .u1 ?_ ?_ ?_ (fun b u c=> ?_)|refine .u2 ?_ ?_ ?_ (fun b u c=> ?_)|(show List.all _ _=true;rfl)|fail)
  try any_goals((intro aq;first|(simp_all;done)|fail))
  all_goals(try simp only[BL]at *)
  all_goals try(show(_:Nat)≤_;simp only[Z7,ff,Z8,Z5];omega)
  ·have e:=Dh yB
   rw[(Br hq).1,(Br hq).2,← Ij]
   refine⟨m-1,by omega,_,_,Zr,Zs,i+1,_,_,by omega,by omega,jc.s ?_,rfl,by rw[aM (by omega)];rfl⟩
   rw[e]
   first|(rw[hE];rfl)|rfl
  ·have yJ:i=4:=by omega
   subst yJ
   first|exact absurd hE (aaD lo)|(
    clear hq yB
    refine aH (fun m rg af=>∃ (i:Nat) (b u c:Nat),i≤4∧m=4-i∧af=(22,b,.tail u c)::σ∧rg=[(3,.own 1 22 b u c (cz (aD 4 lo++aD i h2))),(5,uv (qn i h2)),(7,iv i)]) 4 rfl ⟨_,_,Zr,Zs,0,_,_,_,Z1 _,rfl,rfl,by rw[show aD 0 h2=[]from rfl,Zb];rfl⟩ ?_
    rintro m _ _ ⟨i,b3,u3,c3,hi,hm,rfl,rfl⟩
    have hq:=Ii i h2 yI
    have yB:=EX i h2
    repeat'(first|exact .nil|refine .k0 ?_|refine .k1 ?_|refine .k2 ?_|refine .k6 ?_|refine .k7 ?_|refine .k8 ?_|refine .k9 ?_|(refine .cd ?_ ?_<;>(intro hc;skip))|refine .r1 ?_ ?_|refine .u2 ?_ ?_ ?_ (fun b u c=> ?_)|(show List.all _ _=true;rfl)|fail)
    try any_goals((intro aq;first|(simp_all;done)|fail))
    all_goals(try simp only[BL]at *)
    all_goals try(show(_:Nat)≤_;simp only[Z7,Z9,ff,Z8,Z5];omega)
    ·have e:=Dh (a:=aD 4 lo++aD (i+1) h2) (b:=aD 4 lo++aD i h2) (by rw[yB,← ZB])
     rw[(Br hq).1,(Br hq).2,← Ij]
     exact⟨m-1,by omega,_,_,Zr,Zs,i+1,_,_,_,by omega,by omega,rfl,by rw[aM (n:=(i:Int)+1) (by omega),e];rfl⟩
    ·have yJ:i=4:=by omega
     subst yJ
     exact⟨_,_,_,_,rfl,.same (.refl _)⟩)
theorem ahw{f:FuncId}{ys:List AV}{l:List Int}(h:∀ σ,Sx.Spec prog f ys σ fun r af=>∃ t b u c,r= .ret (.own 1 t b u c (cz l))∧Sx.Sub ((t,b,.tail u c)::σ) af):Pure prog f ys (.sl false 1 (cz l)):=
 ⟨fun σ M w0 w cs hI hR=>(h σ M w0 w cs hI hR).mono fun e w' ⟨M',r,af,hM,aS,hr,t,b,u,c,e1,hs⟩=>by
  subst e1
  refine⟨M',.ret (.sl false 1 (cz l)),σ,hM,aS.sub (Sx.Sub.trans (.cons (.refl _)) hs),?_,rfl,rfl⟩
  cases e with
  |returned v=>exact Sx.R.Px hr false
  |_=>exact hr.elim⟩
theorem EY(n m:Nat):∀ (z:Int),aD (n+m) z=aD n z++aD m (qn n z):=by
 induction n with
 |zero=>intro z;rw[Zl];rfl
 |succ n ih=>intro z;rw[Nat.add_right_comm];exact Zy (_::·) (ih _)
theorem K7(z:Int):aD 4 (z % 18446744073709551616)=aD 4 z:=by
 simp only[aD,ZS,Zk]
 refine⟨by omega,by omega,by omega,by omega⟩
theorem K8{z:Int}(h: -1000≤z∧z≤1000):aD 4 (dz z)++aD 4 (IntKind.u64.wrap (eo z))=aD 8 z:=by
 rw[IntKind.wrap_u64,K7,show dz z=z % 18446744073709551616 from rfl,K7,EY 4 4 z]
 congr 2
 simp only[qn];unfold eo;split<;>omega
theorem K9{z:Int}(h: -1000≤z∧z≤1000)(L:Nat)(σ:Store):Sx.Spec prog 265 [wA z] σ fun r af=>∃ (b cap:Nat) (pre post:List AV),8≤cap∧cap≤maxLen∧r= .ret (.ms L b pre.length 8 cap)∧af=(L,b,.cells (pre++(aD 8 z).map iv++post))::σ:=by
 have h1:=aLH (La (eo z) (dz z) (by unfold dz;omega) []) (by simp[aD]) L σ
 rw[K8 h,ff]at h1
 exact h1
theorem Bs{z:Int}(h: -1000≤z∧z≤1000):Pure prog 265 [wA z] (.sl false 1 (cz (aD 8 z))):=by
 have h1:=ahw (La (eo z) (dz z) (by unfold dz;omega))
 rw[K8 h]at h1
 exact h1
theorem C3{n:Int}(hn: -1000≤n∧n≤1000):Pure prog 259 [iv n] (wA n):=by
 refine afG.p fun σ=> ?_
 repeat'(first|exact .nil|refine .k0 ?_|refine .k1 ?_|refine .k2 ?_|refine .k7 ?_|refine .k9 ?_|(refine .cd ?_ ?_<;>(intro hc;skip))|refine .r1 ?_ ?_|(refine .l1 ?_;intro b)|fail)
 all_goals(try simp only[BL]at *)
 all_goals
  rw[show IntKind.u64.wrap n=dz n from IntKind.wrap_u64 n]
  first|rw[show wA n= .agg [iv (-1),uv (dz n)] by unfold wA eo;rw[Z3 hc]]|rw[show wA n= .agg [iv 0,uv (dz n)] by unfold wA eo;rw[Z6 hc]]
  exact Zw
def iG:List Int→Int
 |[]=>0
 |d::l=>d+65536 * iG l
theorem Ja:∀ (n:Nat) (z:Int),iG (aD n z)=z-qn n z * 65536 ^ n
 |0,z=>by simp[iG,aD,qn]
 |n+1,z=>by
  simp only[iG,aD,qn,Ja n,Int.pow_succ]
  have:qn n (z / 65536) * (65536 ^ n * 65536)=65536 * (qn n (z / 65536) * 65536 ^ n):=by
   rw[← Int.mul_assoc,Int.mul_comm]
  rw[this,Int.mul_sub]
  omega
theorem I9:∀ (l:List Int),(∀ x∈l,0≤x∧x<65536)→0≤iG l∧iG l<65536 ^ l.length
 |[],_=>by simp[iG]
 |d::l,h=>by
  have h1:=h d Zv
  have h2:=I9 l fun x hx=>h x (ZL _ hx)
  simp only[iG,Z8,Int.pow_succ]
  omega
theorem Rt{l:List Int}{m:Nat}(h:m<l.length):iG (l.drop m)=l.getD m default+65536 * iG (l.drop (m+1)):=by
 rw[List.drop_eq_getElem_cons h,getD_eq h];rfl
theorem agk(d:List Int)(hl:d.length=8)(hb:∀ x∈d,0≤x∧x<65536):Pure prog 266 [.sl false 1 (cz d)] (.agg [iv (IntKind.i64.wrap (iG (d.drop 4))),uv (iG (d.take 4))]):=by
 refine afJ.p fun σ=> ?_
 repeat'(first|exact .nil|refine .k0 ?_|refine .k1 ?_|refine .k2 ?_|refine .k6 ?_|refine .r1 ?_ ?_|(refine .l1 ?_;intro b)|fail)
 all_goals(try simp only[BL]at *)
 refine aH (fun m rg af=>m≤4∧af=(2,b,.cells [iv 0,uv 0])::σ∧rg=[(0,.sl false 1 (cz d)),(2,.lp 2 b 0),(3,uv (iG ((d.take 4).drop m))),(4,uv (iG ((d.drop 4).drop m))),(5,iv ((m:Int)-1))]) 4 rfl ⟨_,_,Zr,Zs,ZR _,rfl,by rw[X6 (by simp;omega),X6 (by simp;omega)];rfl⟩ ?_
 rintro m _ _ ⟨hm,rfl,rfl⟩
 have fU:=I9 ((d.take 4).drop m) fun x hx=>hb x (YZ (List.mem_of_mem_drop hx))
 have hbh:=I9 ((d.drop 4).drop m) fun x hx=>hb x (List.mem_of_mem_drop (List.mem_of_mem_drop hx))
 repeat'(first|exact .nil|refine .k0 ?_|refine .k1 ?_|refine .k2 ?_|refine .k6 ?_|refine .k7 ?_|refine .k8 ?_|refine .k9 ?_|(refine .cd ?_ ?_<;>(intro hc;skip))|refine .r1 ?_ ?_|refine .t1 ?_ ?_ ?_|fail)
 try any_goals((intro aq;(simp only[BL]at *;omega)))
 all_goals(try simp only[BL]at *)
 ·obtain⟨k,rfl⟩:∃ k,m=k+1:=⟨m-1,by omega⟩
  have hk:k<4:=by omega
  have e1:=Rt (l:=d.take 4) (m:=k) (by simp;omega)
  have e2:=Rt (l:=d.drop 4) (m:=k) (by simp;omega)
  rw[show((k+1:Nat):Int)-1=k by omega,aM (n:=(k:Int)+4) (by omega),aM (n:=(k:Int)-1) (by omega),show(k:Int).toNat=k from rfl,show((k:Int)+4).toNat=k+4 by omega]
  have g1:(d.take 4).getD k default=d.getD k default:=by simp[ZY,List.getElem?_take,hk]
  have g2:(d.drop 4).getD k default=d.getD (k+4) default:=by simp[ZY,Nat.add_comm]
  rw[g1]at e1
  rw[g2]at e2
  have zA:=hb _ (bu (l:=d) (i:=k) (by omega))
  have fM:=hb _ (bu (l:=d) (i:=k+4) (by omega))
  have hp:(65536:Int) ^ (3-k)≤281474976710656:=by
   have:k=0∨k=1∨k=2∨k=3:=by omega
   rcases this with rfl|rfl|rfl|rfl<;>decide
  have oF:(List.drop (k+1) (List.take 4 d)).length=3-k:=by simp;omega
  have oG:(List.drop (k+1) (List.drop 4 d)).length=3-k:=by simp;omega
  rw[oF]at fU
  rw[oG]at hbh
  refine⟨k,by omega,_,_,Zr,Zs,by omega,rfl,?_⟩
  rw[e1,e2]
  generalize iG (List.drop (k+1) (List.take 4 d))=A at *
  generalize iG (List.drop (k+1) (List.drop 4 d))=B at *
  simp only[IntKind.wrap_u64]
  have hA:A<281474976710656:=by omega
  have hB:B<281474976710656:=by omega
  clear hp oF oG
  rw[show(A * 65536 % 18446744073709551616+d.getD k default % 18446744073709551616) % 18446744073709551616=d.getD k default+65536 * A by omega,show(B * 65536 % 18446744073709551616+d.getD (k+4) default % 18446744073709551616) % 18446744073709551616=d.getD (k+4) default+65536 * B by omega]
 ·rw[aM (by omega)];omega
 ·rw[show m=0 by omega];exact Zw
theorem OY{z:Int}(h: -1000≤z∧z≤1000):Pure prog 266 [.sl false 1 (cz (aD 8 z))] (wA z):=by
 have h1:=agk (aD 8 z) (ff _ _) (jk _ _)
 have e1:iG ((aD 8 z).take 4)=dz z:=by
  rw[EY 4 4 z,List.take_left' (ff _ _),Ja]
  simp only[qn];unfold dz;omega
 have e2:IntKind.i64.wrap (iG ((aD 8 z).drop 4))=eo z:=by
  rw[EY 4 4 z,List.drop_left' (ff _ _),Ja,IntKind.wrap_i64]
  simp only[qn];unfold eo;split<;>omega
 rw[e1,e2]at h1
 exact h1
theorem KI:∀ (n:Nat) (a b s:Int),iL (s-a-b) (List.zipWith (·+·) (aD n a) (aD n b))=aD n s
 |0,_,_,_=>rfl
 |n+1,a,b,s=>by
  simp only[aD,List.zipWith_cons_cons,iL]
  rw[show(a % 65536+b % 65536+(s-a-b)) / 65536=s / 65536-a / 65536-b / 65536 by omega,KI n,show(a % 65536+b % 65536+(s-a-b)) % 65536=s % 65536 by omega]
theorem EJ:∀ (n:Nat) (a b s:Int),iL (s-a+b) (List.zipWith (·- ·) (aD n a) (aD n b))=aD n s
 |0,_,_,_=>rfl
 |n+1,a,b,s=>by
  simp only[aD,List.zipWith_cons_cons,iL]
  rw[show(a % 65536-b % 65536+(s-a+b)) / 65536=s / 65536-a / 65536+b / 65536 by omega,EJ n,show(a % 65536-b % 65536+(s-a+b)) % 65536=s % 65536 by omega]
theorem KM:∀ (n:Nat) (a s:Int),iL (s-2 * a) ((aD n a).map (2 * ·))=aD n s
 |0,_,_=>rfl
 |n+1,a,s=>by
  simp only[aD,ZC,iL]
  rw[show(2 * (a % 65536)+(s-2 * a)) / 65536=s / 65536-2 * (a / 65536) by omega,KM n,show(2 * (a % 65536)+(s-2 * a)) % 65536=s % 65536 by omega]
theorem Fs{pre ls post:List AV}{i:Nat}{y:AV}(h:ls[i]? =some y):(pre++ls++post)[pre.length+i]? =some y:=by
 obtain⟨hi,_⟩:=ZE.1 h
 rw[ZB,YA (by omega),Nat.add_sub_cancel_left,Y7 hi,h]
theorem H6{pre ls post:List AV}{i:Nat}{y:AV}(h:i<ls.length):over (pre++ls++post) (pre.length+i) [y]=pre++ls.set i y++post∧pre.length+i+1≤(pre++ls++post).length:=by
 refine⟨?_,by simp;omega⟩
 unfold over
 have e1:(pre++ls++post).take (pre.length+i)=pre++ls.take i:=by rw[ZB,List.take_length_add_append,YS (by omega)]
 have e2:(pre++ls++post).drop (pre.length+i+[y].length)=ls.drop (i+1)++post:=by
  rw[ZB,Zg,XJ,List.drop_length_add_append,List.drop_append_of_le_length (by omega)]
 rw[e1,e2,List.set_eq_take_append_cons_drop,Z3 h]
 simp
def jW(l l':List Int)(i:Nat):List Int:=l'.take i++l.drop i
theorem OS{l l':List Int}{i:Nat}(h:i<l.length)(h':i<l'.length):((jW l l' i).map iv)[i]? =some (iv (l.getD i default)):=by
 unfold jW
 rw[YK,YA (by simp;omega),Z4,X4 (by omega),Nat.sub_self,List.getElem?_drop,YN,ZX h,getD_eq h];rfl
theorem OU{l l':List Int}{i:Nat}(h:i<l.length)(h':i<l'.length):((jW l l' i).map iv).set i (iv (l'.getD i default))=(jW l l' (i+1)).map iv:=by
 unfold jW
 rw[← List.map_set,List.set_append_right _ _ (by simp;omega),Z4,X4 (by omega),Nat.sub_self,List.drop_eq_getElem_cons h,List.set_cons_zero,ZV h',← getD_eq h',ZB];rfl
theorem OT{l l':List Int}{i:Nat}(h:l'.length=l.length)(hi:i≤l.length):(jW l l' i).length=l.length:=by unfold jW;simp;omega
theorem D8{f:Int→Int→Int}:∀ (l l':List Int),∀ z∈List.zipWith f l l',∃ x∈l,∃ y∈l',z=f x y
 |[],_,z,h=>by simp at h
 |_::_,[],z,h=>by simp at h
 |x::l,y::l',z,h=>by
  rw[List.zipWith_cons_cons]at h
  rcases ZQ.1 h with rfl|h
  ·exact⟨x,Zv,y,Zv,rfl⟩
  ·obtain⟨x',hx,y',hy,e⟩:=D8 l l' z h
   exact⟨x',ZL _ hx,y',ZL _ hy,e⟩
theorem JM{f:Int→Int→Int}{l l':List Int}{i:Nat}(h:i<l.length)(h':i<l'.length):(List.zipWith f l l').getD i default=f (l.getD i default) (l'.getD i default):=by
 rw[getD_eq (by rw[List.length_zipWith];omega),getD_eq h,getD_eq h',List.getElem_zipWith]
theorem Wg{n k:Int}(ha: -1000≤n∧n≤1000)(hb: -1000≤k∧k≤1000)(hs: -1000≤n+k∧n+k≤1000):Pure prog 260 [wA n,wA k] (wA (n+k)):=by
 have hM:=OY hs
 have hC:=Bg (List.zipWith (·+·) (aD 8 n) (aD 8 k)) (by simp[ff]) (fun x hx=>by
  obtain⟨y,hy,z,hz,rfl⟩:=D8 _ _ _ hx
  have h1:=jk _ _ _ hy
  have h2:=jk _ _ _ hz
  omega)
 have h0:=KI 8 n k (n+k)
 rw[show n+k-n-k=0 by omega]at h0
 rw[h0]at hC
 refine afH.p fun σ=> ?_
 repeat'(first|exact .nil|refine .k0 ?_|refine .k1 ?_|refine .k2 ?_|refine .r1 ?_ ?_|(refine .l1 ?_;intro b)|(refine .m1 ?_ ?_;intro b)|fail)
 all_goals(try simp only[BL]at *)
 refine A3 rfl (K9 ha 50 _) OB.nil (fun x af hR=> ?_) (fun ch af hR=> ?_)
 rotate_left
 ·obtain⟨_,_,_,_,_,_,h,_⟩:=hR;cases h
 obtain⟨bx,cap,pre,post,cW,dj,e1,e2⟩:=hR
 cases e1;subst e2
 repeat'(first|exact .nil|refine .k0 ?_|refine .k1 ?_|refine .k2 ?_|refine .r1 ?_ ?_|fail)
 refine .an rfl (fun _=>Bs hb) ?_ ?_
 repeat'(first|exact .nil|refine .k0 ?_|refine .k1 ?_|refine .k2 ?_|refine .k6 ?_|refine .r1 ?_ ?_|fail)
 have iz:(aD 8 n).length=8:=ff _ _
 have tO:(aD 8 k).length=8:=ff _ _
 have oO:=jk 8 n
 have zB:=jk 8 k
 have pY:(List.zipWith (·+·) (aD 8 n) (aD 8 k)).length=8:=by rw[List.length_zipWith,iz,tO];rfl
 have rF:=fun(i:Nat) (h:i<8)=>JM (f:=(·+·)) (l:=aD 8 n) (l':=aD 8 k) (i:=i) (by omega) (by omega)
 generalize aD 8 n=X at *
 generalize aD 8 k=Y at *
 generalize hZ:List.zipWith (·+·) X Y=Z at *
 refine aH (fun m rg af=>∃ (i:Nat),i≤8∧m=8-i∧af=(50,bx,.cells (pre++(jW X Z i).map iv++post))::(4,b,.cells [iv 0,uv 0])::σ∧rg=[(4,.lp 4 b 0),(5,.ms 50 bx pre.length 8 cap),(6,.sl false 1 (cz Y)),(7,iv i)]) 8 rfl ⟨_,_,Zr,Zs,0,Z1 _,rfl,rfl,rfl⟩ ?_
 rintro m _ _ ⟨i,hi,hm,rfl,rfl⟩
 repeat'((fail_if_success (show WK _ _ _ _ (.eZ Qh) _ _ _));(first|exact .nil|refine .k0 ?_|refine .k1 ?_|refine .k2 ?_|refine .k3 ?_|refine .k6 ?_|refine .k8 ?_|refine .k9 ?_|(refine .cd ?_ ?_<;>(intro hc;skip))|refine .r1 ?_ ?_|refine .r8 ?_ ?_|fail))
 all_goals(try simp only[BL]at *)
 ·omega
 ·refine Ka (y:=iv (X.getD i default)) rfl rfl rfl (by rw[YO];exact Fs (OS (by omega) (by omega))) rfl OB.nil ?_
  repeat'(first|exact .nil|refine .k1 ?_|refine .r1 ?_ ?_|refine .t1 ?_ ?_ ?_|refine .r8 ?_ ?_|fail)
  try any_goals((intro aq;first|(simp_all;done)|fail))
  all_goals(try simp only[BL]at *)
  ·omega
  have hw:IntKind.i64.wrap (X.getD i default+Y.getD i default)=Z.getD i default:=by
   have h1:=oO _ (bu (l:=X) (i:=i) (by omega))
   have h2:=zB _ (bu (l:=Y) (i:=i) (by omega))
   rw[rF i (by omega),aM (by omega)]
  refine Kb (cs':=pre++(jW X Z (i+1)).map iv++post) rfl rfl rfl rfl rfl (by rw[YO,← OU (by omega) (by omega),hw];exact H6 (by rw[Z7,OT (by omega) (by omega)];omega)) rfl OB.nil ?_
  repeat'(first|exact .nil|refine .k0 ?_|refine .k1 ?_|refine .k2 ?_|refine .r1 ?_ ?_|fail)
  exact⟨m-1,by omega,_,_,Zr,Zs,i+1,by omega,by omega,rfl,by rw[aM (by omega)];rfl⟩
 ·rw[show i=8 by omega,show jW X Z 8=Z by unfold jW;rw[ZU (by omega),X6 (by omega),Zb]]
  refine A7 (ls:=Z.map iv) (by repeat' first|exact .here|fail) (by rw[Z7,pY]) ⟨cW,dj⟩ (.same (.m .nil)) ?_
  rw[← Iq]
  repeat'(first|exact .nil|refine .k2 ?_|refine .r1 ?_ ?_|fail)
  refine .an rfl (fun _=>hC) ?_ ?_
  repeat'(first|exact .nil|fail)
  refine .an rfl (fun _=>hM) ?_ ?_
  repeat'(first|exact .nil|refine .k0 ?_|refine .k1 ?_|refine .k7 ?_|refine .r1 ?_ ?_|fail)
  exact Zw
theorem aLT{n k:Int}(ha: -1000≤n∧n≤1000)(hb: -1000≤k∧k≤1000)(hs: -1000≤n-k∧n-k≤1000):Pure prog 276 [wA n,wA k] (wA (n-k)):=by
 have hM:=OY hs
 have hC:=Bg (List.zipWith (·- ·) (aD 8 n) (aD 8 k)) (by simp[ff]) (fun x hx=>by
  obtain⟨y,hy,z,hz,rfl⟩:=D8 _ _ _ hx
  have h1:=jk _ _ _ hy
  have h2:=jk _ _ _ hz
  omega)
 have h0:=EJ 8 n k (n-k)
 rw[show n-k-n+k=0 by omega]at h0
 rw[h0]at hC
 refine afQ.p fun σ=> ?_
 repeat'(first|exact .nil|refine .k0 ?_|refine .k1 ?_|refine .k2 ?_|refine .r1 ?_ ?_|(refine .l1 ?_;intro b)|(refine .m1 ?_ ?_;intro b)|fail)
 all_goals(try simp only[BL]at *)
 refine A3 rfl (K9 ha 50 _) OB.nil (fun x af hR=> ?_) (fun ch af hR=> ?_)
 rotate_left
 ·obtain⟨_,_,_,_,_,_,h,_⟩:=hR;cases h
 obtain⟨bx,cap,pre,post,cW,dj,e1,e2⟩:=hR
 cases e1;subst e2
 repeat'(first|exact .nil|refine .k0 ?_|refine .k1 ?_|refine .k2 ?_|refine .r1 ?_ ?_|fail)
 refine .an rfl (fun _=>Bs hb) ?_ ?_
 repeat'(first|exact .nil|refine .k0 ?_|refine .k1 ?_|refine .k2 ?_|refine .k6 ?_|refine .r1 ?_ ?_|fail)
 have iz:(aD 8 n).length=8:=ff _ _
 have tO:(aD 8 k).length=8:=ff _ _
 have oO:=jk 8 n
 have zB:=jk 8 k
 have pY:(List.zipWith (·- ·) (aD 8 n) (aD 8 k)).length=8:=by rw[List.length_zipWith,iz,tO];rfl
 have rF:=fun(i:Nat) (h:i<8)=>JM (f:=(·- ·)) (l:=aD 8 n) (l':=aD 8 k) (i:=i) (by omega) (by omega)
 generalize aD 8 n=X at *
 generalize aD 8 k=Y at *
 generalize hZ:List.zipWith (·- ·) X Y=Z at *
 refine aH (fun m rg af=>∃ (i:Nat),i≤8∧m=8-i∧af=(50,bx,.cells (pre++(jW X Z i).map iv++post))::(4,b,.cells [iv 0,uv 0])::σ∧rg=[(4,.lp 4 b 0),(5,.ms 50 bx pre.length 8 cap),(6,.sl false 1 (cz Y)),(7,iv i)]) 8 rfl ⟨_,_,Zr,Zs,0,Z1 _,rfl,rfl,rfl⟩ ?_
 rintro m _ _ ⟨i,hi,hm,rfl,rfl⟩
 repeat'((fail_if_success (show WK _ _ _ _ (.eZ Qk) _ _ _));(first|exact .nil|refine .k0 ?_|refine .k1 ?_|refine .k2 ?_|refine .k3 ?_|refine .k6 ?_|refine .k8 ?_|refine .k9 ?_|(refine .cd ?_ ?_<;>(intro hc;skip))|refine .r1 ?_ ?_|refine .r8 ?_ ?_|fail))
 all_goals(try simp only[BL]at *)
 ·omega
 ·refine Ka (y:=iv (X.getD i default)) rfl rfl rfl (by rw[YO];exact Fs (OS (by omega) (by omega))) rfl OB.nil ?_
  repeat'(first|exact .nil|refine .k1 ?_|refine .r1 ?_ ?_|refine .t1 ?_ ?_ ?_|refine .r8 ?_ ?_|fail)
  try any_goals((intro aq;first|(simp_all;done)|fail))
  all_goals(try simp only[BL]at *)
  ·omega
  have hw:IntKind.i64.wrap (X.getD i default-Y.getD i default)=Z.getD i default:=by
   have h1:=oO _ (bu (l:=X) (i:=i) (by omega))
   have h2:=zB _ (bu (l:=Y) (i:=i) (by omega))
   rw[rF i (by omega),aM (by omega)]
  refine Kb (cs':=pre++(jW X Z (i+1)).map iv++post) rfl rfl rfl rfl rfl (by rw[YO,← OU (by omega) (by omega),hw];exact H6 (by rw[Z7,OT (by omega) (by omega)];omega)) rfl OB.nil ?_
  repeat'(first|exact .nil|refine .k0 ?_|refine .k1 ?_|refine .k2 ?_|refine .r1 ?_ ?_|fail)
  exact⟨m-1,by omega,_,_,Zr,Zs,i+1,by omega,by omega,rfl,by rw[aM (by omega)];rfl⟩
 ·rw[show i=8 by omega,show jW X Z 8=Z by unfold jW;rw[ZU (by omega),X6 (by omega),Zb]]
  refine A7 (ls:=Z.map iv) (by repeat' first|exact .here|fail) (by rw[Z7,pY]) ⟨cW,dj⟩ (.same (.m .nil)) ?_
  rw[← Iq]
  repeat'(first|exact .nil|refine .k2 ?_|refine .r1 ?_ ?_|fail)
  refine .an rfl (fun _=>hC) ?_ ?_
  repeat'(first|exact .nil|fail)
  refine .an rfl (fun _=>hM) ?_ ?_
  repeat'(first|exact .nil|refine .k0 ?_|refine .k1 ?_|refine .k7 ?_|refine .r1 ?_ ?_|fail)
  exact Zw
theorem agI{n:Int}(hn: -1000≤n∧n≤1000):Pure prog 274 [wA n] (wA (-n)):=by
 have h0:=C3 (n:=0) (by omega)
 have h1:=aLT (n:=0) (k:=n) (by omega) hn (by omega)
 rw[Int.zero_sub]at h1
 refine afP.p fun σ=> ?_
 repeat'(first|exact .nil|refine .k0 ?_|refine .k1 ?_|refine .k2 ?_|refine .k3 ?_|refine .k7 ?_|refine .r1 ?_ ?_|(refine .l1 ?_;intro b)|(refine .m1 ?_ ?_;intro b)|refine .an rfl (by intro aq;first|exact h0|exact h1|fail) ?_ ?_|fail)
 all_goals(try simp only[BL]at *)
 exact Zw
theorem Qt{n:Int}(hn: -1000≤n∧n≤1000):Pure prog 268 [wA n] (.sl false 1 (cz (aD 8 n.natAbs))):=by
 have h0:=agI hn
 have h1:=Bs (z:= -n) (by omega)
 have h2:=Bs hn
 refine afL.p fun σ=> ?_
 repeat'(first|exact .nil|refine .k0 ?_|refine .k1 ?_|refine .k2 ?_|refine .k7 ?_|refine .k9 ?_|(refine .cd ?_ ?_<;>(intro hc;skip))|refine .r1 ?_ ?_|(refine .m1 ?_ ?_;intro b)|refine .an rfl (by intro aq;first|exact h0|exact h1|exact h2|fail) ?_ ?_|fail)
 all_goals(try simp only[BL]at *)
 ·rw[show(n.natAbs:Int)= -n by unfold eo at hc;split at hc<;>omega];exact Zw
 ·rw[show(n.natAbs:Int)=n by unfold eo at hc;split at hc<;>omega];exact Zw
def qV(a b:List Int):Nat→Bool
 |0=>false
 |m+1=>if a.getD m default=b.getD m default then qV a b m else decide (a.getD m default<b.getD m default)
theorem ED(a b:List Int)(ha:a.length=8)(hb:b.length=8):Pure prog 270 [.sl false 1 (cz a),.sl false 1 (cz b)] (.v (.bool (qV a b 8))):=by
 refine afN.p fun σ=> ?_
 repeat'(first|exact .nil|refine .k0 ?_|refine .k1 ?_|refine .k2 ?_|refine .k6 ?_|refine .r1 ?_ ?_|fail)
 all_goals(try simp only[BL]at *)
 refine aH (fun m rg af=>m≤8∧qV a b 8=qV a b m∧af=σ∧rg=[(0,.sl false 1 (cz a)),(1,.sl false 1 (cz b)),(5,iv ((m:Int)-1))]) 8 rfl ⟨_,_,Zr,Zs,ZR _,rfl,rfl,rfl⟩ ?_
 rintro m _ _ ⟨hm,hp,rfl,rfl⟩
 repeat'(first|exact .nil|refine .k0 ?_|refine .k1 ?_|refine .k2 ?_|refine .k5 ?_|refine .k6 ?_|refine .k7 ?_|refine .k8 ?_|refine .k9 ?_|(refine .cd ?_ ?_<;>(intro hc;skip))|refine .r1 ?_ ?_|refine .t1 ?_ ?_ ?_|fail)
 try any_goals((intro aq;(simp only[BL]at *;omega)))
 all_goals(try simp only[BL]at *)
 ·obtain⟨j,rfl⟩:∃ j,m=j+1:=⟨m-1,by omega⟩
  rw[show(((j+1:Nat):Int)-1).toNat=j by omega]at hc ⊢
  rw[hp,show qV a b (j+1)=_ from Z6 hc];exact Zw
 ·obtain⟨j,rfl⟩:∃ j,m=j+1:=⟨m-1,by omega⟩
  rw[show(((j+1:Nat):Int)-1).toNat=j by omega]at hc
  exact⟨j,by omega,_,_,Zr,Zs,by omega,by rw[hp];exact Z3 hc,rfl,by rw[aM (by omega),show((j+1:Nat):Int)-1-1=j-1 by omega]⟩
 ·rw[hp,show m=0 by omega];exact Zw
theorem agr{n k:Int}:Pure prog 271 [.sl false 1 (cz (aD 8 n)),.sl false 1 (cz (aD 8 k))] (.sl false 1 (cz (aD 8 (n-k)))):=by
 have hC:=Bg (List.zipWith (·- ·) (aD 8 n) (aD 8 k)) (by simp[ff]) (fun x hx=>by
  obtain⟨y,hy,z,hz,rfl⟩:=D8 _ _ _ hx
  have h1:=jk _ _ _ hy
  have h2:=jk _ _ _ hz
  omega)
 have h0:=EJ 8 n k (n-k)
 rw[show n-k-n+k=0 by omega]at h0
 rw[h0]at hC
 refine afO.p fun σ=> ?_
 repeat'(first|exact .nil|refine .k0 ?_|refine .k1 ?_|refine .k2 ?_|refine .k6 ?_|refine .r1 ?_ ?_|fail)
 all_goals(try simp only[BL]at *)
 have iz:(aD 8 n).length=8:=ff _ _
 have tO:(aD 8 k).length=8:=ff _ _
 have oO:=jk 8 n
 have zB:=jk 8 k
 have pY:(List.zipWith (·- ·) (aD 8 n) (aD 8 k)).length=8:=by rw[List.length_zipWith,iz,tO];rfl
 have rF:=fun(i:Nat) (h:i<8)=>JM (f:=(·- ·)) (l:=aD 8 n) (l':=aD 8 k) (i:=i) (by omega) (by omega)
 generalize aD 8 n=X at *
 generalize aD 8 k=Y at *
 generalize hZ:List.zipWith (·- ·) X Y=Z at *
 refine aH (fun m rg af=>∃ (i:Nat) (x:AV) (τ:Store),i≤8∧m=8-i∧jc 22 (cz (Z.take i)) x τ∧af=τ++σ∧rg=[(0,.sl false 1 (cz X)),(1,.sl false 1 (cz Y)),(5,x),(6,iv i)]) 8 rfl ⟨_,_,Zr,Zs,0,_,_,Z1 _,rfl,jc.z,rfl,rfl⟩ ?_
 rintro m _ _ ⟨i,x,τ,hi,hm,hR,rfl,rfl⟩
 rcases hR with⟨hE,rfl,rfl⟩|⟨b3,u3,c3,rfl,rfl⟩
 all_goals
  repeat'(first|exact .nil|refine .k0 ?_|refine .k1 ?_|refine .k2 ?_|refine .k4 ?_|refine .k6 ?_|refine .k8 ?_|refine .k9 ?_|(refine .cd ?_ ?_<;>(intro hc;skip))|refine .r1 ?_ ?_|refine .t1 ?_ ?_ ?_|refine .u1 ?_ ?_ ?_ (fun b u c=> ?_)|refine .u2 ?_ ?_ ?_ (fun b u c=> ?_)|(show List.all _ _=true;rfl)|fail)
  try any_goals((intro aq;first|(simp_all;done)|fail))
  all_goals(try simp only[BL]at *)
  all_goals try(show(_:Nat)≤_;simp only[Z7,Z4,Z8,Z5];omega)
  ·have h1:=oO _ (bu (l:=X) (i:=i) (by omega))
   have h2:=zB _ (bu (l:=Y) (i:=i) (by omega))
   have e:=Dh (a:=Z.take (i+1)) (b:=Z.take i) (by rw[ZV (by omega),← getD_eq (by omega),rF i (by omega)])
   rw[aM (n:=X.getD i default-Y.getD i default) (by omega)]
   refine⟨m-1,by omega,_,_,Zr,Zs,i+1,_,_,by omega,by omega,jc.s ?_,rfl,by rw[aM (by omega)];rfl⟩
   rw[e]
   first|(rw[hE];rfl)|rfl
  ·have ry:Z.take i=Z:=ZU (by omega)
   first|(have h:=Zy List.length hE;rw[ry,Z7,pY]at h;cases h;done)|(
    rw[ry]
    refine .an rfl (fun _=>hC.wk ?_) ?_ ?_
    ·repeat' first|exact .refl _|refine .cons ?_ ?_|exact .own _
    repeat'(first|exact .nil|refine .k0 ?_|refine .k1 ?_|refine .k7 ?_|refine .r1 ?_ ?_|fail)
    exact Zw)
theorem Ra{n k:Int}(hk:k=0∨k=1):Pure prog 269 [.sl false 1 (cz (aD 8 n)),iv k] (.sl false 1 (cz (aD 8 (2 * n+k)))):=by
 have iz:(aD 8 n).length=8:=ff _ _
 have oO:=jk 8 n
 have hC:=Bg (((aD 8 n).map (2 * ·)).set 0 (2 * (aD 8 n).getD 0 default+k)) (by simp[ff]) (fun x hx=>by
  rcases List.mem_or_eq_of_mem_set hx with hx|rfl
  ·obtain⟨y,hy,rfl⟩:=Y9.1 hx
   have h1:=oO _ hy
   omega
  ·have h1:=oO _ (bu (l:=aD 8 n) (i:=0) (by omega))
   omega)
 have h0:iL 0 (((aD 8 n).map (2 * ·)).set 0 (2 * (aD 8 n).getD 0 default+k))=aD 8 (2 * n+k):=by
  show iL 0 ((2 * (n % 65536)+k)::(aD 7 (n / 65536)).map (2 * ·))=_
  have:=KM 7 (n / 65536) ((2 * n+k) / 65536)
  simp only[iL]
  rw[show(2 * (n % 65536)+k+0) / 65536=(2 * n+k) / 65536-2 * (n / 65536) by omega,this,show(2 * (n % 65536)+k+0) % 65536=(2 * n+k) % 65536 by omega]
  rfl
 rw[h0]at hC
 have pY:((aD 8 n).map (2 * ·)).length=8:=by rw[Z7,iz]
 have rF:∀ i,i<8→((aD 8 n).map (2 * ·)).getD i default=2 * (aD 8 n).getD i default:=fun i h=>by rw[getD_eq (by omega),getD_eq (by omega),ZF]
 generalize aD 8 n=X at *
 generalize hZ:X.map (2 * ·)=Z at *
 refine afM.p fun σ=> ?_
 repeat'((fail_if_success (show WK _ _ _ _ (.seq (.eZ Qj) _) _ _ _));(first|exact .nil|refine .k0 ?_|refine .k1 ?_|refine .k2 ?_|refine .r1 ?_ ?_|fail))
 refine Ua Z 1 5 (.int .i64 k) 50 (by intro e;rw[e]at pY;cases pY) ?_ fun b cap pre post cW dj=> ?_
 ·repeat'(first|exact .nil|refine .k0 ?_|refine .k1 ?_|refine .k2 ?_|refine .k6 ?_|refine .r1 ?_ ?_|fail)
  refine aH (fun m rg af=>∃ (i:Nat) (x:AV) (τ:Store),i≤8∧m=8-i∧jc 18 (cz (Z.take i)) x τ∧af=τ∧rg=[(0,.sl false 1 (cz X)),(1,iv k),(5,x),(6,iv i)]) 8 rfl ⟨_,_,Zr,Zs,0,_,_,Z1 _,rfl,jc.z,rfl,rfl⟩ ?_
  rintro m _ _ ⟨i,x,τ,hi,hm,hR,rfl,rfl⟩
  rcases hR with⟨hE,rfl,rfl⟩|⟨b3,u3,c3,rfl,rfl⟩
  all_goals
   repeat'(first|exact .nil|refine .k0 ?_|refine .k1 ?_|refine .k2 ?_|refine .k3 ?_|refine .k6 ?_|refine .k8 ?_|refine .k9 ?_|(refine .cd ?_ ?_<;>(intro hc;skip))|refine .r1 ?_ ?_|refine .t1 ?_ ?_ ?_|refine .u1 ?_ ?_ ?_ (fun b u c=> ?_)|refine .u2 ?_ ?_ ?_ (fun b u c=> ?_)|(show List.all _ _=true;rfl)|fail)
   try any_goals((intro aq;first|(simp_all;done)|fail))
   all_goals(try simp only[BL]at *)
   all_goals try(show(_:Nat)≤_;simp only[Z7,Z4,Z8,Z5];omega)
   ·have h1:=oO _ (bu (l:=X) (i:=i) (by omega))
    have e:=Dh (a:=Z.take (i+1)) (b:=Z.take i) (by rw[ZV (by omega),← getD_eq (by omega),rF i (by omega)])
    rw[aM (n:=2 * X.getD i default) (by omega)]
    refine⟨m-1,by omega,_,_,Zr,Zs,i+1,_,_,by omega,by omega,jc.s ?_,rfl,by rw[aM (by omega)];rfl⟩
    rw[e]
    first|(rw[hE];rfl)|rfl
   ·have ry:Z.take i=Z:=ZU (by omega)
    first|(have h:=Zy List.length hE;rw[ry,Z7,pY]at h;cases h;done)|(
     rw[ry]
     exact⟨trivial,rfl,_,_,_,_,rfl,.refl _⟩)
 ·repeat'((fail_if_success (show WK _ _ _ _ (.eZ Dl) _ _ _));(first|exact .nil|refine .k0 ?_|refine .k1 ?_|refine .k2 ?_|refine .r1 ?_ ?_|refine .r8 ?_ ?_|fail))
  ·omega
  have h1:=oO _ (bu (l:=X) (i:=0) (by omega))
  have fX:=rF 0 (by omega)
  refine Ep (y:=iv (Z.getD 0 default)) rfl rfl rfl (Fs (i:=0) (by rw[YK,ZX (by omega),getD_eq (by omega)];rfl)) OB.nil ?_
  repeat'((fail_if_success (show WK _ _ _ _ (.eZ Dl) _ _ _));(first|exact .nil|refine .k1 ?_|refine .r1 ?_ ?_|refine .r8 ?_ ?_|fail))
  all_goals try any_goals((intro aq;fail))
  ·omega
  refine A4 (cs':=pre++(Z.set 0 (2 * X.getD 0 default+k)).map iv++post) rfl rfl rfl rfl rfl (by rw[fX,aM (by omega),List.map_set];exact H6 (i:=0) (by rw[Z7];omega)) OB.nil ?_
  repeat'((fail_if_success (show WK _ _ _ _ (.eZ Dl) _ _ _));(first|refine .k0 ?_|refine .k1 ?_|fail))
  refine A7 (ls:=(Z.set 0 (2 * X.getD 0 default+k)).map iv) (by repeat' first|exact .here|fail) (by rw[Z7,List.length_set]) ⟨cW,dj⟩ (.m .nil) ?_
  rw[← Iq]
  repeat'(first|exact .nil|refine .k2 ?_|refine .r1 ?_ ?_|fail)
  refine .an rfl (fun _=>hC) ?_ ?_
  repeat'(first|exact .nil|refine .k0 ?_|refine .k1 ?_|refine .k7 ?_|refine .r1 ?_ ?_|fail)
  exact Zw
theorem aaB{A:Nat}(h:A≤1000):aD 8 (A:Int)=[(A:Int),0,0,0,0,0,0,0]:=by
 simp only[aD,ZS,Zk]
 refine⟨by omega,by omega,by omega,by omega,by omega,by omega,by omega,by omega⟩
theorem WI{A i:Nat}(h:A≤1000)(hi:i<128):((aD 8 (A:Int)).getD (i / 16) default / 2 ^ (i % 16)) % 2=((A / 2 ^ i % 2:Nat):Int):=by
 rw[aaB h]
 by_cases h16:i<16
 ·rw[show i / 16=0 by omega,show i % 16=i by omega]
  show((A:Int) / 2 ^ i) % 2=_
  norm_cast
 ·have hp:(2:Nat) ^ 16≤2 ^ i:=Nat.pow_le_pow_right (by decide) (by omega)
  rw[Nat.div_eq_of_lt (a:=A) (by omega)]
  have:i / 16=1∨i / 16=2∨i / 16=3∨i / 16=4∨i / 16=5∨i / 16=6∨i / 16=7:=by omega
  rcases this with e|e|e|e|e|e|e<;>(rw[e];show(0 / _:Int) % 2=_;rw[Int.zero_ediv];rfl)
theorem aaX{n:Int}(hn: -1000≤n∧n≤1000):Pure prog 261 [wA n,iv 1] (.aE [iv n,.v (.bool true)]):=by
 have h0:=Qt hn
 have h1:=C3 (n:=1) (by omega)
 have h2:=Qt (n:=1) (by omega)
 rw[show((1:Int).natAbs:Int)=1 from rfl]at h2
 have mZ:=Ra (n:=0) (k:=0) (.inl rfl)
 have Mz:=Ra (n:=0) (k:=1) (.inr rfl)
 have hM:=agr (n:=1) (k:=1)
 rw[show(2 * 0+0:Int)=0 from rfl]at mZ
 rw[show(2 * 0+1:Int)=1 from rfl]at Mz
 rw[show(1-1:Int)=0 from rfl]at hM
 have BM:=ED (aD 8 0) (aD 8 1) (ff _ _) (ff _ _)
 have rh:=ED (aD 8 1) (aD 8 1) (ff _ _) (ff _ _)
 have s6:=ED (aD 8 1) (aD 8 0) (ff _ _) (ff _ _)
 rw[show qV (aD 8 0) (aD 8 1) 8=true by decide]at BM
 rw[show qV (aD 8 1) (aD 8 1) 8=false by decide]at rh
 rw[show qV (aD 8 1) (aD 8 0) 8=false by decide]at s6
 have hA:n.natAbs≤1000:=by omega
 have MP:=fun i (hi:i<128)=>WI (i:=i) hA hi
 have hdb:=jk 8 (n.natAbs:Int)
 have hdl:=ff 8 (n.natAbs:Int)
 generalize aD 8 (n.natAbs:Int)=D at *
 obtain⟨i0,q1,q2,q3,q4⟩:∃ i0,prog.info? 3=some i0∧i0.zero=some (.int .i64 0)∧i0.size=1∧i0.bytes=8:=⟨_,rfl,rfl,rfl,rfl⟩
 have e:∀ i:Nat,i<128→(D.getD (IntKind.i64.wrap ((((i+1:Nat):Int)-1).tdiv 16)).toNat default / 2 ^ ((((i+1:Nat):Int)-1).tmod 16).toNat).tmod 2=((n.natAbs / 2 ^ i % 2:Nat):Int):=fun i hi=>by
  have h9:=hdb _ (bu (l:=D) (i:=i / 16) (by omega))
  rw[show(((i+1:Nat):Int)-1)=(i:Int) by omega,XU (by omega),Yf (a:=(i:Int)) (by omega),aM (by omega),show((i:Int) / 16).toNat=i / 16 by omega,show((i:Int) % 16).toNat=i % 16 by omega,Yf (Int.ediv_nonneg h9.1 (Int.le_of_lt (Int.pow_pos (by decide)))),MP i (by omega)]
 have e2:∀ i:Nat,0≤(((i+1:Nat):Int)-1).tmod 16∧(((i+1:Nat):Int)-1).tmod 16≤64:=fun i=>by
  rw[show(((i+1:Nat):Int)-1)=(i:Int) by omega,Yf (a:=(i:Int)) (by omega)];omega
 have e3:∀ i:Nat,i<128→0≤IntKind.i64.wrap ((((i+1:Nat):Int)-1).tdiv 16)∧IntKind.i64.wrap ((((i+1:Nat):Int)-1).tdiv 16)<D.length:=fun i hi=>by
  rw[show(((i+1:Nat):Int)-1)=(i:Int) by omega,XU (by omega),aM (by omega)];omega
 refine afI.p fun σ=> ?_
 repeat'(first|exact .nil|refine .k0 ?_|refine .k1 ?_|refine .k2 ?_|refine .k7 ?_|refine .k9 ?_|(refine .cd ?_ ?_<;>(intro hc;skip))|refine .r1 ?_ ?_|(refine .m1 ?_ ?_;intro b)|refine .an rfl (by intro aq;first|exact h0|exact h1|exact h2|fail) ?_ ?_|fail)
 all_goals(try simp only[BL]at *)
 ·exact absurd hc (by decide)
 refine J8 rfl q1 q2 rfl q3 OB.nil (by rw[q4];decide) (by decide) fun b2=> ?_
 repeat'((fail_if_success (show WK _ _ _ _ (.seq (.eZ Qi) _) _ _ _));(first|exact .nil|refine .k0 ?_|refine .k1 ?_|refine .k2 ?_|refine .r1 ?_ ?_|fail))
 refine A7 (pre:=[]) (ls:=List.replicate 8 (iv 0)) (post:=[]) (n:=8) (c:=8) po.here rfl ⟨ZR _,by decide⟩ (.same (.same (.same (.same (.m (.same .nil)))))) ?_
 rw[show(List.replicate 8 (iv 0)).map (fun x=>[x])=cz (aD 8 0) by simp[aD];rfl]
 repeat'(first|exact .nil|refine .k0 ?_|refine .k1 ?_|refine .k2 ?_|refine .k6 ?_|refine .r1 ?_ ?_|fail)
 refine aH (fun m rg af=>m≤128∧af=(2,b,.cells [iv (eo n),.v (.int .u64 (dz n))])::σ∧rg=[(1,iv 1),(2,.lp 2 b 0),(6,.sl false 1 (cz D)),(7,.sl false 1 (cz (aD 8 1))),(8,.sl false 1 (cz (aD 8 0))),(9,iv ((n.natAbs / 2 ^ m:Nat):Int)),(10,iv ((m:Int)-1))]) 128 rfl ⟨_,_,Zr,Zs,ZR _,rfl,by rw[Nat.div_eq_of_lt (Nat.lt_of_le_of_lt hA (by decide))];rfl⟩ ?_
 rintro m _ _ ⟨hm,rfl,rfl⟩
 cases m with
 |zero=>
  repeat'(first|exact .nil|refine .k0 ?_|refine .k1 ?_|refine .k2 ?_|refine .k4 ?_|refine .k6 ?_|refine .k7 ?_|refine .k8 ?_|refine .k9 ?_|(refine .cd ?_ ?_<;>(intro hc;first|exact kt hc (by assumption)|skip))|refine .r1 ?_ ?_|refine .t1 ?_ ?_ ?_|refine .an rfl (by intro aq;first|exact mZ|exact BM|exact s6|fail) ?_ ?_|fail)
  try any_goals((intro aq;first|(simp_all;done)|fail))
  all_goals(try simp only[BL]at *)
  ·exact absurd hc (by decide)
  ·exact absurd hc (by decide)
  ·rw[Nat.pow_zero,Nat.div_one]at hc;omega
  ·rw[Nat.pow_zero,Nat.div_one]
   have ax:n<0:=by
    by_cases h:n<0
    ·exact h
    ·rw[show eo n=0 from Z6 h]at hc;exact absurd hc (by decide)
   rw[aM (by omega),show(0:Int)-n.natAbs=n by omega]
   exact Zw
  ·rw[Nat.pow_zero,Nat.div_one]
   have ax:0≤n:=by
    by_cases h:n<0
    ·rw[show eo n= -1 from Z3 h]at hc;exact absurd hc (by decide)
    ·omega
   rw[show(n.natAbs:Int)=n by omega]
   exact Zw
 |succ i=>
  repeat'(first|exact .nil|refine .k0 ?_|refine .k1 ?_|refine .k2 ?_|refine .k4 ?_|refine .k6 ?_|refine .k7 ?_|refine .k8 ?_|refine .k9 ?_|(refine .cd ?_ ?_<;>(intro hc;skip))|refine .r1 ?_ ?_|refine .t1 ?_ ?_ ?_|refine .an rfl (by intro aq;first|exact mZ|exact BM|exact s6|fail) ?_ ?_|fail)
  try any_goals((intro aq;first|(simp_all;done)|fail))
  all_goals(try simp only[BL]at *)
  all_goals try(exfalso;omega)
  ·exact e2 i
  ·rw[e i (by omega)]
   have hQ:n.natAbs / 2 ^ i=2 * (n.natAbs / 2 ^ (i+1))+n.natAbs / 2 ^ i % 2:=by rw[Nat.pow_succ,← XD];omega
   have My:n.natAbs / 2 ^ i≤1000:=ZJ (Nat.div_le_self _ _) hA
   have hB:n.natAbs / 2 ^ i % 2=0∨n.natAbs / 2 ^ i % 2=1:=by omega
   clear e MP hA e2 e3
   generalize n.natAbs / 2 ^ i % 2=B at *
   generalize hq:n.natAbs / 2 ^ i=q at *
   generalize n.natAbs / 2 ^ (i+1)=q1 at *
   rcases hB with rfl|rfl
   all_goals
    have w1:IntKind.i64.wrap (2 * (q1:Int))=2 * (q1:Int):=aM (by omega)
    have w2:IntKind.i64.wrap (2 * (q1:Int)+1)=2 * (q1:Int)+1:=aM (by omega)
    repeat'(first|exact .nil|refine .k0 ?_|refine .k1 ?_|refine .k2 ?_|refine .k7 ?_|refine .k9 ?_|(refine .cd ?_ ?_<;>(intro hc;skip))|refine .r1 ?_ ?_|refine .an rfl (by intro aq;first|exact mZ|exact Mz|exact BM|exact rh|exact hM) ?_ ?_|fail)
    all_goals first
     |exact absurd hc (by decide)
     |exact absurd ‹(!false)=false› (by decide)
     |(have h9:=Yq hc;simp only[w1,w2]at h9;omega)
     |exact⟨i,by omega,_,_,Zr,Zs,by omega,rfl,by rw[hq,hQ];simp only[w1,w2];rw[aM (by omega),show((i+1:Nat):Int)-1-1=i-1 by omega];simp⟩
  ·exact e3 i (by omega)
end Go.Proofs.YtomhopcnkicknaaGreatDoor
namespace Go.Sx
section
variable {P:Program}[Glob P]{cfg:Nat→Nat}{K:ah→Store→Prop}{E:List PanicEntry→Store→Prop}{σ:Store}{l:List CI}{d:Nat}{xr:XR}{ps:List Prop}{og:Option Bool}
theorem Eo{t:TypeId}{ag bytes:Nat}{z:List Value}{x y:Operand}{w:AV}{rows:List (List AV)}(h:aL xr none [x,y]=some (og,[.v (.slice none 0 0),w],ps))(hw:ew ag w=some rows)(aw:OB ps)(hn:rows=[])
  (k:VX P cfg l K E ((d,.s (.v (.slice none 0 0)))::xr) σ):VX P cfg (⟨some d,.append t ag bytes z x y,none⟩::l) K E xr σ:=by
 obtain⟨_,he⟩:=cE h
 unfold aL gX at h
 obtain⟨bJ,h',_,_⟩:=gE h
 have cY:og=none:=by split at h'<;>cases h';rfl
 subst cY
 have:=he aw rfl
 simp only[bD,ZS,Zk]at this
 constructor
 simp only[fF,dP,ak,this.1,this.2,hw]
 exact⟨by rw[hn];simp,fun _=>k.h,fun e=>absurd hn e⟩
end
end Go.Sx
namespace Go.Proofs.YtomhopcnkicknaaGreatDoor
open _root_.Go.Proofs.Tryz
open Go.Sx Go.Proofs Go.Tb
def oZ(l:List ar):List ae:=l.foldl (fun a f=>cZ a f.name) []
theorem agM{l:List ar}{i:Nat}(h:i<l.length):oZ (l.take (i+1))=cZ (oZ (l.take i)) (l.getD i default).name:=by
 unfold oZ
 rw[ZV h,List.foldl_append,← getD_eq h];rfl
theorem BI:∀ (l:List ar) (a:List ae),bg a→bg (l.foldl (fun a f=>cZ a f.name) a)∧(∀ x,x∈l.foldl (fun a f=>cZ a f.name) a↔x∈a∨x∈l.map ar.name)∧(l.foldl (fun a f=>cZ a f.name) a).length≤a.length+l.length
 |[],a,h=>⟨h,fun x=>by simp,ZR _⟩
 |f::l,a,h=>by
  obtain⟨h1,h2,h3⟩:=BI l (cZ a f.name) (wG h)
  refine⟨h1,fun x=> ?_,?_⟩
  ·rw[List.foldl_cons,h2,ud,ZC,ZQ]
   constructor
   ·rintro((h|h)|h)
    ·exact .inr (.inl h)
    ·exact .inl h
    ·exact .inr (.inr h)
   ·rintro(h|h|h)
    ·exact .inl (.inr h)
    ·exact .inl (.inl h)
    ·exact .inr h
  ·have:=zY a f.name
   rw[List.foldl_cons,Z8];omega
theorem O3(l:List ar):oZ l=fQ (l.map ar.name):=mH (BI l [] o5).1 (wP _) fun x=>by
 rw[wO];exact((BI l [] o5).2.1 x).trans (by simp)
theorem O4(l:List ar):(oZ l).length≤l.length:=by have:=(BI l [] o5).2.2;simpa[oZ]using this
theorem O1(l:List ar)(hl:l.length≤8):Pure prog 253 [.sl false 2 (l.map ar.cells)] (cS (fQ (l.map ar.name))):=by
 refine afC.p fun σ=> ?_
 repeat'(first|exact .nil|refine .k0 ?_|refine .k1 ?_|refine .k2 ?_|refine .k6 ?_|refine .r1 ?_ ?_|fail)
 all_goals(try simp only[BL]at *)
 refine aH (fun n rg af=>∃ i:Nat,i≤l.length∧n=l.length-i∧af=σ∧rg=[(0,.sl false 2 (l.map ar.cells)),(3,cS (oZ (l.take i))),(4,iv i)]) l.length rfl ⟨_,_,Zr,Zs,0,Z1 _,rfl,rfl,rfl⟩ ?_
 rintro n _ _ ⟨i,hi,hn,rfl,rfl⟩
 have fy:=fun(h:i<l.length)=>agM (l:=l) h
 have Mw:(oZ (l.take i)).length≤8:=by have:=O4 (l.take i);rw[Z4]at this;omega
 have nf:i=l.length→oZ (l.take i)=fQ (l.map ar.name):=fun h=>by rw[h,Yu,O3]
 generalize oZ (l.take i)=N at *
 repeat'(first|exact .nil|refine .k0 ?_|refine .k1 ?_|refine .k2 ?_|refine .k6 ?_|refine .k7 ?_|refine .k8 ?_|refine .k9 ?_|(refine .cd ?_ ?_<;>(intro hc;skip))|refine .r1 ?_ ?_|(refine .m2 ?_ ?_;intro hlen)|fail)
 all_goals(try simp only[BL]at *)
 rotate_left
 ·rw[nf (by omega)];exact Zw
 have bp:i<l.length:=by omega
 have fy:=fy bp
 clear nf
 generalize hs:(l.getD i default).name=s at *
 rename Store=>σ
 refine aH (fun m rg af=>∃ k:Nat,k≤N.length∧m=N.length-k∧(∀ j,j<k→ct (N.getD j default) s=true)∧af=σ∧rg=[(0,.sl false 2 (l.map ar.cells)),(3,cS N),(4,iv i),(5,iv k)]) N.length rfl ⟨_,_,Zr,Zs,0,Z1 _,rfl,fun j hj=>absurd hj (by omega),rfl,rfl⟩ ?_
 rintro m _ _ ⟨k,hk,hm,hp,rfl,rfl⟩
 repeat'((fail_if_success (show VX _ _ (⟨some 51,_,_⟩::_) _ _ _ _));(first|exact .nil|refine .k0 ?_|refine .k1 ?_|refine .k2 ?_|refine .k3 ?_|refine .k4 ?_|refine .k5 ?_|refine .k6 ?_|refine .k8 ?_|refine .k9 ?_|(refine .cd ?_ ?_<;>(intro hc;skip))|refine .r1 ?_ ?_|refine .t1 ?_ ?_ ?_|refine .t2 ?_ ?_ ?_|refine .r2 ?_ ?_|fail))
 try any_goals((intro aq;first|(simp_all;done)|fail))
 all_goals(try simp only[BL]at *)
 all_goals try rw[hs]at hc
 ·exact⟨N.length-(k+1),by omega,_,_,Zr,Zs,k+1,by omega,rfl,dp hp hc.2,rfl,by rw[aO (n:=N.length) (by omega) (by unfold maxLen;omega)]⟩
 all_goals have yS:=Ie hk hp (fun hk h=>by rename_i h1;first|(rcases h1 with h1|h1;exact h1 (by omega);unfold ct at h;rw[← hs]at h;rw[h1]at h;cases h)|fail)
 ·have e:=zX N s
  rw[yS,Z3 ⟨by omega,hc.2⟩]at e
  exact⟨l.length-(i+1),by omega,_,_,Zr,Zs,i+1,by omega,rfl,rfl,by rw[fy,e,aO (n:=l.length) (by omega) (by assumption)]⟩
 ·have e:=zX N s
  rw[yS,Z6 (by rintro⟨h1,h2⟩;rcases hc with h|h;exact h (by omega);exact h h2)]at e
  by_cases h0:k=0
  ·subst h0
   refine Eo rfl rfl OB.nil (by rfl) ?_
   repeat'(first|exact .nil|refine .k0 ?_|refine .k1 ?_|refine .k2 ?_|refine .r1 ?_ ?_|refine .t1 ?_ ?_ ?_|refine .t3 ?_ ?_ ?_|refine .u1 ?_ ?_ ?_ (fun b u c=> ?_)|refine .u2 ?_ ?_ ?_ (fun b u c=> ?_)|fail)
   try any_goals((intro aq;first|(simp_all;done)|fail))
   all_goals(try simp only[BL]at *)
   all_goals try(show(_:Nat)≤_;simp only[Z9,Z7,Z4,X9,Z8,Z5];omega)
   ·exact Dw _
   ·have e2:[[AV.v (.string s)]]++(N.drop 0).map cq=(cZ N s).map cq:=by rw[e];simp[cq]
    rw[hs,e2,aO (n:=l.length) (by omega) (by assumption)]
    exact⟨l.length-(i+1),by omega,[(0,.sl false 2 (l.map ar.cells)),(3,cS (cZ N s)),(4,iv ((i+1:Nat):Int))],_,Zr,Zs,i+1,by omega,rfl,rfl,by rw[fy]⟩
  ·repeat'(first|exact .nil|refine .k0 ?_|refine .k1 ?_|refine .k2 ?_|refine .r1 ?_ ?_|refine .t1 ?_ ?_ ?_|refine .t3 ?_ ?_ ?_|refine .u1 ?_ ?_ ?_ (fun b u c=> ?_)|refine .u2 ?_ ?_ ?_ (fun b u c=> ?_)|(show List.all _ _=true;rfl)|fail)
   try any_goals((intro aq;first|(simp_all;done)|fail))
   all_goals(try simp only[BL]at *)
   all_goals try(show(_:Nat)≤_;simp only[Z9,Z7,Z4,X9,Z8,Z5];omega)
   ·exact Dw _
   ·have e2:(N.take k).map cq++[[AV.v (.string s)]]++(N.drop k).map cq=(cZ N s).map cq:=by rw[e];simp[cq]
    rw[hs,e2,aO (n:=l.length) (by omega) (by assumption)]
    exact⟨l.length-(i+1),by omega,[(0,.sl false 2 (l.map ar.cells)),(3,cS (cZ N s)),(4,iv ((i+1:Nat):Int))],_,Zr,Zs,i+1,by omega,rfl,rfl,by rw[fy]⟩
theorem abh{l:List ar}{s:ae}{i:Nat}(h:i<l.length):bQ (l.take (i+1)) s=bQ (l.take i) s+if(l.getD i default).name=s then(l.getD i default).exp else 0:=by
 unfold bQ
 rw[ZV h,← getD_eq h,XF,Zz,List.sum_append]
 generalize l.getD i default=f
 by_cases h2:f.name=s
 ·simp[h2]
 ·simp[h2]
abbrev x5(n:Int):AV:= .aE [iv (if n>8∨n< -8 then 0 else n),.v (.bool (decide ¬(n>8∨n< -8)))]
theorem abj(l:List ar)(s:ae)(hb:∀ f∈l, -8≤f.exp∧f.exp≤8)(hl:l.length≤8):Pure prog 254 [.sl false 2 (l.map ar.cells),sv s] (x5 (bQ l s)):=by
 have h0:=C3 (n:=0) (by omega)
 have hD: -1000≤bQ l s∧bQ l s≤1000:=by
  have h1:=vj s l hb
  omega
 refine afD.p fun σ=> ?_
 repeat'(first|exact .nil|refine .k0 ?_|refine .k1 ?_|refine .k2 ?_|refine .k6 ?_|refine .r1 ?_ ?_|(refine .l1 ?_;intro b)|refine .an rfl (by intro aq;first|exact h0|fail) ?_ ?_|fail)
 all_goals(try simp only[BL]at *)
 refine aH (fun m rg af=>∃ i:Nat,i≤l.length∧m=l.length-i∧af=(6,b,.cells [iv (eo (bQ (l.take i) s)),.v (.int .u64 (dz (bQ (l.take i) s)))])::σ∧rg=[(0,.sl false 2 (l.map ar.cells)),(1,sv s),(6,.lp 6 b 0),(7,iv i)]) l.length rfl ⟨_,_,Zr,Zs,0,Z1 _,rfl,rfl,rfl⟩ ?_
 rintro m _ _ ⟨i,hi,hm,rfl,rfl⟩
 have s8:i<l.length→-1000≤(l.getD i default).exp∧(l.getD i default).exp≤1000:=fun h=>by
  have:=hb _ (bu h);omega
 have yi:i<l.length→-1000≤bQ (l.take i) s∧bQ (l.take i) s≤1000:=fun _=>by
  have h1:=vj s (l.take i) fun f hf=>hb f (YZ hf)
  rw[Z4]at h1
  omega
 have BO:i<l.length→-1000≤bQ (l.take i) s+(l.getD i default).exp∧bQ (l.take i) s+(l.getD i default).exp≤1000:=fun h=>by
  have h1:=vj s (l.take i) fun f hf=>hb f (YZ hf)
  have:=hb _ (bu h)
  rw[Z4]at h1
  omega
 have fy:=fun h:i<l.length=>abh (s:=s) h
 have nf:i=l.length→bQ (l.take i) s=bQ l s:=fun h=>by rw[h,Yu]
 repeat'(first|exact .nil|refine .k0 ?_|refine .k1 ?_|refine .k2 ?_|refine .k3 ?_|refine .k6 ?_|refine .k8 ?_|refine .k9 ?_|(refine .cd ?_ ?_<;>(intro hc;skip))|refine .r1 ?_ ?_|(refine .m2 ?_ ?_;intro hlen)|refine .t1 ?_ ?_ ?_|refine .an rfl (by intro aq;first|exact C3 (s8 (by(simp only[BL]at *;omega)))|exact Wg (yi (by(simp only[BL]at *;omega))) (s8 (by(simp only[BL]at *;omega))) (BO (by(simp only[BL]at *;omega)))|fail) ?_ ?_|fail)
 try any_goals((intro aq;first|(simp_all;done)|fail))
 all_goals(try simp only[BL]at *)
 ·rw[show bQ (l.take i) s+(l.getD i default).exp=bQ (l.take (i+1)) s by rw[fy (by omega),Z3 hc]]
  exact⟨l.length-(i+1),by omega,_,_,Zr,Zs,i+1,by omega,rfl,rfl,by rw[aO (n:=l.length) (by omega) (by assumption)]⟩
 ·rw[show bQ (l.take i) s=bQ (l.take (i+1)) s by rw[fy (by omega),Z6 hc,Int.add_zero]]
  exact⟨l.length-(i+1),by omega,_,_,Zr,Zs,i+1,by omega,rfl,rfl,by rw[aO (n:=l.length) (by omega) (by assumption)]⟩
 ·rw[nf (by omega)]
  refine .an rfl (fun _=>aaX hD) .nil ?_
  clear fy nf BO s8 yi
  obtain⟨v,hv⟩:∃ v,bQ l s=v:=⟨_,rfl⟩
  rw[hv]
  rw[hv]at hD
  repeat'(first|exact .nil|refine .k0 ?_|refine .k1 ?_|refine .k2 ?_|refine .k7 ?_|refine .k9 ?_|(refine .cd ?_ ?_<;>(intro hc;skip))|refine .r1 ?_ ?_|refine .an rfl (by intro aq;exact LH _) ?_ ?_|fail)
  all_goals(try simp only[BL]at *)
  ·rw[show x5 v= .aE [iv 0,.v (.bool false)] by unfold x5;rw[Z3 (by omega),ZA (by omega)]]
   exact Zw
  ·rw[show x5 v= .aE [iv v,.v (.bool true)] by unfold x5;rw[Z6 (by omega),Zd (by omega)]]
   exact Zw
theorem agS(l:List ar)(hw:∀ f∈l,Word f.name)(hb:∀ f∈l, -8≤f.exp∧f.exp≤8)(hl:l.length≤8):Pure prog 248 [.sl false 2 (l.map ar.cells)] (qy (qj l)):=by
 refine afy.p fun σ=> ?_
 repeat'(first|exact .nil|refine .k0 ?_|refine .k1 ?_|refine .k2 ?_|refine .k6 ?_|refine .r1 ?_ ?_|fail)
 all_goals(try simp only[BL]at *)
 refine aH (fun m rg af=>∃ i:Nat,i≤l.length∧m=l.length-i∧af=σ∧rg=[(0,.sl false 2 (l.map ar.cells)),(4,iv i)]) l.length rfl ⟨_,_,Zr,Zs,0,Z1 _,rfl,rfl,rfl⟩ ?_
 rintro m _ _ ⟨i,hi,hm,rfl,rfl⟩
 repeat'(first|exact .nil|refine .k0 ?_|refine .k1 ?_|refine .k2 ?_|refine .k6 ?_|refine .k7 ?_|refine .k8 ?_|refine .k9 ?_|(refine .cd ?_ ?_<;>(intro hc;skip))|refine .r1 ?_ ?_|(refine .m2 ?_ ?_;intro hlen)|refine .t1 ?_ ?_ ?_|refine .an rfl (by intro aq;first|exact R1 _|exact O1 l hl|fail) ?_ ?_|fail)
 try any_goals((intro aq;first|(simp_all;done)|fail))
 all_goals(try simp only[BL]at *)
 ·exact absurd (hw _ (bu (by omega))) hc
 ·exact⟨l.length-(i+1),by omega,_,_,Zr,Zs,i+1,by omega,rfl,rfl,by rw[aO (n:=l.length) (by omega) (by assumption)]⟩
 have tc:qj l=if∃ n∈fQ (l.map ar.name),bQ l n>8∨bQ l n< -8 then([],70)else if(mn l (fQ (l.map ar.name))).length>4 then([],2)else(mn l (fQ (l.map ar.name)),0):=rfl
 have Mw:(fQ (l.map ar.name)).length≤8:=by rw[← O3];have:=O4 l;omega
 generalize fQ (l.map ar.name)=N at *
 rename Store=>σ
 refine aH (fun m rg af=>∃ (i:Nat) (x:AV) (τ:Store),i≤N.length∧m=N.length-i∧(∀ n∈N.take i,¬(bQ l n>8∨bQ l n< -8))∧eK 54 ((mn l (N.take i)).map ar.cells) x τ∧af=τ++σ∧rg=[(0,.sl false 2 (l.map ar.cells)),(6,cS N),(7,x),(8,iv i)]) N.length rfl ⟨_,_,Zr,Zs,0,_,_,Z1 _,rfl,(fun n h=>by cases h),eK.z,rfl,rfl⟩ ?_
 rintro m2 _ _ ⟨i,x,τ,hi,hm,hP,hR,rfl,rfl⟩
 have yD:(mn l (N.take i)).length≤8:=ZJ (LC _ _) (by rw[Z4];omega)
 have fy:=fun(h:i<N.length)=>LD (l:=l) h
 have yk:i<N.length→¬(bQ l (N.getD i default)>8∨bQ l (N.getD i default)< -8)→∀ n∈N.take (i+1),¬(bQ l n>8∨bQ l n< -8):=fun h h1 n hn=>by
  rw[ZV h,← getD_eq h,ZI,Zq]at hn
  rcases hn with hn|rfl
  ·exact hP n hn
  ·exact h1
 rcases hR with⟨hE,rfl,rfl⟩|⟨b3,u3,c3,rfl,rfl⟩
 all_goals
  repeat'(first|exact .nil|refine .k0 ?_|refine .k1 ?_|refine .k2 ?_|refine .k6 ?_|refine .k7 ?_|refine .k8 ?_|refine .k9 ?_|(refine .cd ?_ ?_<;>(intro hc;skip))|refine .r1 ?_ ?_|(refine .m2 ?_ ?_;intro hlen)|refine .t1 ?_ ?_ ?_|refine .u1 ?_ ?_ ?_ (fun b u c=> ?_)|refine .u2 ?_ ?_ ?_ (fun b u c=> ?_)|refine .an rfl (by intro aq;first|exact O1 l hl|exact abj l _ hb hl) ?_ ?_|refine .r8 ?_ ?_|(show List.all _ _=true;rfl)|fail)
  try any_goals((intro aq;first|(simp_all;done)|fail))
  all_goals(try simp only[BL]at *)
  ·rw[tc,Z3 ⟨N.getD i default,bu (by omega),Classical.not_not.1 hc⟩]
   refine Sx.Fin.wk Zs (.aE (.cons .nil (.cons (.refl _) .nil)))
  ·show _≤1000000;simp only[Z8,Z5];omega
  ·show _ * _≤_;simp only[Z7,Z8,Z5];omega
  ·have np:¬(bQ l (N.getD i default)>8∨bQ l (N.getD i default)< -8):=by assumption
   rw[Z6 np]at hc ⊢
   refine⟨m2-1,by omega,_,_,Zr,Zs,i+1,_,_,by omega,by omega,yk (by omega) np,eK.s ?_,rfl,by rw[aO (n:=N.length) (by omega) (by unfold maxLen;omega)]⟩
   rw[fy (by omega),Z3 hc,Zz]
   first|(rw[hE];rfl)|rfl
  ·have np:¬(bQ l (N.getD i default)>8∨bQ l (N.getD i default)< -8):=by assumption
   rw[Z6 np]at hc
   refine⟨m2-1,by omega,_,_,Zr,Zs,i+1,_,_,by omega,by omega,yk (by omega) np,?_,rfl,by rw[aO (n:=N.length) (by omega) (by unfold maxLen;omega)]⟩
   rw[fy (by omega),Z6 (by rw[hc];simp),Zb]
   first|exact eK.n hE|exact eK.s rfl
  ·have fi:N.take i=N:=ZU (by omega)
   rw[fi]at hP
   try rw[fi]at hE
   try rw[fi]at hc
   try rw[fi]
   rw[tc,Z6 (by rintro⟨n,hn,cx⟩;exact hP n hn cx)]
   first
    |exact absurd hc (by decide)
    |(rw[Z3 (by omega)];refine Sx.Fin.wk Zs (.aE (.cons .nil (.cons (.refl _) .nil))))
  ·have fi:N.take i=N:=ZU (by omega)
   rw[fi]at hP
   try rw[fi]at hE
   try rw[fi]at hc
   try rw[fi]
   rw[tc,Z6 (by rintro⟨n,hn,cx⟩;exact hP n hn cx)]
   first
    |(rw[Ym.1 hE,Z6 (by decide)];refine Sx.Fin.wk Zs (.aE (.cons .nil (.cons (.refl _) .nil)));done)
    |(rw[Z6 (by omega)];(refine Sx.Fin.wk Zs ?_;repeat' first|exact .refl _|refine .cons ?_ ?_|refine .aE ?_|exact .own _))
theorem adM(q:List ar)(hb:∀ f∈q, -8≤f.exp∧f.exp≤8)(hl:q.length≤8):Pure prog 249 [.sl false 2 (q.map ar.cells)] (.sl false 2 ((q.map (fA (-1))).map ar.cells)):=by
 refine afz.p fun σ=> ?_
 repeat'(first|exact .nil|refine .k0 ?_|refine .k1 ?_|refine .k2 ?_|refine .k6 ?_|refine .r1 ?_ ?_|fail)
 all_goals(try simp only[BL]at *)
 refine aH (fun m rg af=>∃ (i:Nat) (x:AV) (τ:Store),i≤q.length∧m=q.length-i∧eK 25 (((q.map (fA (-1))).take i).map ar.cells) x τ∧af=τ++σ∧rg=[(0,.sl false 2 (q.map ar.cells)),(3,x),(4,iv i)]) q.length rfl ⟨_,_,Zr,Zs,0,_,_,Z1 _,rfl,eK.z,rfl,rfl⟩ ?_
 rintro m _ _ ⟨i,x,τ,hi,hm,hR,rfl,rfl⟩
 rcases hR with⟨hE,rfl,rfl⟩|⟨b3,u3,c3,rfl,rfl⟩
 all_goals
  repeat'(first|exact .nil|refine .k0 ?_|refine .k1 ?_|refine .k2 ?_|refine .k4 ?_|refine .k6 ?_|refine .k7 ?_|refine .k8 ?_|refine .k9 ?_|(refine .cd ?_ ?_<;>(intro hc;skip))|refine .r1 ?_ ?_|(refine .m2 ?_ ?_;intro hlen)|refine .t1 ?_ ?_ ?_|refine .u1 ?_ ?_ ?_ (fun b u c=> ?_)|refine .u2 ?_ ?_ ?_ (fun b u c=> ?_)|(show List.all _ _=true;rfl)|fail)
  try any_goals((intro aq;first|(simp_all;done)|fail))
  all_goals(try simp only[BL]at *)
  all_goals try(show(_:Nat)≤_;simp only[Z7,Z4,Z8,Z5];omega)
  ·have cP:=hb _ (bu (l:=q) (i:=i) (by omega))
   rw[show IntKind.i64.wrap (0-(q.getD i default).exp)= -1 * (q.getD i default).exp by rw[aM (by omega)];omega]
   refine⟨m-1,by omega,_,_,Zr,Zs,i+1,_,_,by omega,by omega,eK.s ?_,rfl,by rw[aO (n:=q.length) (by omega) (by assumption)]⟩
   have bp:i<q.length:=by omega
   rw[show(q.map (fA (-1))).take (i+1)=(q.map (fA (-1))).take i++[fA (-1) (q.getD i default)] by rw[ZV (by rw[Z7];exact bp),ZF,← getD_eq bp],Zz]
   first|(rw[hE];rfl)|rfl
  ·have ry:(q.map (fA (-1))).take i=q.map (fA (-1)):=ZU (by rw[Z7];omega)
   first
    |(rw[show(q.map (fA (-1))).map ar.cells=[] by rw[← ry];exact hE];(refine Sx.Fin.wk Zs ?_;repeat' first|exact .nil|fail);done)
    |(rw[ry];(refine Sx.Fin.wk Zs ?_;repeat' exact .own _);done)
theorem aM3{a:List ar}(h:a=[]):Wk dM (.sl false 2 (a.map ar.cells)):=by rw[h];exact .nil
theorem Q6:ob:=by
 intro a d
 refine afq.p fun σ=> ?_
 repeat'((fail_if_success (show WK _ _ _ _ (.eZ Qg) _ _ _));(first|exact .nil|refine .k0 ?_|refine .k1 ?_|refine .k2 ?_|refine .k7 ?_|refine .k9 ?_|(refine .cd ?_ ?_<;>(intro hc;skip))|refine .r1 ?_ ?_|refine .an rfl (by intro aq;exact I6 _) ?_ ?_|fail))
 all_goals(try simp only[BL]at *)
 ·rw[show eA a d 1=([],dk a)from Z3 hc]
  refine Sx.Fin.wk Zs (.aE (.cons .nil (.cons (.refl _) .nil)))
 ·have ha:dk a=0:=by assumption
  rw[show eA a d 1=([],dk d)from by unfold eA;rw[Z6 (by rw[ha];simp),Z3 hc]]
  refine Sx.Fin.wk Zs (.aE (.cons .nil (.cons (.refl _) .nil)))
 have ha:dk a=0:=by assumption
 have hb:dk d=0:=by assumption
 have hP:eA a d 1=qj (a++d):=by
  unfold eA;rw[Z6 (by rw[ha];simp),Z6 (by rw[hb];simp)]
  congr 2
  refine(List.map_congr_left fun f _=> ?_).trans (List.map_id d)
  show(⟨f.name,1 * f.exp⟩:ar)=f
  rw[Int.one_mul]
 obtain⟨yq,oz⟩:=xa ha
 obtain⟨cP,cx⟩:=xa hb
 have hN:=agS (a++d) (fun f hf=>by rcases ZI.1 hf with hf|hf;exact(oz f hf).1;exact(cx f hf).1) (fun f hf=>by rcases ZI.1 hf with hf|hf;exact(oz f hf).2;exact(cx f hf).2) (by rw[Z9];omega)
 rw[hP]
 clear hP hc ha hb
 repeat'((fail_if_success (show VX _ _ (⟨some 20,_,_⟩::_) _ _ _ _));(first|exact .nil|refine .k2 ?_|refine .r1 ?_ ?_|fail))
 by_cases h1:a=[]
 ·refine Eo rfl rfl OB.nil (by rw[h1];rfl) ?_
  repeat'((fail_if_success (show VX _ _ (⟨some 22,_,_⟩::_) _ _ _ _));(first|exact .nil|refine .r1 ?_ ?_|fail))
  by_cases h2:d=[]
  ·refine Eo rfl rfl OB.nil (by rw[h2];rfl) ?_
   repeat'(first|exact .nil|refine .k0 ?_|refine .k1 ?_|refine .k2 ?_|refine .r1 ?_ ?_|fail)
   refine .an rfl (fun _=>hN.wk (.cons (aM3 (by rw[h1,h2];rfl)) .nil)) .nil ?_
   repeat'(first|exact .nil|refine .k0 ?_|refine .k1 ?_|refine .k7 ?_|refine .r1 ?_ ?_|fail)
   exact Zw
  ·repeat'(first|exact .nil|refine .k0 ?_|refine .k1 ?_|refine .k2 ?_|refine .r1 ?_ ?_|refine .u1 ?_ ?_ ?_ (fun b u c=> ?_)|fail)
   try any_goals((intro aq;first|(simp_all;done)|fail))
   all_goals(try simp only[BL]at *)
   all_goals try(show(_:Nat)≤_;simp only[Z7];omega)
   rw[h1,Y0]at hN ⊢
   refine .an rfl (fun _=>hN.wk (.cons (.own _) .nil)) .nil ?_
   repeat'(first|exact .nil|refine .k0 ?_|refine .k1 ?_|refine .k7 ?_|refine .r1 ?_ ?_|fail)
   exact Zw
 ·repeat'(first|exact .nil|refine .k0 ?_|refine .k1 ?_|refine .k2 ?_|refine .r1 ?_ ?_|refine .u1 ?_ ?_ ?_ (fun b u c=> ?_)|refine .u2 ?_ ?_ ?_ (fun b u c=> ?_)|fail)
  try any_goals((intro aq;first|(simp_all;done)|fail))
  all_goals(try simp only[BL]at *)
  all_goals try(show(_:Nat)≤_;simp only[Z7];omega)
  ·rw[List.all_map,Zx];intro y _;rfl
  rw[← Zz]
  refine .an rfl (fun _=>hN.wk (.cons (.own _) .nil)) .nil ?_
  repeat'(first|exact .nil|refine .k0 ?_|refine .k1 ?_|refine .k7 ?_|refine .r1 ?_ ?_|fail)
  exact Zw
theorem adJ(q:List ar):dk (q.map (fA (-1)))=dk q:=by
 have key:∀ (l:List ar) (p:Option ae),gq p (l.map (fA (-1)))=gq p l:=by
  intro l
  induction l with
  |nil=>intro p;rfl
  |cons f l ih=>
   intro p
   have e:ie p (fA (-1) f)=ie p f:=by
    unfold ie
    show(if¬Word f.name then 1 else if -1 * f.exp=0∨-1 * f.exp>8∨-1 * f.exp< -8 then 70 else _)=_
    have e2:(-1 * f.exp=0∨-1 * f.exp>8∨-1 * f.exp< -8)↔(f.exp=0∨f.exp>8∨f.exp< -8):=by omega
    simp only[e2];rfl
   rw[ZC,gq,gq,e,ih];rfl
 unfold dk
 rw[Z7,key]
theorem ahg:oa:=by
 intro a d
 have hb:=fun h:dk d=0=>fun f hf=>((xa h).2 f hf).2
 have hl:=fun h:dk d=0=>ZJ (xa h).1 (by decide:4≤8)
 refine afr.p fun σ=> ?_
 repeat'(first|exact .nil|refine .k0 ?_|refine .k1 ?_|refine .k2 ?_|refine .k7 ?_|refine .k9 ?_|(refine .cd ?_ ?_<;>(intro hc;skip))|refine .r1 ?_ ?_|refine .an rfl (by intro aq;first|exact I6 _|exact adM _ (hb (by(simp only[BL]at *;omega))) (hl (by(simp only[BL]at *;omega)))|exact Q6 _ _) ?_ ?_|fail)
 all_goals(try simp only[BL]at *)
 ·rw[show eA a d (-1)=([],dk a)from Z3 hc]
  refine Sx.Fin.wk Zs (.aE (.cons .nil (.cons (.refl _) .nil)))
 ·have ha:dk a=0:=by assumption
  rw[show eA a d (-1)=([],dk d)from by unfold eA;rw[Z6 (by rw[ha];simp),Z3 hc]]
  refine Sx.Fin.wk Zs (.aE (.cons .nil (.cons (.refl _) .nil)))
 ·have ha:dk a=0:=by assumption
  rw[show eA a d (-1)=eA a (d.map (fA (-1))) 1 from by
   unfold eA
   rw[adJ]
   simp only[ha,hc,ne_eq,not_true_eq_false,Za,Yk]
   congr 2
   refine List.map_congr_left fun f _=> ?_
   show(⟨f.name, -1 * f.exp⟩:ar)=⟨f.name,1 * (-1 * f.exp)⟩
   rw[Int.one_mul]]
  exact Zw
end Go.Proofs.YtomhopcnkicknaaGreatDoor
