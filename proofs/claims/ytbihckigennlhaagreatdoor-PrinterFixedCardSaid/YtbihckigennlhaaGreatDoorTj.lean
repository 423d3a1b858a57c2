/- Sources one after the other: the items of both (plain). -/
import Derived.Test.YtbihckigennlhaaGreatDoorTg
import Derived.Test.YtbihckigennlhaaGreatDoorUc
set_option linter.unusedVariables false
set_option linter.unusedSimpArgs false
namespace Go.Proofs.YtbihckigennlhaaGreatDoor
open Go.Sx Go.Proofs
theorem pU(n:Nat)(at_ st:Int){s:Bs}(hs:s≠[]):cJ (n+1) at_ st s=
  if(aJ s).1= -1 then((cJ n (at_+1) at_ (s.drop 1)).1,if st≠at_-1∨at_=0 then⟨at_,(aJ s).2.2⟩::(cJ n (at_+1) at_ (s.drop 1)).2 else(cJ n (at_+1) at_ (s.drop 1)).2)
  else if(aJ s).2.2≠0 then((cJ n (at_+(aJ s).2.1) st (s.drop (aJ s).2.1)).1,⟨at_,(aJ s).2.2⟩::(cJ n (at_+(aJ s).2.1) st (s.drop (aJ s).2.1)).2)
  else if(aJ s).1=4 then(⟨4,⟨((s.take ((aJ s).2.1-1)).drop 1).toArray⟩,at_⟩::(cJ n (at_+(aJ s).2.1) st (s.drop (aJ s).2.1)).1,(cJ n (at_+(aJ s).2.1) st (s.drop (aJ s).2.1)).2)
  else if(aJ s).1≠0 then(⟨(aJ s).1,⟨(s.take (aJ s).2.1).toArray⟩,at_⟩::(cJ n (at_+(aJ s).2.1) st (s.drop (aJ s).2.1)).1,(cJ n (at_+(aJ s).2.1) st (s.drop (aJ s).2.1)).2)
  else cJ n (at_+(aJ s).2.1) st (s.drop (aJ s).2.1):=by
 rw[cJ,if_neg hs]
section
variable {R:List Tok→List Tok→Prop}{D:List Tok→Prop}{φ:Int→Int}{DE:Int→Prop}
end
theorem rY:∀ (n:Nat) (at_ st:Int) (s:Bs),bF (cJ n at_ st s).1
 |0,at_,st,s=>⟨[],_,rfl,rfl⟩
 |n+1,at_,st,s=>by
  by_cases hs:s=[]
  ·subst hs;rw[lex_nil];exact⟨[],_,rfl,rfl⟩
  have key:∀ (t:Tok) {L:List Tok},bF L→bF (t::L):=fun t L ⟨M,e,h1,h2⟩=>⟨t::M,e,by rw[h1];rfl,h2⟩
  rw[pU _ _ _ hs]
  split
  ·exact rY n _ _ _
  split
  ·exact rY n _ _ _
  split
  ·exact key _ (rY n _ _ _)
  split
  ·exact key _ (rY n _ _ _)
  ·exact rY n _ _ _
theorem DV:∀ (n:Nat) (at_ st:Int) (s:Bs),(cJ n at_ st s).1.length≤n+1
 |0,at_,st,s=>by simp[cJ]
 |n+1,at_,st,s=>by
  by_cases hs:s=[]
  ·subst hs;rw[lex_nil];simp
  rw[pU _ _ _ hs]
  have h1:=DV n (at_+1) at_ (s.drop 1)
  have h2:=DV n (at_+(aJ s).2.1) st (s.drop (aJ s).2.1)
  split
  ·simp only;omega
  split
  ·simp only;omega
  split
  ·simp only[Z8];omega
  split
  ·simp only[Z8];omega
  ·omega
theorem PR.bind_congr{α β:Type}{r:PR α}{g g':α→List Tok→PR β}(h:∀ a L,r= .ok a L→g a L=g' a L):r.bind g=r.bind g':=by
 cases r with
 |ok a L=>exact h a L rfl
 |err p c=>rfl
structure N3(n m:Nat):Prop where
 expr:∀ i L,bF L→8 * L.length+7≤n→8 * L.length+7≤m→bj n i L=bj m i L
 iP:∀ i x L,bF L→8 * L.length+7≤n→8 * L.length+7≤m→dq n i x L=dq m i x L
 bin:∀ l i L,bF L→8 * L.length+6≤n→8 * L.length+6≤m→dm n l i L=dm m l i L
 ops:∀ l o i x L,bF L→8 * L.length+7≤n→8 * L.length+7≤m→dt n l o i x L=dt m l o i x L
 operand:∀ l i L,bF L→8 * L.length+5≤n→8 * L.length+5≤m→dK n l i L=dK m l i L
 jZ:∀ i L,bF L→8 * L.length+4≤n→8 * L.length+4≤m→ej n i L=ej m i L
 group:∀ i L,bF L→8 * L.length+3≤n→8 * L.length+3≤m→dy n i L=dy m i L
 word:∀ i L,bF L→(hd L).kind≠6→8 * L.length+3≤n→8 * L.length+3≤m→ey n i L=ey m i L
 agg:∀ o L,bF L→8 * L.length+3≤n→8 * L.length+3≤m→fh n o L=fh m o L
theorem jq:∀ n m,N3 n m
 |0,m=>⟨fun _ _ _ h=>by omega,fun _ _ _ _ h=>by omega,fun _ _ _ _ h=>by omega,fun _ _ _ _ _ _ h=>by omega,fun _ _ _ _ h=>by omega,fun _ _ _ h=>by omega,fun _ _ _ h=>by omega,fun _ _ _ _ h=>by omega,fun _ _ _ h=>by omega⟩
 |n+1,0=>⟨fun _ _ _ _ h=>by omega,fun _ _ _ _ _ h=>by omega,fun _ _ _ _ _ h=>by omega,fun _ _ _ _ _ _ _ h=>by omega,fun _ _ _ _ _ h=>by omega,fun _ _ _ _ h=>by omega,fun _ _ _ _ h=>by omega,fun _ _ _ _ _ h=>by omega,fun _ _ _ _ h=>by omega⟩
 |n+1,m+1=>by
  have ih:=jq n m
  have P:=jz m
  have bK:∀ {k:Int} {s:ag} (hk:k≠6) {L L1:List Tok},bF L→iV k s L= .ok () L1→bF L1∧L1.length+1≤L.length:=fun {k s} hk {L L1} h e=>((Pos.bK hk) L h).ok () L1 e |>.2
  refine⟨fun i L h h1 h2=> ?_,fun i x L h h1 h2=> ?_,fun l i L h h1 h2=> ?_,fun l o i x L h h1 h2=> ?_,fun l i L h h1 h2=> ?_,fun i L h h1 h2=> ?_,fun i L h h1 h2=> ?_,fun i L h hk h1 h2=> ?_,fun o L h h1 h2=> ?_⟩
  ·rw[bj,bj]
   by_cases hs:ar 1 ew L=true
   ·rw[if_pos hs,if_pos hs]
    obtain⟨t1,t2⟩:=h.tail (bJ (k:=1) (by decide) L hs)
    rw[ih.expr i L.tail t1 (by omega) (by omega)]
    refine PR.bind_congr fun a L1 e1=>PR.bind_congr fun _ L2 e2=> ?_
    have p1:=(P.expr i L.tail t1).ok a L1 e1
    have p2:=bK (by decide) p1.2.1 e2
    rw[ih.expr i L2 p2.1 (by omega) (by omega)]
    refine PR.bind_congr fun b L3 e3=>PR.bind_congr fun _ L4 e4=> ?_
    have p3:=(P.expr i L2 p2.1).ok b L3 e3
    have p4:=bK (by decide) p3.2.1 e4
    rw[ih.expr i L4 p4.1 (by omega) (by omega)]
   ·rw[if_neg hs,if_neg hs,ih.bin 1 i L h (by omega) (by omega)]
    refine PR.bind_congr fun x L1 e1=> ?_
    have p1:=(P.bin 1 i L h).ok x L1 e1
    exact ih.iP i x L1 p1.2.1 (by omega) (by omega)
  ·rw[dq,dq]
   by_cases hs:ar 1 fB L=true
   ·rw[if_pos hs,if_pos hs]
    obtain⟨t1,t2⟩:=h.tail (bJ (k:=1) (by decide) L hs)
    rw[ih.bin 1 i L.tail t1 (by omega) (by omega)]
    refine PR.bind_congr fun y L1 e1=> ?_
    have p1:=(P.bin 1 i L.tail t1).ok y L1 e1
    exact ih.iP i _ L1 p1.2.1 (by omega) (by omega)
   ·rw[if_neg hs,if_neg hs]
  ·rw[dm,dm,ih.operand l i L h (by omega) (by omega)]
   refine PR.bind_congr fun x L1 e1=> ?_
   have p1:=(P.operand l i L h).ok x L1 e1
   exact ih.ops l _ i x L1 p1.2.1 (by omega) (by omega)
  ·rw[dt,dt]
   by_cases hs:aY L≥l∧aY L≠0∧aY L≤o
   ·rw[if_pos hs,if_pos hs]
    obtain⟨t1,t2⟩:=h.tail (sk L hs.2.1)
    rw[ih.bin (aY L+1) i L.tail t1 (by omega) (by omega)]
    refine PR.bind_congr fun y L1 e1=> ?_
    have p1:=(P.bin (aY L+1) i L.tail t1).ok y L1 e1
    exact ih.ops l _ i _ L1 p1.2.1 (by omega) (by omega)
   ·rw[if_neg hs,if_neg hs]
  ·rw[dK,dK]
   by_cases hs:(decide (l≤3) && ar 1 cu L)=true
   ·rw[if_pos hs,if_pos hs]
    obtain⟨t1,t2⟩:=h.tail (bJ (k:=1) (by decide) L (Z3 _ _ ▸ hs).2)
    rw[ih.bin 3 i L.tail t1 (by omega) (by omega)]
   ·rw[if_neg hs,if_neg hs]
    by_cases dz:ar 5 (ch 45) L=true
    ·rw[if_pos dz,if_pos dz]
     obtain⟨t1,t2⟩:=h.tail (bJ (k:=5) (by decide) L dz)
     rw[ih.operand 7 i L.tail t1 (by omega) (by omega)]
    ·rw[if_neg dz,if_neg dz]
     exact ih.jZ i L h (by omega) (by omega)
  ·rw[ej,ej]
   by_cases k2:(hd L).kind=2
   ·rw[if_pos k2,if_pos k2]
   rw[if_neg k2,if_neg k2]
   by_cases k3:(hd L).kind=3
   ·rw[if_pos k3,if_pos k3]
   rw[if_neg k3,if_neg k3]
   by_cases k4:(hd L).kind=4
   ·rw[if_pos k4,if_pos k4]
   rw[if_neg k4,if_neg k4]
   by_cases k1:(hd L).kind=1
   ·rw[if_pos k1,if_pos k1];exact ih.word i L h (by rw[k1];decide) (by omega) (by omega)
   rw[if_neg k1,if_neg k1,ih.group i L h (by omega) (by omega)]
  ·rw[dy,dy]
   refine PR.bind_congr fun _ L1 e1=> ?_
   have p1:=bK (by decide) h e1
   rw[ih.expr i L1 p1.1 (by omega) (by omega)]
  ·rw[ey,ey]
   obtain⟨t1,t2⟩:=h.tail hk
   rw[ih.group i L.tail t1 (by omega) (by omega),ih.agg (hd L).text L.tail t1 (by omega) (by omega)]
   split
   ·rfl
   split
   ·rfl
   split
   ·rfl
   ·refine PR.bind_congr fun s L1 e1=> ?_
    have p1:=(Pos.name L h).ok s L1 e1
    by_cases hi:i=true
    ·rw[if_pos hi,if_pos hi]
    ·rw[if_neg hi,if_neg hi]
     by_cases hs:ar 1 fM L1=true
     ·rw[if_pos hs,if_pos hs]
      obtain⟨u1,u2⟩:=p1.2.1.tail (bJ (k:=1) (by decide) L1 hs)
      rw[ih.group i L1.tail u1 (by omega) (by omega)]
     ·rw[if_neg hs,if_neg hs]
  ·rw[fh,fh]
   refine PR.bind_congr fun _ L1 e1=>PR.bind_congr fun tb L2 e2=>PR.bind_congr fun _ L3 e3=> ?_
   have p1:=bK (by decide) h e1
   have p2:=(Pos.name L1 p1.1).ok tb L2 e2
   have p3:=bK (by decide) p2.2.1 e3
   rw[ih.expr true L3 p3.1 (by omega) (by omega)]
   refine PR.bind_congr fun a L5 e5=>PR.bind_congr fun p L7 e7=>PR.bind_congr fun w L8 e8=> ?_
   have q5:bF L5∧L5.length≤L3.length:=by
    have hp:=(Pos.ite (c:=fun _=>o≠sH) (Pos.bind (n:=0) (m:=0) ((P.expr true).le (by omega)) fun x=>Pos.map (g:=fun _=>x) ((Pos.bK (k:=5) (s:=ch 44) (by decide)).le (by omega))) (Pos.pure (ff 1))) L3 p3.1
    have:=hp.ok a L5 e5
    exact⟨this.2.1,by omega⟩
   have q7:bF L7∧L7.length≤L5.length:=by
    have hp:=(Pos.ite (c:=fun _=>o=oQ∨o=oP) (Pos.bind (n:=0) (m:=0) (Pos.num.le (by omega)) fun x=>Pos.map (g:=fun _=>x) ((Pos.bK (k:=5) (s:=ch 44) (by decide)).le (by omega))) (Pos.pure (0:Int))) L5 q5.1
    have:=hp.ok p L7 e7
    exact⟨this.2.1,by omega⟩
   have q8:=(Pos.vq L7 q7.1).ok w L8 e8
   by_cases hs:ar 1 eP L8=true
   ·rw[if_pos hs,if_pos hs]
    obtain⟨u1,u2⟩:=q8.2.1.tail (bJ (k:=1) (by decide) L8 hs)
    rw[ih.expr true L8.tail u1 (by omega) (by omega)]
   ·rw[if_neg hs,if_neg hs]
set_option linter.unusedSectionVars false
set_option maxRecDepth 100000
set_option maxHeartbeats 4000000
section
variable {cfg:Nat→Nat}{K:ae→Store→Prop}{E:List PanicEntry→Store→Prop}{σ τ:Store}{l:List CI}{d b b':Nat}{xr:XR}{ps:List Prop}{og:Option Bool}{g:Option (Nat×Bool)}{args:List Operand}{ys:List AV}{α:Type}{f:FuncId}{ins:Bool}{L:List Tok}{rest cs:List AV}{val:α→AV}{a:α}
theorem BB(h:ay xr g args=some (og,.lp 1000 b 0::ys,ps))(hp:bC f ys ins L (.ok a L) val)(hl:aK σ 1000=some (b',.cells cs))(hb:b=b')(hc:cs=aZ L ins++rest)(al:OB ps)(hu:ck σ 1000 b (.cells (aZ L ins++rest))=σ)
  (k:VX Tryz.prog cfg l K E (bE og d (val a) xr) σ):VX Tryz.prog cfg (⟨some d,.call f args,g⟩::l) K E xr σ:=by
 subst hc
 subst hb
 refine Gc (val a) h (fun _=>Spec.at (fun cL=>hp b rest cL) hl) al (fun hg x σ' ⟨cs',hR,e1⟩=> ?_) (fun ch σ' ⟨cs',hR,e1⟩=>absurd hR.2.1 (by nofun)) (fun _=>k)
 obtain⟨h1,h2,h3⟩:=hR
 cases h2;subst h3;subst e1
 rw[hu]
 constructor
 have:=k.h
 rw[eH hg]at this
 exact this
end
theorem Gj{x y:Ex}:Wk (.sl true 12 [x.row,y.row]) (.sl false 12 ([x,y].map Ex.cells)):=by
 rw[Ex.nR];exact .sl
theorem aa8{n l most:Nat}{i:Bool}{x:Ex}{L:List Tok}(hn:8 * L.length+7≤n)(h:¬(aY L≥l∧aY L≠0∧aY L≤most)):dt n l most i x L= .ok x L:=by
 obtain⟨k,rfl⟩:∃ k,n=k+1:=⟨n-1,by omega⟩
 rw[dt,if_neg h]
theorem aa7{n l most:Nat}{i:Bool}{x:Ex}{L:List Tok}(hL:bF L)(hn:8 * L.length+7≤n)(h:aY L≥l∧aY L≠0∧aY L≤most):
  dt n l most i x L=(dm n (aY L+1) i L.tail).bind fun y L1=>dt n l (if aY L=4 then 3 else aY L) i (mE (hd L).text x y) L1:=by
 obtain⟨k,rfl⟩:∃ k,n=k+1:=⟨n-1,by omega⟩
 have ht:=hL.tail (sk L h.2.1)
 rw[dt,if_pos h,(jq k (k+1)).bin _ i L.tail ht.1 (by omega) (by omega)]
 refine PR.bind_congr fun y L1 e1=> ?_
 have p1:=((jz (k+1)).bin _ i L.tail ht.1).ok y L1 e1
 exact(jq k (k+1)).ops _ _ i _ L1 p1.2.1 (by omega) (by omega)
theorem abJ(L:List Tok):aY L≤6:=by
 unfold aY
 dsimp only
 repeat' split
 all_goals omega
theorem abM{n:Nat}(ih:o5 n)(l:Nat)(i:Bool)(L:List Tok)(hL:Gd L)(hn:8 * L.length+6≤n+1):bC 79 [iv l] i L (dm (n+1) l i L) gh:=by
 refine bC.intro fun b1 rest τ=> ?_
 refine Spec.cN (fun _=>0) Tryz.func79 R6 Tk (Z9 rfl) ?_
 rw[dm]
 repeat'(first|exact .nil|refine .k0 ?_|refine .k1 ?_|refine .k2 ?_|refine .r1 ?_ ?_|(refine .l1 ?_;intro b)|fail)
 all_goals(try simp only[BL]at *)
 rename Nat=>b4
 refine BB rfl (LQ L hL i 1 cu) rfl rfl rfl (.cons (fun h=>h) .nil) (by simp(decide:=true)only[aH,aN]) ?_
 repeat'(first|exact .nil|refine .k0 ?_|refine .k1 ?_|refine .k2 ?_|refine .k4 ?_|refine .r1 ?_ ?_|fail)
 refine bG rfl (ih.operand l i L hL (by omega)) rfl rfl rfl .nil ?_ (fun _ _ h=>aP h) (fun _=>Zs) (fun x L1 aU bg=> ?_)
 ·exact fun p c h=>by rw[h];rfl
 have JS:=((jz n).operand l i L hL.e).ok x L1 aU
 rw[aU,PR.aD]
 simp(decide:=true)only[aH,aN]
 repeat'((fail_if_success (show WK _ _ _ _ _ _ _ _));(first|exact .nil|refine .k0 ?_|refine .k1 ?_|refine .r1 ?_ ?_|(refine .l1 ?_;intro b)|fail))
 rename Nat=>b6
 refine ji rfl ?_
 refine s9 ?_
 first|refine .k2 ?_|fail
 repeat'((fail_if_success (show WK _ _ _ _ _ _ _ _));(first|exact .nil|refine .k0 ?_|refine .k1 ?_|refine .r1 ?_ ?_|fail))
 refine ji rfl ?_
 have rF:decide ((l:Int)≤3)=decide (l≤3):=by simp;omega
 refine kb (fun rg σ'=>∃ xy:Nat,xy=(if l≤3∧ar 1 cu L=true then 2 else 7)∧σ'=(6,b6,.cells x.row)::(4,b4,.cells [iv 0,sv ⟨#[]⟩,sv ⟨#[]⟩,sv ⟨#[]⟩,iv 0,iv 0,sv ⟨#[]⟩,.v (.slice none 0 0),iv 0,iv 0,iv 0,.v (.slice none 0 0)])::(1000,b1,.cells (aZ L1 i++rest))::τ∧
  rg=[(0,.lp 1000 b1 0),(1,iv l),(4,.lp 4 b4 0),(6,.lp 6 b6 0),(7,iv (xy:Nat))]) ?_ ?_
 ·repeat'(first|exact .nil|refine .k0 ?_|refine .k1 ?_|refine .k2 ?_|refine .k9 ?_|(refine .cd ?_ ?_<;>(intro hc;skip))|refine .r1 ?_ ?_|fail)
  ·rw[rF]at hc
   exact dw.intro rfl ⟨2,by rw[if_pos (by simpa using hc)],rfl,rfl⟩
  ·rw[rF]at hc
   exact dw.intro rfl ⟨7,by rw[if_neg (by simpa using hc)],rfl,rfl⟩
 rintro _ _ ⟨xy,JM,rfl,rfl⟩
 rw[← JM]
 repeat'(first|exact .nil|refine .k1 ?_|refine .k2 ?_|refine .r1 ?_ ?_|fail)
 refine BB rfl (LR L1 bg i) rfl rfl rfl .nil (by simp(decide:=true)only[aH,aN]) ?_
 repeat'((fail_if_success (show WK _ _ _ _ (.loop _) _ _ _));(first|exact .nil|refine .k0 ?_|refine .k1 ?_|refine .k6 ?_|refine .r1 ?_ ?_|fail))
 clear JM rF
 refine dU (fun m rg σ'=>∃ (x':Ex) (L':List Tok) (most:Nat),Gd L'∧8 * L'.length+7≤n∧m=L'.length∧dt n l xy i x L1=dt n l most i x' L'∧σ'=(6,b6,.cells x'.row)::(4,b4,.cells [iv 0,sv ⟨#[]⟩,sv ⟨#[]⟩,sv ⟨#[]⟩,iv 0,iv 0,sv ⟨#[]⟩,.v (.slice none 0 0),iv 0,iv 0,iv 0,.v (.slice none 0 0)])::(1000,b1,.cells (aZ L' i++rest))::τ∧
  rg=[(0,.lp 1000 b1 0),(1,iv l),(4,.lp 4 b4 0),(6,.lp 6 b6 0),(7,iv (most:Nat)),(8,iv (aY L':Nat))]) L1.length rfl ⟨_,_,Zr,Zs,x,L1,xy,bg,by omega,rfl,rfl,rfl,rfl⟩ ?_
 rintro m _ _ ⟨x',L',most,cZ,om,hm,he,rfl,rfl⟩
 rw[he]
 have hp:=cZ.pos
 unfold aZ
 repeat'((fail_if_success (show WK _ _ _ _ (.c8 _ _) _ _ _));(first|exact .nil|refine .k0 ?_|refine .k1 ?_|refine .k2 ?_|refine .k4 ?_|refine .k6 ?_|refine .k7 ?_|refine .k8 ?_|refine .k9 ?_|(refine .cd ?_ ?_<;>(intro hc;skip))|refine .r1 ?_ ?_|refine .t1 ?_ ?_ ?_|refine .t3 ?_ ?_ ?_|refine .r8 ?_ ?_|fail))
 any_goals omega
 all_goals(try simp only[BL]at *)
 ·have hg:aY L'≥l∧aY L'≠0∧aY L'≤most:=by omega
  have ht:=cZ.tail (sk L' hg.2.1)
  have uv:=abJ L'
  have hb:=ih.bin (aY L'+1) i L'.tail ht.1 (by omega)
  have e1:iv ((aY L'+1:Nat):Int)=iv (IntKind.i64.wrap ((aY L':Int)+1)):=by rw[bw (by omega)];rfl
  rw[e1]at hb
  rw[aa7 cZ.e om hg]
  refine mB (cs':=[.sl false 3 ((L'.drop 1).map Tok.cells),.v (.bool i)]++rest) rfl rfl rfl rfl rfl ⟨rfl,by simp⟩ .nil ?_
  simp(decide:=true)only[aH,aN,Ya]
  repeat'((fail_if_success (show WK _ _ _ _ (.c8 _ _) _ _ _));(first|refine .k0 ?_|refine .k1 ?_|fail))
  refine vN [1000] 56 rfl rfl rfl rfl ?_
  repeat'(first|exact .nil|refine .k0 ?_|refine .k1 ?_|refine .r1 ?_ ?_|fail)
  refine vM (L:=L'.tail) (ins:=i) rfl rfl hb rfl rfl rfl .nil ?_ (fun _ _ h=>aP h) (fun _=>Zs) (fun y L2 cI cq=> ?_)
  ·exact fun p c h=>by rw[h];rfl
  have Dl:=((jz n).bin (aY L'+1) i L'.tail ht.1.e).ok y L2 cI
  rw[cI,PR.aD]
  simp(decide:=true)only[aH,aN,ku]
  repeat'((fail_if_success (show WK _ _ _ _ _ _ _ _));(first|exact .nil|refine .k0 ?_|refine .k1 ?_|refine .r1 ?_ ?_|fail))
  ·exact Z9 rfl
  refine BI (.here (l':=(mE (hd L').text x' y).row) (.cons (.refl _) (.cons (.refl _) (.cons (.refl _) (.cons (.refl _) (.cons (.refl _) (.cons (.refl _) (.cons (.refl _) (.cons .nil (.cons (.refl _) (.cons (.refl _) (.cons (.refl _) (.cons Gj .nil)))))))))))) (.refl _)) ?_
  have aT:=List.length_tail (l:=L')
  repeat'(first|exact .nil|refine .k0 ?_|refine .k1 ?_|refine .k2 ?_|refine .k9 ?_|(refine .cd ?_ ?_<;>(intro hc;skip))|refine .r1 ?_ ?_|fail)
  all_goals
   refine BB rfl (LR L2 cq i) rfl rfl rfl .nil (by simp(decide:=true)only[aH,aN]) ?_
   repeat'(first|exact .nil|refine .k0 ?_|refine .k1 ?_|refine .k2 ?_|refine .r1 ?_ ?_|fail)
  ·have h4:aY L'=4:=by have:=of_decide_eq_true hc;omega
   exact⟨L2.length,by omega,_,_,Zr,Zs,mE (hd L').text x' y,L2,3,cq,by omega,rfl,by rw[if_pos h4],rfl,rfl⟩
  ·have h4:¬aY L'=4:=by have:=of_decide_eq_false hc;omega
   exact⟨L2.length,by omega,_,_,Zr,Zs,mE (hd L').text x' y,L2,aY L',cq,by omega,rfl,by rw[if_neg h4],rfl,rfl⟩
 ·exact cQ (a:=x') (aa8 om (by omega)) cZ (.refl _)
end Go.Proofs.YtbihckigennlhaaGreatDoor
