/- Sources one after the other: the items of both (plain). -/
import Derived.Test.YtbihckigennlhaaGreatDoorTg
import Derived.Test.YtbihckigennlhaaGreatDoorUc
set_option linter.unusedVariables false
set_option linter.unusedSimpArgs false
namespace Go.Proofs.YtbihckigennlhaaGreatDoor
open Go.Sx Go.Proofs
theorem om(n:Nat)(at_ st:Int){s:Bs}(hs:s≠[]):cA (n+1) at_ st s=
  if(ax s).1= -1 then((cA n (at_+1) at_ (s.drop 1)).1,if st≠at_-1∨at_=0 then⟨at_,(ax s).2.2⟩::(cA n (at_+1) at_ (s.drop 1)).2 else(cA n (at_+1) at_ (s.drop 1)).2)
  else if(ax s).2.2≠0 then((cA n (at_+(ax s).2.1) st (s.drop (ax s).2.1)).1,⟨at_,(ax s).2.2⟩::(cA n (at_+(ax s).2.1) st (s.drop (ax s).2.1)).2)
  else if(ax s).1=4 then(⟨4,⟨((s.take ((ax s).2.1-1)).drop 1).toArray⟩,at_⟩::(cA n (at_+(ax s).2.1) st (s.drop (ax s).2.1)).1,(cA n (at_+(ax s).2.1) st (s.drop (ax s).2.1)).2)
  else if(ax s).1≠0 then(⟨(ax s).1,⟨(s.take (ax s).2.1).toArray⟩,at_⟩::(cA n (at_+(ax s).2.1) st (s.drop (ax s).2.1)).1,(cA n (at_+(ax s).2.1) st (s.drop (ax s).2.1)).2)
  else cA n (at_+(ax s).2.1) st (s.drop (ax s).2.1):=by
 rw[cA,if_neg hs]
theorem aCP(e:Tok)(B:List Tok):Alike (fun L1 L2=>∃ A,A≠[]∧L1=A++[e]∧L2=A++B) (fun L=>L.length≤1) id (fun _=>True) where
 head:=fun {L1 L2} ⟨A,h,e1,e2⟩=>by
  cases A with
  |nil=>exact absurd rfl h
  |cons a A=>subst e1 e2;exact .inl ⟨rfl,rfl,rfl⟩
 tail:=fun {L1 L2} ⟨A,h,e1,e2⟩ hk=>by
  cases A with
  |nil=>exact absurd rfl h
  |cons a A=>
   subst e1 e2
   cases A with
   |nil=>exact .inl (ZI 1)
   |cons b A=>exact .inr ⟨b::A,by simp,rfl,rfl⟩
 dead:=fun h h2=>YG h2.length_le h
 DB:=fun _ _=>trivial
section
variable {R:List Tok→List Tok→Prop}{D:List Tok→Prop}{φ:Int→Int}{DE:Int→Prop}
end
abbrev aBz:oK:=⟨[],[]⟩
theorem aCD(x:Int):∀ L:List Tok,L≠[]→B7 x L <:+ L∧B7 x L≠[]
 |[],h=>absurd rfl h
 |[t],_=>⟨List.suffix_refl _,by simp[B7]⟩
 |t::u::L,_=>by
  unfold B7
  split
  ·obtain⟨h1,h2⟩:=aCD x (u::L) (by simp)
   exact⟨h1.trans (List.suffix_cons _ _),h2⟩
  ·exact⟨List.suffix_refl _,by simp⟩
theorem ck.suf{L L':List Tok}(h:ck L)(hs:L' <:+ L)(hn:L'≠[]):ck L':=by
 obtain⟨M,e,rfl,he⟩:=h
 obtain⟨Q,hQ⟩:=hs
 refine⟨L'.dropLast,e,?_,he⟩
 have h1:=List.dropLast_concat_getLast hn
 have h2:L'.getLast hn=e:=by
  have:(Q++L').getLast (by simp[hn])=e:=by
   simp only[hQ];simp
  rw[List.getLast_append_of_ne_nil _ hn]at this
  exact this
 rw[h2]at h1;exact h1.symm
theorem aCQ{x:Int}{L:List Tok}(h:ck L)(hk:(hd L).kind≠6):ck (IQ x L)∧(IQ x L).length<L.length:=by
 obtain⟨h1,h2⟩:=aCD x L h.ne
 have hl:=(h.tail hk)
 have h3:=h1.length_le
 unfold IQ
 have h5:=hl.1.ne
 have h6:0<L.tail.length:=Y1.2 h5
 split
 ·rename_i hg
  refine⟨h.suf ((X3 _).trans h1) (by intro e;have:=congrArg List.length e;simp at this;omega),by simp;omega⟩
 ·rename_i hg
  exact⟨h.suf h1 h2,by omega⟩
theorem aB0:∀ (n n':Nat) (L:List Tok) (m:oK) (bad:List dw),ck L→L.length≤n→L.length≤n'→aJk n L m bad=aJk n' L m bad
 |0,_,L,_,_,h,hn,_=>by have:=h.ne;simp at hn;exact absurd hn this
 |_+1,0,L,_,_,h,_,hn=>by have:=h.ne;simp at hn;exact absurd hn this
 |n+1,n'+1,L,m,bad,h,hn,pg=>by
  unfold aJk
  by_cases hk:(hd L).kind=6
  ·rw[if_pos hk,if_pos hk]
  ·rw[if_neg hk,if_neg hk]
   have hp:=(Sm.item (aCP default [])).pos L h
   cases e:aJe L with
   |ok a L'=>
    obtain⟨h1,h2,h3⟩:=hp.ok a L' e
    exact aB0 n n' L' _ _ h2 (by omega) (by omega)
   |err p c=>
    obtain⟨h1,h2⟩:=aCQ (x:=p) h hk
    exact aB0 n n' _ _ _ h1 (by omega) (by omega)
theorem vI:∀ (n:Nat) (at_ st:Int) (s:Bs),ck (cA n at_ st s).1
 |0,at_,st,s=>⟨[],_,rfl,rfl⟩
 |n+1,at_,st,s=>by
  by_cases hs:s=[]
  ·subst hs;rw[lex_nil];exact⟨[],_,rfl,rfl⟩
  have key:∀ (t:Tok) {L:List Tok},ck L→ck (t::L):=fun t L ⟨M,e,h1,h2⟩=>⟨t::M,e,by rw[h1];rfl,h2⟩
  rw[om _ _ _ hs]
  split
  ·exact vI n _ _ _
  split
  ·exact vI n _ _ _
  split
  ·exact key _ (vI n _ _ _)
  split
  ·exact key _ (vI n _ _ _)
  ·exact vI n _ _ _
theorem PR.bind_congr{α β:Type}{r:PR α}{g g':α→List Tok→PR β}(h:∀ a L,r= .ok a L→g a L=g' a L):r.bind g=r.bind g':=by
 cases r with
 |ok a L=>exact h a L rfl
 |err p c=>rfl
structure Ql(n m:Nat):Prop where
 expr:∀ i L,ck L→8 * L.length+7≤n→8 * L.length+7≤m→bD n i L=bD m i L
 lz:∀ i x L,ck L→8 * L.length+7≤n→8 * L.length+7≤m→dZ n i x L=dZ m i x L
 bin:∀ l i L,ck L→8 * L.length+6≤n→8 * L.length+6≤m→dN n l i L=dN m l i L
 ops:∀ l o i x L,ck L→8 * L.length+7≤n→8 * L.length+7≤m→eg n l o i x L=eg m l o i x L
 operand:∀ l i L,ck L→8 * L.length+5≤n→8 * L.length+5≤m→eC n l i L=eC m l i L
 mU:∀ i L,ck L→8 * L.length+4≤n→8 * L.length+4≤m→fi n i L=fi m i L
 group:∀ i L,ck L→8 * L.length+3≤n→8 * L.length+3≤m→aJf n i L=aJf m i L
 word:∀ i L,ck L→(hd L).kind≠6→8 * L.length+3≤n→8 * L.length+3≤m→fJ n i L=fJ m i L
 agg:∀ o L,ck L→8 * L.length+3≤n→8 * L.length+3≤m→gC n o L=gC m o L
theorem jY:∀ n m,Ql n m
 |0,m=>⟨fun _ _ _ h=>by omega,fun _ _ _ _ h=>by omega,fun _ _ _ _ h=>by omega,fun _ _ _ _ _ _ h=>by omega,fun _ _ _ _ h=>by omega,fun _ _ _ h=>by omega,fun _ _ _ h=>by omega,fun _ _ _ _ h=>by omega,fun _ _ _ h=>by omega⟩
 |n+1,0=>⟨fun _ _ _ _ h=>by omega,fun _ _ _ _ _ h=>by omega,fun _ _ _ _ _ h=>by omega,fun _ _ _ _ _ _ _ h=>by omega,fun _ _ _ _ _ h=>by omega,fun _ _ _ _ h=>by omega,fun _ _ _ _ h=>by omega,fun _ _ _ _ _ h=>by omega,fun _ _ _ _ h=>by omega⟩
 |n+1,m+1=>by
  have ih:=jY n m
  have P:=kO m
  have bU:∀ {k:Int} {s:af} (hk:k≠6) {L L1:List Tok},ck L→j5 k s L= .ok () L1→ck L1∧L1.length+1≤L.length:=fun {k s} hk {L L1} h e=>((Pos.bU hk) L h).ok () L1 e |>.2
  refine⟨fun i L h h1 h2=> ?_,fun i x L h h1 h2=> ?_,fun l i L h h1 h2=> ?_,fun l o i x L h h1 h2=> ?_,fun l i L h h1 h2=> ?_,fun i L h h1 h2=> ?_,fun i L h h1 h2=> ?_,fun i L h hk h1 h2=> ?_,fun o L h h1 h2=> ?_⟩
  ·rw[bD,bD]
   by_cases hs:au 1 eR L=true
   ·rw[if_pos hs,if_pos hs]
    obtain⟨t1,t2⟩:=h.tail (cr (k:=1) (by decide) L hs)
    rw[ih.expr i L.tail t1 (by omega) (by omega)]
    refine PR.bind_congr fun a L1 e1=>PR.bind_congr fun _ L2 e2=> ?_
    have p1:=(P.expr i L.tail t1).ok a L1 e1
    have p2:=bU (by decide) p1.2.1 e2
    rw[ih.expr i L2 p2.1 (by omega) (by omega)]
    refine PR.bind_congr fun b L3 e3=>PR.bind_congr fun _ L4 e4=> ?_
    have p3:=(P.expr i L2 p2.1).ok b L3 e3
    have p4:=bU (by decide) p3.2.1 e4
    rw[ih.expr i L4 p4.1 (by omega) (by omega)]
   ·rw[if_neg hs,if_neg hs,ih.bin 1 i L h (by omega) (by omega)]
    refine PR.bind_congr fun x L1 e1=> ?_
    have p1:=(P.bin 1 i L h).ok x L1 e1
    exact ih.lz i x L1 p1.2.1 (by omega) (by omega)
  ·rw[dZ,dZ]
   by_cases hs:au 1 fY L=true
   ·rw[if_pos hs,if_pos hs]
    obtain⟨t1,t2⟩:=h.tail (cr (k:=1) (by decide) L hs)
    rw[ih.bin 1 i L.tail t1 (by omega) (by omega)]
    refine PR.bind_congr fun y L1 e1=> ?_
    have p1:=(P.bin 1 i L.tail t1).ok y L1 e1
    exact ih.lz i _ L1 p1.2.1 (by omega) (by omega)
   ·rw[if_neg hs,if_neg hs]
  ·rw[dN,dN,ih.operand l i L h (by omega) (by omega)]
   refine PR.bind_congr fun x L1 e1=> ?_
   have p1:=(P.operand l i L h).ok x L1 e1
   exact ih.ops l _ i x L1 p1.2.1 (by omega) (by omega)
  ·rw[eg,eg]
   by_cases hs:bo L≥l∧bo L≠0∧bo L≤o
   ·rw[if_pos hs,if_pos hs]
    obtain⟨t1,t2⟩:=h.tail (v8 L hs.2.1)
    rw[ih.bin (bo L+1) i L.tail t1 (by omega) (by omega)]
    refine PR.bind_congr fun y L1 e1=> ?_
    have p1:=(P.bin (bo L+1) i L.tail t1).ok y L1 e1
    exact ih.ops l _ i _ L1 p1.2.1 (by omega) (by omega)
   ·rw[if_neg hs,if_neg hs]
  ·rw[eC,eC]
   by_cases hs:(decide (l≤3) && au 1 cE L)=true
   ·rw[if_pos hs,if_pos hs]
    obtain⟨t1,t2⟩:=h.tail (cr (k:=1) (by decide) L (Z0 _ _ ▸ hs).2)
    rw[ih.bin 3 i L.tail t1 (by omega) (by omega)]
   ·rw[if_neg hs,if_neg hs]
    by_cases ew:au 5 (ch 45) L=true
    ·rw[if_pos ew,if_pos ew]
     obtain⟨t1,t2⟩:=h.tail (cr (k:=5) (by decide) L ew)
     rw[ih.operand 7 i L.tail t1 (by omega) (by omega)]
    ·rw[if_neg ew,if_neg ew]
     exact ih.mU i L h (by omega) (by omega)
  ·rw[fi,fi]
   by_cases k2:(hd L).kind=2
   ·rw[if_pos k2,if_pos k2]
   rw[if_neg k2,if_neg k2]
   by_cases k3:(hd L).kind=3
   ·rw[if_pos k3,if_pos k3]
   rw[if_neg k3,if_neg k3]
   by_cases k4:(hd L).kind=4
   ·rw[if_pos k4,if_pos k4]
   rw[if_neg k4,if_neg k4]
   by_cases k1:(hd L).kind=1
   ·rw[if_pos k1,if_pos k1];exact ih.word i L h (by rw[k1];decide) (by omega) (by omega)
   rw[if_neg k1,if_neg k1,ih.group i L h (by omega) (by omega)]
  ·rw[aJf,aJf]
   refine PR.bind_congr fun _ L1 e1=> ?_
   have p1:=bU (by decide) h e1
   rw[ih.expr i L1 p1.1 (by omega) (by omega)]
  ·rw[fJ,fJ]
   obtain⟨t1,t2⟩:=h.tail hk
   rw[ih.group i L.tail t1 (by omega) (by omega),ih.agg (hd L).text L.tail t1 (by omega) (by omega)]
   split
   ·rfl
   split
   ·rfl
   split
   ·rfl
   ·refine PR.bind_congr fun s L1 e1=> ?_
    have p1:=(Pos.name L h).ok s L1 e1
    by_cases hi:i=true
    ·rw[if_pos hi,if_pos hi]
    ·rw[if_neg hi,if_neg hi]
     by_cases hs:au 1 gj L1=true
     ·rw[if_pos hs,if_pos hs]
      obtain⟨u1,u2⟩:=p1.2.1.tail (cr (k:=1) (by decide) L1 hs)
      rw[ih.group i L1.tail u1 (by omega) (by omega)]
     ·rw[if_neg hs,if_neg hs]
  ·rw[gC,gC]
   refine PR.bind_congr fun _ L1 e1=>PR.bind_congr fun tb L2 e2=>PR.bind_congr fun _ L3 e3=> ?_
   have p1:=bU (by decide) h e1
   have p2:=(Pos.name L1 p1.1).ok tb L2 e2
   have p3:=bU (by decide) p2.2.1 e3
   rw[ih.expr true L3 p3.1 (by omega) (by omega)]
   refine PR.bind_congr fun a L5 e5=>PR.bind_congr fun p L7 e7=>PR.bind_congr fun w L8 e8=> ?_
   have q5:ck L5∧L5.length≤L3.length:=by
    have hp:=(Pos.ite (c:=fun _=>o≠wN) (Pos.bind (n:=0) (m:=0) ((P.expr true).le (by omega)) fun x=>Pos.map (g:=fun _=>x) ((Pos.bU (k:=5) (s:=ch 44) (by decide)).le (by omega))) (Pos.pure (gB 1))) L3 p3.1
    have:=hp.ok a L5 e5
    exact⟨this.2.1,by omega⟩
   have q7:ck L7∧L7.length≤L5.length:=by
    have hp:=(Pos.ite (c:=fun _=>o=rL∨o=rK) (Pos.bind (n:=0) (m:=0) (Pos.num.le (by omega)) fun x=>Pos.map (g:=fun _=>x) ((Pos.bU (k:=5) (s:=ch 44) (by decide)).le (by omega))) (Pos.pure (0:Int))) L5 q5.1
    have:=hp.ok p L7 e7
    exact⟨this.2.1,by omega⟩
   have q8:=(Pos.zT L7 q7.1).ok w L8 e8
   by_cases hs:au 1 eI L8=true
   ·rw[if_pos hs,if_pos hs]
    obtain⟨u1,u2⟩:=q8.2.1.tail (cr (k:=1) (by decide) L8 hs)
    rw[ih.expr true L8.tail u1 (by omega) (by omega)]
   ·rw[if_neg hs,if_neg hs]
set_option linter.unusedSectionVars false
set_option maxRecDepth 100000
set_option maxHeartbeats 4000000
section
variable {cfg:Nat→Nat}{K:ae→Store→Prop}{E:List PanicEntry→Store→Prop}{σ τ:Store}{l:List CI}{d b b':Nat}{xr:XR}{ps:List Prop}{og:Option Bool}{g:Option (Nat×Bool)}{args:List Operand}{ys:List AV}{α:Type}{f:FuncId}{ins:Bool}{L:List Tok}{rest cs:List AV}{val:α→AV}{a:α}
theorem C4(h:aA xr g args=some (og,.lp 1000 b 0::ys,ps))(hp:bG f ys ins L (.ok a L) val)(hl:aN σ 1000=some (b',.cells cs))(hb:b=b')(hc:cs=bh L ins++rest)(al:OB ps)(hu:ct σ 1000 b (.cells (bh L ins++rest))=σ)
  (k:VX Tryz.prog cfg l K E (bF og d (val a) xr) σ):VX Tryz.prog cfg (⟨some d,.call f args,g⟩::l) K E xr σ:=by
 subst hc
 subst hb
 refine H8 (val a) h (fun _=>Spec.at (fun cU=>hp b rest cU) hl) al (fun hg x σ' ⟨cs',hR,e1⟩=> ?_) (fun ch σ' ⟨cs',hR,e1⟩=>absurd hR.2.1 (by nofun)) (fun _=>k)
 obtain⟨h1,h2,h3⟩:=hR
 cases h2;subst h3;subst e1
 rw[hu]
 constructor
 have:=k.h
 rw[eP hg]at this
 exact this
end
theorem Ig{x y:Ex}:Wk (.sl true 12 [x.row,y.row]) (.sl false 12 ([x,y].map Ex.cells)):=by
 rw[Ex.oR];exact .sl
theorem adl{n l most:Nat}{i:Bool}{x:Ex}{L:List Tok}(hn:8 * L.length+7≤n)(h:¬(bo L≥l∧bo L≠0∧bo L≤most)):eg n l most i x L= .ok x L:=by
 obtain⟨k,rfl⟩:∃ k,n=k+1:=⟨n-1,by omega⟩
 rw[eg,if_neg h]
theorem adk{n l most:Nat}{i:Bool}{x:Ex}{L:List Tok}(hL:ck L)(hn:8 * L.length+7≤n)(h:bo L≥l∧bo L≠0∧bo L≤most):
  eg n l most i x L=(dN n (bo L+1) i L.tail).bind fun y L1=>eg n l (if bo L=4 then 3 else bo L) i (oP (hd L).text x y) L1:=by
 obtain⟨k,rfl⟩:∃ k,n=k+1:=⟨n-1,by omega⟩
 have ht:=hL.tail (v8 L h.2.1)
 rw[eg,if_pos h,(jY k (k+1)).bin _ i L.tail ht.1 (by omega) (by omega)]
 refine PR.bind_congr fun y L1 e1=> ?_
 have p1:=((kO (k+1)).bin _ i L.tail ht.1).ok y L1 e1
 exact(jY k (k+1)).ops _ _ i _ L1 p1.2.1 (by omega) (by omega)
theorem adR(L:List Tok):bo L≤6:=by
 unfold bo
 dsimp only
 repeat' split
 all_goals omega
theorem adV{n:Nat}(ih:qi n)(l:Nat)(i:Bool)(L:List Tok)(hL:Gd L)(hn:8 * L.length+6≤n+1):bG 79 [iv l] i L (dN (n+1) l i L) gG:=by
 refine bG.intro fun b1 rest τ=> ?_
 refine Spec.cY (fun _=>0) Tryz.func79 UU V6 (Z8 rfl) ?_
 rw[dN]
 repeat'(first|exact .nil|refine .k0 ?_|refine .k1 ?_|refine .k2 ?_|refine .r1 ?_ ?_|(refine .l1 ?_;intro b)|fail)
 all_goals(try simp only[BL]at *)
 rename Nat=>b4
 refine C4 rfl (Ob L hL i 1 cE) rfl rfl rfl (.cons (fun h=>h) .nil) (by simp(decide:=true)only[aL,aP]) ?_
 repeat'(first|exact .nil|refine .k0 ?_|refine .k1 ?_|refine .k2 ?_|refine .k4 ?_|refine .r1 ?_ ?_|fail)
 refine bI rfl (ih.operand l i L hL (by omega)) rfl rfl rfl .nil ?_ (fun _ _ h=>aR h) (fun _=>Zs) (fun x L1 aX bj=> ?_)
 ·exact fun p c h=>by rw[h];rfl
 have LB:=((kO n).operand l i L hL.e).ok x L1 aX
 rw[aX,PR.aJ]
 simp(decide:=true)only[aL,aP]
 repeat'((fail_if_success (show WK _ _ _ _ _ _ _ _));(first|exact .nil|refine .k0 ?_|refine .k1 ?_|refine .r1 ?_ ?_|(refine .l1 ?_;intro b)|fail))
 rename Nat=>b6
 refine jQ rfl ?_
 refine uF ?_
 first|refine .k2 ?_|fail
 repeat'((fail_if_success (show WK _ _ _ _ _ _ _ _));(first|exact .nil|refine .k0 ?_|refine .k1 ?_|refine .r1 ?_ ?_|fail))
 refine jQ rfl ?_
 have sX:decide ((l:Int)≤3)=decide (l≤3):=by simp;omega
 refine lq (fun rg σ'=>∃ yE:Nat,yE=(if l≤3∧au 1 cE L=true then 2 else 7)∧σ'=(6,b6,.cells x.row)::(4,b4,.cells [iv 0,sv ⟨#[]⟩,sv ⟨#[]⟩,sv ⟨#[]⟩,iv 0,iv 0,sv ⟨#[]⟩,.v (.slice none 0 0),iv 0,iv 0,iv 0,.v (.slice none 0 0)])::(1000,b1,.cells (bh L1 i++rest))::τ∧
  rg=[(0,.lp 1000 b1 0),(1,iv l),(4,.lp 4 b4 0),(6,.lp 6 b6 0),(7,iv (yE:Nat))]) ?_ ?_
 ·repeat'(first|exact .nil|refine .k0 ?_|refine .k1 ?_|refine .k2 ?_|refine .k9 ?_|(refine .cd ?_ ?_<;>(intro hc;skip))|refine .r1 ?_ ?_|fail)
  ·rw[sX]at hc
   exact dH.intro rfl ⟨2,by rw[if_pos (by simpa using hc)],rfl,rfl⟩
  ·rw[sX]at hc
   exact dH.intro rfl ⟨7,by rw[if_neg (by simpa using hc)],rfl,rfl⟩
 rintro _ _ ⟨yE,Lv,rfl,rfl⟩
 rw[← Lv]
 repeat'(first|exact .nil|refine .k1 ?_|refine .k2 ?_|refine .r1 ?_ ?_|fail)
 refine C4 rfl (Oc L1 bj i) rfl rfl rfl .nil (by simp(decide:=true)only[aL,aP]) ?_
 repeat'((fail_if_success (show WK _ _ _ _ (.loop _) _ _ _));(first|exact .nil|refine .k0 ?_|refine .k1 ?_|refine .k6 ?_|refine .r1 ?_ ?_|fail))
 clear Lv sX
 refine cQ (fun m rg σ'=>∃ (x':Ex) (L':List Tok) (most:Nat),Gd L'∧8 * L'.length+7≤n∧m=L'.length∧eg n l yE i x L1=eg n l most i x' L'∧σ'=(6,b6,.cells x'.row)::(4,b4,.cells [iv 0,sv ⟨#[]⟩,sv ⟨#[]⟩,sv ⟨#[]⟩,iv 0,iv 0,sv ⟨#[]⟩,.v (.slice none 0 0),iv 0,iv 0,iv 0,.v (.slice none 0 0)])::(1000,b1,.cells (bh L' i++rest))::τ∧
  rg=[(0,.lp 1000 b1 0),(1,iv l),(4,.lp 4 b4 0),(6,.lp 6 b6 0),(7,iv (most:Nat)),(8,iv (bo L':Nat))]) L1.length rfl ⟨_,_,Zr,Zs,x,L1,yE,bj,by omega,rfl,rfl,rfl,rfl⟩ ?_
 rintro m _ _ ⟨x',L',most,dq,pg,hm,he,rfl,rfl⟩
 rw[he]
 have hp:=dq.pos
 unfold bh
 repeat'((fail_if_success (show WK _ _ _ _ (.dr _ _) _ _ _));(first|exact .nil|refine .k0 ?_|refine .k1 ?_|refine .k2 ?_|refine .k4 ?_|refine .k6 ?_|refine .k7 ?_|refine .k8 ?_|refine .k9 ?_|(refine .cd ?_ ?_<;>(intro hc;skip))|refine .r1 ?_ ?_|refine .t1 ?_ ?_ ?_|refine .t3 ?_ ?_ ?_|refine .r8 ?_ ?_|fail))
 any_goals omega
 all_goals(try simp only[BL]at *)
 ·have hg:bo L'≥l∧bo L'≠0∧bo L'≤most:=by omega
  have ht:=dq.tail (v8 L' hg.2.1)
  have vw:=adR L'
  have hb:=ih.bin (bo L'+1) i L'.tail ht.1 (by omega)
  have e1:iv ((bo L'+1:Nat):Int)=iv (IntKind.i64.wrap ((bo L':Int)+1)):=by rw[aW (by omega)];rfl
  rw[e1]at hb
  rw[adk dq.e pg hg]
  refine nA (cs':=[.sl false 3 ((L'.drop 1).map Tok.cells),.v (.bool i)]++rest) rfl rfl rfl rfl rfl ⟨rfl,by simp⟩ .nil ?_
  simp(decide:=true)only[aL,aP,XY]
  repeat'((fail_if_success (show WK _ _ _ _ (.dr _ _) _ _ _));(first|refine .k0 ?_|refine .k1 ?_|fail))
  refine xj [1000] 56 rfl rfl rfl rfl ?_
  repeat'(first|exact .nil|refine .k0 ?_|refine .k1 ?_|refine .r1 ?_ ?_|fail)
  refine xi (L:=L'.tail) (ins:=i) rfl rfl hb rfl rfl rfl .nil ?_ (fun _ _ h=>aR h) (fun _=>Zs) (fun y L2 cJ cy=> ?_)
  ·exact fun p c h=>by rw[h];rfl
  have yh:=((kO n).bin (bo L'+1) i L'.tail ht.1.e).ok y L2 cJ
  rw[cJ,PR.aJ]
  simp(decide:=true)only[aL,aP,lF]
  repeat'((fail_if_success (show WK _ _ _ _ _ _ _ _));(first|exact .nil|refine .k0 ?_|refine .k1 ?_|refine .r1 ?_ ?_|fail))
  ·exact Z8 rfl
  refine Da (.here (l':=(oP (hd L').text x' y).row) (.cons (.refl _) (.cons (.refl _) (.cons (.refl _) (.cons (.refl _) (.cons (.refl _) (.cons (.refl _) (.cons (.refl _) (.cons .nil (.cons (.refl _) (.cons (.refl _) (.cons (.refl _) (.cons Ig .nil)))))))))))) (.refl _)) ?_
  have hsz:=List.length_tail (l:=L')
  repeat'(first|exact .nil|refine .k0 ?_|refine .k1 ?_|refine .k2 ?_|refine .k9 ?_|(refine .cd ?_ ?_<;>(intro hc;skip))|refine .r1 ?_ ?_|fail)
  all_goals
   refine C4 rfl (Oc L2 cy i) rfl rfl rfl .nil (by simp(decide:=true)only[aL,aP]) ?_
   repeat'(first|exact .nil|refine .k0 ?_|refine .k1 ?_|refine .k2 ?_|refine .r1 ?_ ?_|fail)
  ·have h4:bo L'=4:=by have:=of_decide_eq_true hc;omega
   exact⟨L2.length,by omega,_,_,Zr,Zs,oP (hd L').text x' y,L2,3,cy,by omega,rfl,by rw[if_pos h4],rfl,rfl⟩
  ·have h4:¬bo L'=4:=by have:=of_decide_eq_false hc;omega
   exact⟨L2.length,by omega,_,_,Zr,Zs,oP (hd L').text x' y,L2,bo L',cy,by omega,rfl,by rw[if_neg h4],rfl,rfl⟩
 ·exact dc (a:=x') (adl pg (by omega)) dq (.refl _)
end Go.Proofs.YtbihckigennlhaaGreatDoor
