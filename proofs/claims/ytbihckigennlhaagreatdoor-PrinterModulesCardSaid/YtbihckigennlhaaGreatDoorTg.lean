/- Parsing two lists of tokens that look alike (plain). -/
import Derived.Test.YtbihckigennlhaaGreatDoorTz
set_option linter.unusedVariables false
set_option linter.unusedSimpArgs false
set_option linter.unusedSectionVars false
namespace Go.Proofs.YtbihckigennlhaaGreatDoor
open Go.Sx Go.Proofs
def HG(L1 L2:List Tok):Prop:=((hd L2).kind=(hd L1).kind∧(hd L2).text=(hd L1).text)∨((hd L1).kind=6∧(hd L1).text=⟨#[]⟩∧(hd L2).kind=5∧(hd L2).text=ch 41)
structure Alike(R:List Tok→List Tok→Prop)(D:List Tok→Prop)(φ:Int→Int)(DE:Int→Prop):Prop where
 head:∀ {L1 L2},R L1 L2→((hd L2).kind=(hd L1).kind∧(hd L2).text=(hd L1).text∧(hd L2).at_=φ (hd L1).at_)∨((hd L1).kind=6∧(hd L1).text=⟨#[]⟩∧(hd L2).kind=5∧(hd L2).text=ch 41∧∀ p,DE p)
 tail:∀ {L1 L2},R L1 L2→(hd L1).kind≠6→D L1.tail∨R L1.tail L2.tail
 dead:∀ {L1 L'},D L1→L' <:+ L1→D L'
 DB:∀ {L1},D L1→∀ p,DE p
section
variable {R:List Tok→List Tok→Prop}{D:List Tok→Prop}{φ:Int→Int}{DE:Int→Prop}
structure sd(R:List Tok→List Tok→Prop)(D:List Tok→Prop)(φ:Int→Int)(DE:Int→Prop){α:Type}(r1 r2:PR α):Prop where
 ok:∀ a L1,r1= .ok a L1→D L1∨∃ L2,r2= .ok a L2∧R L1 L2
 err:∀ p c,r1= .err p c→DE p∨r2= .err (φ p) c
structure Sm(R:List Tok→List Tok→Prop)(D:List Tok→Prop)(φ:Int→Int)(DE:Int→Prop){α:Type}(n:Nat)(f:List Tok→PR α):Prop where
 pos:Pos n f
 dx:∀ L1 L2,ck L1→R L1 L2→sd R D φ DE (f L1) (f L2)
variable {α β:Type}{n m:Nat}
theorem Alike.heq(H:Alike R D φ DE){L1 L2:List Tok}(h:R L1 L2):HG L1 L2:=by
 rcases H.head h with⟨h1,h2,_⟩|⟨h1,h2,h3,h4,_⟩
 ·exact .inl ⟨h1,h2⟩
 ·exact .inr ⟨h1,h2,h3,h4⟩
theorem Alike.same(H:Alike R D φ DE){L1 L2:List Tok}(h:R L1 L2)(hk:(hd L1).kind≠6):(hd L2).kind=(hd L1).kind∧(hd L2).text=(hd L1).text∧(hd L2).at_=φ (hd L1).at_:=by
 rcases H.head h with h1|⟨h1,_⟩
 ·exact h1
 ·exact absurd h1 hk
theorem sd.dead(H:Alike R D φ DE){r1 r2:PR α}{L:List Tok}(hD:D L)(hP:w7 n L r1):sd R D φ DE r1 r2:=
 ⟨fun a L1 e=> .inl (H.dead hD (hP.ok a L1 e).1),fun p c e=> .inl (H.DB hD p)⟩
theorem Sm.le{f:List Tok→PR α}(h:Sm R D φ DE n f)(hm:m≤n):Sm R D φ DE m f:=⟨h.pos.le hm,h.dx⟩
theorem Sm.pure(a:α):Sm R D φ DE 0 (fun L=>PR.ok a L):=⟨Pos.pure a,fun L1 L2 h hR=>⟨fun b L' e=>by cases e;exact .inr ⟨L2,rfl,hR⟩,fun p c e=>by cases e⟩⟩
theorem Sm.wrong(H:Alike R D φ DE):Sm R D φ DE n (eS (α:=α)):=⟨Pos.wrong,fun L1 L2 h hR=>⟨fun b L' e=>(by cases e),fun p c e=>by
 cases e
 rcases H.head hR with⟨_,_,h3⟩|⟨_,_,_,_,h5⟩
 ·exact .inr (by unfold eS;rw[h3])
 ·exact .inl (h5 _)⟩⟩
theorem Sm.bind(H:Alike R D φ DE){f:List Tok→PR α}{g:α→List Tok→PR β}(hf:Sm R D φ DE n f)(hg:∀ a,Sm R D φ DE m (g a)):Sm R D φ DE (n+m) (fun L=>(f L).bind g):=by
 refine⟨Pos.bind hf.pos fun a=>(hg a).pos,fun L1 L2 h hR=> ?_⟩
 have h0:=hf.dx L1 L2 h hR
 have hp:=hf.pos L1 h
 cases e:f L1 with
 |ok a M1=>
  simp only[PR.bind]
  obtain⟨p1,p2,p3⟩:=hp.ok a M1 e
  rcases h0.ok a M1 e with Eo|⟨M2,e2,ff⟩
  ·exact sd.dead H Eo ((hg a).pos M1 p2)
  ·rw[e2];exact(hg a).dx M1 M2 p2 ff
 |err p c=>
  simp only[PR.bind]
  rcases h0.err p c e with Eo|e2
  ·exact⟨fun b L' e=>(by cases e),fun p' c' e=>by cases e;exact .inl Eo⟩
  ·rw[e2];exact⟨fun b L' e=>(by cases e),fun p' c' e=>by cases e;exact .inr rfl⟩
theorem Sm.map(H:Alike R D φ DE){f:List Tok→PR α}{g:α→β}(hf:Sm R D φ DE n f):Sm R D φ DE n (fun L=>(f L).map g):=Sm.bind (m:=0) H hf fun a=>Sm.pure (g a)
def uv{ι:Type}(v:List Tok→ι):Prop:=∀ L1 L2,HG L1 L2→v L2=v L1
theorem Ao{k:Int}{s:af}(hk:k≠6)(hs:¬(k=5∧s=ch 41)):uv (au k s):=fun L1 L2 h=>by
 unfold au
 rcases h with⟨h1,h2⟩|⟨h1,h2,h3,h4⟩
 ·rw[h1,h2]
 ·rw[h1,h2,h3,h4,Zp (p:=(6:Int)=k) (fun e=>hk e.symm),Bool.false_and,Bool.and_eq_false_iff]
  by_cases h5:(5:Int)=k
  ·exact .inr (Zp fun e=>hs ⟨h5.symm,e.symm⟩)
  ·exact .inl (Zp h5)
theorem TE:uv bo:=fun L1 L2 h=>by
 unfold bo
 rcases h with⟨h1,h2⟩|⟨h1,h2,h3,h4⟩
 ·simp only[h1,h2]
 ·simp only[h1,h2,h3,h4];decide
theorem Sm.ite(H:Alike R D φ DE){f g:List Tok→PR α}{c:List Tok→Prop}[∀ L,Decidable (c L)](hc:uv c)(hf:Sm R D φ DE n f)(hg:Sm R D φ DE n g):Sm R D φ DE n (fun L=>if c L then f L else g L):=
 ⟨Pos.ite hf.pos hg.pos,fun L1 L2 h hR=>by
  have e:=hc L1 L2 (H.heq hR)
  by_cases h1:c L1
  ·simp only[if_pos h1,if_pos (show c L2 by rw[e];exact h1)];exact hf.dx L1 L2 h hR
  ·simp only[if_neg h1,if_neg (show¬c L2 by rw[e];exact h1)];exact hg.dx L1 L2 h hR⟩
theorem Sm.tl(H:Alike R D φ DE){f:List Tok→PR α}(hf:Sm R D φ DE n f){L1 L2:List Tok}(h:ck L1)(hR:R L1 L2)(hk:(hd L1).kind≠6):sd R D φ DE (f L1.tail) (f L2.tail):=by
 have ht:=(h.tail hk).1
 rcases H.tail hR hk with hD|ff
 ·exact sd.dead H hD (hf.pos _ ht)
 ·exact hf.dx _ _ ht ff
theorem Sm.step(H:Alike R D φ DE){f g:List Tok→PR α}{c:List Tok→Prop}[∀ L,Decidable (c L)](hc:uv c)(hk:∀ L,c L→(hd L).kind≠6)(hf:Sm R D φ DE n f)(hg:Sm R D φ DE m g)(hm:m≤n+1):Sm R D φ DE m (fun L=>if c L then f L.tail else g L):=
 ⟨Pos.step hk hf.pos hg.pos hm,fun L1 L2 h hR=>by
  have e:=hc L1 L2 (H.heq hR)
  by_cases h1:c L1
  ·simp only[if_pos h1,if_pos (show c L2 by rw[e];exact h1)];exact hf.tl H h hR (hk L1 h1)
  ·simp only[if_neg h1,if_neg (show¬c L2 by rw[e];exact h1)];exact hg.dx L1 L2 h hR⟩
theorem TF{k:Int}{s:af}(hk:k≠6)(hs:¬(k=5∧s=ch 41)):uv (fun L=>au k s L=true):=fun L1 L2 h=>by simp only[Ao hk hs L1 L2 h]
theorem Sm.look(H:Alike R D φ DE){f g:List Tok→PR α}{k:Int}{s:af}(hk:k≠6∧¬(k=5∧s=ch 41))(hf:Sm R D φ DE n f)(hg:Sm R D φ DE m g)(hm:m≤n+1):Sm R D φ DE m (fun L=>if au k s L=true then f L.tail else g L):=Sm.step H (TF hk.1 hk.2) (cr hk.1) hf hg hm
theorem Sm.bU(H:Alike R D φ DE){k:Int}{s:af}(hk:k≠6):Sm R D φ DE 1 (j5 k s):=⟨Pos.bU hk,fun L1 L2 h hR=>by
 unfold j5
 by_cases hs:au k s L1=true
 ·have h6:=cr hk L1 hs
  obtain⟨e1,e2,_⟩:=H.same hR h6
  have ew:au k s L2=true:=by unfold au at hs ⊢;rw[e1,e2];exact hs
  rw[if_pos hs,if_pos ew];exact(Sm.pure ()).tl H h hR h6
 ·rcases H.head hR with⟨e1,e2,_⟩|⟨_,_,_,_,h5⟩
  ·have ew:¬au k s L2=true:=by unfold au at hs ⊢;rw[e1,e2];exact hs
   rw[if_neg hs,if_neg ew];exact(Sm.wrong (n:=0) H).dx L1 L2 h hR
  ·rw[if_neg hs];exact⟨fun a L' e=>(by cases e),fun p c e=> .inl (h5 p)⟩⟩
theorem Sm.tok(H:Alike R D φ DE){k:Int}(hk:k≠6){c:Tok→Prop}[∀ t,Decidable (c t)]{e:Int}(he:e≠0){g:Tok→α}(hc:∀ t u:Tok,t.text=u.text→(c t↔c u))(hg:∀ t u:Tok,t.text=u.text→g t=g u):Sm R D φ DE 1 (fun L=>(dM k L).bind fun t L2=>if c t then .err t.at_ e else .ok (g t) L2):=
 ⟨Pos.Pk hk he,fun L1 L2 h hR=>by
  by_cases gL:(hd L1).kind≠k
  ·have h1:dM k L1=eS L1:=if_pos gL
   rcases H.head hR with⟨e1,e2,e3⟩|⟨_,_,_,_,h5⟩
   ·have h2:dM k L2=eS L2:=if_pos (by rw[e1];exact gL)
    simp only[h1,h2];exact(Sm.wrong (n:=0) H).dx L1 L2 h hR
   ·simp only[h1];exact⟨fun a L' e=>(by cases e),fun p c e=> .inl (h5 p)⟩
  ·obtain⟨e1,e2,e3⟩:=H.same hR fun e=>hk ((Classical.not_not.1 gL).symm.trans e)
   have h1:dM k L1= .ok (hd L1) L1.tail:=if_neg gL
   have h2:dM k L2= .ok (hd L2) L2.tail:=if_neg (by rw[e1];exact gL)
   have h6:(hd L1).kind≠6:=fun e=>hk ((Classical.not_not.1 gL).symm.trans e)
   simp only[h1,h2,PR.bind]
   by_cases A7:c (hd L1)
   ·rw[if_pos A7,if_pos ((hc _ _ e2).2 A7)]
    exact⟨fun a L' e=>(by cases e),fun p q e=>by cases e;exact .inr (by rw[e3])⟩
   ·rw[if_neg A7,if_neg fun h=>A7 ((hc _ _ e2).1 h),hg _ _ e2]
    exact(Sm.pure (g (hd L1))).tl H h hR h6⟩
theorem Sm.Cm(H:Alike R D φ DE){k:Int}(hk:k≠6){g:Tok→α}(hg:∀ t u:Tok,t.text=u.text→g t=g u):Sm R D φ DE 1 (fun L=>(dM k L).map g):=by
 have:=Sm.tok (c:=fun _=>False) (e:=1) H hk (by decide) (fun _ _ _=>Iff.rfl) hg
 simp only[Zt]at this
 exact this
theorem Sm.name(H:Alike R D φ DE):Sm R D φ DE 1 fh:=Sm.ite H (fun L1 L2 h=>by
 rcases h with⟨h1,h2⟩|⟨h1,h2,h3,h4⟩
 ·simp only[h2]
 ·simp only[h2,h4];decide) (Sm.wrong H) (Sm.Cm H (by decide) fun _ _ h=>h)
theorem Sm.num(H:Alike R D φ DE):Sm R D φ DE 1 az2:=Sm.Cm H (by decide) fun t u h=>by rw[h]
theorem Sm.many(H:Alike R D φ DE){sep:af}(hs:sep≠ch 41){f:List Tok→PR α}(hf:Sm R D φ DE 0 f):∀ n acc,Sm R D φ DE 0 (fun L=>j4 sep f n L acc)
 |0,acc=>Sm.pure acc
 |n+1,acc=>Sm.look (n:=0) H ⟨by decide,fun h=>hs h.2⟩ (Sm.bind (n:=0) (m:=0) H hf fun a=>Sm.many H hs hf n (acc++[a])) (Sm.pure acc) (ZK _)
theorem Sm.list(H:Alike R D φ DE){sep:af}(hs:sep≠ch 41){f:List Tok→PR α}(hf:Sm R D φ DE 1 f):Sm R D φ DE 1 (gy sep f):=Sm.bind (n:=1) (m:=0) H hf fun a=>Sm.many H hs (hf.le (ZK _)) N0 [a]
theorem Sm.uW(H:Alike R D φ DE):Sm R D φ DE 1 dP:=by
 refine Sm.bind (n:=1) (m:=0) H (Sm.name H) fun a=> ?_
 refine Sm.look (n:=0) H (by decide) (Sm.look (n:=0) H (by decide) (Sm.map H ((Sm.num H).le (by omega))) (Sm.map H ((Sm.num H).le (by omega))) (by omega)) (Sm.pure _) (by omega)
theorem Sm.unit(H:Alike R D φ DE):Sm R D φ DE 0 iq:=⟨Pos.unit,fun L1 L2 h hR=>by
 have hb:=Sm.bind (n:=1) (m:=1) H (f:=gy (ch 42) dP) (Sm.list H (by decide) (Sm.uW H)) (g:=fun l L1=>(dt (ch 93) L1).bind fun _ L2=>PR.ok l L2) fun l=>Sm.bind (n:=1) (m:=0) H (Sm.bU H (by decide)) fun _=>Sm.pure l
 have es:au 5 (ch 91) L2=au 5 (ch 91) L1:=Ao (by decide) (by decide) L1 L2 (H.heq hR)
 unfold iq
 rw[es]
 by_cases hs:au 5 (ch 91) L1=true
 ·rw[if_pos hs,if_pos hs]
  have hk:=cr (k:=5) (by decide) L1 hs
  have ht:=hb.tl H h hR hk
  obtain⟨e1,e2,e3⟩:=H.same hR hk
  have key:∀ L,((gy (ch 42) dP L.tail).bind fun l L1=>(dt (ch 93) L1).bind fun _ L2=>if(gz l).2≠0 then PR.err (hd L).at_ (gz l).2 else .ok (gz l).1 L2)=
    (((gy (ch 42) dP L.tail).bind fun l L1=>(dt (ch 93) L1).bind fun _ L2=>PR.ok l L2).bind fun l L2=>if(gz l).2≠0 then PR.err (hd L).at_ (gz l).2 else .ok (gz l).1 L2):=fun L=>by
   cases gy (ch 42) dP L.tail with
   |err p c=>rfl
   |ok l M=>
    simp only[PR.bind]
    cases dt (ch 93) M with
    |err p c=>rfl
    |ok u M2=>rfl
  rw[key L1,key L2]
  generalize hg1:((gy (ch 42) dP L1.tail).bind fun l L1=>(dt (ch 93) L1).bind fun _ L2=>PR.ok l L2)=r1 at ht
  generalize qE:((gy (ch 42) dP L2.tail).bind fun l L1=>(dt (ch 93) L1).bind fun _ L2=>PR.ok l L2)=r2 at ht
  cases r1 with
  |err p c=>
   rcases ht.err p c rfl with hD|e
   ·exact⟨fun b L' e=>(by cases e),fun p' c' e=>by cases e;exact .inl hD⟩
   ·rw[e];exact⟨fun b L' e=>(by cases e),fun p' c' e=>by cases e;exact .inr rfl⟩
  |ok l M1=>
   rcases ht.ok l M1 rfl with hD|⟨M2,e,ff⟩
   ·simp only[PR.bind]
    split
    ·exact⟨fun b L' e=>(by cases e),fun p' c' e=> .inl (H.DB hD _)⟩
    ·exact⟨fun b L' e=>by cases e;exact .inl hD,fun p' c' e=>(by cases e)⟩
   ·rw[e]
    simp only[PR.bind]
    split
    ·exact⟨fun b L' e=>(by cases e),fun p' c' e=>by cases e;exact .inr (by rw[e3])⟩
    ·exact⟨fun b L' e=>by cases e;exact .inr ⟨M2,rfl,ff⟩,fun p' c' e=>by cases e⟩
 ·rw[if_neg hs,if_neg hs];exact(Sm.pure []).dx L1 L2 h hR⟩
end
section
variable {R:List Tok→List Tok→Prop}{D:List Tok→Prop}{φ:Int→Int}{DE:Int→Prop}
theorem Sm.kind(H:Alike R D φ DE):Sm R D φ DE 1 Bu:=by
 refine Sm.look (n:=0) H (by decide) (Sm.pure _) ?_ (by omega)
 refine Sm.look (n:=0) H (by decide) (Sm.pure _) ?_ (by omega)
 refine Sm.look (n:=0) H (by decide) (Sm.map H ((Sm.name H).le (by omega))) ?_ (by omega)
 refine Sm.look (n:=0) H (by decide) (Sm.map H (Sm.unit H)) ?_ (by omega)
 exact Sm.bind (n:=1) (m:=0) H (Sm.bU H (by decide)) fun _=>Sm.map H (Sm.unit H)
theorem Sm.zT(H:Alike R D φ DE):Sm R D φ DE 1 rM:=by
 refine Sm.look (n:=0) H (by decide) (Sm.pure _) ?_ (by omega)
 refine Sm.look (n:=0) H (by decide) (Sm.map H ((Sm.num H).le (by omega))) ?_ (by omega)
 refine Sm.look (n:=0) H (by decide) (Sm.map H ((Sm.num H).le (by omega))) ?_ (by omega)
 exact Sm.bind (n:=1) (m:=0) H (Sm.bU H (by decide)) fun _=>Sm.map H ((Sm.num H).le (by omega))
theorem Sm.Bt(H:Alike R D φ DE):Sm R D φ DE 1 px:=(Sm.bind (n:=1) (m:=1) H (Sm.name H) fun a=>Sm.tok H (by decide) (by decide) (fun t u h=>by rw[h]) fun t u h=>by rw[h]).le (by omega)
theorem IK{p:Prop}:uv (fun _=>p):=fun L1 L2 h=>rfl
structure QO(R:List Tok→List Tok→Prop)(D:List Tok→Prop)(φ:Int→Int)(DE:Int→Prop)(n:Nat):Prop where
 expr:∀ i,Sm R D φ DE 1 (bD n i)
 lz:∀ i x,Sm R D φ DE 0 (dZ n i x)
 bin:∀ l i,Sm R D φ DE 1 (dN n l i)
 ops:∀ l m i x,Sm R D φ DE 0 (eg n l m i x)
 operand:∀ l i,Sm R D φ DE 1 (eC n l i)
 mU:∀ i,Sm R D φ DE 1 (fi n i)
 group:∀ i,Sm R D φ DE 1 (aJf n i)
 word:∀ i L1 L2,ck L1→R L1 L2→(hd L1).kind≠6→sd R D φ DE (fJ n i L1) (fJ n i L2)
 agg:∀ o,Sm R D φ DE 1 (gC n o)
theorem Gu(H:Alike R D φ DE):∀ n,QO R D φ DE n
 |0=>by
  have hp:=kO 0
  refine⟨fun i=>⟨hp.expr i,?_⟩,fun i x=>⟨hp.lz i x,?_⟩,fun l i=>⟨hp.bin l i,?_⟩,fun l m i x=>⟨hp.ops l m i x,?_⟩,fun l i=>⟨hp.operand l i,?_⟩,fun i=>⟨hp.mU i,?_⟩,fun i=>⟨hp.group i,?_⟩,fun i L1 L2 hL hR hk=> ?_,fun o=>⟨hp.agg o,?_⟩⟩
  ·intro L1 L2 hL hR;rw[bD,bD];exact(Sm.wrong (n:=0) H).dx L1 L2 hL hR
  ·intro L1 L2 hL hR;rw[dZ,dZ];exact(Sm.wrong (n:=0) H).dx L1 L2 hL hR
  ·intro L1 L2 hL hR;rw[dN,dN];exact(Sm.wrong (n:=0) H).dx L1 L2 hL hR
  ·intro L1 L2 hL hR;rw[eg,eg];exact(Sm.wrong (n:=0) H).dx L1 L2 hL hR
  ·intro L1 L2 hL hR;rw[eC,eC];exact(Sm.wrong (n:=0) H).dx L1 L2 hL hR
  ·intro L1 L2 hL hR;rw[fi,fi];exact(Sm.wrong (n:=0) H).dx L1 L2 hL hR
  ·intro L1 L2 hL hR;rw[aJf,aJf];exact(Sm.wrong (n:=0) H).dx L1 L2 hL hR
  ·rw[fJ,fJ];exact(Sm.wrong (n:=0) H).dx L1 L2 hL hR
  ·intro L1 L2 hL hR;rw[gC,gC];exact(Sm.wrong (n:=0) H).dx L1 L2 hL hR
 |n+1=>by
  have hp:=kO (n+1)
  have ih:=Gu H n
  refine⟨fun i=>⟨hp.expr i,?_⟩,fun i x=>⟨hp.lz i x,?_⟩,fun l i=>⟨hp.bin l i,?_⟩,fun l m i x=>⟨hp.ops l m i x,?_⟩,fun l i=>⟨hp.operand l i,?_⟩,fun i=>⟨hp.mU i,?_⟩,fun i=>⟨hp.group i,?_⟩,fun i L1 L2 hL hR hk=> ?_,fun o=>⟨hp.agg o,?_⟩⟩
  ·intro L1 L2 hL hR;rw[bD,bD]
   exact(Sm.look (n:=0) (m:=1) H (by decide) (Sm.le (n:=5) (Sm.bind (n:=1) (m:=4) H (ih.expr i) fun a=>Sm.bind (n:=1) (m:=3) H (Sm.bU H (by decide)) fun _=>Sm.bind (n:=1) (m:=2) H (ih.expr i) fun b=>Sm.bind (n:=1) (m:=1) H (Sm.bU H (by decide)) fun _=>Sm.bind (n:=1) (m:=0) H (ih.expr i) fun c=>Sm.pure _) (by omega))
    (Sm.bind (n:=1) (m:=0) H (ih.bin 1 i) fun x=>ih.lz i x) (by omega)).dx L1 L2 hL hR
  ·intro L1 L2 hL hR;rw[dZ,dZ]
   exact(Sm.look (n:=0) (m:=0) H (by decide) (Sm.le (n:=1) (Sm.bind (n:=1) (m:=0) H (ih.bin 1 i) fun y=>ih.lz i _) (by omega)) (Sm.pure x) (by omega)).dx L1 L2 hL hR
  ·intro L1 L2 hL hR;rw[dN,dN]
   rw[Ao (k:=1) (s:=cE) (by decide) (by decide) L1 L2 (H.heq hR)]
   exact(Sm.bind (n:=1) (m:=0) H (ih.operand l i) fun x=>ih.ops l (if decide (l≤3) && au 1 cE L1 then 2 else 7) i x).dx L1 L2 hL hR
  ·intro L1 L2 hL hR;rw[eg,eg]
   rw[TE L1 L2 (H.heq hR)]
   by_cases h:bo L1≥l∧bo L1≠0∧bo L1≤m
   ·rw[if_pos h,if_pos h,(H.same hR (v8 L1 h.2.1)).2.1]
    exact(Sm.bind (n:=1) (m:=0) H (ih.bin (bo L1+1) i) fun y=>ih.ops l (if bo L1=4 then 3 else bo L1) i (oP (hd L1).text x y)).tl H hL hR (v8 L1 h.2.1)
   ·rw[if_neg h,if_neg h];exact(Sm.pure x).dx L1 L2 hL hR
  ·intro L1 L2 hL hR;rw[eC,eC]
   exact(Sm.step (n:=0) (m:=1) (c:=fun L=>(decide (l≤3) && au 1 cE L)=true) H (fun L1 L2 h=>by simp only[Ao (k:=1) (s:=cE) (by decide) (by decide) L1 L2 h]) (fun L h=>cr (k:=1) (by decide) L (Z0 _ _ ▸ h).2) (Sm.map H ((ih.bin 3 i).le (by omega)))
    (Sm.look (n:=0) (m:=1) H (by decide) (Sm.map H ((ih.operand 7 i).le (by omega))) (ih.mU i) (by omega)) (by omega)).dx L1 L2 hL hR
  ·intro L1 L2 hL hR
   rcases H.head hR with⟨e0,_⟩|⟨c1,_,c3,c4,c5⟩
   rotate_left
   ·have q1:∀ L:List Tok,(hd L).kind≠2→(hd L).kind≠3→(hd L).kind≠4→(hd L).kind≠1→fi (n+1) i L=if au 5 (ch 64) L=true then px L.tail else aJf n i L:=fun L a b c d=>by rw[fi,if_neg a,if_neg b,if_neg c,if_neg d]
    rw[q1 L1 (by rw[c1];decide) (by rw[c1];decide) (by rw[c1];decide) (by rw[c1];decide),q1 L2 (by rw[c3];decide) (by rw[c3];decide) (by rw[c3];decide) (by rw[c3];decide)]
    exact(Sm.look (n:=0) (m:=1) (k:=5) (s:=ch 64) H (by decide) ((Sm.Bt H).le (by omega)) (ih.group i) (by omega)).dx L1 L2 hL hR
   rw[fi,fi]
   rw[e0]
   by_cases h2:(hd L1).kind=2
   ·rw[if_pos h2,if_pos h2];exact(Sm.bind (n:=1) (m:=0) H (Sm.num H) fun k=>Sm.map H (Sm.unit H)).dx L1 L2 hL hR
   rw[if_neg h2,if_neg h2]
   by_cases h3:(hd L1).kind=3
   ·rw[if_pos h3,if_pos h3]
    have e:∀ L,((dM 3 L).bind fun t M=>(iq M).map fun u=>jh ⟨3,nE t.text,⟨#[]⟩⟩ u ⟨#[]⟩)=((dM 3 L).map fun t=>nE t.text).bind fun v M=>(iq M).map fun u=>jh ⟨3,v,⟨#[]⟩⟩ u ⟨#[]⟩:=fun L=>by
     cases dM 3 L<;>rfl
    rw[e,e]
    exact(Sm.bind (n:=1) (m:=0) H (Sm.Cm H (by decide) fun t u h=>by rw[h]) fun k=>Sm.map H (Sm.unit H)).dx L1 L2 hL hR
   rw[if_neg h3,if_neg h3]
   by_cases h4:(hd L1).kind=4
   ·rw[if_pos h4,if_pos h4];exact(Sm.Cm H (by decide) fun t u h=>by rw[h]).dx L1 L2 hL hR
   rw[if_neg h4,if_neg h4]
   by_cases h1:(hd L1).kind=1
   ·rw[if_pos h1,if_pos h1];exact ih.word i L1 L2 hL hR (by rw[h1];decide)
   rw[if_neg h1,if_neg h1]
   exact(Sm.look (n:=0) (m:=1) H (by decide) ((Sm.Bt H).le (by omega)) (ih.group i) (by omega)).dx L1 L2 hL hR
  ·intro L1 L2 hL hR;rw[aJf,aJf]
   exact(Sm.bind (n:=1) (m:=2) H (Sm.bU H (by decide)) fun _=>Sm.bind (n:=1) (m:=1) H (ih.expr i) fun x=>Sm.map H (Sm.bU H (by decide))).dx L1 L2 hL hR
  ·rw[fJ,fJ,(H.same hR hk).2.1]
   split
   ·exact(Sm.pure _).tl H hL hR hk
   split
   ·exact(Sm.map H (ih.group i)).tl H hL hR hk
   split
   ·exact(ih.agg _).tl H hL hR hk
   ·refine(Sm.bind (n:=1) (m:=0) H (Sm.name H) fun s=> ?_).dx L1 L2 hL hR
    by_cases hi:i=true
    ·simp only[if_pos hi];exact Sm.pure _
    ·simp only[if_neg hi]
     exact Sm.look (n:=0) (m:=0) H (by decide) (Sm.map H ((ih.group i).le (by omega))) (Sm.pure _) (by omega)
  ·intro L1 L2 hL hR;rw[gC,gC]
   refine(Sm.bind (n:=1) (m:=4) H (Sm.bU H (by decide)) fun _=>Sm.bind (n:=1) (m:=3) H (Sm.name H) fun tb=>Sm.bind (n:=1) (m:=2) H (Sm.bU H (by decide)) fun _=>Sm.bind (n:=0) (m:=2) H ?_ fun a=>Sm.bind (n:=0) (m:=2) H ?_ fun p=>Sm.bind (n:=1) (m:=1) H (Sm.zT H) fun w=>Sm.bind (n:=0) (m:=1) H ?_ fun c=>Sm.map H (Sm.bU H (by decide))).dx L1 L2 hL hR
   ·exact Sm.ite H IK (Sm.bind (n:=0) (m:=0) H ((ih.expr true).le (by omega)) fun x=>Sm.map H ((Sm.bU H (by decide)).le (by omega))) (Sm.pure _)
   ·exact Sm.ite H IK (Sm.bind (n:=0) (m:=0) H ((Sm.num H).le (by omega)) fun x=>Sm.map H ((Sm.bU H (by decide)).le (by omega))) (Sm.pure _)
   ·exact Sm.look (n:=0) (m:=0) H (by decide) ((ih.expr true).le (by omega)) (Sm.pure _) (by omega)
theorem Sm.field(H:Alike R D φ DE):Sm R D φ DE 1 Km:=Sm.le (n:=3) (Sm.bind (n:=1) (m:=2) H (Sm.name H) fun n=>Sm.bind (n:=1) (m:=1) H (Sm.bU H (by decide)) fun _=>Sm.map H (Sm.kind H)) (by omega)
theorem Sm.of(H:Alike R D φ DE):Sm R D φ DE 1 FI:=Sm.le (n:=3) (Sm.bind (n:=1) (m:=2) H (Sm.name H) fun n=>Sm.bind (n:=1) (m:=1) H (Sm.bU H (by decide)) fun _=>Sm.map H (Sm.name H)) (by omega)
theorem Sm.fields(H:Alike R D φ DE):Sm R D φ DE 1 Kn:=Sm.look (n:=0) (m:=1) H (by decide) (Sm.pure _) (Sm.le (n:=2) (Sm.bind (n:=1) (m:=1) H (Sm.list H (by decide) (Sm.field H)) fun l=>Sm.map H (Sm.bU H (by decide))) (by omega)) (by omega)
theorem Sm.keep(H:Alike R D φ DE):Sm R D φ DE 0 Mw:=Sm.look (n:=1) (m:=0) H (by decide) (Sm.num H) (Sm.pure _) (by omega)
theorem Sm.table(H:Alike R D φ DE):Sm R D φ DE 1 O8:=Sm.le (n:=4) (Sm.bind (n:=1) (m:=3) H (Sm.of H) fun n=>Sm.bind (n:=1) (m:=2) H (Sm.bU H (by decide)) fun _=>Sm.bind (n:=1) (m:=1) H (Sm.fields H) fun l=>Sm.bind (n:=0) (m:=1) H (Sm.keep H) fun k=>Sm.map H (Sm.bU H (by decide))) (by omega)
theorem Sm.Wo(H:Alike R D φ DE):Sm R D φ DE 1 Kh:=Sm.le (n:=6) (Sm.bind (n:=1) (m:=5) H (Sm.of H) fun n=>Sm.bind (n:=1) (m:=4) H (Sm.bU H (by decide)) fun _=>Sm.bind (n:=1) (m:=3) H (Sm.kind H) fun t=>Sm.bind (n:=1) (m:=2) H (Sm.bU H (by decide)) fun _=>Sm.bind (n:=1) (m:=1) H ((Gu H N0).expr false) fun x=>Sm.map H (Sm.bU H (by decide))) (by omega)
theorem Sm.item(H:Alike R D φ DE):Sm R D φ DE 1 aJe:=Sm.look (n:=1) (m:=1) H (by decide) (Sm.map H (Sm.table H)) (Sm.look (n:=1) (m:=1) H (by decide) (Sm.map H (Sm.Wo H)) (Sm.wrong H) (by omega)) (by omega)
end
theorem y8(p:UInt8→Bool)(u:Bs):aD p u≤u.length:=by
 unfold aD
 exact(List.takeWhile_sublist p).length_le
theorem BQ:∀ {u:Bs},u≠[]→1≤(ax u).2.1∧(ax u).2.1≤u.length
 |[],h=>absurd rfl h
 |c::r,_=>by
  have l1:=y8 (fun b=>b != 10) (c::r)
  have l2:=y8 ey (c::r)
  have l3:=y8 aO (c::r)
  have l4:=y8 (fun b=>b != 34 && b != 10) r
  have g1:aC c=6→1≤aD (fun b=>b != 10) (c::r):=fun h=>by
   have:(c != 10)=true:=by
    rw[bne_iff_ne];rintro rfl;exact absurd h (by decide)
   unfold aD;rw[ZG,this];simp
  have g2:aC c=2→1≤aD ey (c::r):=fun h=>by
   unfold aD;rw[ZG,show ey c=true by unfold ey;simp[h]];simp
  have g3:aC c=3→1≤aD aO (c::r):=fun h=>by
   unfold aD;rw[ZG,show aO c=true by unfold aO;simp[h]];simp
  unfold ax
  simp only
  by_cases k1:aC c=1
  ·rw[if_pos k1];simp
  rw[if_neg k1]
  by_cases k6:aC c=6
  ·rw[if_pos k6];exact⟨g1 k6,l1⟩
  rw[if_neg k6]
  by_cases k2:aC c=2
  ·rw[if_pos k2];exact⟨g2 k2,l2⟩
  rw[if_neg k2]
  by_cases k3:aC c=3
  ·rw[if_pos k3]
   have g3:=g3 k3
   have dl:((c::r).drop (aD aO (c::r))).length+aD aO (c::r)=(c::r).length:=by rw[Zx];omega
   generalize aD aO (c::r)=n at *
   cases h:(c::r).drop n with
   |nil=>rw[if_neg (by simp)];exact⟨g3,l3⟩
   |cons x xs=>
    rw[h]at dl
    have l5:=y8 aO xs
    simp only[Z9,X0,List.drop_zero]at dl ⊢
    split
    ·exact⟨by simp only;omega,by simp only;omega⟩
    ·exact⟨g3,by simp only;omega⟩
  rw[if_neg k3]
  by_cases k5:aC c=5
  ·rw[if_pos k5]
   have dl:(r.drop (aD (fun b=>b != 34 && b != 10) r)).length+aD (fun b=>b != 34 && b != 10) r=r.length:=by rw[Zx];omega
   split
   ·rename_i h
    cases h2:r.drop (aD (fun b=>b != 34 && b != 10) r)with
    |nil=>rw[h2]at h;cases h
    |cons x xs=>rw[h2]at dl;simp only[Z9]at dl ⊢;exact⟨by omega,by omega⟩
   ·simp
  rw[if_neg k5]
  split
  ·split
   ·rename_i h
    cases r with
    |nil=>simp at h
    |cons x xs=>simp
   ·split<;>simp
  ·simp
theorem lex_nil(n:Nat)(at_ st:Int):cA n at_ st []=([⟨6,⟨#[]⟩,at_⟩],[]):=by cases n<;>rfl
end Go.Proofs.YtbihckigennlhaaGreatDoor
