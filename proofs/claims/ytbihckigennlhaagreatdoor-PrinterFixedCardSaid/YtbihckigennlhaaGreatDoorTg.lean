/- Parsing two lists of tokens that look alike (plain). -/
import Derived.Test.YtbihckigennlhaaGreatDoorTz
set_option linter.unusedVariables false
set_option linter.unusedSimpArgs false
set_option linter.unusedSectionVars false
namespace Go.Proofs.YtbihckigennlhaaGreatDoor
open Go.Sx Go.Proofs
def FN(L1 L2:List Tok):Prop:=((hd L2).kind=(hd L1).kind∧(hd L2).text=(hd L1).text)∨((hd L1).kind=6∧(hd L1).text=⟨#[]⟩∧(hd L2).kind=5∧(hd L2).text=ch 41)
structure Alike(R:List Tok→List Tok→Prop)(D:List Tok→Prop)(φ:Int→Int)(DE:Int→Prop):Prop where
 head:∀ {L1 L2},R L1 L2→((hd L2).kind=(hd L1).kind∧(hd L2).text=(hd L1).text∧(hd L2).at_=φ (hd L1).at_)∨((hd L1).kind=6∧(hd L1).text=⟨#[]⟩∧(hd L2).kind=5∧(hd L2).text=ch 41∧∀ p,DE p)
 tail:∀ {L1 L2},R L1 L2→(hd L1).kind≠6→D L1.tail∨R L1.tail L2.tail
 dead:∀ {L1 L'},D L1→L' <:+ L1→D L'
 HO:∀ {L1},D L1→∀ p,DE p
section
variable {R:List Tok→List Tok→Prop}{D:List Tok→Prop}{φ:Int→Int}{DE:Int→Prop}
structure qG(R:List Tok→List Tok→Prop)(D:List Tok→Prop)(φ:Int→Int)(DE:Int→Prop){α:Type}(r1 r2:PR α):Prop where
 ok:∀ a L1,r1= .ok a L1→D L1∨∃ L2,r2= .ok a L2∧R L1 L2
 err:∀ p c,r1= .err p c→DE p∨r2= .err (φ p) c
structure Sm(R:List Tok→List Tok→Prop)(D:List Tok→Prop)(φ:Int→Int)(DE:Int→Prop){α:Type}(n:Nat)(f:List Tok→PR α):Prop where
 pos:Pos n f
 dB:∀ L1 L2,bF L1→R L1 L2→qG R D φ DE (f L1) (f L2)
variable {α β:Type}{n m:Nat}
theorem Alike.heq(H:Alike R D φ DE){L1 L2:List Tok}(h:R L1 L2):FN L1 L2:=by
 rcases H.head h with⟨h1,h2,_⟩|⟨h1,h2,h3,h4,_⟩
 ·exact .inl ⟨h1,h2⟩
 ·exact .inr ⟨h1,h2,h3,h4⟩
theorem Alike.same(H:Alike R D φ DE){L1 L2:List Tok}(h:R L1 L2)(hk:(hd L1).kind≠6):(hd L2).kind=(hd L1).kind∧(hd L2).text=(hd L1).text∧(hd L2).at_=φ (hd L1).at_:=by
 rcases H.head h with h1|⟨h1,_⟩
 ·exact h1
 ·exact absurd h1 hk
theorem qG.dead(H:Alike R D φ DE){r1 r2:PR α}{L:List Tok}(hD:D L)(hP:vF n L r1):qG R D φ DE r1 r2:=
 ⟨fun a L1 e=> .inl (H.dead hD (hP.ok a L1 e).1),fun p c e=> .inl (H.HO hD p)⟩
theorem Sm.le{f:List Tok→PR α}(h:Sm R D φ DE n f)(hm:m≤n):Sm R D φ DE m f:=⟨h.pos.le hm,h.dB⟩
theorem Sm.pure(a:α):Sm R D φ DE 0 (fun L=>PR.ok a L):=⟨Pos.pure a,fun L1 L2 h hR=>⟨fun b L' e=>by cases e;exact .inr ⟨L2,rfl,hR⟩,fun p c e=>by cases e⟩⟩
theorem Sm.wrong(H:Alike R D φ DE):Sm R D φ DE n (eQ (α:=α)):=⟨Pos.wrong,fun L1 L2 h hR=>⟨fun b L' e=>(by cases e),fun p c e=>by
 cases e
 rcases H.head hR with⟨_,_,h3⟩|⟨_,_,_,_,h5⟩
 ·exact .inr (by unfold eQ;rw[h3])
 ·exact .inl (h5 _)⟩⟩
theorem Sm.bind(H:Alike R D φ DE){f:List Tok→PR α}{g:α→List Tok→PR β}(hf:Sm R D φ DE n f)(hg:∀ a,Sm R D φ DE m (g a)):Sm R D φ DE (n+m) (fun L=>(f L).bind g):=by
 refine⟨Pos.bind hf.pos fun a=>(hg a).pos,fun L1 L2 h hR=> ?_⟩
 have h0:=hf.dB L1 L2 h hR
 have hp:=hf.pos L1 h
 cases e:f L1 with
 |ok a M1=>
  simp only[PR.bind]
  obtain⟨p1,p2,p3⟩:=hp.ok a M1 e
  rcases h0.ok a M1 e with CW|⟨M2,e2,eL⟩
  ·exact qG.dead H CW ((hg a).pos M1 p2)
  ·rw[e2];exact(hg a).dB M1 M2 p2 eL
 |err p c=>
  simp only[PR.bind]
  rcases h0.err p c e with CW|e2
  ·exact⟨fun b L' e=>(by cases e),fun p' c' e=>by cases e;exact .inl CW⟩
  ·rw[e2];exact⟨fun b L' e=>(by cases e),fun p' c' e=>by cases e;exact .inr rfl⟩
theorem Sm.map(H:Alike R D φ DE){f:List Tok→PR α}{g:α→β}(hf:Sm R D φ DE n f):Sm R D φ DE n (fun L=>(f L).map g):=Sm.bind (m:=0) H hf fun a=>Sm.pure (g a)
def sV{ι:Type}(v:List Tok→ι):Prop:=∀ L1 L2,FN L1 L2→v L2=v L1
theorem yB{k:Int}{s:ag}(hk:k≠6)(hs:¬(k=5∧s=ch 41)):sV (ar k s):=fun L1 L2 h=>by
 unfold ar
 rcases h with⟨h1,h2⟩|⟨h1,h2,h3,h4⟩
 ·rw[h1,h2]
 ·rw[h1,h2,h3,h4,Zu (p:=(6:Int)=k) (fun e=>hk e.symm),Bool.false_and,Bool.and_eq_false_iff]
  by_cases h5:(5:Int)=k
  ·exact .inr (Zu fun e=>hs ⟨h5.symm,e.symm⟩)
  ·exact .inl (Zu h5)
theorem QW:sV aY:=fun L1 L2 h=>by
 unfold aY
 rcases h with⟨h1,h2⟩|⟨h1,h2,h3,h4⟩
 ·simp only[h1,h2]
 ·simp only[h1,h2,h3,h4];decide
theorem Sm.ite(H:Alike R D φ DE){f g:List Tok→PR α}{c:List Tok→Prop}[∀ L,Decidable (c L)](hc:sV c)(hf:Sm R D φ DE n f)(hg:Sm R D φ DE n g):Sm R D φ DE n (fun L=>if c L then f L else g L):=
 ⟨Pos.ite hf.pos hg.pos,fun L1 L2 h hR=>by
  have e:=hc L1 L2 (H.heq hR)
  by_cases h1:c L1
  ·simp only[if_pos h1,if_pos (show c L2 by rw[e];exact h1)];exact hf.dB L1 L2 h hR
  ·simp only[if_neg h1,if_neg (show¬c L2 by rw[e];exact h1)];exact hg.dB L1 L2 h hR⟩
theorem Sm.tl(H:Alike R D φ DE){f:List Tok→PR α}(hf:Sm R D φ DE n f){L1 L2:List Tok}(h:bF L1)(hR:R L1 L2)(hk:(hd L1).kind≠6):qG R D φ DE (f L1.tail) (f L2.tail):=by
 have ht:=(h.tail hk).1
 rcases H.tail hR hk with hD|eL
 ·exact qG.dead H hD (hf.pos _ ht)
 ·exact hf.dB _ _ ht eL
theorem Sm.step(H:Alike R D φ DE){f g:List Tok→PR α}{c:List Tok→Prop}[∀ L,Decidable (c L)](hc:sV c)(hk:∀ L,c L→(hd L).kind≠6)(hf:Sm R D φ DE n f)(hg:Sm R D φ DE m g)(hm:m≤n+1):Sm R D φ DE m (fun L=>if c L then f L.tail else g L):=
 ⟨Pos.step hk hf.pos hg.pos hm,fun L1 L2 h hR=>by
  have e:=hc L1 L2 (H.heq hR)
  by_cases h1:c L1
  ·simp only[if_pos h1,if_pos (show c L2 by rw[e];exact h1)];exact hf.tl H h hR (hk L1 h1)
  ·simp only[if_neg h1,if_neg (show¬c L2 by rw[e];exact h1)];exact hg.dB L1 L2 h hR⟩
theorem QX{k:Int}{s:ag}(hk:k≠6)(hs:¬(k=5∧s=ch 41)):sV (fun L=>ar k s L=true):=fun L1 L2 h=>by simp only[yB hk hs L1 L2 h]
theorem Sm.look(H:Alike R D φ DE){f g:List Tok→PR α}{k:Int}{s:ag}(hk:k≠6∧¬(k=5∧s=ch 41))(hf:Sm R D φ DE n f)(hg:Sm R D φ DE m g)(hm:m≤n+1):Sm R D φ DE m (fun L=>if ar k s L=true then f L.tail else g L):=Sm.step H (QX hk.1 hk.2) (bJ hk.1) hf hg hm
theorem Sm.bK(H:Alike R D φ DE){k:Int}{s:ag}(hk:k≠6):Sm R D φ DE 1 (iV k s):=⟨Pos.bK hk,fun L1 L2 h hR=>by
 unfold iV
 by_cases hs:ar k s L1=true
 ·have h6:=bJ hk L1 hs
  obtain⟨e1,e2,_⟩:=H.same hR h6
  have dz:ar k s L2=true:=by unfold ar at hs ⊢;rw[e1,e2];exact hs
  rw[if_pos hs,if_pos dz];exact(Sm.pure ()).tl H h hR h6
 ·rcases H.head hR with⟨e1,e2,_⟩|⟨_,_,_,_,h5⟩
  ·have dz:¬ar k s L2=true:=by unfold ar at hs ⊢;rw[e1,e2];exact hs
   rw[if_neg hs,if_neg dz];exact(Sm.wrong (n:=0) H).dB L1 L2 h hR
  ·rw[if_neg hs];exact⟨fun a L' e=>(by cases e),fun p c e=> .inl (h5 p)⟩⟩
theorem Sm.tok(H:Alike R D φ DE){k:Int}(hk:k≠6){c:Tok→Prop}[∀ t,Decidable (c t)]{e:Int}(he:e≠0){g:Tok→α}(hc:∀ t u:Tok,t.text=u.text→(c t↔c u))(hg:∀ t u:Tok,t.text=u.text→g t=g u):Sm R D φ DE 1 (fun L=>(dC k L).bind fun t L2=>if c t then .err t.at_ e else .ok (g t) L2):=
 ⟨Pos.MW hk he,fun L1 L2 h hR=>by
  by_cases gU:(hd L1).kind≠k
  ·have h1:dC k L1=eQ L1:=if_pos gU
   rcases H.head hR with⟨e1,e2,e3⟩|⟨_,_,_,_,h5⟩
   ·have h2:dC k L2=eQ L2:=if_pos (by rw[e1];exact gU)
    simp only[h1,h2];exact(Sm.wrong (n:=0) H).dB L1 L2 h hR
   ·simp only[h1];exact⟨fun a L' e=>(by cases e),fun p c e=> .inl (h5 p)⟩
  ·obtain⟨e1,e2,e3⟩:=H.same hR fun e=>hk ((Classical.not_not.1 gU).symm.trans e)
   have h1:dC k L1= .ok (hd L1) L1.tail:=if_neg gU
   have h2:dC k L2= .ok (hd L2) L2.tail:=if_neg (by rw[e1];exact gU)
   have h6:(hd L1).kind≠6:=fun e=>hk ((Classical.not_not.1 gU).symm.trans e)
   simp only[h1,h2,PR.bind]
   by_cases zB:c (hd L1)
   ·rw[if_pos zB,if_pos ((hc _ _ e2).2 zB)]
    exact⟨fun a L' e=>(by cases e),fun p q e=>by cases e;exact .inr (by rw[e3])⟩
   ·rw[if_neg zB,if_neg fun h=>zB ((hc _ _ e2).1 h),hg _ _ e2]
    exact(Sm.pure (g (hd L1))).tl H h hR h6⟩
theorem Sm.A1(H:Alike R D φ DE){k:Int}(hk:k≠6){g:Tok→α}(hg:∀ t u:Tok,t.text=u.text→g t=g u):Sm R D φ DE 1 (fun L=>(dC k L).map g):=by
 have:=Sm.tok (c:=fun _=>False) (e:=1) H hk (by decide) (fun _ _ _=>Iff.rfl) hg
 simp only[ZA]at this
 exact this
theorem Sm.name(H:Alike R D φ DE):Sm R D φ DE 1 eN:=Sm.ite H (fun L1 L2 h=>by
 rcases h with⟨h1,h2⟩|⟨h1,h2,h3,h4⟩
 ·simp only[h2]
 ·simp only[h2,h4];decide) (Sm.wrong H) (Sm.A1 H (by decide) fun _ _ h=>h)
theorem Sm.num(H:Alike R D φ DE):Sm R D φ DE 1 dZ:=Sm.A1 H (by decide) fun t u h=>by rw[h]
theorem Sm.many(H:Alike R D φ DE){sep:ag}(hs:sep≠ch 41){f:List Tok→PR α}(hf:Sm R D φ DE 0 f):∀ n acc,Sm R D φ DE 0 (fun L=>jv sep f n L acc)
 |0,acc=>Sm.pure acc
 |n+1,acc=>Sm.look (n:=0) H ⟨by decide,fun h=>hs h.2⟩ (Sm.bind (n:=0) (m:=0) H hf fun a=>Sm.many H hs hf n (acc++[a])) (Sm.pure acc) (ZF _)
theorem Sm.list(H:Alike R D φ DE){sep:ag}(hs:sep≠ch 41){f:List Tok→PR α}(hf:Sm R D φ DE 1 f):Sm R D φ DE 1 (fX sep f):=Sm.bind (n:=1) (m:=0) H hf fun a=>Sm.many H hs (hf.le (ZF _)) N0 [a]
theorem Sm.tG(H:Alike R D φ DE):Sm R D φ DE 1 dG:=by
 refine Sm.bind (n:=1) (m:=0) H (Sm.name H) fun a=> ?_
 refine Sm.look (n:=0) H (by decide) (Sm.look (n:=0) H (by decide) (Sm.map H ((Sm.num H).le (by omega))) (Sm.map H ((Sm.num H).le (by omega))) (by omega)) (Sm.pure _) (by omega)
theorem Sm.unit(H:Alike R D φ DE):Sm R D φ DE 0 gK:=⟨Pos.unit,fun L1 L2 h hR=>by
 have hb:=Sm.bind (n:=1) (m:=1) H (f:=fX (ch 42) dG) (Sm.list H (by decide) (Sm.tG H)) (g:=fun l L1=>(de (ch 93) L1).bind fun _ L2=>PR.ok l L2) fun l=>Sm.bind (n:=1) (m:=0) H (Sm.bK H (by decide)) fun _=>Sm.pure l
 have es:ar 5 (ch 91) L2=ar 5 (ch 91) L1:=yB (by decide) (by decide) L1 L2 (H.heq hR)
 unfold gK
 rw[es]
 by_cases hs:ar 5 (ch 91) L1=true
 ·rw[if_pos hs,if_pos hs]
  have hk:=bJ (k:=5) (by decide) L1 hs
  have ht:=hb.tl H h hR hk
  obtain⟨e1,e2,e3⟩:=H.same hR hk
  have key:∀ L,((fX (ch 42) dG L.tail).bind fun l L1=>(de (ch 93) L1).bind fun _ L2=>if(fZ l).2≠0 then PR.err (hd L).at_ (fZ l).2 else .ok (fZ l).1 L2)=
    (((fX (ch 42) dG L.tail).bind fun l L1=>(de (ch 93) L1).bind fun _ L2=>PR.ok l L2).bind fun l L2=>if(fZ l).2≠0 then PR.err (hd L).at_ (fZ l).2 else .ok (fZ l).1 L2):=fun L=>by
   cases fX (ch 42) dG L.tail with
   |err p c=>rfl
   |ok l M=>
    simp only[PR.bind]
    cases de (ch 93) M with
    |err p c=>rfl
    |ok u M2=>rfl
  rw[key L1,key L2]
  generalize hg1:((fX (ch 42) dG L1.tail).bind fun l L1=>(de (ch 93) L1).bind fun _ L2=>PR.ok l L2)=r1 at ht
  generalize pD:((fX (ch 42) dG L2.tail).bind fun l L1=>(de (ch 93) L1).bind fun _ L2=>PR.ok l L2)=r2 at ht
  cases r1 with
  |err p c=>
   rcases ht.err p c rfl with hD|e
   ·exact⟨fun b L' e=>(by cases e),fun p' c' e=>by cases e;exact .inl hD⟩
   ·rw[e];exact⟨fun b L' e=>(by cases e),fun p' c' e=>by cases e;exact .inr rfl⟩
  |ok l M1=>
   rcases ht.ok l M1 rfl with hD|⟨M2,e,eL⟩
   ·simp only[PR.bind]
    split
    ·exact⟨fun b L' e=>(by cases e),fun p' c' e=> .inl (H.HO hD _)⟩
    ·exact⟨fun b L' e=>by cases e;exact .inl hD,fun p' c' e=>(by cases e)⟩
   ·rw[e]
    simp only[PR.bind]
    split
    ·exact⟨fun b L' e=>(by cases e),fun p' c' e=>by cases e;exact .inr (by rw[e3])⟩
    ·exact⟨fun b L' e=>by cases e;exact .inr ⟨M2,rfl,eL⟩,fun p' c' e=>by cases e⟩
 ·rw[if_neg hs,if_neg hs];exact(Sm.pure []).dB L1 L2 h hR⟩
end
section
variable {R:List Tok→List Tok→Prop}{D:List Tok→Prop}{φ:Int→Int}{DE:Int→Prop}
theorem Sm.kind(H:Alike R D φ DE):Sm R D φ DE 1 zW:=by
 refine Sm.look (n:=0) H (by decide) (Sm.pure _) ?_ (by omega)
 refine Sm.look (n:=0) H (by decide) (Sm.pure _) ?_ (by omega)
 refine Sm.look (n:=0) H (by decide) (Sm.map H ((Sm.name H).le (by omega))) ?_ (by omega)
 refine Sm.look (n:=0) H (by decide) (Sm.map H (Sm.unit H)) ?_ (by omega)
 exact Sm.bind (n:=1) (m:=0) H (Sm.bK H (by decide)) fun _=>Sm.map H (Sm.unit H)
theorem Sm.vq(H:Alike R D φ DE):Sm R D φ DE 1 qu:=by
 refine Sm.look (n:=0) H (by decide) (Sm.pure _) ?_ (by omega)
 refine Sm.look (n:=0) H (by decide) (Sm.map H ((Sm.num H).le (by omega))) ?_ (by omega)
 refine Sm.look (n:=0) H (by decide) (Sm.map H ((Sm.num H).le (by omega))) ?_ (by omega)
 exact Sm.bind (n:=1) (m:=0) H (Sm.bK H (by decide)) fun _=>Sm.map H ((Sm.num H).le (by omega))
theorem Sm.xt(H:Alike R D φ DE):Sm R D φ DE 1 nk:=(Sm.bind (n:=1) (m:=1) H (Sm.name H) fun a=>Sm.tok H (by decide) (by decide) (fun t u h=>by rw[h]) fun t u h=>by rw[h]).le (by omega)
theorem GX{p:Prop}:sV (fun _=>p):=fun L1 L2 h=>rfl
structure Oz(R:List Tok→List Tok→Prop)(D:List Tok→Prop)(φ:Int→Int)(DE:Int→Prop)(n:Nat):Prop where
 expr:∀ i,Sm R D φ DE 1 (bj n i)
 iP:∀ i x,Sm R D φ DE 0 (dq n i x)
 bin:∀ l i,Sm R D φ DE 1 (dm n l i)
 ops:∀ l m i x,Sm R D φ DE 0 (dt n l m i x)
 operand:∀ l i,Sm R D φ DE 1 (dK n l i)
 jZ:∀ i,Sm R D φ DE 1 (ej n i)
 group:∀ i,Sm R D φ DE 1 (dy n i)
 word:∀ i L1 L2,bF L1→R L1 L2→(hd L1).kind≠6→qG R D φ DE (ey n i L1) (ey n i L2)
 agg:∀ o,Sm R D φ DE 1 (fh n o)
theorem Mv(H:Alike R D φ DE):∀ n,Oz R D φ DE n
 |0=>by
  have hp:=jz 0
  refine⟨fun i=>⟨hp.expr i,?_⟩,fun i x=>⟨hp.iP i x,?_⟩,fun l i=>⟨hp.bin l i,?_⟩,fun l m i x=>⟨hp.ops l m i x,?_⟩,fun l i=>⟨hp.operand l i,?_⟩,fun i=>⟨hp.jZ i,?_⟩,fun i=>⟨hp.group i,?_⟩,fun i L1 L2 hL hR hk=> ?_,fun o=>⟨hp.agg o,?_⟩⟩
  ·intro L1 L2 hL hR;rw[bj,bj];exact(Sm.wrong (n:=0) H).dB L1 L2 hL hR
  ·intro L1 L2 hL hR;rw[dq,dq];exact(Sm.wrong (n:=0) H).dB L1 L2 hL hR
  ·intro L1 L2 hL hR;rw[dm,dm];exact(Sm.wrong (n:=0) H).dB L1 L2 hL hR
  ·intro L1 L2 hL hR;rw[dt,dt];exact(Sm.wrong (n:=0) H).dB L1 L2 hL hR
  ·intro L1 L2 hL hR;rw[dK,dK];exact(Sm.wrong (n:=0) H).dB L1 L2 hL hR
  ·intro L1 L2 hL hR;rw[ej,ej];exact(Sm.wrong (n:=0) H).dB L1 L2 hL hR
  ·intro L1 L2 hL hR;rw[dy,dy];exact(Sm.wrong (n:=0) H).dB L1 L2 hL hR
  ·rw[ey,ey];exact(Sm.wrong (n:=0) H).dB L1 L2 hL hR
  ·intro L1 L2 hL hR;rw[fh,fh];exact(Sm.wrong (n:=0) H).dB L1 L2 hL hR
 |n+1=>by
  have hp:=jz (n+1)
  have ih:=Mv H n
  refine⟨fun i=>⟨hp.expr i,?_⟩,fun i x=>⟨hp.iP i x,?_⟩,fun l i=>⟨hp.bin l i,?_⟩,fun l m i x=>⟨hp.ops l m i x,?_⟩,fun l i=>⟨hp.operand l i,?_⟩,fun i=>⟨hp.jZ i,?_⟩,fun i=>⟨hp.group i,?_⟩,fun i L1 L2 hL hR hk=> ?_,fun o=>⟨hp.agg o,?_⟩⟩
  ·intro L1 L2 hL hR;rw[bj,bj]
   exact(Sm.look (n:=0) (m:=1) H (by decide) (Sm.le (n:=5) (Sm.bind (n:=1) (m:=4) H (ih.expr i) fun a=>Sm.bind (n:=1) (m:=3) H (Sm.bK H (by decide)) fun _=>Sm.bind (n:=1) (m:=2) H (ih.expr i) fun b=>Sm.bind (n:=1) (m:=1) H (Sm.bK H (by decide)) fun _=>Sm.bind (n:=1) (m:=0) H (ih.expr i) fun c=>Sm.pure _) (by omega))
    (Sm.bind (n:=1) (m:=0) H (ih.bin 1 i) fun x=>ih.iP i x) (by omega)).dB L1 L2 hL hR
  ·intro L1 L2 hL hR;rw[dq,dq]
   exact(Sm.look (n:=0) (m:=0) H (by decide) (Sm.le (n:=1) (Sm.bind (n:=1) (m:=0) H (ih.bin 1 i) fun y=>ih.iP i _) (by omega)) (Sm.pure x) (by omega)).dB L1 L2 hL hR
  ·intro L1 L2 hL hR;rw[dm,dm]
   rw[yB (k:=1) (s:=cu) (by decide) (by decide) L1 L2 (H.heq hR)]
   exact(Sm.bind (n:=1) (m:=0) H (ih.operand l i) fun x=>ih.ops l (if decide (l≤3) && ar 1 cu L1 then 2 else 7) i x).dB L1 L2 hL hR
  ·intro L1 L2 hL hR;rw[dt,dt]
   rw[QW L1 L2 (H.heq hR)]
   by_cases h:aY L1≥l∧aY L1≠0∧aY L1≤m
   ·rw[if_pos h,if_pos h,(H.same hR (sk L1 h.2.1)).2.1]
    exact(Sm.bind (n:=1) (m:=0) H (ih.bin (aY L1+1) i) fun y=>ih.ops l (if aY L1=4 then 3 else aY L1) i (mE (hd L1).text x y)).tl H hL hR (sk L1 h.2.1)
   ·rw[if_neg h,if_neg h];exact(Sm.pure x).dB L1 L2 hL hR
  ·intro L1 L2 hL hR;rw[dK,dK]
   exact(Sm.step (n:=0) (m:=1) (c:=fun L=>(decide (l≤3) && ar 1 cu L)=true) H (fun L1 L2 h=>by simp only[yB (k:=1) (s:=cu) (by decide) (by decide) L1 L2 h]) (fun L h=>bJ (k:=1) (by decide) L (Z3 _ _ ▸ h).2) (Sm.map H ((ih.bin 3 i).le (by omega)))
    (Sm.look (n:=0) (m:=1) H (by decide) (Sm.map H ((ih.operand 7 i).le (by omega))) (ih.jZ i) (by omega)) (by omega)).dB L1 L2 hL hR
  ·intro L1 L2 hL hR
   rcases H.head hR with⟨e0,_⟩|⟨c1,_,c3,c4,c5⟩
   rotate_left
   ·have q1:∀ L:List Tok,(hd L).kind≠2→(hd L).kind≠3→(hd L).kind≠4→(hd L).kind≠1→ej (n+1) i L=if ar 5 (ch 64) L=true then nk L.tail else dy n i L:=fun L a b c d=>by rw[ej,if_neg a,if_neg b,if_neg c,if_neg d]
    rw[q1 L1 (by rw[c1];decide) (by rw[c1];decide) (by rw[c1];decide) (by rw[c1];decide),q1 L2 (by rw[c3];decide) (by rw[c3];decide) (by rw[c3];decide) (by rw[c3];decide)]
    exact(Sm.look (n:=0) (m:=1) (k:=5) (s:=ch 64) H (by decide) ((Sm.xt H).le (by omega)) (ih.group i) (by omega)).dB L1 L2 hL hR
   rw[ej,ej]
   rw[e0]
   by_cases h2:(hd L1).kind=2
   ·rw[if_pos h2,if_pos h2];exact(Sm.bind (n:=1) (m:=0) H (Sm.num H) fun k=>Sm.map H (Sm.unit H)).dB L1 L2 hL hR
   rw[if_neg h2,if_neg h2]
   by_cases h3:(hd L1).kind=3
   ·rw[if_pos h3,if_pos h3]
    have e:∀ L,((dC 3 L).bind fun t M=>(gK M).map fun u=>fY ⟨3,mG t.text,⟨#[]⟩⟩ u ⟨#[]⟩)=((dC 3 L).map fun t=>mG t.text).bind fun v M=>(gK M).map fun u=>fY ⟨3,v,⟨#[]⟩⟩ u ⟨#[]⟩:=fun L=>by
     cases dC 3 L<;>rfl
    rw[e,e]
    exact(Sm.bind (n:=1) (m:=0) H (Sm.A1 H (by decide) fun t u h=>by rw[h]) fun k=>Sm.map H (Sm.unit H)).dB L1 L2 hL hR
   rw[if_neg h3,if_neg h3]
   by_cases h4:(hd L1).kind=4
   ·rw[if_pos h4,if_pos h4];exact(Sm.A1 H (by decide) fun t u h=>by rw[h]).dB L1 L2 hL hR
   rw[if_neg h4,if_neg h4]
   by_cases h1:(hd L1).kind=1
   ·rw[if_pos h1,if_pos h1];exact ih.word i L1 L2 hL hR (by rw[h1];decide)
   rw[if_neg h1,if_neg h1]
   exact(Sm.look (n:=0) (m:=1) H (by decide) ((Sm.xt H).le (by omega)) (ih.group i) (by omega)).dB L1 L2 hL hR
  ·intro L1 L2 hL hR;rw[dy,dy]
   exact(Sm.bind (n:=1) (m:=2) H (Sm.bK H (by decide)) fun _=>Sm.bind (n:=1) (m:=1) H (ih.expr i) fun x=>Sm.map H (Sm.bK H (by decide))).dB L1 L2 hL hR
  ·rw[ey,ey,(H.same hR hk).2.1]
   split
   ·exact(Sm.pure _).tl H hL hR hk
   split
   ·exact(Sm.map H (ih.group i)).tl H hL hR hk
   split
   ·exact(ih.agg _).tl H hL hR hk
   ·refine(Sm.bind (n:=1) (m:=0) H (Sm.name H) fun s=> ?_).dB L1 L2 hL hR
    by_cases hi:i=true
    ·simp only[if_pos hi];exact Sm.pure _
    ·simp only[if_neg hi]
     exact Sm.look (n:=0) (m:=0) H (by decide) (Sm.map H ((ih.group i).le (by omega))) (Sm.pure _) (by omega)
  ·intro L1 L2 hL hR;rw[fh,fh]
   refine(Sm.bind (n:=1) (m:=4) H (Sm.bK H (by decide)) fun _=>Sm.bind (n:=1) (m:=3) H (Sm.name H) fun tb=>Sm.bind (n:=1) (m:=2) H (Sm.bK H (by decide)) fun _=>Sm.bind (n:=0) (m:=2) H ?_ fun a=>Sm.bind (n:=0) (m:=2) H ?_ fun p=>Sm.bind (n:=1) (m:=1) H (Sm.vq H) fun w=>Sm.bind (n:=0) (m:=1) H ?_ fun c=>Sm.map H (Sm.bK H (by decide))).dB L1 L2 hL hR
   ·exact Sm.ite H GX (Sm.bind (n:=0) (m:=0) H ((ih.expr true).le (by omega)) fun x=>Sm.map H ((Sm.bK H (by decide)).le (by omega))) (Sm.pure _)
   ·exact Sm.ite H GX (Sm.bind (n:=0) (m:=0) H ((Sm.num H).le (by omega)) fun x=>Sm.map H ((Sm.bK H (by decide)).le (by omega))) (Sm.pure _)
   ·exact Sm.look (n:=0) (m:=0) H (by decide) ((ih.expr true).le (by omega)) (Sm.pure _) (by omega)
theorem Sm.field(H:Alike R D φ DE):Sm R D φ DE 1 IB:=Sm.le (n:=3) (Sm.bind (n:=1) (m:=2) H (Sm.name H) fun n=>Sm.bind (n:=1) (m:=1) H (Sm.bK H (by decide)) fun _=>Sm.map H (Sm.kind H)) (by omega)
theorem Sm.of(H:Alike R D φ DE):Sm R D φ DE 1 D4:=Sm.le (n:=3) (Sm.bind (n:=1) (m:=2) H (Sm.name H) fun n=>Sm.bind (n:=1) (m:=1) H (Sm.bK H (by decide)) fun _=>Sm.map H (Sm.name H)) (by omega)
theorem Sm.fields(H:Alike R D φ DE):Sm R D φ DE 1 IC:=Sm.look (n:=0) (m:=1) H (by decide) (Sm.pure _) (Sm.le (n:=2) (Sm.bind (n:=1) (m:=1) H (Sm.list H (by decide) (Sm.field H)) fun l=>Sm.map H (Sm.bK H (by decide))) (by omega)) (by omega)
theorem Sm.keep(H:Alike R D φ DE):Sm R D φ DE 0 Ku:=Sm.look (n:=1) (m:=0) H (by decide) (Sm.num H) (Sm.pure _) (by omega)
theorem Sm.table(H:Alike R D φ DE):Sm R D φ DE 1 MP:=Sm.le (n:=4) (Sm.bind (n:=1) (m:=3) H (Sm.of H) fun n=>Sm.bind (n:=1) (m:=2) H (Sm.bK H (by decide)) fun _=>Sm.bind (n:=1) (m:=1) H (Sm.fields H) fun l=>Sm.bind (n:=0) (m:=1) H (Sm.keep H) fun k=>Sm.map H (Sm.bK H (by decide))) (by omega)
theorem Sm.TC(H:Alike R D φ DE):Sm R D φ DE 1 Ix:=Sm.le (n:=6) (Sm.bind (n:=1) (m:=5) H (Sm.of H) fun n=>Sm.bind (n:=1) (m:=4) H (Sm.bK H (by decide)) fun _=>Sm.bind (n:=1) (m:=3) H (Sm.kind H) fun t=>Sm.bind (n:=1) (m:=2) H (Sm.bK H (by decide)) fun _=>Sm.bind (n:=1) (m:=1) H ((Mv H N0).expr false) fun x=>Sm.map H (Sm.bK H (by decide))) (by omega)
theorem Sm.item(H:Alike R D φ DE):Sm R D φ DE 1 DP:=Sm.look (n:=1) (m:=1) H (by decide) (Sm.map H (Sm.table H)) (Sm.look (n:=1) (m:=1) H (by decide) (Sm.map H (Sm.TC H)) (Sm.wrong H) (by omega)) (by omega)
end
theorem xV(p:UInt8→Bool)(u:Bs):az p u≤u.length:=by
 unfold az
 exact(List.takeWhile_sublist p).length_le
theorem Eg:∀ {u:Bs},u≠[]→1≤(aJ u).2.1∧(aJ u).2.1≤u.length
 |[],h=>absurd rfl h
 |c::r,_=>by
  have l1:=xV (fun b=>b != 10) (c::r)
  have l2:=xV eM (c::r)
  have l3:=xV aW (c::r)
  have l4:=xV (fun b=>b != 34 && b != 10) r
  have g1:aB c=6→1≤az (fun b=>b != 10) (c::r):=fun h=>by
   have:(c != 10)=true:=by
    rw[bne_iff_ne];rintro rfl;exact absurd h (by decide)
   unfold az;rw[ZB,this];simp
  have g2:aB c=2→1≤az eM (c::r):=fun h=>by
   unfold az;rw[ZB,show eM c=true by unfold eM;simp[h]];simp
  have g3:aB c=3→1≤az aW (c::r):=fun h=>by
   unfold az;rw[ZB,show aW c=true by unfold aW;simp[h]];simp
  unfold aJ
  simp only
  by_cases k1:aB c=1
  ·rw[if_pos k1];simp
  rw[if_neg k1]
  by_cases k6:aB c=6
  ·rw[if_pos k6];exact⟨g1 k6,l1⟩
  rw[if_neg k6]
  by_cases k2:aB c=2
  ·rw[if_pos k2];exact⟨g2 k2,l2⟩
  rw[if_neg k2]
  by_cases k3:aB c=3
  ·rw[if_pos k3]
   have g3:=g3 k3
   have dl:((c::r).drop (az aW (c::r))).length+az aW (c::r)=(c::r).length:=by rw[Zq];omega
   generalize az aW (c::r)=n at *
   cases h:(c::r).drop n with
   |nil=>rw[if_neg (by simp)];exact⟨g3,l3⟩
   |cons x xs=>
    rw[h]at dl
    have l5:=xV aW xs
    simp only[Z8,List.drop_succ_cons,List.drop_zero]at dl ⊢
    split
    ·exact⟨by simp only;omega,by simp only;omega⟩
    ·exact⟨g3,by simp only;omega⟩
  rw[if_neg k3]
  by_cases k5:aB c=5
  ·rw[if_pos k5]
   have dl:(r.drop (az (fun b=>b != 34 && b != 10) r)).length+az (fun b=>b != 34 && b != 10) r=r.length:=by rw[Zq];omega
   split
   ·rename_i h
    cases h2:r.drop (az (fun b=>b != 34 && b != 10) r)with
    |nil=>rw[h2]at h;cases h
    |cons x xs=>rw[h2]at dl;simp only[Z8]at dl ⊢;exact⟨by omega,by omega⟩
   ·simp
  rw[if_neg k5]
  split
  ·split
   ·rename_i h
    cases r with
    |nil=>simp at h
    |cons x xs=>simp
   ·split<;>simp
  ·simp
theorem lex_nil(n:Nat)(at_ st:Int):cJ n at_ st []=([⟨6,⟨#[]⟩,at_⟩],[]):=by cases n<;>rfl
end Go.Proofs.YtbihckigennlhaaGreatDoor
