/- Parsing two lists of tokens that look alike (plain). -/
import Derived.Test.YtbihckigennlhaaGreatDoorTz
set_option linter.unusedVariables false
set_option linter.unusedSimpArgs false
set_option linter.unusedSectionVars false
namespace Go.Proofs.YtbihckigennlhaaGreatDoor
open Go.Sx Go.Proofs
def HdEq(L1 L2:List Tok):Prop:=((hd L2).kind=(hd L1).kind∧(hd L2).text=(hd L1).text)∨((hd L1).kind=6∧(hd L1).text=⟨#[]⟩∧(hd L2).kind=5∧(hd L2).text=ch 41)
structure Alike(R:List Tok→List Tok→Prop)(D:List Tok→Prop)(φ:Int→Int)(DE:Int→Prop):Prop where
 head:∀ {L1 L2},R L1 L2→((hd L2).kind=(hd L1).kind∧(hd L2).text=(hd L1).text∧(hd L2).at_=φ (hd L1).at_)∨((hd L1).kind=6∧(hd L1).text=⟨#[]⟩∧(hd L2).kind=5∧(hd L2).text=ch 41∧∀ p,DE p)
 tail:∀ {L1 L2},R L1 L2→(hd L1).kind≠6→D L1.tail∨R L1.tail L2.tail
 dead:∀ {L1 L'},D L1→L' <:+ L1→D L'
 deadE:∀ {L1},D L1→∀ p,DE p
section
variable {R:List Tok→List Tok→Prop}{D:List Tok→Prop}{φ:Int→Int}{DE:Int→Prop}
structure SimR(R:List Tok→List Tok→Prop)(D:List Tok→Prop)(φ:Int→Int)(DE:Int→Prop){α:Type}(r1 r2:PR α):Prop where
 ok:∀ a L1,r1= .ok a L1→D L1∨∃ L2,r2= .ok a L2∧R L1 L2
 err:∀ p c,r1= .err p c→DE p∨r2= .err (φ p) c
structure Sm(R:List Tok→List Tok→Prop)(D:List Tok→Prop)(φ:Int→Int)(DE:Int→Prop){α:Type}(n:Nat)(f:List Tok→PR α):Prop where
 pos:Pos n f
 sim:∀ L1 L2,EndL L1→R L1 L2→SimR R D φ DE (f L1) (f L2)
variable {α β:Type}{n m:Nat}
theorem Alike.heq(H:Alike R D φ DE){L1 L2:List Tok}(h:R L1 L2):HdEq L1 L2:=by
 rcases H.head h with⟨h1,h2,_⟩|⟨h1,h2,h3,h4,_⟩
 ·exact .inl ⟨h1,h2⟩
 ·exact .inr ⟨h1,h2,h3,h4⟩
theorem Alike.same(H:Alike R D φ DE){L1 L2:List Tok}(h:R L1 L2)(hk:(hd L1).kind≠6):(hd L2).kind=(hd L1).kind∧(hd L2).text=(hd L1).text∧(hd L2).at_=φ (hd L1).at_:=by
 rcases H.head h with h1|⟨h1,_⟩
 ·exact h1
 ·exact absurd h1 hk
theorem SimR.dead(H:Alike R D φ DE){r1 r2:PR α}{L:List Tok}(hD:D L)(hP:PosR n L r1):SimR R D φ DE r1 r2:=
 ⟨fun a L1 e=> .inl (H.dead hD (hP.ok a L1 e).1),fun p c e=> .inl (H.deadE hD p)⟩
theorem Sm.le{f:List Tok→PR α}(h:Sm R D φ DE n f)(hm:m≤n):Sm R D φ DE m f:=⟨h.pos.le hm,h.sim⟩
theorem Sm.pure(a:α):Sm R D φ DE 0 (fun L=>PR.ok a L):=⟨Pos.pure a,fun L1 L2 h hR=>⟨fun b L' e=>by cases e;exact .inr ⟨L2,rfl,hR⟩,fun p c e=>by cases e⟩⟩
theorem Sm.wrong(H:Alike R D φ DE):Sm R D φ DE n (wrongP (α:=α)):=⟨Pos.wrong,fun L1 L2 h hR=>⟨fun b L' e=>(by cases e),fun p c e=>by
 cases e
 rcases H.head hR with⟨_,_,h3⟩|⟨_,_,_,_,h5⟩
 ·exact .inr (by unfold wrongP;rw[h3])
 ·exact .inl (h5 _)⟩⟩
theorem Sm.bind(H:Alike R D φ DE){f:List Tok→PR α}{g:α→List Tok→PR β}(hf:Sm R D φ DE n f)(hg:∀ a,Sm R D φ DE m (g a)):Sm R D φ DE (n+m) (fun L=>(f L).bind g):=by
 refine⟨Pos.bind hf.pos fun a=>(hg a).pos,fun L1 L2 h hR=> ?_⟩
 have h0:=hf.sim L1 L2 h hR
 have hp:=hf.pos L1 h
 cases e:f L1 with
 |ok a M1=>
  simp only[PR.bind]
  obtain⟨p1,p2,p3⟩:=hp.ok a M1 e
  rcases h0.ok a M1 e with hd1|⟨M2,e2,hR2⟩
  ·exact SimR.dead H hd1 ((hg a).pos M1 p2)
  ·rw[e2];exact(hg a).sim M1 M2 p2 hR2
 |err p c=>
  simp only[PR.bind]
  rcases h0.err p c e with hd1|e2
  ·exact⟨fun b L' e=>(by cases e),fun p' c' e=>by cases e;exact .inl hd1⟩
  ·rw[e2];exact⟨fun b L' e=>(by cases e),fun p' c' e=>by cases e;exact .inr rfl⟩
theorem Sm.map(H:Alike R D φ DE){f:List Tok→PR α}{g:α→β}(hf:Sm R D φ DE n f):Sm R D φ DE n (fun L=>(f L).map g):=Sm.bind (m:=0) H hf fun a=>Sm.pure (g a)
def AtHd{ι:Type}(v:List Tok→ι):Prop:=∀ L1 L2,HdEq L1 L2→v L2=v L1
theorem atHd_see{k:Int}{s:Str}(hk:k≠6)(hs:¬(k=5∧s=ch 41)):AtHd (see k s):=fun L1 L2 h=>by
 unfold see
 rcases h with⟨h1,h2⟩|⟨h1,h2,h3,h4⟩
 ·rw[h1,h2]
 ·rw[h1,h2,h3,h4,decide_eq_false (p:=(6:Int)=k) (fun e=>hk e.symm),Bool.false_and,Bool.and_eq_false_iff]
  by_cases h5:(5:Int)=k
  ·exact .inr (decide_eq_false fun e=>hs ⟨h5.symm,e.symm⟩)
  ·exact .inl (decide_eq_false h5)
theorem atHd_rank:AtHd rankP:=fun L1 L2 h=>by
 unfold rankP
 rcases h with⟨h1,h2⟩|⟨h1,h2,h3,h4⟩
 ·simp only[h1,h2]
 ·simp only[h1,h2,h3,h4];decide
theorem Sm.ite(H:Alike R D φ DE){f g:List Tok→PR α}{c:List Tok→Prop}[∀ L,Decidable (c L)](hc:AtHd c)(hf:Sm R D φ DE n f)(hg:Sm R D φ DE n g):Sm R D φ DE n (fun L=>if c L then f L else g L):=
 ⟨Pos.ite hf.pos hg.pos,fun L1 L2 h hR=>by
  have e:=hc L1 L2 (H.heq hR)
  by_cases h1:c L1
  ·simp only[if_pos h1,if_pos (show c L2 by rw[e];exact h1)];exact hf.sim L1 L2 h hR
  ·simp only[if_neg h1,if_neg (show¬c L2 by rw[e];exact h1)];exact hg.sim L1 L2 h hR⟩
theorem Sm.tl(H:Alike R D φ DE){f:List Tok→PR α}(hf:Sm R D φ DE n f){L1 L2:List Tok}(h:EndL L1)(hR:R L1 L2)(hk:(hd L1).kind≠6):SimR R D φ DE (f L1.tail) (f L2.tail):=by
 have ht:=(h.tail hk).1
 rcases H.tail hR hk with hD|hR2
 ·exact SimR.dead H hD (hf.pos _ ht)
 ·exact hf.sim _ _ ht hR2
theorem Sm.step(H:Alike R D φ DE){f g:List Tok→PR α}{c:List Tok→Prop}[∀ L,Decidable (c L)](hc:AtHd c)(hk:∀ L,c L→(hd L).kind≠6)(hf:Sm R D φ DE n f)(hg:Sm R D φ DE m g)(hm:m≤n+1):Sm R D φ DE m (fun L=>if c L then f L.tail else g L):=
 ⟨Pos.step hk hf.pos hg.pos hm,fun L1 L2 h hR=>by
  have e:=hc L1 L2 (H.heq hR)
  by_cases h1:c L1
  ·simp only[if_pos h1,if_pos (show c L2 by rw[e];exact h1)];exact hf.tl H h hR (hk L1 h1)
  ·simp only[if_neg h1,if_neg (show¬c L2 by rw[e];exact h1)];exact hg.sim L1 L2 h hR⟩
theorem atHd_seeT{k:Int}{s:Str}(hk:k≠6)(hs:¬(k=5∧s=ch 41)):AtHd (fun L=>see k s L=true):=fun L1 L2 h=>by simp only[atHd_see hk hs L1 L2 h]
theorem Sm.look(H:Alike R D φ DE){f g:List Tok→PR α}{k:Int}{s:Str}(hk:k≠6∧¬(k=5∧s=ch 41))(hf:Sm R D φ DE n f)(hg:Sm R D φ DE m g)(hm:m≤n+1):Sm R D φ DE m (fun L=>if see k s L=true then f L.tail else g L):=Sm.step H (atHd_seeT hk.1 hk.2) (see_kind hk.1) hf hg hm
theorem Sm.need(H:Alike R D φ DE){k:Int}{s:Str}(hk:k≠6):Sm R D φ DE 1 (needP k s):=⟨Pos.need hk,fun L1 L2 h hR=>by
 unfold needP
 by_cases hs:see k s L1=true
 ·have h6:=see_kind hk L1 hs
  obtain⟨e1,e2,_⟩:=H.same hR h6
  have hs2:see k s L2=true:=by unfold see at hs ⊢;rw[e1,e2];exact hs
  rw[if_pos hs,if_pos hs2];exact(Sm.pure ()).tl H h hR h6
 ·rcases H.head hR with⟨e1,e2,_⟩|⟨_,_,_,_,h5⟩
  ·have hs2:¬see k s L2=true:=by unfold see at hs ⊢;rw[e1,e2];exact hs
   rw[if_neg hs,if_neg hs2];exact(Sm.wrong (n:=0) H).sim L1 L2 h hR
  ·rw[if_neg hs];exact⟨fun a L' e=>(by cases e),fun p c e=> .inl (h5 p)⟩⟩
theorem Sm.tok(H:Alike R D φ DE){k:Int}(hk:k≠6){c:Tok→Prop}[∀ t,Decidable (c t)]{e:Int}(he:e≠0){g:Tok→α}(hc:∀ t u:Tok,t.text=u.text→(c t↔c u))(hg:∀ t u:Tok,t.text=u.text→g t=g u):Sm R D φ DE 1 (fun L=>(tokP k L).bind fun t L2=>if c t then .err t.at_ e else .ok (g t) L2):=
 ⟨Pos.tokErr hk he,fun L1 L2 h hR=>by
  by_cases hk1:(hd L1).kind≠k
  ·have h1:tokP k L1=wrongP L1:=if_pos hk1
   rcases H.head hR with⟨e1,e2,e3⟩|⟨_,_,_,_,h5⟩
   ·have h2:tokP k L2=wrongP L2:=if_pos (by rw[e1];exact hk1)
    simp only[h1,h2];exact(Sm.wrong (n:=0) H).sim L1 L2 h hR
   ·simp only[h1];exact⟨fun a L' e=>(by cases e),fun p c e=> .inl (h5 p)⟩
  ·obtain⟨e1,e2,e3⟩:=H.same hR fun e=>hk ((Classical.not_not.1 hk1).symm.trans e)
   have h1:tokP k L1= .ok (hd L1) L1.tail:=if_neg hk1
   have h2:tokP k L2= .ok (hd L2) L2.tail:=if_neg (by rw[e1];exact hk1)
   have h6:(hd L1).kind≠6:=fun e=>hk ((Classical.not_not.1 hk1).symm.trans e)
   simp only[h1,h2,PR.bind]
   by_cases hct:c (hd L1)
   ·rw[if_pos hct,if_pos ((hc _ _ e2).2 hct)]
    exact⟨fun a L' e=>(by cases e),fun p q e=>by cases e;exact .inr (by rw[e3])⟩
   ·rw[if_neg hct,if_neg fun h=>hct ((hc _ _ e2).1 h),hg _ _ e2]
    exact(Sm.pure (g (hd L1))).tl H h hR h6⟩
theorem Sm.tokM(H:Alike R D φ DE){k:Int}(hk:k≠6){g:Tok→α}(hg:∀ t u:Tok,t.text=u.text→g t=g u):Sm R D φ DE 1 (fun L=>(tokP k L).map g):=by
 have:=Sm.tok (c:=fun _=>False) (e:=1) H hk (by decide) (fun _ _ _=>Iff.rfl) hg
 simp only[if_false]at this
 exact this
theorem Sm.name(H:Alike R D φ DE):Sm R D φ DE 1 nameP:=Sm.ite H (fun L1 L2 h=>by
 rcases h with⟨h1,h2⟩|⟨h1,h2,h3,h4⟩
 ·simp only[h2]
 ·simp only[h2,h4];decide) (Sm.wrong H) (Sm.tokM H (by decide) fun _ _ h=>h)
theorem Sm.num(H:Alike R D φ DE):Sm R D φ DE 1 numP:=Sm.tokM H (by decide) fun t u h=>by rw[h]
theorem Sm.many(H:Alike R D φ DE){sep:Str}(hs:sep≠ch 41){f:List Tok→PR α}(hf:Sm R D φ DE 0 f):∀ n acc,Sm R D φ DE 0 (fun L=>manyP sep f n L acc)
 |0,acc=>Sm.pure acc
 |n+1,acc=>Sm.look (n:=0) H ⟨by decide,fun h=>hs h.2⟩ (Sm.bind (n:=0) (m:=0) H hf fun a=>Sm.many H hs hf n (acc++[a])) (Sm.pure acc) (Nat.zero_le _)
theorem Sm.list(H:Alike R D φ DE){sep:Str}(hs:sep≠ch 41){f:List Tok→PR α}(hf:Sm R D φ DE 1 f):Sm R D φ DE 1 (listP sep f):=Sm.bind (n:=1) (m:=0) H hf fun a=>Sm.many H hs (hf.le (Nat.zero_le _)) N0 [a]
theorem Sm.factor(H:Alike R D φ DE):Sm R D φ DE 1 factorP:=by
 refine Sm.bind (n:=1) (m:=0) H (Sm.name H) fun a=> ?_
 refine Sm.look (n:=0) H (by decide) (Sm.look (n:=0) H (by decide) (Sm.map H ((Sm.num H).le (by omega))) (Sm.map H ((Sm.num H).le (by omega))) (by omega)) (Sm.pure _) (by omega)
theorem Sm.unit(H:Alike R D φ DE):Sm R D φ DE 0 unitP:=⟨Pos.unit,fun L1 L2 h hR=>by
 have hb:=Sm.bind (n:=1) (m:=1) H (f:=listP (ch 42) factorP) (Sm.list H (by decide) (Sm.factor H)) (g:=fun l L1=>(signP (ch 93) L1).bind fun _ L2=>PR.ok l L2) fun l=>Sm.bind (n:=1) (m:=0) H (Sm.need H (by decide)) fun _=>Sm.pure l
 have es:see 5 (ch 91) L2=see 5 (ch 91) L1:=atHd_see (by decide) (by decide) L1 L2 (H.heq hR)
 unfold unitP
 rw[es]
 by_cases hs:see 5 (ch 91) L1=true
 ·rw[if_pos hs,if_pos hs]
  have hk:=see_kind (k:=5) (by decide) L1 hs
  have ht:=hb.tl H h hR hk
  obtain⟨e1,e2,e3⟩:=H.same hR hk
  have key:∀ L,((listP (ch 42) factorP L.tail).bind fun l L1=>(signP (ch 93) L1).bind fun _ L2=>if(normU l).2≠0 then PR.err (hd L).at_ (normU l).2 else .ok (normU l).1 L2)=
    (((listP (ch 42) factorP L.tail).bind fun l L1=>(signP (ch 93) L1).bind fun _ L2=>PR.ok l L2).bind fun l L2=>if(normU l).2≠0 then PR.err (hd L).at_ (normU l).2 else .ok (normU l).1 L2):=fun L=>by
   cases listP (ch 42) factorP L.tail with
   |err p c=>rfl
   |ok l M=>
    simp only[PR.bind]
    cases signP (ch 93) M with
    |err p c=>rfl
    |ok u M2=>rfl
  rw[key L1,key L2]
  generalize hg1:((listP (ch 42) factorP L1.tail).bind fun l L1=>(signP (ch 93) L1).bind fun _ L2=>PR.ok l L2)=r1 at ht
  generalize hg2:((listP (ch 42) factorP L2.tail).bind fun l L1=>(signP (ch 93) L1).bind fun _ L2=>PR.ok l L2)=r2 at ht
  cases r1 with
  |err p c=>
   rcases ht.err p c rfl with hD|e
   ·exact⟨fun b L' e=>(by cases e),fun p' c' e=>by cases e;exact .inl hD⟩
   ·rw[e];exact⟨fun b L' e=>(by cases e),fun p' c' e=>by cases e;exact .inr rfl⟩
  |ok l M1=>
   rcases ht.ok l M1 rfl with hD|⟨M2,e,hR2⟩
   ·simp only[PR.bind]
    split
    ·exact⟨fun b L' e=>(by cases e),fun p' c' e=> .inl (H.deadE hD _)⟩
    ·exact⟨fun b L' e=>by cases e;exact .inl hD,fun p' c' e=>(by cases e)⟩
   ·rw[e]
    simp only[PR.bind]
    split
    ·exact⟨fun b L' e=>(by cases e),fun p' c' e=>by cases e;exact .inr (by rw[e3])⟩
    ·exact⟨fun b L' e=>by cases e;exact .inr ⟨M2,rfl,hR2⟩,fun p' c' e=>by cases e⟩
 ·rw[if_neg hs,if_neg hs];exact(Sm.pure []).sim L1 L2 h hR⟩
end
section
variable {R:List Tok→List Tok→Prop}{D:List Tok→Prop}{φ:Int→Int}{DE:Int→Prop}
theorem Sm.kind(H:Alike R D φ DE):Sm R D φ DE 1 kindP:=by
 refine Sm.look (n:=0) H (by decide) (Sm.pure _) ?_ (by omega)
 refine Sm.look (n:=0) H (by decide) (Sm.pure _) ?_ (by omega)
 refine Sm.look (n:=0) H (by decide) (Sm.map H ((Sm.name H).le (by omega))) ?_ (by omega)
 refine Sm.look (n:=0) H (by decide) (Sm.map H (Sm.unit H)) ?_ (by omega)
 exact Sm.bind (n:=1) (m:=0) H (Sm.need H (by decide)) fun _=>Sm.map H (Sm.unit H)
theorem Sm.window(H:Alike R D φ DE):Sm R D φ DE 1 windowP:=by
 refine Sm.look (n:=0) H (by decide) (Sm.pure _) ?_ (by omega)
 refine Sm.look (n:=0) H (by decide) (Sm.map H ((Sm.num H).le (by omega))) ?_ (by omega)
 refine Sm.look (n:=0) H (by decide) (Sm.map H ((Sm.num H).le (by omega))) ?_ (by omega)
 exact Sm.bind (n:=1) (m:=0) H (Sm.need H (by decide)) fun _=>Sm.map H ((Sm.num H).le (by omega))
theorem Sm.keyAt(H:Alike R D φ DE):Sm R D φ DE 1 keyAtP:=(Sm.bind (n:=1) (m:=1) H (Sm.name H) fun a=>Sm.tok H (by decide) (by decide) (fun t u h=>by rw[h]) fun t u h=>by rw[h]).le (by omega)
theorem atHd_const{p:Prop}:AtHd (fun _=>p):=fun L1 L2 h=>rfl
structure SmE(R:List Tok→List Tok→Prop)(D:List Tok→Prop)(φ:Int→Int)(DE:Int→Prop)(n:Nat):Prop where
 expr:∀ i,Sm R D φ DE 1 (exprP n i)
 def_:∀ i x,Sm R D φ DE 0 (defP n i x)
 bin:∀ l i,Sm R D φ DE 1 (binP n l i)
 ops:∀ l m i x,Sm R D φ DE 0 (opsP n l m i x)
 operand:∀ l i,Sm R D φ DE 1 (operandP n l i)
 prim:∀ i,Sm R D φ DE 1 (primP n i)
 group:∀ i,Sm R D φ DE 1 (groupP n i)
 word:∀ i L1 L2,EndL L1→R L1 L2→(hd L1).kind≠6→SimR R D φ DE (wordP n i L1) (wordP n i L2)
 agg:∀ o,Sm R D φ DE 1 (aggP n o)
theorem smE(H:Alike R D φ DE):∀ n,SmE R D φ DE n
 |0=>by
  have hp:=posE 0
  refine⟨fun i=>⟨hp.expr i,?_⟩,fun i x=>⟨hp.def_ i x,?_⟩,fun l i=>⟨hp.bin l i,?_⟩,fun l m i x=>⟨hp.ops l m i x,?_⟩,fun l i=>⟨hp.operand l i,?_⟩,fun i=>⟨hp.prim i,?_⟩,fun i=>⟨hp.group i,?_⟩,fun i L1 L2 hL hR hk=> ?_,fun o=>⟨hp.agg o,?_⟩⟩
  ·intro L1 L2 hL hR;rw[exprP,exprP];exact(Sm.wrong (n:=0) H).sim L1 L2 hL hR
  ·intro L1 L2 hL hR;rw[defP,defP];exact(Sm.wrong (n:=0) H).sim L1 L2 hL hR
  ·intro L1 L2 hL hR;rw[binP,binP];exact(Sm.wrong (n:=0) H).sim L1 L2 hL hR
  ·intro L1 L2 hL hR;rw[opsP,opsP];exact(Sm.wrong (n:=0) H).sim L1 L2 hL hR
  ·intro L1 L2 hL hR;rw[operandP,operandP];exact(Sm.wrong (n:=0) H).sim L1 L2 hL hR
  ·intro L1 L2 hL hR;rw[primP,primP];exact(Sm.wrong (n:=0) H).sim L1 L2 hL hR
  ·intro L1 L2 hL hR;rw[groupP,groupP];exact(Sm.wrong (n:=0) H).sim L1 L2 hL hR
  ·rw[wordP,wordP];exact(Sm.wrong (n:=0) H).sim L1 L2 hL hR
  ·intro L1 L2 hL hR;rw[aggP,aggP];exact(Sm.wrong (n:=0) H).sim L1 L2 hL hR
 |n+1=>by
  have hp:=posE (n+1)
  have ih:=smE H n
  refine⟨fun i=>⟨hp.expr i,?_⟩,fun i x=>⟨hp.def_ i x,?_⟩,fun l i=>⟨hp.bin l i,?_⟩,fun l m i x=>⟨hp.ops l m i x,?_⟩,fun l i=>⟨hp.operand l i,?_⟩,fun i=>⟨hp.prim i,?_⟩,fun i=>⟨hp.group i,?_⟩,fun i L1 L2 hL hR hk=> ?_,fun o=>⟨hp.agg o,?_⟩⟩
  ·intro L1 L2 hL hR;rw[exprP,exprP]
   exact(Sm.look (n:=0) (m:=1) H (by decide) (Sm.le (n:=5) (Sm.bind (n:=1) (m:=4) H (ih.expr i) fun a=>Sm.bind (n:=1) (m:=3) H (Sm.need H (by decide)) fun _=>Sm.bind (n:=1) (m:=2) H (ih.expr i) fun b=>Sm.bind (n:=1) (m:=1) H (Sm.need H (by decide)) fun _=>Sm.bind (n:=1) (m:=0) H (ih.expr i) fun c=>Sm.pure _) (by omega))
    (Sm.bind (n:=1) (m:=0) H (ih.bin 1 i) fun x=>ih.def_ i x) (by omega)).sim L1 L2 hL hR
  ·intro L1 L2 hL hR;rw[defP,defP]
   exact(Sm.look (n:=0) (m:=0) H (by decide) (Sm.le (n:=1) (Sm.bind (n:=1) (m:=0) H (ih.bin 1 i) fun y=>ih.def_ i _) (by omega)) (Sm.pure x) (by omega)).sim L1 L2 hL hR
  ·intro L1 L2 hL hR;rw[binP,binP]
   rw[atHd_see (k:=1) (s:=wNot) (by decide) (by decide) L1 L2 (H.heq hR)]
   exact(Sm.bind (n:=1) (m:=0) H (ih.operand l i) fun x=>ih.ops l (if decide (l≤3) && see 1 wNot L1 then 2 else 7) i x).sim L1 L2 hL hR
  ·intro L1 L2 hL hR;rw[opsP,opsP]
   rw[atHd_rank L1 L2 (H.heq hR)]
   by_cases h:rankP L1≥l∧rankP L1≠0∧rankP L1≤m
   ·rw[if_pos h,if_pos h,(H.same hR (rank_kind L1 h.2.1)).2.1]
    exact(Sm.bind (n:=1) (m:=0) H (ih.bin (rankP L1+1) i) fun y=>ih.ops l (if rankP L1=4 then 3 else rankP L1) i (binE (hd L1).text x y)).tl H hL hR (rank_kind L1 h.2.1)
   ·rw[if_neg h,if_neg h];exact(Sm.pure x).sim L1 L2 hL hR
  ·intro L1 L2 hL hR;rw[operandP,operandP]
   exact(Sm.step (n:=0) (m:=1) (c:=fun L=>(decide (l≤3) && see 1 wNot L)=true) H (fun L1 L2 h=>by simp only[atHd_see (k:=1) (s:=wNot) (by decide) (by decide) L1 L2 h]) (fun L h=>see_kind (k:=1) (by decide) L (Bool.and_eq_true _ _ ▸ h).2) (Sm.map H ((ih.bin 3 i).le (by omega)))
    (Sm.look (n:=0) (m:=1) H (by decide) (Sm.map H ((ih.operand 7 i).le (by omega))) (ih.prim i) (by omega)) (by omega)).sim L1 L2 hL hR
  ·intro L1 L2 hL hR
   rcases H.head hR with⟨e0,_⟩|⟨c1,_,c3,c4,c5⟩
   rotate_left
   ·have q1:∀ L:List Tok,(hd L).kind≠2→(hd L).kind≠3→(hd L).kind≠4→(hd L).kind≠1→primP (n+1) i L=if see 5 (ch 64) L=true then keyAtP L.tail else groupP n i L:=fun L a b c d=>by rw[primP,if_neg a,if_neg b,if_neg c,if_neg d]
    rw[q1 L1 (by rw[c1];decide) (by rw[c1];decide) (by rw[c1];decide) (by rw[c1];decide),q1 L2 (by rw[c3];decide) (by rw[c3];decide) (by rw[c3];decide) (by rw[c3];decide)]
    exact(Sm.look (n:=0) (m:=1) (k:=5) (s:=ch 64) H (by decide) ((Sm.keyAt H).le (by omega)) (ih.group i) (by omega)).sim L1 L2 hL hR
   rw[primP,primP]
   rw[e0]
   by_cases h2:(hd L1).kind=2
   ·rw[if_pos h2,if_pos h2];exact(Sm.bind (n:=1) (m:=0) H (Sm.num H) fun k=>Sm.map H (Sm.unit H)).sim L1 L2 hL hR
   rw[if_neg h2,if_neg h2]
   by_cases h3:(hd L1).kind=3
   ·rw[if_pos h3,if_pos h3]
    have e:∀ L,((tokP 3 L).bind fun t M=>(unitP M).map fun u=>litE ⟨3,decV t.text,⟨#[]⟩⟩ u ⟨#[]⟩)=((tokP 3 L).map fun t=>decV t.text).bind fun v M=>(unitP M).map fun u=>litE ⟨3,v,⟨#[]⟩⟩ u ⟨#[]⟩:=fun L=>by
     cases tokP 3 L<;>rfl
    rw[e,e]
    exact(Sm.bind (n:=1) (m:=0) H (Sm.tokM H (by decide) fun t u h=>by rw[h]) fun k=>Sm.map H (Sm.unit H)).sim L1 L2 hL hR
   rw[if_neg h3,if_neg h3]
   by_cases h4:(hd L1).kind=4
   ·rw[if_pos h4,if_pos h4];exact(Sm.tokM H (by decide) fun t u h=>by rw[h]).sim L1 L2 hL hR
   rw[if_neg h4,if_neg h4]
   by_cases h1:(hd L1).kind=1
   ·rw[if_pos h1,if_pos h1];exact ih.word i L1 L2 hL hR (by rw[h1];decide)
   rw[if_neg h1,if_neg h1]
   exact(Sm.look (n:=0) (m:=1) H (by decide) ((Sm.keyAt H).le (by omega)) (ih.group i) (by omega)).sim L1 L2 hL hR
  ·intro L1 L2 hL hR;rw[groupP,groupP]
   exact(Sm.bind (n:=1) (m:=2) H (Sm.need H (by decide)) fun _=>Sm.bind (n:=1) (m:=1) H (ih.expr i) fun x=>Sm.map H (Sm.need H (by decide))).sim L1 L2 hL hR
  ·rw[wordP,wordP,(H.same hR hk).2.1]
   split
   ·exact(Sm.pure _).tl H hL hR hk
   split
   ·exact(Sm.map H (ih.group i)).tl H hL hR hk
   split
   ·exact(ih.agg _).tl H hL hR hk
   ·refine(Sm.bind (n:=1) (m:=0) H (Sm.name H) fun s=> ?_).sim L1 L2 hL hR
    by_cases hi:i=true
    ·simp only[if_pos hi];exact Sm.pure _
    ·simp only[if_neg hi]
     exact Sm.look (n:=0) (m:=0) H (by decide) (Sm.map H ((ih.group i).le (by omega))) (Sm.pure _) (by omega)
  ·intro L1 L2 hL hR;rw[aggP,aggP]
   refine(Sm.bind (n:=1) (m:=4) H (Sm.need H (by decide)) fun _=>Sm.bind (n:=1) (m:=3) H (Sm.name H) fun tb=>Sm.bind (n:=1) (m:=2) H (Sm.need H (by decide)) fun _=>Sm.bind (n:=0) (m:=2) H ?_ fun a=>Sm.bind (n:=0) (m:=2) H ?_ fun p=>Sm.bind (n:=1) (m:=1) H (Sm.window H) fun w=>Sm.bind (n:=0) (m:=1) H ?_ fun c=>Sm.map H (Sm.need H (by decide))).sim L1 L2 hL hR
   ·exact Sm.ite H atHd_const (Sm.bind (n:=0) (m:=0) H ((ih.expr true).le (by omega)) fun x=>Sm.map H ((Sm.need H (by decide)).le (by omega))) (Sm.pure _)
   ·exact Sm.ite H atHd_const (Sm.bind (n:=0) (m:=0) H ((Sm.num H).le (by omega)) fun x=>Sm.map H ((Sm.need H (by decide)).le (by omega))) (Sm.pure _)
   ·exact Sm.look (n:=0) (m:=0) H (by decide) ((ih.expr true).le (by omega)) (Sm.pure _) (by omega)
theorem Sm.field(H:Alike R D φ DE):Sm R D φ DE 1 fieldP:=Sm.le (n:=3) (Sm.bind (n:=1) (m:=2) H (Sm.name H) fun n=>Sm.bind (n:=1) (m:=1) H (Sm.need H (by decide)) fun _=>Sm.map H (Sm.kind H)) (by omega)
theorem Sm.of(H:Alike R D φ DE):Sm R D φ DE 1 ofP:=Sm.le (n:=3) (Sm.bind (n:=1) (m:=2) H (Sm.name H) fun n=>Sm.bind (n:=1) (m:=1) H (Sm.need H (by decide)) fun _=>Sm.map H (Sm.name H)) (by omega)
theorem Sm.fields(H:Alike R D φ DE):Sm R D φ DE 1 fieldsP:=Sm.look (n:=0) (m:=1) H (by decide) (Sm.pure _) (Sm.le (n:=2) (Sm.bind (n:=1) (m:=1) H (Sm.list H (by decide) (Sm.field H)) fun l=>Sm.map H (Sm.need H (by decide))) (by omega)) (by omega)
theorem Sm.keep(H:Alike R D φ DE):Sm R D φ DE 0 keepP:=Sm.look (n:=1) (m:=0) H (by decide) (Sm.num H) (Sm.pure _) (by omega)
theorem Sm.table(H:Alike R D φ DE):Sm R D φ DE 1 tableP:=Sm.le (n:=4) (Sm.bind (n:=1) (m:=3) H (Sm.of H) fun n=>Sm.bind (n:=1) (m:=2) H (Sm.need H (by decide)) fun _=>Sm.bind (n:=1) (m:=1) H (Sm.fields H) fun l=>Sm.bind (n:=0) (m:=1) H (Sm.keep H) fun k=>Sm.map H (Sm.need H (by decide))) (by omega)
theorem Sm.feature(H:Alike R D φ DE):Sm R D φ DE 1 featureP:=Sm.le (n:=6) (Sm.bind (n:=1) (m:=5) H (Sm.of H) fun n=>Sm.bind (n:=1) (m:=4) H (Sm.need H (by decide)) fun _=>Sm.bind (n:=1) (m:=3) H (Sm.kind H) fun t=>Sm.bind (n:=1) (m:=2) H (Sm.need H (by decide)) fun _=>Sm.bind (n:=1) (m:=1) H ((smE H N0).expr false) fun x=>Sm.map H (Sm.need H (by decide))) (by omega)
theorem Sm.item(H:Alike R D φ DE):Sm R D φ DE 1 itemP:=Sm.look (n:=1) (m:=1) H (by decide) (Sm.map H (Sm.table H)) (Sm.look (n:=1) (m:=1) H (by decide) (Sm.map H (Sm.feature H)) (Sm.wrong H) (by omega)) (by omega)
end
theorem span_le(p:UInt8→Bool)(u:Bs):spanN p u≤u.length:=by
 unfold spanN
 exact(List.takeWhile_sublist p).length_le
theorem piece_len:∀ {u:Bs},u≠[]→1≤(pieceL u).2.1∧(pieceL u).2.1≤u.length
 |[],h=>absurd rfl h
 |c::r,_=>by
  have l1:=span_le (fun b=>b != 10) (c::r)
  have l2:=span_le isW (c::r)
  have l3:=span_le isD (c::r)
  have l4:=span_le (fun b=>b != 34 && b != 10) r
  have g1:clsB c=6→1≤spanN (fun b=>b != 10) (c::r):=fun h=>by
   have:(c != 10)=true:=by
    rw[bne_iff_ne];rintro rfl;exact absurd h (by decide)
   unfold spanN;rw[List.takeWhile_cons,this];simp
  have g2:clsB c=2→1≤spanN isW (c::r):=fun h=>by
   unfold spanN;rw[List.takeWhile_cons,show isW c=true by unfold isW;simp[h]];simp
  have g3:clsB c=3→1≤spanN isD (c::r):=fun h=>by
   unfold spanN;rw[List.takeWhile_cons,show isD c=true by unfold isD;simp[h]];simp
  unfold pieceL
  simp only
  by_cases k1:clsB c=1
  ·rw[if_pos k1];simp
  rw[if_neg k1]
  by_cases k6:clsB c=6
  ·rw[if_pos k6];exact⟨g1 k6,l1⟩
  rw[if_neg k6]
  by_cases k2:clsB c=2
  ·rw[if_pos k2];exact⟨g2 k2,l2⟩
  rw[if_neg k2]
  by_cases k3:clsB c=3
  ·rw[if_pos k3]
   have g3:=g3 k3
   have dl:((c::r).drop (spanN isD (c::r))).length+spanN isD (c::r)=(c::r).length:=by rw[List.length_drop];omega
   generalize spanN isD (c::r)=n at *
   cases h:(c::r).drop n with
   |nil=>rw[if_neg (by simp)];exact⟨g3,l3⟩
   |cons x xs=>
    rw[h]at dl
    have l5:=span_le isD xs
    simp only[List.length_cons,List.drop_succ_cons,List.drop_zero]at dl ⊢
    split
    ·exact⟨by simp only;omega,by simp only;omega⟩
    ·exact⟨g3,by simp only;omega⟩
  rw[if_neg k3]
  by_cases k5:clsB c=5
  ·rw[if_pos k5]
   have dl:(r.drop (spanN (fun b=>b != 34 && b != 10) r)).length+spanN (fun b=>b != 34 && b != 10) r=r.length:=by rw[List.length_drop];omega
   split
   ·rename_i h
    cases h2:r.drop (spanN (fun b=>b != 34 && b != 10) r)with
    |nil=>rw[h2]at h;cases h
    |cons x xs=>rw[h2]at dl;simp only[List.length_cons]at dl ⊢;exact⟨by omega,by omega⟩
   ·simp
  rw[if_neg k5]
  split
  ·split
   ·rename_i h
    cases r with
    |nil=>simp at h
    |cons x xs=>simp
   ·split<;>simp
  ·simp
theorem lex_nil(n:Nat)(at_ st:Int):lexL n at_ st []=([⟨6,⟨#[]⟩,at_⟩],[]):=by cases n<;>rfl
end Go.Proofs.YtbihckigennlhaaGreatDoor
