/- Sources one after the other: the items of both (plain). -/
import Derived.Test.YtdcpcffpapiadaaGreatDoorTg
import Derived.Test.YtdcpcffpapiadaaGreatDoorUc
set_option linter.unusedVariables false
set_option linter.unusedSimpArgs false
namespace Go.Proofs.YtdcpcffpapiadaaGreatDoor
open Go.Sx Go.Proofs
theorem PR.assoc{α β γ:Type}(r:PR α)(f:α→List Tok→PR β)(g:β→List Tok→PR γ):(r.bind f).bind g=r.bind fun a L=>(f a L).bind g:=by cases r<;>rfl
theorem piece_kind:∀ u:Bs,(pieceL u).1≠6
 |[]=>by decide
 |c::r=>by
  unfold pieceL
  simp only
  repeat' split
  all_goals first|decide|(simp only;omega)
theorem lex_step(n:Nat)(at_ st:Int){s:Bs}(hs:s≠[]):lexL (n+1) at_ st s=
  if(pieceL s).1= -1 then((lexL n (at_+1) at_ (s.drop 1)).1,if st≠at_-1∨at_=0 then⟨at_,(pieceL s).2.2⟩::(lexL n (at_+1) at_ (s.drop 1)).2 else(lexL n (at_+1) at_ (s.drop 1)).2)
  else if(pieceL s).2.2≠0 then((lexL n (at_+(pieceL s).2.1) st (s.drop (pieceL s).2.1)).1,⟨at_,(pieceL s).2.2⟩::(lexL n (at_+(pieceL s).2.1) st (s.drop (pieceL s).2.1)).2)
  else if(pieceL s).1=4 then(⟨4,⟨((s.take ((pieceL s).2.1-1)).drop 1).toArray⟩,at_⟩::(lexL n (at_+(pieceL s).2.1) st (s.drop (pieceL s).2.1)).1,(lexL n (at_+(pieceL s).2.1) st (s.drop (pieceL s).2.1)).2)
  else if(pieceL s).1≠0 then(⟨(pieceL s).1,⟨(s.take (pieceL s).2.1).toArray⟩,at_⟩::(lexL n (at_+(pieceL s).2.1) st (s.drop (pieceL s).2.1)).1,(lexL n (at_+(pieceL s).2.1) st (s.drop (pieceL s).2.1)).2)
  else lexL n (at_+(pieceL s).2.1) st (s.drop (pieceL s).2.1):=by
 rw[lexL,if_neg hs]
theorem lex_app(t:Bs):∀ (n:Nat) (at_:Int) (u:Bs),u.length≤n→0≤at_→(lexL n at_ (-1) u).2=[]→∃ A,(∀ x∈A,x.kind≠6)∧(lexL n at_ (-1) u).1=A++[⟨6,⟨#[]⟩,at_+u.length⟩]∧
  lexL (n+t.length+1) at_ (-1) (u++10::t)=(A++(lexL t.length (at_+u.length+1) (-1) t).1,(lexL t.length (at_+u.length+1) (-1) t).2)
 |n,at_,[],_,h0,_=>by
  refine⟨[],by simp,by rw[lex_nil];simp,?_⟩
  rw[List.nil_append,lex_step _ _ _ (by simp)]
  have hp:pieceL (10::t)=(0,1,0):=rfl
  simp only[hp]
  rw[if_neg (by decide),if_neg (by decide),if_neg (by decide),if_neg (by decide)]
  have e:=lex_fuel (n+t.length) t.length (at_+1) (-1) t (by omega) (Nat.le_refl _)
  simp only[List.drop_succ_cons,List.drop_zero,List.length_nil]
  show lexL (n+t.length) (at_+1) (-1) t=_
  rw[e,show at_+((0:Nat):Int)+1=at_+1 by omega];rfl
 |0,_,c::u,h,_,_=>by simp at h
 |n+1,at_,c::u,hn,h0,hb=>by
  obtain⟨p1,p2⟩:=piece_len (u:=c::u) (by simp)
  have hpa:=piece_app t (u:=c::u) (by simp)
  have hd1:(c::u++10::t).drop (pieceL (c::u)).2.1=(c::u).drop (pieceL (c::u)).2.1++10::t:=drop_app p2
  have ht1:(c::u++10::t).take (pieceL (c::u)).2.1=(c::u).take (pieceL (c::u)).2.1:=takeN_app p2
  have ht2:(c::u++10::t).take ((pieceL (c::u)).2.1-1)=(c::u).take ((pieceL (c::u)).2.1-1):=takeN_app (by omega)
  have hk6:=piece_kind (c::u)
  have ih:=lex_app t n (at_+(pieceL (c::u)).2.1) ((c::u).drop (pieceL (c::u)).2.1) (by rw[List.length_drop];omega) (by omega)
  have hl:at_+((pieceL (c::u)).2.1:Int)+(((c::u).drop (pieceL (c::u)).2.1).length:Int)=at_+((c::u).length:Int):=by rw[List.length_drop];omega
  rw[hl]at ih
  rw[lex_step _ _ _ (by simp)]at hb
  rw[show n+1+t.length+1=(n+t.length+1)+1 by omega,lex_step _ _ _ (s:=c::u) (by simp),lex_step _ _ _ (s:=c::u++10::t) (by simp)]
  simp only[hpa,hd1,ht1,ht2]
  generalize pieceL (c::u)=p at *
  by_cases k:p.1= -1
  ·rw[if_pos k,if_pos (by omega)]at hb
   cases hb
  ·rw[if_neg k]at hb ⊢
   rw[if_neg k]
   by_cases k2:p.2.2≠0
   ·rw[if_pos k2]at hb;cases hb
   ·rw[if_neg k2]at hb ⊢
    rw[if_neg k2]
    by_cases k4:p.1=4
    ·rw[if_pos k4]at hb ⊢
     rw[if_pos k4]
     obtain⟨A,a1,a2,a3⟩:=ih hb
     rw[a2,a3]
     exact⟨_::A,fun x hx=>by rcases List.mem_cons.1 hx with rfl|hx;exact(show(4:Int)≠6 by decide);exact a1 x hx,rfl,rfl⟩
    ·rw[if_neg k4]at hb ⊢
     rw[if_neg k4]
     by_cases k0:p.1≠0
     ·rw[if_pos k0]at hb ⊢
      rw[if_pos k0]
      obtain⟨A,a1,a2,a3⟩:=ih hb
      rw[a2,a3]
      exact⟨_::A,fun x hx=>by rcases List.mem_cons.1 hx with rfl|hx;exact hk6;exact a1 x hx,rfl,rfl⟩
     ·rw[if_neg k0]at hb ⊢
      rw[if_neg k0]
      exact ih hb
theorem alike_pre(e:Tok)(B:List Tok):Alike (fun L1 L2=>∃ A,A≠[]∧L1=A++[e]∧L2=A++B) (fun L=>L.length≤1) id (fun _=>True) where
 head:=fun {L1 L2} ⟨A,h,e1,e2⟩=>by
  cases A with
  |nil=>exact absurd rfl h
  |cons a A=>subst e1 e2;exact .inl ⟨rfl,rfl,rfl⟩
 tail:=fun {L1 L2} ⟨A,h,e1,e2⟩ hk=>by
  cases A with
  |nil=>exact absurd rfl h
  |cons a A=>
   subst e1 e2
   cases A with
   |nil=>exact .inl (Nat.le_refl 1)
   |cons b A=>exact .inr ⟨b::A,by simp,rfl,rfl⟩
 dead:=fun h h2=>Nat.le_trans h2.length_le h
 deadE:=fun _ _=>trivial
def tableB(L:List Tok):PR Tab:=(ofP L).bind fun n L1=>(signP (ch 123) L1).bind fun _ L2=>(fieldsP L2).bind fun l L3=>(keepP L3).map fun k=>⟨n.1,n.2,l,k⟩
def featureB(L:List Tok):PR Fea:=(ofP L).bind fun n L1=>(signP (ch 58) L1).bind fun _ L2=>(kindP L2).bind fun t L3=>(signP (ch 61) L3).bind fun _ L4=>(exprP N0 false L4).map fun x=>⟨n.1,n.2,t,x,0⟩
theorem table_eq(L:List Tok):tableP L=(tableB L).bind fun t L4=>(signP (ch 59) L4).map fun _=>t:=by
 unfold tableP tableB PR.map;simp only[PR.assoc,PR.bind_ok]
theorem feature_eq(L:List Tok):featureP L=(featureB L).bind fun t L4=>(signP (ch 59) L4).map fun _=>t:=by
 unfold featureP featureB PR.map;simp only[PR.assoc,PR.bind_ok]
section
variable {R:List Tok→List Tok→Prop}{D:List Tok→Prop}{φ:Int→Int}{DE:Int→Prop}
theorem Sm.tableB(H:Alike R D φ DE):Sm R D φ DE 1 tableB:=Sm.le (n:=3) (Sm.bind (n:=1) (m:=2) H (Sm.of H) fun n=>Sm.bind (n:=1) (m:=1) H (Sm.need H (by decide)) fun _=>Sm.bind (n:=1) (m:=0) H (Sm.fields H) fun l=>Sm.map H (Sm.keep H)) (by omega)
theorem Sm.featureB(H:Alike R D φ DE):Sm R D φ DE 1 featureB:=Sm.le (n:=5) (Sm.bind (n:=1) (m:=4) H (Sm.of H) fun n=>Sm.bind (n:=1) (m:=3) H (Sm.need H (by decide)) fun _=>Sm.bind (n:=1) (m:=2) H (Sm.kind H) fun t=>Sm.bind (n:=1) (m:=1) H (Sm.need H (by decide)) fun _=>Sm.map H ((smE H N0).expr false)) (by omega)
end
theorem semi_pre{α:Type}{e:Tok}{B:List Tok}{f:List Tok→PR α}(hf:Sm (fun L1 L2=>∃ A,A≠[]∧L1=A++[e]∧L2=A++B) (fun L=>L.length≤1) id (fun _=>True) 1 f)(he:e.kind=6){A:List Tok}(hA:A≠[]){v:α}{L':List Tok}
  (h:((f (A++[e])).bind fun t L4=>(signP (ch 59) L4).map fun _=>t)= .ok v L'):∃ A2,L'=A2++[e]∧A2.length<A.length∧A2 <:+ A∧((f (A++B)).bind fun t L4=>(signP (ch 59) L4).map fun _=>t)= .ok v (A2++B):=by
 have hE:EndL (A++[e]):=⟨A,e,rfl,he⟩
 have hs:=hf.sim (A++[e]) (A++B) hE ⟨A,hA,rfl,rfl⟩
 have hp:=hf.pos (A++[e]) hE
 cases h1:f (A++[e])with
 |err p c=>rw[h1]at h;cases h
 |ok a L4=>
  rw[h1]at h
  simp only[PR.bind_ok]at h
  obtain⟨p1,p2,p3⟩:=hp.ok a L4 h1
  have hsee:see 5 (ch 59) L4=true:=by
   by_cases hq:see 5 (ch 59) L4=true
   ·exact hq
   ·unfold signP needP at h;rw[if_neg hq]at h;cases h
  have h2:L'=L4.tail∧v=a:=by
   unfold signP needP at h;rw[if_pos hsee]at h;cases h;exact⟨rfl,rfl⟩
  obtain⟨rfl,rfl⟩:=h2
  rcases hs.ok v L4 h1 with hD|⟨L5,h5,A4,hA4,e4,e5⟩
  ·exfalso
   obtain⟨M,e',rfl,he'⟩:=p2
   have:M=[]:=by simpa using hD
   subst this
   exact see_kind (k:=5) (by decide) _ hsee he'
  ·subst e4 e5
   cases A4 with
   |nil=>exact absurd rfl hA4
   |cons a4 A4=>
    have hsuf:A4 <:+ A:=by
     obtain⟨Q,hQ⟩:=p1
     refine⟨Q++[a4],?_⟩
     have:Q++(a4::A4)++[e]=A++[e]:=by rw[← hQ];simp
     have:=List.append_cancel_right this
     rw[← this];simp
    refine⟨A4,rfl,?_,hsuf,?_⟩
    ·simp at p3;omega
    ·rw[h5]
     simp only[PR.bind_ok]
     have hsee2:see 5 (ch 59) (a4::A4++B)=true:=hsee
     unfold signP needP;rw[if_pos hsee2];rfl
theorem item_pre{e:Tok}{B:List Tok}(he:e.kind=6){A:List Tok}(hA:A≠[]){v:Itm}{L':List Tok}(h:itemP (A++[e])= .ok v L'):∃ A2,L'=A2++[e]∧A2.length<A.length∧A2 <:+ A∧itemP (A++B)= .ok v (A2++B):=by
 cases A with
 |nil=>exact absurd rfl hA
 |cons a A=>
  have H:=alike_pre e B
  have s1:see 1 wTable (a::A++B)=see 1 wTable (a::A++[e]):=rfl
  have s2:see 1 wFea (a::A++B)=see 1 wFea (a::A++[e]):=rfl
  have t1:(a::A++[e]).tail=A++[e]:=rfl
  have t2:(a::A++B).tail=A++B:=rfl
  have hne:∀ {α:Type} {f:List Tok→PR α} {w:α} {M:List Tok},Pos 1 f→((f (A++[e])).bind fun t L4=>(signP (ch 59) L4).map fun _=>t)= .ok w M→A≠[]:=fun {α f w M} hf h e0=>by
   subst e0
   have hp:=(Pos.bind (n:=1) (m:=1) hf (g:=fun t L4=>(signP (ch 59) L4).map fun _=>t) fun t=>Pos.map (Pos.need (by decide))) [e] ⟨[],e,rfl,he⟩
   obtain⟨_,h2,h3⟩:=hp.ok w M h
   have:=h2.ne
   simp at h3
  unfold itemP at h ⊢
  rw[s1,s2,t2]
  rw[t1]at h
  by_cases c1:see 1 wTable (a::A++[e])=true
  ·rw[if_pos c1]at h ⊢
   rw[table_eq]at h ⊢
   cases h1:(tableB (A++[e])).bind fun t L4=>(signP (ch 59) L4).map fun _=>t with
   |err p c=>rw[h1]at h;cases h
   |ok t M=>
    rw[h1]at h;cases h
    obtain⟨A2,e1,e2,e3,e4⟩:=semi_pre (B:=B) (Sm.tableB H) he (hne (Sm.tableB H).pos h1) h1
    exact⟨A2,e1,by simp;omega,e3.trans (List.suffix_cons _ _),by rw[e4];rfl⟩
  ·rw[if_neg c1]at h ⊢
   by_cases c2:see 1 wFea (a::A++[e])=true
   ·rw[if_pos c2]at h ⊢
    rw[feature_eq]at h ⊢
    cases h1:(featureB (A++[e])).bind fun t L4=>(signP (ch 59) L4).map fun _=>t with
    |err p c=>rw[h1]at h;cases h
    |ok t M=>
     rw[h1]at h;cases h
     obtain⟨A2,e1,e2,e3,e4⟩:=semi_pre (B:=B) (Sm.featureB H) he (hne (Sm.featureB H).pos h1) h1
     exact⟨A2,e1,by simp;omega,e3.trans (List.suffix_cons _ _),by rw[e4];rfl⟩
   ·rw[if_neg c2]at h;cases h
abbrev mdl0:Mdl:=⟨[],[]⟩
def appM(a b:Mdl):Mdl:=⟨a.tables++b.tables,a.features++b.features⟩
theorem appM_0(m:Mdl):appM m mdl0=m:=by unfold appM mdl0;simp
theorem appM_add(m:Mdl)(v:Itm)(k:Mdl):appM (addI m v) k=appM m (appM (addI mdl0 v) k):=by cases v<;>simp[appM,addI]
theorem modL_acc:∀ (n:Nat) (L:List Tok) (m:Mdl) (bad:List Prb),modL n L m bad=(appM m (modL n L mdl0 []).1,bad++(modL n L mdl0 []).2)
 |0,L,m,bad=>by simp[modL,appM]
 |n+1,L,m,bad=>by
  unfold modL
  by_cases h:(hd L).kind=6
  ·rw[if_pos h,if_pos h,appM_0];simp
  ·rw[if_neg h,if_neg h]
   cases itemP L with
   |ok a L'=>
    simp only
    rw[modL_acc n L' (addI m a) bad,modL_acc n L' (addI mdl0 a) [],appM_add];simp
   |err p c=>
    simp only
    rw[modL_acc n (behindP p L) m (bad++[(⟨p,c⟩:Prb)]),modL_acc n (behindP p L) mdl0 ([]++[(⟨p,c⟩:Prb)])]
    simp[appM]
theorem skipTo_suf(x:Int):∀ L:List Tok,L≠[]→skipTo x L <:+ L∧skipTo x L≠[]
 |[],h=>absurd rfl h
 |[t],_=>⟨List.suffix_refl _,by simp[skipTo]⟩
 |t::u::L,_=>by
  unfold skipTo
  split
  ·obtain⟨h1,h2⟩:=skipTo_suf x (u::L) (by simp)
   exact⟨h1.trans (List.suffix_cons _ _),h2⟩
  ·exact⟨List.suffix_refl _,by simp⟩
theorem EndL.suf{L L':List Tok}(h:EndL L)(hs:L' <:+ L)(hn:L'≠[]):EndL L':=by
 obtain⟨M,e,rfl,he⟩:=h
 obtain⟨Q,hQ⟩:=hs
 refine⟨L'.dropLast,e,?_,he⟩
 have h1:=List.dropLast_concat_getLast hn
 have h2:L'.getLast hn=e:=by
  have:(Q++L').getLast (by simp[hn])=e:=by
   simp only[hQ];simp
  rw[List.getLast_append_of_ne_nil _ hn]at this
  exact this
 rw[h2]at h1;exact h1.symm
theorem behind_len{x:Int}{L:List Tok}(h:EndL L)(hk:(hd L).kind≠6):EndL (behindP x L)∧(behindP x L).length<L.length:=by
 obtain⟨h1,h2⟩:=skipTo_suf x L h.ne
 have hl:=(h.tail hk)
 have h3:=h1.length_le
 unfold behindP
 have h5:=hl.1.ne
 have h6:0<L.tail.length:=List.length_pos_iff.2 h5
 split
 ·rename_i hg
  refine⟨h.suf ((List.tail_suffix _).trans h1) (by intro e;have:=congrArg List.length e;simp at this;omega),by simp;omega⟩
 ·rename_i hg
  exact⟨h.suf h1 h2,by omega⟩
theorem modL_fuel:∀ (n n':Nat) (L:List Tok) (m:Mdl) (bad:List Prb),EndL L→L.length≤n→L.length≤n'→modL n L m bad=modL n' L m bad
 |0,_,L,_,_,h,hn,_=>by have:=h.ne;simp at hn;exact absurd hn this
 |_+1,0,L,_,_,h,_,hn=>by have:=h.ne;simp at hn;exact absurd hn this
 |n+1,n'+1,L,m,bad,h,hn,hn'=>by
  unfold modL
  by_cases hk:(hd L).kind=6
  ·rw[if_pos hk,if_pos hk]
  ·rw[if_neg hk,if_neg hk]
   have hp:=(Sm.item (alike_pre default [])).pos L h
   cases e:itemP L with
   |ok a L'=>
    obtain⟨h1,h2,h3⟩:=hp.ok a L' e
    exact modL_fuel n n' L' _ _ h2 (by omega) (by omega)
   |err p c=>
    obtain⟨h1,h2⟩:=behind_len (x:=p) h hk
    exact modL_fuel n n' _ _ _ h1 (by omega) (by omega)
theorem modL_pre{e:Tok}{B:List Tok}(he:e.kind=6)(hB:EndL B):∀ (k:Nat) (A:List Tok) (m0 m:Mdl) (n n':Nat),A.length≤k→(∀ x∈A,x.kind≠6)→(A++[e]).length≤n→(A++B).length≤n'→modL n (A++[e]) m0 []=(m,[])→modL n' (A++B) m0 []=modL n' B m []:=by
 intro k
 induction k with
 |zero=>
  intro A m0 m n n' hk _ hn hn' h
  have:A=[]:=List.eq_nil_of_length_eq_zero (by omega)
  subst this
  cases n with
  |zero=>simp at hn
  |succ n=>
   unfold modL at h
   rw[if_pos (show(hd ([]++[e])).kind=6 from he)]at h
   cases h;rfl
 |succ k ih=>
  intro A m0 m n n' hk hA hn hn' h
  cases A with
  |nil=>
   cases n with
   |zero=>simp at hn
   |succ n=>
    unfold modL at h
    rw[if_pos (show(hd ([]++[e])).kind=6 from he)]at h
    cases h;rfl
  |cons a A=>
   cases n with
   |zero=>simp at hn
   |succ n=>
   cases n' with
   |zero=>simp at hn'
   |succ n'=>
    have hka:a.kind≠6:=hA a List.mem_cons_self
    have h0:=h
    unfold modL at h
    rw[if_neg (show¬(hd (a::A++[e])).kind=6 from hka)]at h
    cases hi:itemP (a::A++[e])with
    |err p c=>
     rw[hi]at h
     simp only at h
     rw[modL_acc]at h
     simp at h
    |ok v L'=>
     rw[hi]at h
     simp only at h
     obtain⟨A2,e1,e2,e3,e4⟩:=item_pre (B:=B) he (A:=a::A) (by simp) hi
     subst e1
     have hB1:(A2++B).length≤n':=by simp at hn' e2 ⊢;omega
     have h5:=ih A2 (addI m0 v) m n n' (by simp at e2 hk;omega) (fun x hx=>hA x (e3.subset hx)) (by simp at hn e2 ⊢;omega) hB1 h
     rw[show modL (n'+1) (a::A++B) m0 []=modL n' (A2++B) (addI m0 v) [] by
      rw[modL,if_neg (show¬(hd (a::A++B)).kind=6 from hka),e4]]
     rw[h5]
     exact modL_fuel n' (n'+1) B m [] hB (by simp at hB1;omega) (by simp at hB1;omega)
theorem alike_shift(d:Int):Alike (fun L1 L2=>EndL L1∧L2=L1.map (shT d)) (fun _=>False) (·+d) (fun _=>False) where
 head:=fun {L1 L2} ⟨h,e⟩=>by
  subst e
  obtain⟨M,t,rfl,_⟩:=h
  cases M<;>exact .inl ⟨rfl,rfl,rfl⟩
 tail:=fun {L1 L2} ⟨h,e⟩ hk=>by
  subst e
  exact .inr ⟨(h.tail hk).1,by cases L1<;>rfl⟩
 dead:=fun h _=>h
 deadE:=fun h _=>h
theorem item_shift(d:Int){L:List Tok}(h:EndL L):(∀ v L',itemP L= .ok v L'→itemP (L.map (shT d))= .ok v (L'.map (shT d)))∧∀ p c,itemP L= .err p c→itemP (L.map (shT d))= .err (p+d) c:=by
 have hs:=(Sm.item (alike_shift d)).sim L (L.map (shT d)) h ⟨h,rfl⟩
 refine⟨fun v L' e=> ?_,fun p c e=> ?_⟩
 ·rcases hs.ok v L' e with hD|⟨L2,e2,_,e3⟩
  ·exact hD.elim
  ·rw[e2,e3]
 ·rcases hs.err p c e with hD|e2
  ·exact hD.elim
  ·exact e2
theorem skipTo_shift(d x:Int):∀ L:List Tok,skipTo (x+d) (L.map (shT d))=(skipTo x L).map (shT d)
 |[]=>rfl
 |[t]=>rfl
 |t::u::L=>by
  have ih:=skipTo_shift d x (u::L)
  simp only[List.map_cons]at ih ⊢
  unfold skipTo
  have hc:((shT d t).at_<x+d∨(shT d t).kind≠5∨(shT d t).text≠ch 59)↔(t.at_<x∨t.kind≠5∨t.text≠ch 59):=by
   show(t.at_+d<x+d∨t.kind≠5∨t.text≠ch 59)↔_
   rw[show t.at_+d<x+d↔t.at_<x by omega]
  by_cases h:t.at_<x∨t.kind≠5∨t.text≠ch 59
  ·rw[if_pos (hc.2 h),if_pos h];exact ih
  ·rw[if_neg fun k=>h (hc.1 k),if_neg h];rfl
theorem behind_shift(d x:Int)(L:List Tok):behindP (x+d) (L.map (shT d))=(behindP x L).map (shT d):=by
 unfold behindP
 rw[skipTo_shift,List.length_map]
 split
 ·rw[List.map_tail]
 ·rfl
theorem modL_shift(d:Int):∀ (n:Nat) (L:List Tok),EndL L→modL n (L.map (shT d)) mdl0 []=((modL n L mdl0 []).1,(modL n L mdl0 []).2.map (shP d))
 |0,L,h=>rfl
 |n+1,L,h=>by
  have hk:(hd (L.map (shT d))).kind=(hd L).kind:=by
   obtain⟨M,t,rfl,_⟩:=h
   cases M<;>rfl
  unfold modL
  rw[hk]
  by_cases h6:(hd L).kind=6
  ·rw[if_pos h6,if_pos h6];rfl
  ·rw[if_neg h6,if_neg h6]
   obtain⟨s1,s2⟩:=item_shift d h
   have hp:=(Sm.item (alike_pre default [])).pos L h
   cases e:itemP L with
   |ok a L'=>
    rw[s1 a L' e]
    simp only
    rw[modL_acc n (L'.map (shT d)),modL_acc n L',modL_shift d n L' (hp.ok a L' e).2.1];rfl
   |err p c=>
    rw[s2 p c e]
    simp only
    rw[behind_shift,modL_acc n ((behindP p L).map (shT d)),modL_acc n (behindP p L),modL_shift d n _ (behind_len h h6).1]
    simp[shP]
theorem lex_end:∀ (n:Nat) (at_ st:Int) (s:Bs),EndL (lexL n at_ st s).1
 |0,at_,st,s=>⟨[],_,rfl,rfl⟩
 |n+1,at_,st,s=>by
  by_cases hs:s=[]
  ·subst hs;rw[lex_nil];exact⟨[],_,rfl,rfl⟩
  have key:∀ (t:Tok) {L:List Tok},EndL L→EndL (t::L):=fun t L ⟨M,e,h1,h2⟩=>⟨t::M,e,by rw[h1];rfl,h2⟩
  rw[lex_step _ _ _ hs]
  split
  ·exact lex_end n _ _ _
  split
  ·exact lex_end n _ _ _
  split
  ·exact key _ (lex_end n _ _ _)
  split
  ·exact key _ (lex_end n _ _ _)
  ·exact lex_end n _ _ _
theorem lex_len:∀ (n:Nat) (at_ st:Int) (s:Bs),(lexL n at_ st s).1.length≤n+1
 |0,at_,st,s=>by simp[lexL]
 |n+1,at_,st,s=>by
  by_cases hs:s=[]
  ·subst hs;rw[lex_nil];simp
  rw[lex_step _ _ _ hs]
  have h1:=lex_len n (at_+1) at_ (s.drop 1)
  have h2:=lex_len n (at_+(pieceL s).2.1) st (s.drop (pieceL s).2.1)
  split
  ·simp only;omega
  split
  ·simp only;omega
  split
  ·simp only[List.length_cons];omega
  split
  ·simp only[List.length_cons];omega
  ·omega
theorem nth_shift(d:Int)(l:List Prb)(i:Nat)(hl:l≠[]):nth (l.map (shP d)) i=shP d (nth l i):=by
 unfold nth
 cases l with
 |nil=>exact absurd rfl hl
 |cons p l=>
  rw[List.getD_eq_getElem?_getD,List.getD_eq_getElem?_getD,List.getElem?_map]
  cases(p::l)[i]? <;>rfl
theorem sort_shift(d:Int)(l:List Prb):sortP (l.map (shP d))=(sortP l).map (shP d):=by
 by_cases hl:l=[]
 ·subst hl;rfl
 ·unfold sortP
  rw[if_neg (by simpa using hl),if_neg hl,List.length_map,List.map_map]
  have h:ltP (l.map (shP d))=ltP l:=by
   funext x y
   unfold ltP cfP
   rw[nth_shift d l x hl,nth_shift d l y hl]
   show decide (IntKind.i64.wrap ((nth l x).at_+d-((nth l y).at_+d))<0)=_
   rw[show(nth l x).at_+d-((nth l y).at_+d)=(nth l x).at_-(nth l y).at_ by omega]
  rw[h]
  exact List.map_congr_left fun i _=>nth_shift d l i hl
theorem take32{α:Type}{l:List α}(h:l.take 32=[]):l=[]:=by
 cases l with
 |nil=>rfl
 |cons a l=>simp at h
theorem moduleP_items{x y:Bs}{m n:Mdl}{more:List Prb}(hl:x.length+y.length≤16000)(hx:moduleP x=(m,[],0))(hy:moduleP y=(n,more,0)):
  moduleP (x++10::y)=(appM m n,more.map (shP (x.length+1)),0):=by
 unfold moduleP at hx hy ⊢
 rw[if_neg (by omega)]at hx hy
 rw[if_neg (by simp;omega)]
 simp only[Prod.mk.injEq]at hx hy ⊢
 obtain⟨x1,x2,_⟩:=hx
 obtain⟨y1,y2,_⟩:=hy
 have x3:=take32 x2
 have x4:(modL N0 (toksL x).1 mdl0 (toksL x).2).2=[]:=by
  have:(sortP (modL N0 (toksL x).1 mdl0 (toksL x).2).2).length=0:=by rw[x3];rfl
  rw[sortP_length]at this
  exact List.eq_nil_of_length_eq_zero this
 rw[modL_acc]at x4
 simp only[List.append_eq_nil_iff]at x4
 obtain⟨x5,x6⟩:=x4
 rw[x5]at x1
 have x7:(lexL x.length 0 (-1) x).2=[]:=take32 x5
 obtain⟨A,a1,a2,a3⟩:=lex_app y x.length 0 x (Nat.le_refl _) (by omega) x7
 have hsh:=lex_shift ((x.length:Int)+1) (by omega) y.length 0 (-1) (-1) y (by omega) (.inl ⟨rfl,by omega⟩)
 rw[show(0:Int)+(x.length:Int)+1=0+((x.length:Int)+1) by omega,hsh]at a3
 have hz:toksL (x++10::y)=(A++(toksL y).1.map (shT (x.length+1)),(toksL y).2.map (shP (x.length+1))):=by
  unfold toksL
  simp only
  rw[show(x++10::y).length=x.length+y.length+1 by simp;omega,a3,List.map_take]
 have hEy:EndL (toksL y).1:=lex_end _ _ _ _
 have hEm:EndL ((toksL y).1.map (shT ((x.length:Int)+1))):=by
  obtain⟨M,e,h1,h2⟩:=hEy
  exact⟨M.map (shT ((x.length:Int)+1)),shT ((x.length:Int)+1) e,by rw[h1,List.map_append];rfl,h2⟩
 have hLy:(toksL y).1.length≤y.length+1:=lex_len _ _ _ _
 have hLx:(toksL x).1.length≤x.length+1:=lex_len _ _ _ _
 have hTx:(toksL x).1=A++[⟨6,⟨#[]⟩,0+(x.length:Int)⟩]:=a2
 have hx8:modL N0 (A++[⟨6,⟨#[]⟩,0+(x.length:Int)⟩]) mdl0 []=(m,[]):=by
  rw[← hTx]
  exact Prod.ext x1 x6
 rw[hTx]at hLx
 have hpre:=modL_pre (e:=⟨6,⟨#[]⟩,0+(x.length:Int)⟩) rfl hEm A.length A mdl0 m N0 N0 (Nat.le_refl _) a1 (by show _≤1000000;omega) (by show _≤1000000;simp at hLx ⊢;omega) hx8
 rw[hz]
 simp only
 rw[modL_acc,hpre,modL_acc N0 ((toksL y).1.map _) m [],modL_shift _ N0 _ hEy]
 rw[modL_acc]at y1 y2
 simp only[List.nil_append]at y1 y2 ⊢
 refine⟨?_,?_,trivial⟩
 ·rw[← y1];unfold appM mdl0;simp
 ·rw[← List.map_append,sort_shift,← List.map_take,y2]
theorem PR.bind_congr{α β:Type}{r:PR α}{g g':α→List Tok→PR β}(h:∀ a L,r= .ok a L→g a L=g' a L):r.bind g=r.bind g':=by
 cases r with
 |ok a L=>exact h a L rfl
 |err p c=>rfl
structure FuE(n m:Nat):Prop where
 expr:∀ i L,EndL L→8 * L.length+7≤n→8 * L.length+7≤m→exprP n i L=exprP m i L
 def_:∀ i x L,EndL L→8 * L.length+7≤n→8 * L.length+7≤m→defP n i x L=defP m i x L
 bin:∀ l i L,EndL L→8 * L.length+6≤n→8 * L.length+6≤m→binP n l i L=binP m l i L
 ops:∀ l o i x L,EndL L→8 * L.length+7≤n→8 * L.length+7≤m→opsP n l o i x L=opsP m l o i x L
 operand:∀ l i L,EndL L→8 * L.length+5≤n→8 * L.length+5≤m→operandP n l i L=operandP m l i L
 prim:∀ i L,EndL L→8 * L.length+4≤n→8 * L.length+4≤m→primP n i L=primP m i L
 group:∀ i L,EndL L→8 * L.length+3≤n→8 * L.length+3≤m→groupP n i L=groupP m i L
 word:∀ i L,EndL L→(hd L).kind≠6→8 * L.length+3≤n→8 * L.length+3≤m→wordP n i L=wordP m i L
 agg:∀ o L,EndL L→8 * L.length+3≤n→8 * L.length+3≤m→aggP n o L=aggP m o L
theorem fuE:∀ n m,FuE n m
 |0,m=>⟨fun _ _ _ h=>by omega,fun _ _ _ _ h=>by omega,fun _ _ _ _ h=>by omega,fun _ _ _ _ _ _ h=>by omega,fun _ _ _ _ h=>by omega,fun _ _ _ h=>by omega,fun _ _ _ h=>by omega,fun _ _ _ _ h=>by omega,fun _ _ _ h=>by omega⟩
 |n+1,0=>⟨fun _ _ _ _ h=>by omega,fun _ _ _ _ _ h=>by omega,fun _ _ _ _ _ h=>by omega,fun _ _ _ _ _ _ _ h=>by omega,fun _ _ _ _ _ h=>by omega,fun _ _ _ _ h=>by omega,fun _ _ _ _ h=>by omega,fun _ _ _ _ _ h=>by omega,fun _ _ _ _ h=>by omega⟩
 |n+1,m+1=>by
  have ih:=fuE n m
  have P:=posE m
  have need:∀ {k:Int} {s:Str} (hk:k≠6) {L L1:List Tok},EndL L→needP k s L= .ok () L1→EndL L1∧L1.length+1≤L.length:=fun {k s} hk {L L1} h e=>((Pos.need hk) L h).ok () L1 e |>.2
  refine⟨fun i L h h1 h2=> ?_,fun i x L h h1 h2=> ?_,fun l i L h h1 h2=> ?_,fun l o i x L h h1 h2=> ?_,fun l i L h h1 h2=> ?_,fun i L h h1 h2=> ?_,fun i L h h1 h2=> ?_,fun i L h hk h1 h2=> ?_,fun o L h h1 h2=> ?_⟩
  ·rw[exprP,exprP]
   by_cases hs:see 1 wIf L=true
   ·rw[if_pos hs,if_pos hs]
    obtain⟨t1,t2⟩:=h.tail (see_kind (k:=1) (by decide) L hs)
    rw[ih.expr i L.tail t1 (by omega) (by omega)]
    refine PR.bind_congr fun a L1 e1=>PR.bind_congr fun _ L2 e2=> ?_
    have p1:=(P.expr i L.tail t1).ok a L1 e1
    have p2:=need (by decide) p1.2.1 e2
    rw[ih.expr i L2 p2.1 (by omega) (by omega)]
    refine PR.bind_congr fun b L3 e3=>PR.bind_congr fun _ L4 e4=> ?_
    have p3:=(P.expr i L2 p2.1).ok b L3 e3
    have p4:=need (by decide) p3.2.1 e4
    rw[ih.expr i L4 p4.1 (by omega) (by omega)]
   ·rw[if_neg hs,if_neg hs,ih.bin 1 i L h (by omega) (by omega)]
    refine PR.bind_congr fun x L1 e1=> ?_
    have p1:=(P.bin 1 i L h).ok x L1 e1
    exact ih.def_ i x L1 p1.2.1 (by omega) (by omega)
  ·rw[defP,defP]
   by_cases hs:see 1 wDef L=true
   ·rw[if_pos hs,if_pos hs]
    obtain⟨t1,t2⟩:=h.tail (see_kind (k:=1) (by decide) L hs)
    rw[ih.bin 1 i L.tail t1 (by omega) (by omega)]
    refine PR.bind_congr fun y L1 e1=> ?_
    have p1:=(P.bin 1 i L.tail t1).ok y L1 e1
    exact ih.def_ i _ L1 p1.2.1 (by omega) (by omega)
   ·rw[if_neg hs,if_neg hs]
  ·rw[binP,binP,ih.operand l i L h (by omega) (by omega)]
   refine PR.bind_congr fun x L1 e1=> ?_
   have p1:=(P.operand l i L h).ok x L1 e1
   exact ih.ops l _ i x L1 p1.2.1 (by omega) (by omega)
  ·rw[opsP,opsP]
   by_cases hs:rankP L≥l∧rankP L≠0∧rankP L≤o
   ·rw[if_pos hs,if_pos hs]
    obtain⟨t1,t2⟩:=h.tail (rank_kind L hs.2.1)
    rw[ih.bin (rankP L+1) i L.tail t1 (by omega) (by omega)]
    refine PR.bind_congr fun y L1 e1=> ?_
    have p1:=(P.bin (rankP L+1) i L.tail t1).ok y L1 e1
    exact ih.ops l _ i _ L1 p1.2.1 (by omega) (by omega)
   ·rw[if_neg hs,if_neg hs]
  ·rw[operandP,operandP]
   by_cases hs:(decide (l≤3) && see 1 wNot L)=true
   ·rw[if_pos hs,if_pos hs]
    obtain⟨t1,t2⟩:=h.tail (see_kind (k:=1) (by decide) L (Bool.and_eq_true _ _ ▸ hs).2)
    rw[ih.bin 3 i L.tail t1 (by omega) (by omega)]
   ·rw[if_neg hs,if_neg hs]
    by_cases hs2:see 5 (ch 45) L=true
    ·rw[if_pos hs2,if_pos hs2]
     obtain⟨t1,t2⟩:=h.tail (see_kind (k:=5) (by decide) L hs2)
     rw[ih.operand 7 i L.tail t1 (by omega) (by omega)]
    ·rw[if_neg hs2,if_neg hs2]
     exact ih.prim i L h (by omega) (by omega)
  ·rw[primP,primP]
   by_cases k2:(hd L).kind=2
   ·rw[if_pos k2,if_pos k2]
   rw[if_neg k2,if_neg k2]
   by_cases k3:(hd L).kind=3
   ·rw[if_pos k3,if_pos k3]
   rw[if_neg k3,if_neg k3]
   by_cases k4:(hd L).kind=4
   ·rw[if_pos k4,if_pos k4]
   rw[if_neg k4,if_neg k4]
   by_cases k1:(hd L).kind=1
   ·rw[if_pos k1,if_pos k1];exact ih.word i L h (by rw[k1];decide) (by omega) (by omega)
   rw[if_neg k1,if_neg k1,ih.group i L h (by omega) (by omega)]
  ·rw[groupP,groupP]
   refine PR.bind_congr fun _ L1 e1=> ?_
   have p1:=need (by decide) h e1
   rw[ih.expr i L1 p1.1 (by omega) (by omega)]
  ·rw[wordP,wordP]
   obtain⟨t1,t2⟩:=h.tail hk
   rw[ih.group i L.tail t1 (by omega) (by omega),ih.agg (hd L).text L.tail t1 (by omega) (by omega)]
   split
   ·rfl
   split
   ·rfl
   split
   ·rfl
   ·refine PR.bind_congr fun s L1 e1=> ?_
    have p1:=(Pos.name L h).ok s L1 e1
    by_cases hi:i=true
    ·rw[if_pos hi,if_pos hi]
    ·rw[if_neg hi,if_neg hi]
     by_cases hs:see 1 wOf L1=true
     ·rw[if_pos hs,if_pos hs]
      obtain⟨u1,u2⟩:=p1.2.1.tail (see_kind (k:=1) (by decide) L1 hs)
      rw[ih.group i L1.tail u1 (by omega) (by omega)]
     ·rw[if_neg hs,if_neg hs]
  ·rw[aggP,aggP]
   refine PR.bind_congr fun _ L1 e1=>PR.bind_congr fun tb L2 e2=>PR.bind_congr fun _ L3 e3=> ?_
   have p1:=need (by decide) h e1
   have p2:=(Pos.name L1 p1.1).ok tb L2 e2
   have p3:=need (by decide) p2.2.1 e3
   rw[ih.expr true L3 p3.1 (by omega) (by omega)]
   refine PR.bind_congr fun a L5 e5=>PR.bind_congr fun p L7 e7=>PR.bind_congr fun w L8 e8=> ?_
   have q5:EndL L5∧L5.length≤L3.length:=by
    have hp:=(Pos.ite (c:=fun _=>o≠wCount) (Pos.bind (n:=0) (m:=0) ((P.expr true).le (by omega)) fun x=>Pos.map (g:=fun _=>x) ((Pos.need (k:=5) (s:=ch 44) (by decide)).le (by omega))) (Pos.pure (truE 1))) L3 p3.1
    have:=hp.ok a L5 e5
    exact⟨this.2.1,by omega⟩
   have q7:EndL L7∧L7.length≤L5.length:=by
    have hp:=(Pos.ite (c:=fun _=>o=wQuant∨o=wDecay) (Pos.bind (n:=0) (m:=0) (Pos.num.le (by omega)) fun x=>Pos.map (g:=fun _=>x) ((Pos.need (k:=5) (s:=ch 44) (by decide)).le (by omega))) (Pos.pure (0:Int))) L5 q5.1
    have:=hp.ok p L7 e7
    exact⟨this.2.1,by omega⟩
   have q8:=(Pos.window L7 q7.1).ok w L8 e8
   by_cases hs:see 1 wWhere L8=true
   ·rw[if_pos hs,if_pos hs]
    obtain⟨u1,u2⟩:=q8.2.1.tail (see_kind (k:=1) (by decide) L8 hs)
    rw[ih.expr true L8.tail u1 (by omega) (by omega)]
   ·rw[if_neg hs,if_neg hs]
set_option linter.unusedSectionVars false
set_option maxRecDepth 100000
set_option maxHeartbeats 4000000
section
variable {cfg:Nat→Nat}{K:Regs→Store→Prop}{E:List PanicEntry→Store→Prop}{σ τ:Store}{l:List CI}{d b b':Nat}{xr:XR}{ps:List Prop}{og:Option Bool}{g:Option (Nat×Bool)}{args:List Operand}{ys:List AV}{α:Type}{f:FuncId}{ins:Bool}{L:List Tok}{rest cs:List AV}{val:α→AV}{a:α}
theorem VX_rdq(h:argO xr g args=some (og,.lp 1000 b 0::ys,ps))(hp:RdS f ys ins L (.ok a L) val)(hl:lkt σ 1000=some (b',.cells cs))(hb:b=b')(hc:cs=rdC L ins++rest)(hps:OB ps)(hu:upt σ 1000 b (.cells (rdC L ins++rest))=σ)
  (k:VX Tryz.prog cfg l K E (putX og d (val a) xr) σ):VX Tryz.prog cfg (⟨some d,.call f args,g⟩::l) K E xr σ:=by
 subst hc
 subst hb
 refine VX_specg (val a) h (fun _=>Spec.at (fun τ'=>hp b rest τ') hl) hps (fun hg x σ' ⟨cs',hR,e1⟩=> ?_) (fun ch σ' ⟨cs',hR,e1⟩=>absurd hR.2.1 (by nofun)) (fun _=>k)
 obtain⟨h1,h2,h3⟩:=hR
 cases h2;subst h3;subst e1
 rw[hu]
 constructor
 have:=k.h
 rw[putX_t hg]at this
 exact this
end
theorem Wk_two{x y:Ex}:Wk (.sl true 12 [x.row,y.row]) (.sl false 12 ([x,y].map Ex.cells)):=by
 rw[Ex.cells_row];exact .sl
theorem ops_stop{n l most:Nat}{i:Bool}{x:Ex}{L:List Tok}(hn:8 * L.length+7≤n)(h:¬(rankP L≥l∧rankP L≠0∧rankP L≤most)):opsP n l most i x L= .ok x L:=by
 obtain⟨k,rfl⟩:∃ k,n=k+1:=⟨n-1,by omega⟩
 rw[opsP,if_neg h]
theorem ops_go{n l most:Nat}{i:Bool}{x:Ex}{L:List Tok}(hL:EndL L)(hn:8 * L.length+7≤n)(h:rankP L≥l∧rankP L≠0∧rankP L≤most):
  opsP n l most i x L=(binP n (rankP L+1) i L.tail).bind fun y L1=>opsP n l (if rankP L=4 then 3 else rankP L) i (binE (hd L).text x y) L1:=by
 obtain⟨k,rfl⟩:∃ k,n=k+1:=⟨n-1,by omega⟩
 have ht:=hL.tail (rank_kind L h.2.1)
 rw[opsP,if_pos h,(fuE k (k+1)).bin _ i L.tail ht.1 (by omega) (by omega)]
 refine PR.bind_congr fun y L1 e1=> ?_
 have p1:=((posE (k+1)).bin _ i L.tail ht.1).ok y L1 e1
 exact(fuE k (k+1)).ops _ _ i _ L1 p1.2.1 (by omega) (by omega)
theorem rank_le(L:List Tok):rankP L≤6:=by
 unfold rankP
 dsimp only
 repeat' split
 all_goals omega
theorem rd_binary{n:Nat}(ih:RecOk n)(l:Nat)(i:Bool)(L:List Tok)(hL:Gd L)(hn:8 * L.length+6≤n+1):RdS 66 [iv l] i L (binP (n+1) l i L) exV:=by
 refine RdS.intro fun b1 rest τ=> ?_
 refine Spec.runk (fun _=>0) Tryz.func66 comp66 era66 (Nat.le_of_ble_eq_true rfl) ?_
 rw[binP]
 repeat'(first|exact .nil|refine .k0 ?_|refine .k1 ?_|refine .k2 ?_|refine .r1 ?_ ?_|(refine .l1 ?_;intro b)|fail)
 all_goals(try simp only[BL]at *)
 rename Nat=>b4
 refine VX_rdq rfl (rd_peek L hL i 1 wNot) rfl rfl rfl (.cons (fun h=>h) .nil) (by simp(decide:=true)only[upt_hd,upt_ne]) ?_
 repeat'(first|exact .nil|refine .k0 ?_|refine .k1 ?_|refine .k2 ?_|refine .k4 ?_|refine .r1 ?_ ?_|fail)
 refine VX_rdc rfl (ih.operand l i L hL (by omega)) rfl rfl rfl .nil ?_ (fun _ _ h=>FK_pan h) (fun _=>Zs) (fun x L1 hr1 hL1=> ?_)
 ·exact fun p c h=>by rw[h];rfl
 have hp1:=((posE n).operand l i L hL.e).ok x L1 hr1
 rw[hr1,PR.bind_ok]
 simp(decide:=true)only[upt_hd,upt_ne]
 repeat'((fail_if_success (show WK _ _ _ _ _ _ _ _));(first|exact .nil|refine .k0 ?_|refine .k1 ?_|refine .r1 ?_ ?_|(refine .l1 ?_;intro b)|fail))
 rename Nat=>b6
 refine WK_keep rfl ?_
 refine WK_seq ?_
 first|refine .k2 ?_|fail
 repeat'((fail_if_success (show WK _ _ _ _ _ _ _ _));(first|exact .nil|refine .k0 ?_|refine .k1 ?_|refine .r1 ?_ ?_|fail))
 refine WK_keep rfl ?_
 have hlow:decide ((l:Int)≤3)=decide (l≤3):=by simp;omega
 refine WK_join (fun rg σ'=>∃ most0:Nat,most0=(if l≤3∧see 1 wNot L=true then 2 else 7)∧σ'=(6,b6,.cells x.row)::(4,b4,.cells [iv 0,sv ⟨#[]⟩,sv ⟨#[]⟩,sv ⟨#[]⟩,iv 0,iv 0,sv ⟨#[]⟩,.v (.slice none 0 0),iv 0,iv 0,iv 0,.v (.slice none 0 0)])::(1000,b1,.cells (rdC L1 i++rest))::τ∧
  rg=[(0,.lp 1000 b1 0),(1,iv l),(4,.lp 4 b4 0),(6,.lp 6 b6 0),(7,iv (most0:Nat))]) ?_ ?_
 ·repeat'(first|exact .nil|refine .k0 ?_|refine .k1 ?_|refine .k2 ?_|refine .k9 ?_|(refine .cd ?_ ?_<;>(intro hc;skip))|refine .r1 ?_ ?_|fail)
  ·rw[hlow]at hc
   exact JoinW.intro rfl ⟨2,by rw[if_pos (by simpa using hc)],rfl,rfl⟩
  ·rw[hlow]at hc
   exact JoinW.intro rfl ⟨7,by rw[if_neg (by simpa using hc)],rfl,rfl⟩
 rintro _ _ ⟨most0,hm0,rfl,rfl⟩
 rw[← hm0]
 repeat'(first|exact .nil|refine .k1 ?_|refine .k2 ?_|refine .r1 ?_ ?_|fail)
 refine VX_rdq rfl (rd_rank L1 hL1 i) rfl rfl rfl .nil (by simp(decide:=true)only[upt_hd,upt_ne]) ?_
 repeat'((fail_if_success (show WK _ _ _ _ (.loop _) _ _ _));(first|exact .nil|refine .k0 ?_|refine .k1 ?_|refine .k6 ?_|refine .r1 ?_ ?_|fail))
 clear hm0 hlow
 refine WK_loop (fun m rg σ'=>∃ (x':Ex) (L':List Tok) (most:Nat),Gd L'∧8 * L'.length+7≤n∧m=L'.length∧opsP n l most0 i x L1=opsP n l most i x' L'∧σ'=(6,b6,.cells x'.row)::(4,b4,.cells [iv 0,sv ⟨#[]⟩,sv ⟨#[]⟩,sv ⟨#[]⟩,iv 0,iv 0,sv ⟨#[]⟩,.v (.slice none 0 0),iv 0,iv 0,iv 0,.v (.slice none 0 0)])::(1000,b1,.cells (rdC L' i++rest))::τ∧
  rg=[(0,.lp 1000 b1 0),(1,iv l),(4,.lp 4 b4 0),(6,.lp 6 b6 0),(7,iv (most:Nat)),(8,iv (rankP L':Nat))]) L1.length rfl ⟨_,_,Zr,Zs,x,L1,most0,hL1,by omega,rfl,rfl,rfl,rfl⟩ ?_
 rintro m _ _ ⟨x',L',most,hL',hn',hm,he,rfl,rfl⟩
 rw[he]
 have hp:=hL'.pos
 unfold rdC
 repeat'((fail_if_success (show WK _ _ _ _ (.mreg _ _) _ _ _));(first|exact .nil|refine .k0 ?_|refine .k1 ?_|refine .k2 ?_|refine .k4 ?_|refine .k6 ?_|refine .k7 ?_|refine .k8 ?_|refine .k9 ?_|(refine .cd ?_ ?_<;>(intro hc;skip))|refine .r1 ?_ ?_|refine .t1 ?_ ?_ ?_|refine .t3 ?_ ?_ ?_|refine .r8 ?_ ?_|fail))
 any_goals omega
 all_goals(try simp only[BL]at *)
 ·have hg:rankP L'≥l∧rankP L'≠0∧rankP L'≤most:=by omega
  have ht:=hL'.tail (rank_kind L' hg.2.1)
  have hr6:=rank_le L'
  have hb:=ih.bin (rankP L'+1) i L'.tail ht.1 (by omega)
  have e1:iv ((rankP L'+1:Nat):Int)=iv (IntKind.i64.wrap ((rankP L':Int)+1)):=by rw[i64w (by omega)];rfl
  rw[e1]at hb
  rw[ops_go hL'.e hn' hg]
  refine VX_st (cs':=[.sl false 3 ((L'.drop 1).map Tok.cells),.v (.bool i)]++rest) rfl rfl rfl rfl rfl ⟨rfl,by simp⟩ .nil ?_
  simp(decide:=true)only[upt_hd,upt_ne,List.drop_one]
  repeat'((fail_if_success (show WK _ _ _ _ (.mreg _ _) _ _ _));(first|refine .k0 ?_|refine .k1 ?_|fail))
  refine WK_mregC [1000] 56 rfl rfl rfl rfl ?_
  repeat'(first|exact .nil|refine .k0 ?_|refine .k1 ?_|refine .r1 ?_ ?_|fail)
  refine VY_rdc (L:=L'.tail) (ins:=i) rfl rfl hb rfl rfl rfl .nil ?_ (fun _ _ h=>FK_pan h) (fun _=>Zs) (fun y L2 hr2 hL2=> ?_)
  ·exact fun p c h=>by rw[h];rfl
  have hp2:=((posE n).bin (rankP L'+1) i L'.tail ht.1.e).ok y L2 hr2
  rw[hr2,PR.bind_ok]
  simp(decide:=true)only[upt_hd,upt_ne,hd_getD]
  repeat'((fail_if_success (show WK _ _ _ _ _ _ _ _));(first|exact .nil|refine .k0 ?_|refine .k1 ?_|refine .r1 ?_ ?_|fail))
  ·exact Nat.le_of_ble_eq_true rfl
  refine WK_stw (.here (l':=(binE (hd L').text x' y).row) (.cons (.refl _) (.cons (.refl _) (.cons (.refl _) (.cons (.refl _) (.cons (.refl _) (.cons (.refl _) (.cons (.refl _) (.cons .nil (.cons (.refl _) (.cons (.refl _) (.cons (.refl _) (.cons Wk_two .nil)))))))))))) (.refl _)) ?_
  have hsz:=List.length_tail (l:=L')
  repeat'(first|exact .nil|refine .k0 ?_|refine .k1 ?_|refine .k2 ?_|refine .k9 ?_|(refine .cd ?_ ?_<;>(intro hc;skip))|refine .r1 ?_ ?_|fail)
  all_goals
   refine VX_rdq rfl (rd_rank L2 hL2 i) rfl rfl rfl .nil (by simp(decide:=true)only[upt_hd,upt_ne]) ?_
   repeat'(first|exact .nil|refine .k0 ?_|refine .k1 ?_|refine .k2 ?_|refine .r1 ?_ ?_|fail)
  ·have h4:rankP L'=4:=by have:=of_decide_eq_true hc;omega
   exact⟨L2.length,by omega,_,_,Zr,Zs,binE (hd L').text x' y,L2,3,hL2,by omega,rfl,by rw[if_pos h4],rfl,rfl⟩
  ·have h4:¬rankP L'=4:=by have:=of_decide_eq_false hc;omega
   exact⟨L2.length,by omega,_,_,Zr,Zs,binE (hd L').text x' y,L2,rankP L',hL2,by omega,rfl,by rw[if_neg h4],rfl,rfl⟩
 ·exact rd_ret (a:=x') (ops_stop hn' (by omega)) hL' (.refl _)
end Go.Proofs.YtdcpcffpapiadaaGreatDoor
