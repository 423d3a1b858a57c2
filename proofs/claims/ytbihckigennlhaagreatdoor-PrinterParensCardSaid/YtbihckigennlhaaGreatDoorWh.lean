/- whole: through the door. -/
import Derived.Test.YtbihckigennlhaaGreatDoorWf
set_option linter.unusedSimpArgs false
set_option linter.unusedVariables false
set_option linter.unusedSectionVars false
set_option maxRecDepth 100000
set_option maxHeartbeats 4000000
namespace Go.Sx
open Go.RowKit Go.Proofs
section
variable {P:Program}[Glob P]{N:Nat}{M:Mem}{w0:Base}{w:World}{a:Act}{rg:ae}{σ:Store}
theorem Hc{x y:Code}{sx:SC}{post:Exit→Act→World→Prop}{Q:Exit→ae→Store→Prop}(hx:b7 P N x=some sx)(h:SW P N sx Q rg σ)(hI:Inv P M w0 σ w)(hR:bE M rg a)(hN:a.tmps.size=N)(hD:a.defers=Glob.df P)
  (k:∀ e ao σ' M' a' w',Q e ao σ'→M.le M'→Inv P M' w0 σ' w'→bE M' ao a'→a'.tmps.size=N→a'.defers=Glob.df P→(Exit.then (y.wp P post) post) e a' w'):(Code.seq x y).wp P post a w:=by
 refine wp_seq (wp_mono (nC (h x hx M w0 a w hI hR hN hD)) ?_)
 rintro e a2 w2 ⟨M2,bP,ay,g1,g2,g3,g4,g5,g6⟩
 exact k e bP ay M2 a2 w2 g6 g1 g2 g3 g4 g5
theorem Jt{x y:Code}{s:SC}(h:b7 P N (.seq x y)=some s):∃ sx sy,s= .seq sx sy∧b7 P N x=some sx∧b7 P N y=some sy:=by
 simp only[b7]at h
 split at h
 ·rename_i sx sy h1 h2;cases h;exact⟨sx,sy,rfl,h1,h2⟩
 ·cases h
end
end Go.Sx
namespace Go.Proofs.YtbihckigennlhaaGreatDoor
open Go.Sx Go.Proofs
theorem Oj{M:Mem}{rg:ae}{a:Act}{i t b:Nat}(h:bE M rg a)(hl:lk rg i= .lp t b 0):a.tmps.getD i undef= .pointer (some ⟨b,0,none⟩):=by
 have:=h i
 rw[hl]at this
 generalize a.tmps.getD i undef=v at this ⊢
 cases this;rfl
def Ba(Q:dj→Store→Prop):Exit→ae→Store→Prop
 | .ret,rg,σ'=>∃ bb t t' x y br ay,lk rg 4= .lp t' bb 0∧σ'.Perm ay∧Sub ((t,bb,.cells [iv x,iv y])::br) ay∧Q (.ret (.agg [iv x,iv y])) br
 | .normal,rg,σ'=>∃ bb v1 v5 t',lk rg 1=v1∧lk rg 5=v5∧lk rg 4= .lp t' bb 0∧@ej Tryz.prog (qz Tryz.prog [sr 75 bb]) 50 4 (.pointer (some ⟨bb,0,none⟩)) Dp.code (AG bb Q) [(1,v1),(4,.lp t' bb 0),(5,v5)] σ'
 |_,_,_=>False
theorem ad8{M:Mem}{a:Act}{i j k:Nat}{x y z:AV}(h0:R M x (a.tmps.getD i undef))(h1:R M y (a.tmps.getD j undef))(h2:R M z (a.tmps.getD k undef)):bE M [(i,x),(j,y),(k,z)] a:=fun q=>by
 simp only[lk]
 cases e:Nat.beq i q with
 |true=>obtain rfl:=ZL e;exact h0
 |false=>
  cases e:Nat.beq j q with
  |true=>obtain rfl:=ZL e;exact h1
  |false=>
   cases e:Nat.beq k q with
   |true=>obtain rfl:=ZL e;exact h2
   |false=>exact .any _
theorem Eu{Q:dj→Store→Prop}{M M':Mem}{w0:Base}{w:World}{a:Act}{rg:ae}{σ:Store}(h:Ba Q .ret rg σ)(hM:M.le M')(hI:Inv Tryz.prog M' w0 σ w)(hR:bE M' rg a)(hD:a.defers=Glob.df Tryz.prog):
  bodyPostD Tryz.prog Tryz.f36 (fun e w'=>∃ M' r σ',M.le M'∧Inv Tryz.prog M' w0 σ' w'∧uB M' r e∧Q r σ') .ret a w:=by
 obtain⟨bb,t,t',x,y,br,ay,h1,h2,h3,h4⟩:=h
 have bQ:=(hI.perm h2).sub h3
 have AY:a.defers=[]:=hD
 simp only[bodyPostD,AY,Leaves]
 exact⟨_,G9 bQ (Oj hR h1),M',_,br,hM,bQ.sub Zs,Gg _ _,h4⟩
theorem azm(xs:List AV)(hx:xs.length=2)(σ:Store)(Q:dj→Store→Prop)(s:SC)(hs:Jd.code= .seq (.cj B1) (.seq (.cj B3) s))
  (h:SW Tryz.prog 50 (.cj B1) (l7 (SW Tryz.prog 50 (.cj B3) (l7 (SW Tryz.prog 50 s (Ba Q)) (Ba Q))) (Ba Q)) (jw 0 xs) σ):
  Sx.Spec Tryz.prog 36 xs σ Q:=by
 intro M w0 w cs hI hl
 have hmf:∀ (fn:Fn) (first cap:Array Value) (w:World),(Instr.makeFunc fn first cap).run Tryz.prog w= .ok (.func fn first cap) w:=fun _ _ _ _=>rfl
 refine calls_of_wp_defers Tryz.func36 rfl ?_
 have gK:b7 Tryz.prog 50 _=_:=Jv UM (by rfl)
 rw[hs]at gK
 simp only[Et]at gK
 obtain⟨_,_,e1,c1,gK⟩:=Jt gK
 cases e1
 obtain⟨_,_,e2,c2,c3⟩:=Jt gK
 cases e2
 refine Hc c1 h hI ?_ ?_ rfl ?_
 ·refine Dl xs cs 0 _ hl (fun i v hv=> ?_)
  have hi:i<cs.length:=(ZN.1 hv).1
  rw[Zh,X4 (by simpa using hi)]
  simpa using hv
 ·have:=hl.1
  simp[Tryz.ntmps36];omega
 intro e cC br M1 a1 w1 hq KR KP iV sJ KI
 cases e with
 |ret=>exact Eu hq KR KP iV KI
 |panic ch=>exact hq.elim
 |exit id=>exact hq.elim
 |goto l=>exact hq.elim
 |outgrown=>exact hq.elim
 |normal=>
  refine Hc c2 hq KP iV sJ KI ?_
  intro e bP ay M2 a2 w2 hq sI bQ ff qB AY
  have sI:=KR.trans sI
  cases e with
  |ret=>exact Eu hq sI bQ ff AY
  |panic ch=>exact hq.elim
  |exit id=>exact hq.elim
  |goto l=>exact hq.elim
  |outgrown=>exact hq.elim
  |normal=>
   refine Hc c3 hq bQ ff qB AY ?_
   intro e dT dv M3 a3 w3 hq A4 da sL Ec KJ
   have A4:=sI.trans A4
   cases e with
   |ret=>exact Eu hq A4 da sL KJ
   |panic ch=>exact hq.elim
   |exit id=>exact hq.elim
   |goto l=>exact hq.elim
   |outgrown=>exact hq.elim
   |normal=>
    obtain⟨bb,v1,v5,t',l1,l5,l4,hw⟩:=hq
    have jb:=Oj sL l4
    have KL:a3.defers=[]:=KJ
    show Code.wp _ _ _ _ _
    refine wp_seq (wp_region (WL (a':={tmps:=a3.tmps.setIfInBounds 32 (.func (.func 75) #[] #[.pointer (some ⟨bb,0,none⟩)]),defers:=[sr 75 bb]}) (w':=w3) (fun Q' sY=> ?_) ?_))
    ·obtain⟨T,D⟩:=a3
     simp only[Z2]at jb
     simp only at KL Ec
     subst KL
     have aH:4<T.size:=by omega
     rw[ZQ aH]at jb
     simp only[ZE]at jb
     simp[wpOps,Oper.wp,hmf,go_sem,jb,Ec]
     exact .inl (.inl (by simpa[sr]using sY))
    show Code.wp _ _ _ _ _
    refine wp_mono (hw _ (@Jv Tryz.prog (qz Tryz.prog [sr 75 bb]) _ _ _ (UN _) (by rfl)) (by rfl) M3 w0 _ w3 (Inv.toD da) (ad8 ?_ ?_ ?_) ?_ rfl ?_) ?_
    ·have:=sL 1
     rw[l1]at this
     simpa using this
    ·have:=sL 4
     rw[l4]at this
     simpa using this
    ·have:=sL 5
     rw[l5]at this
     simpa using this
    ·simpa using Ec
    ·simpa using jb
    ·rintro e a w' ⟨⟨M',rg,σ',h1,h2,h3,h4,h5,h6⟩,h7⟩
     have KC:=Inv.Nn h2
     have KS:=A4.trans h1
     cases e with
     |ret=>
      obtain⟨t,x,y,br,ay,g1,g2,g3⟩:=h6
      have h7:=h7.resolve_left (by nofun)
      simp only[bodyPostD,h5]
      exact azn ((KC.perm g1).sub g2) h7 fun zR D8=>⟨M',_,br,KS,D8.sub Zs,Gg _ _,g3⟩
     |panic ch=>
      obtain⟨p,c,t,x,y,br,ay,rfl,g1,g2,g3⟩:=h6
      have h7:=h7.resolve_left (by nofun)
      simp only[bodyPostD,h5]
      exact azp ((KC.perm g1).sub g2) h7 p c fun zR D8=>⟨M',_,br,KS,D8.sub Zs,Gg _ _,g3⟩
     |normal=>exact h6.elim
     |exit id=>exact h6.elim
     |goto l=>exact h6.elim
     |outgrown=>exact h6.elim
end Go.Proofs.YtbihckigennlhaaGreatDoor
