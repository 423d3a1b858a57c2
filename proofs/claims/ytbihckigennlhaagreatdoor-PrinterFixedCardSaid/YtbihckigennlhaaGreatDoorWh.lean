/- whole: through the door. -/
import Derived.Test.YtbihckigennlhaaGreatDoorWf
set_option linter.unusedSimpArgs false
set_option linter.unusedVariables false
set_option linter.unusedSectionVars false
set_option maxRecDepth 100000
set_option maxHeartbeats 4000000
namespace Go.Sx
open Go.RowKit Go.Proofs
section
variable {P:Program}[Glob P]{N:Nat}{M:Mem}{w0:Base}{w:World}{a:Act}{rg:ae}{σ:Store}
theorem Fh{x y:Code}{sx:SC}{post:Exit→Act→World→Prop}{Q:Exit→ae→Store→Prop}(hx:bV P N x=some sx)(h:SW P N sx Q rg σ)(hI:Inv P M w0 σ w)(hR:bB M rg a)(hN:a.tmps.size=N)(hD:a.defers=Glob.df P)
  (k:∀ e ao σ' M' a' w',Q e ao σ'→M.le M'→Inv P M' w0 σ' w'→bB M' ao a'→a'.tmps.size=N→a'.defers=Glob.df P→(Exit.then (y.wp P post) post) e a' w'):(Code.seq x y).wp P post a w:=by
 refine wp_seq (wp_mono (mF (h x hx M w0 a w hI hR hN hD)) ?_)
 rintro e a2 w2 ⟨M2,bP,aw,g1,g2,g3,g4,g5,g6⟩
 exact k e bP aw M2 a2 w2 g6 g1 g2 g3 g4 g5
theorem Hz{x y:Code}{s:SC}(h:bV P N (.seq x y)=some s):∃ sx sy,s= .seq sx sy∧bV P N x=some sx∧bV P N y=some sy:=by
 simp only[bV]at h
 split at h
 ·rename_i sx sy h1 h2;cases h;exact⟨sx,sy,rfl,h1,h2⟩
 ·cases h
end
end Go.Sx
namespace Go.Proofs.YtbihckigennlhaaGreatDoor
open Go.Sx Go.Proofs
theorem LY{M:Mem}{rg:ae}{a:Act}{i t b:Nat}(h:bB M rg a)(hl:lk rg i= .lp t b 0):a.tmps.getD i undef= .pointer (some ⟨b,0,none⟩):=by
 have:=h i
 rw[hl]at this
 generalize a.tmps.getD i undef=v at this ⊢
 cases this;rfl
def zF(Q:cU→Store→Prop):Exit→ae→Store→Prop
 | .ret,rg,σ'=>∃ bb t t' x y bn aw,lk rg 4= .lp t' bb 0∧σ'.Perm aw∧Sub ((t,bb,.cells [iv x,iv y])::bn) aw∧Q (.ret (.agg [iv x,iv y])) bn
 | .normal,rg,σ'=>∃ bb v1 v5 t',lk rg 1=v1∧lk rg 5=v5∧lk rg 4= .lp t' bb 0∧@dT Tryz.prog (py Tryz.prog [qP 75 bb]) 50 4 (.pointer (some ⟨bb,0,none⟩)) BZ.code (yM bb Q) [(1,v1),(4,.lp t' bb 0),(5,v5)] σ'
 |_,_,_=>False
theorem abY{M:Mem}{a:Act}{i j k:Nat}{x y z:AV}(h0:R M x (a.tmps.getD i undef))(h1:R M y (a.tmps.getD j undef))(h2:R M z (a.tmps.getD k undef)):bB M [(i,x),(j,y),(k,z)] a:=fun q=>by
 simp only[lk]
 cases e:Nat.beq i q with
 |true=>obtain rfl:=ZM e;exact h0
 |false=>
  cases e:Nat.beq j q with
  |true=>obtain rfl:=ZM e;exact h1
  |false=>
   cases e:Nat.beq k q with
   |true=>obtain rfl:=ZM e;exact h2
   |false=>exact .any _
theorem C0{Q:cU→Store→Prop}{M M':Mem}{w0:Base}{w:World}{a:Act}{rg:ae}{σ:Store}(h:zF Q .ret rg σ)(hM:M.le M')(hI:Inv Tryz.prog M' w0 σ w)(hR:bB M' rg a)(hD:a.defers=Glob.df Tryz.prog):
  bodyPostD Tryz.prog Tryz.f36 (fun e w'=>∃ M' r σ',M.le M'∧Inv Tryz.prog M' w0 σ' w'∧s4 M' r e∧Q r σ') .ret a w:=by
 obtain⟨bb,t,t',x,y,bn,aw,h1,h2,h3,h4⟩:=h
 have bQ:=(hI.perm h2).sub h3
 have yY:a.defers=[]:=hD
 simp only[bodyPostD,yY,Leaves]
 exact⟨_,Fe bQ (LY hR h1),M',_,bn,hM,bQ.sub Zs,Et _ _,h4⟩
theorem atq(xs:List AV)(hx:xs.length=2)(σ:Store)(Q:cU→Store→Prop)(s:SC)(hs:Hk.code= .seq (.bX Ay) (.seq (.bX Az) s))
  (h:SW Tryz.prog 50 (.bX Ay) (kQ (SW Tryz.prog 50 (.bX Az) (kQ (SW Tryz.prog 50 s (zF Q)) (zF Q))) (zF Q)) (iM 0 xs) σ):
  Sx.Spec Tryz.prog 36 xs σ Q:=by
 intro M w0 w cs hI hl
 have Vw:∀ (fn:Fn) (first cap:Array Value) (w:World),(Instr.makeFunc fn first cap).run Tryz.prog w= .ok (.func fn first cap) w:=fun _ _ _ _=>rfl
 refine calls_of_wp_defers Tryz.func36 rfl ?_
 have gn:bV Tryz.prog 50 _=_:=HD RY (by rfl)
 rw[hs]at gn
 simp only[CZ]at gn
 obtain⟨_,_,e1,c1,gn⟩:=Hz gn
 cases e1
 obtain⟨_,_,e2,c2,c3⟩:=Hz gn
 cases e2
 refine Fh c1 h hI ?_ ?_ rfl ?_
 ·refine BU xs cs 0 _ hl (fun i v hv=> ?_)
  have hi:i<cs.length:=(ZP.1 hv).1
  rw[Y8,Ye (by simpa using hi)]
  simpa using hv
 ·have:=hl.1
  simp[Tryz.ntmps36];omega
 intro e ct bn M1 a1 w1 hq Jd Jb ik rf I5
 cases e with
 |ret=>exact C0 hq Jd Jb ik I5
 |panic ch=>exact hq.elim
 |exit id=>exact hq.elim
 |goto l=>exact hq.elim
 |outgrown=>exact hq.elim
 |normal=>
  refine Fh c2 hq Jb ik rf I5 ?_
  intro e bP aw M2 a2 w2 hq qZ bQ eL pA yY
  have qZ:=Jd.trans qZ
  cases e with
  |ret=>exact C0 hq qZ bQ eL yY
  |panic ch=>exact hq.elim
  |exit id=>exact hq.elim
  |goto l=>exact hq.elim
  |outgrown=>exact hq.elim
  |normal=>
   refine Fh c3 hq bQ eL pA yY ?_
   intro e dL di M3 a3 w3 hq y8 cO ri CK I6
   have y8:=qZ.trans y8
   cases e with
   |ret=>exact C0 hq y8 cO ri I6
   |panic ch=>exact hq.elim
   |exit id=>exact hq.elim
   |goto l=>exact hq.elim
   |outgrown=>exact hq.elim
   |normal=>
    obtain⟨bb,v1,v5,t',l1,l5,l4,hw⟩:=hq
    have iz:=LY ri l4
    have I7:a3.defers=[]:=I6
    show Code.wp _ _ _ _ _
    refine wp_seq (wp_region (TW (a':={tmps:=a3.tmps.setIfInBounds 32 (.func (.func 75) #[] #[.pointer (some ⟨bb,0,none⟩)]),defers:=[qP 75 bb]}) (w':=w3) (fun Q' rG=> ?_) ?_))
    ·obtain⟨T,D⟩:=a3
     simp only[Z4]at iz
     simp only at I7 CK
     subst I7
     have aE:4<T.size:=by omega
     rw[ZQ aE]at iz
     simp only[ZI]at iz
     simp[wpOps,Oper.wp,Vw,go_sem,iz,CK]
     exact .inl (.inl (by simpa[qP]using rG))
    show Code.wp _ _ _ _ _
    refine wp_mono (hw _ (@HD Tryz.prog (py Tryz.prog [qP 75 bb]) _ _ _ (RZ _) (by rfl)) (by rfl) M3 w0 _ w3 (Inv.toD cO) (abY ?_ ?_ ?_) ?_ rfl ?_) ?_
    ·have:=ri 1
     rw[l1]at this
     simpa using this
    ·have:=ri 4
     rw[l4]at this
     simpa using this
    ·have:=ri 5
     rw[l5]at this
     simpa using this
    ·simpa using CK
    ·simpa using iz
    ·rintro e a w' ⟨⟨M',rg,σ',h1,h2,h3,h4,h5,h6⟩,h7⟩
     have IX:=Inv.K8 h2
     have Je:=y8.trans h1
     cases e with
     |ret=>
      obtain⟨t,x,y,bn,aw,g1,g2,g3⟩:=h6
      have h7:=h7.resolve_left (by nofun)
      simp only[bodyPostD,h5]
      exact atr ((IX.perm g1).sub g2) h7 fun yg CF=>⟨M',_,bn,Je,CF.sub Zs,Et _ _,g3⟩
     |panic ch=>
      obtain⟨p,c,t,x,y,bn,aw,rfl,g1,g2,g3⟩:=h6
      have h7:=h7.resolve_left (by nofun)
      simp only[bodyPostD,h5]
      exact att ((IX.perm g1).sub g2) h7 p c fun yg CF=>⟨M',_,bn,Je,CF.sub Zs,Et _ _,g3⟩
     |normal=>exact h6.elim
     |exit id=>exact h6.elim
     |goto l=>exact h6.elim
     |outgrown=>exact h6.elim
end Go.Proofs.YtbihckigennlhaaGreatDoor
