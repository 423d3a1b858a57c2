/- whole: through the door. -/
import Derived.Test.YtcccbdelfhgmlaaGreatDoorWf
set_option linter.unusedSimpArgs false
set_option linter.unusedVariables false
set_option linter.unusedSectionVars false
set_option maxRecDepth 100000
set_option maxHeartbeats 4000000
namespace Go.Sx
open Go.RowKit Go.Proofs
section
variable {P:Program}[Glob P]{N:Nat}{M:Mem}{w0:Base}{w:World}{a:Act}{rg:ag}{σ:Store}
theorem LC{x y:Code}{sx:SC}{post:Exit→Act→World→Prop}{Q:Exit→ag→Store→Prop}(hx:cB P N x=some sx)(h:SW P N sx Q rg σ)(hI:Inv P M w0 σ w)(hR:bQ M rg a)(hN:a.tmps.size=N)(hD:a.defers=Glob.df P)
  (k:∀ e ao σ' M' a' w',Q e ao σ'→M.le M'→Inv P M' w0 σ' w'→bQ M' ao a'→a'.tmps.size=N→a'.defers=Glob.df P→(Exit.then (y.wp P post) post) e a' w'):(Code.seq x y).wp P post a w:=by
 refine wp_seq (wp_mono (po (h x hx M w0 a w hI hR hN hD)) ?_)
 rintro e a2 w2 ⟨M2,cq,az,g1,g2,g3,g4,g5,g6⟩
 exact k e cq az M2 a2 w2 g6 g1 g2 g3 g4 g5
theorem Oj{x y:Code}{s:SC}(h:cB P N (.seq x y)=some s):∃ sx sy,s= .seq sx sy∧cB P N x=some sx∧cB P N y=some sy:=by
 simp only[cB]at h
 split at h
 ·rename_i sx sy h1 h2;cases h;exact⟨sx,sy,rfl,h1,h2⟩
 ·cases h
end
end Go.Sx
namespace Go.Proofs.YtcccbdelfhgmlaaGreatDoor
open Go.Sx Go.Proofs
theorem TZ{M:Mem}{rg:ag}{a:Act}{i t b:Nat}(h:bQ M rg a)(hl:lk rg i= .lp t b 0):a.tmps.getD i undef= .pointer (some ⟨b,0,none⟩):=by
 have:=h i
 rw[hl]at this
 generalize a.tmps.getD i undef=v at this ⊢
 cases this;rfl
def D3(Q:dH→Store→Prop):Exit→ag→Store→Prop
 | .ret,rg,σ'=>∃ bb t t' x y bI az,lk rg 4= .lp t' bb 0∧σ'.Perm az∧Sub ((t,bb,.cells [iv x,iv y])::bI) az∧Q (.ret (.agg [iv x,iv y])) bI
 | .normal,rg,σ'=>∃ bb v1 v5 t',lk rg 1=v1∧lk rg 5=v5∧lk rg 4= .lp t' bb 0∧@eO Tryz.prog (sW Tryz.prog [uT 43 bb]) 50 4 (.pointer (some ⟨bb,0,none⟩)) GV.code (Dx bb Q) [(1,v1),(4,.lp t' bb 0),(5,v5)] σ'
 |_,_,_=>False
theorem ah0{M:Mem}{a:Act}{i j k:Nat}{x y z:AV}(h0:R M x (a.tmps.getD i undef))(h1:R M y (a.tmps.getD j undef))(h2:R M z (a.tmps.getD k undef)):bQ M [(i,x),(j,y),(k,z)] a:=fun q=>by
 simp only[lk]
 cases e:Nat.beq i q with
 |true=>obtain rfl:=ZB e;exact h0
 |false=>
  cases e:Nat.beq j q with
  |true=>obtain rfl:=ZB e;exact h1
  |false=>
   cases e:Nat.beq k q with
   |true=>obtain rfl:=ZB e;exact h2
   |false=>exact .any _
theorem IU{Q:dH→Store→Prop}{M M':Mem}{w0:Base}{w:World}{a:Act}{rg:ag}{σ:Store}(h:D3 Q .ret rg σ)(hM:M.le M')(hI:Inv Tryz.prog M' w0 σ w)(hR:bQ M' rg a)(hD:a.defers=Glob.df Tryz.prog):
  bodyPostD Tryz.prog Tryz.f18 (fun e w'=>∃ M' r σ',M.le M'∧Inv Tryz.prog M' w0 σ' w'∧uJ M' r e∧Q r σ') .ret a w:=by
 obtain⟨bb,t,t',x,y,bI,az,h1,h2,h3,h4⟩:=h
 have cr:=(hI.perm h2).sub h3
 have DM:a.defers=[]:=hD
 simp only[bodyPostD,DM,Leaves]
 exact⟨_,Lz cr (TZ hR h1),M',_,bI,hM,cr.sub Zs,KI _ _,h4⟩
theorem ax0(xs:List AV)(hx:xs.length=2)(σ:Store)(Q:dH→Store→Prop)(s:SC)(hs:NV.code= .seq (.cE Fg) (.seq (.cE Fh) s))
  (h:SW Tryz.prog 50 (.cE Fg) (nH (SW Tryz.prog 50 (.cE Fh) (nH (SW Tryz.prog 50 s (D3 Q)) (D3 Q))) (D3 Q)) (jZ 0 xs) σ):
  Sx.Spec Tryz.prog 18 xs σ Q:=by
 intro M w0 w cs hI hl
 have Bw:∀ (fn:Fn) (first cap:Array Value) (w:World),(Instr.makeFunc fn first cap).run Tryz.prog w= .ok (.func fn first cap) w:=fun _ _ _ _=>rfl
 refine calls_of_wp_defers Tryz.func18 rfl ?_
 have iH:cB Tryz.prog 50 _=_:=Om ab8 (by rfl)
 rw[hs]at iH
 simp only[IQ]at iH
 obtain⟨_,_,e1,c1,iH⟩:=Oj iH
 cases e1
 obtain⟨_,_,e2,c2,c3⟩:=Oj iH
 cases e2
 refine LC c1 h hI ?_ ?_ rfl ?_
 ·refine GN xs cs 0 _ hl (fun i v hv=> ?_)
  have hi:i<cs.length:=(ZP.1 hv).1
  rw[Zc,XY (by simpa using hi)]
  simpa using hv
 ·have:=hl.1
  simp[Tryz.ntmps18];omega
 intro e cQ bI M1 a1 w1 hq Qb vd jK vg P1
 cases e with
 |ret=>exact IU hq Qb vd jK P1
 |panic ch=>exact hq.elim
 |exit id=>exact hq.elim
 |goto l=>exact hq.elim
 |outgrown=>exact hq.elim
 |normal=>
  refine LC c2 hq vd jK vg P1 ?_
  intro e cq az M2 a2 w2 hq vf cr fO sZ DM
  have vf:=Qb.trans vf
  cases e with
  |ret=>exact IU hq vf cr fO DM
  |panic ch=>exact hq.elim
  |exit id=>exact hq.elim
  |goto l=>exact hq.elim
  |outgrown=>exact hq.elim
  |normal=>
   refine LC c3 hq cr fO sZ DM ?_
   intro e eJ dS M3 a3 w3 hq DT dz vh Ir P2
   have DT:=vf.trans DT
   cases e with
   |ret=>exact IU hq DT dz vh P2
   |panic ch=>exact hq.elim
   |exit id=>exact hq.elim
   |goto l=>exact hq.elim
   |outgrown=>exact hq.elim
   |normal=>
    obtain⟨bb,v1,v5,t',l1,l5,l4,hw⟩:=hq
    have jO:=TZ vh l4
    have P3:a3.defers=[]:=P2
    show Code.wp _ _ _ _ _
    refine wp_seq (wp_region (aej (a':={tmps:=a3.tmps.setIfInBounds 32 (.func (.func 43) #[] #[.pointer (some ⟨bb,0,none⟩)]),defers:=[uT 43 bb]}) (w':=w3) (fun Q' j8=> ?_) ?_))
    ·obtain⟨T,D⟩:=a3
     simp only[Z2]at jO
     simp only at P3 Ir
     subst P3
     have ax:4<T.size:=by omega
     rw[ZL ax]at jO
     simp only[Zx]at jO
     simp[wpOps,Oper.wp,Bw,go_sem,jO,Ir]
     exact .inl (.inl (by simpa[uT]using j8))
    show Code.wp _ _ _ _ _
    refine wp_mono (hw _ (@Om Tryz.prog (sW Tryz.prog [uT 43 bb]) _ _ _ (ab9 _) (by rfl)) (by rfl) M3 w0 _ w3 (Inv.toD dz) (ah0 ?_ ?_ ?_) ?_ rfl ?_) ?_
    ·have:=vh 1
     rw[l1]at this
     simpa using this
    ·have:=vh 4
     rw[l4]at this
     simpa using this
    ·have:=vh 5
     rw[l5]at this
     simpa using this
    ·simpa using Ir
    ·simpa using jO
    ·rintro e a w' ⟨⟨M',rg,σ',h1,h2,h3,h4,h5,h6⟩,h7⟩
     have PT:=Inv.SP h2
     have Qc:=DT.trans h1
     cases e with
     |ret=>
      obtain⟨t,x,y,bI,az,g1,g2,g3⟩:=h6
      have h7:=h7.resolve_left (by nofun)
      simp only[bodyPostD,h5]
      exact ax1 ((PT.perm g1).sub g2) h7 fun FV Im=>⟨M',_,bI,Qc,Im.sub Zs,KI _ _,g3⟩
     |panic ch=>
      obtain⟨p,c,t,x,y,bI,az,rfl,g1,g2,g3⟩:=h6
      have h7:=h7.resolve_left (by nofun)
      simp only[bodyPostD,h5]
      exact ax3 ((PT.perm g1).sub g2) h7 p c fun FV Im=>⟨M',_,bI,Qc,Im.sub Zs,KI _ _,g3⟩
     |normal=>exact h6.elim
     |exit id=>exact h6.elim
     |goto l=>exact h6.elim
     |outgrown=>exact h6.elim
end Go.Proofs.YtcccbdelfhgmlaaGreatDoor
