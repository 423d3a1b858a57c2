/- whole: through the door. -/
import Derived.Test.YtbihckigennlhaaGreatDoorWf
set_option linter.unusedSimpArgs false
set_option linter.unusedVariables false
set_option linter.unusedSectionVars false
set_option maxRecDepth 100000
set_option maxHeartbeats 4000000
namespace Go.Sx
open Go.RowKit Go.Proofs
section
variable {P:Program}[Glob P]{N:Nat}{M:Mem}{w0:Base}{w:World}{a:Act}{rg:Regs}{σ:Store}
theorem wp_part{x y:Code}{sx:SC}{post:Exit→Act→World→Prop}{Q:Exit→Regs→Store→Prop}(hx:compC P N x=some sx)(h:SW P N sx Q rg σ)(hI:Inv P M w0 σ w)(hR:RegsOK M rg a)(hN:a.tmps.size=N)(hD:a.defers=Glob.df P)
  (k:∀ e rg' σ' M' a' w',Q e rg' σ'→M.le M'→Inv P M' w0 σ' w'→RegsOK M' rg' a'→a'.tmps.size=N→a'.defers=Glob.df P→(Exit.then (y.wp P post) post) e a' w'):(Code.seq x y).wp P post a w:=by
 refine wp_seq (wp_mono (cwp_wp (h x hx M w0 a w hI hR hN hD)) ?_)
 rintro e a2 w2 ⟨M2,rg2,σ2,g1,g2,g3,g4,g5,g6⟩
 exact k e rg2 σ2 M2 a2 w2 g6 g1 g2 g3 g4 g5
theorem compC_seq2{x y:Code}{s:SC}(h:compC P N (.seq x y)=some s):∃ sx sy,s= .seq sx sy∧compC P N x=some sx∧compC P N y=some sy:=by
 simp only[compC]at h
 split at h
 ·rename_i sx sy h1 h2;cases h;exact⟨sx,sy,rfl,h1,h2⟩
 ·cases h
end
end Go.Sx
namespace Go.Proofs.YtbihckigennlhaaGreatDoor
open Go.Sx Go.Proofs
theorem rg_ptr{M:Mem}{rg:Regs}{a:Act}{i t b:Nat}(h:RegsOK M rg a)(hl:lk rg i= .lp t b 0):a.tmps.getD i undef= .pointer (some ⟨b,0,none⟩):=by
 have:=h i
 rw[hl]at this
 generalize a.tmps.getD i undef=v at this ⊢
 cases this;rfl
def headQ(Q:Res→Store→Prop):Exit→Regs→Store→Prop
 | .ret,rg,σ'=>∃ bb t t' x y σ1 σ2,lk rg 4= .lp t' bb 0∧σ'.Perm σ2∧Sub ((t,bb,.cells [iv x,iv y])::σ1) σ2∧Q (.ret (.agg [iv x,iv y])) σ1
 | .normal,rg,σ'=>∃ bb v1 v5 t',lk rg 1=v1∧lk rg 5=v5∧lk rg 4= .lp t' bb 0∧@SWp Tryz.prog (globD Tryz.prog [dfr 75 bb]) 50 4 (.pointer (some ⟨bb,0,none⟩)) c2802.code (doorQ bb Q) [(1,v1),(4,.lp t' bb 0),(5,v5)] σ'
 |_,_,_=>False
theorem regs_three{M:Mem}{a:Act}{i j k:Nat}{x y z:AV}(h0:R M x (a.tmps.getD i undef))(h1:R M y (a.tmps.getD j undef))(h2:R M z (a.tmps.getD k undef)):RegsOK M [(i,x),(j,y),(k,z)] a:=fun q=>by
 simp only[lk]
 cases e:Nat.beq i q with
 |true=>obtain rfl:=Nat.eq_of_beq_eq_true e;exact h0
 |false=>
  cases e:Nat.beq j q with
  |true=>obtain rfl:=Nat.eq_of_beq_eq_true e;exact h1
  |false=>
   cases e:Nat.beq k q with
   |true=>obtain rfl:=Nat.eq_of_beq_eq_true e;exact h2
   |false=>exact .any _
theorem head_ret{Q:Res→Store→Prop}{M M':Mem}{w0:Base}{w:World}{a:Act}{rg:Regs}{σ:Store}(h:headQ Q .ret rg σ)(hM:M.le M')(hI:Inv Tryz.prog M' w0 σ w)(hR:RegsOK M' rg a)(hD:a.defers=Glob.df Tryz.prog):
  bodyPostD Tryz.prog Tryz.f36 (fun e w'=>∃ M' r σ',M.le M'∧Inv Tryz.prog M' w0 σ' w'∧RRes M' r e∧Q r σ') .ret a w:=by
 obtain⟨bb,t,t',x,y,σ1,σ2,h1,h2,h3,h4⟩:=h
 have hI2:=(hI.perm h2).sub h3
 have hD2:a.defers=[]:=hD
 simp only[bodyPostD,hD2,Leaves]
 exact⟨_,whole_res hI2 (rg_ptr hR h1),M',_,σ1,hM,hI2.sub Zs,rret_agg _ _,h4⟩
theorem whole_door(xs:List AV)(hx:xs.length=2)(σ:Store)(Q:Res→Store→Prop)(s:SC)(hs:c2801.code= .seq (.reg s2801_0) (.seq (.reg s2801_1) s))
  (h:SW Tryz.prog 50 (.reg s2801_0) (thenQ (SW Tryz.prog 50 (.reg s2801_1) (thenQ (SW Tryz.prog 50 s (headQ Q)) (headQ Q))) (headQ Q)) (argR 0 xs) σ):
  Sx.Spec Tryz.prog 36 xs σ Q:=by
 intro M w0 w cs hI hl
 have hmf:∀ (fn:Fn) (first cap:Array Value) (w:World),(Instr.makeFunc fn first cap).run Tryz.prog w= .ok (.func fn first cap) w:=fun _ _ _ _=>rfl
 refine calls_of_wp_defers Tryz.func36 rfl ?_
 have hcc:compC Tryz.prog 50 _=_:=compF_code comp2801 (by rfl)
 rw[hs]at hcc
 simp only[headC]at hcc
 obtain⟨_,_,e1,c1,hcc⟩:=compC_seq2 hcc
 cases e1
 obtain⟨_,_,e2,c2,c3⟩:=compC_seq2 hcc
 cases e2
 refine wp_part c1 h hI ?_ ?_ rfl ?_
 ·refine argR_ok xs cs 0 _ hl (fun i v hv=> ?_)
  have hi:i<cs.length:=(List.getElem?_eq_some_iff.1 hv).1
  rw[Nat.zero_add,Array.getElem?_append_left (by simpa using hi)]
  simpa using hv
 ·have:=hl.1
  simp[Tryz.ntmps36];omega
 intro e rg1 σ1 M1 a1 w1 hq hM1 hI1 hR1 hN1 hD1
 cases e with
 |ret=>exact head_ret hq hM1 hI1 hR1 hD1
 |panic ch=>exact hq.elim
 |exit id=>exact hq.elim
 |goto l=>exact hq.elim
 |outgrown=>exact hq.elim
 |normal=>
  refine wp_part c2 hq hI1 hR1 hN1 hD1 ?_
  intro e rg2 σ2 M2 a2 w2 hq hM2 hI2 hR2 hN2 hD2
  have hM2:=hM1.trans hM2
  cases e with
  |ret=>exact head_ret hq hM2 hI2 hR2 hD2
  |panic ch=>exact hq.elim
  |exit id=>exact hq.elim
  |goto l=>exact hq.elim
  |outgrown=>exact hq.elim
  |normal=>
   refine wp_part c3 hq hI2 hR2 hN2 hD2 ?_
   intro e rg3 σ3 M3 a3 w3 hq hM3 hI3 hR3 hN3 hD3
   have hM3:=hM2.trans hM3
   cases e with
   |ret=>exact head_ret hq hM3 hI3 hR3 hD3
   |panic ch=>exact hq.elim
   |exit id=>exact hq.elim
   |goto l=>exact hq.elim
   |outgrown=>exact hq.elim
   |normal=>
    obtain⟨bb,v1,v5,t',l1,l5,l4,hw⟩:=hq
    have hp4:=rg_ptr hR3 l4
    have hD4:a3.defers=[]:=hD3
    show Code.wp _ _ _ _ _
    refine wp_seq (wp_region (gen_ops (a':={tmps:=a3.tmps.setIfInBounds 32 (.func (.func 75) #[] #[.pointer (some ⟨bb,0,none⟩)]),defers:=[dfr 75 bb]}) (w':=w3) (fun Q' hq'=> ?_) ?_))
    ·obtain⟨T,D⟩:=a3
     simp only[Array.getD_eq_getD_getElem?]at hp4
     simp only at hD4 hN3
     subst hD4
     have hlt:4<T.size:=by omega
     rw[Array.getElem?_eq_getElem hlt]at hp4
     simp only[Option.getD_some]at hp4
     simp[wpOps,Oper.wp,hmf,go_sem,hp4,hN3]
     exact .inl (.inl (by simpa[dfr]using hq'))
    show Code.wp _ _ _ _ _
    refine wp_mono (hw _ (@compF_code Tryz.prog (globD Tryz.prog [dfr 75 bb]) _ _ _ (comp2802D _) (by rfl)) (by rfl) M3 w0 _ w3 (Inv.toD hI3) (regs_three ?_ ?_ ?_) ?_ rfl ?_) ?_
    ·have:=hR3 1
     rw[l1]at this
     simpa using this
    ·have:=hR3 4
     rw[l4]at this
     simpa using this
    ·have:=hR3 5
     rw[l5]at this
     simpa using this
    ·simpa using hN3
    ·simpa using hp4
    ·rintro e a w' ⟨⟨M',rg,σ',h1,h2,h3,h4,h5,h6⟩,h7⟩
     have h2':=Inv.ofD h2
     have hM4:=hM3.trans h1
     cases e with
     |ret=>
      obtain⟨t,x,y,σ1,σ2,g1,g2,g3⟩:=h6
      have h7:=h7.resolve_left (by nofun)
      simp only[bodyPostD,h5]
      exact whole_idle ((h2'.perm g1).sub g2) h7 fun w'' hI4=>⟨M',_,σ1,hM4,hI4.sub Zs,rret_agg _ _,g3⟩
     |panic ch=>
      obtain⟨p,c,t,x,y,σ1,σ2,rfl,g1,g2,g3⟩:=h6
      have h7:=h7.resolve_left (by nofun)
      simp only[bodyPostD,h5]
      exact whole_pan ((h2'.perm g1).sub g2) h7 p c fun w'' hI4=>⟨M',_,σ1,hM4,hI4.sub Zs,rret_agg _ _,g3⟩
     |normal=>exact h6.elim
     |exit id=>exact h6.elim
     |goto l=>exact h6.elim
     |outgrown=>exact h6.elim
end Go.Proofs.YtbihckigennlhaaGreatDoor
