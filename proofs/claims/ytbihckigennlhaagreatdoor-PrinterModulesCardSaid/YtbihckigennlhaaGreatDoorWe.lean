/- item: through the door. -/
import Derived.Test.YtbihckigennlhaaGreatDoorWd
set_option linter.unusedSimpArgs false
set_option linter.unusedVariables false
set_option linter.unusedSectionVars false
set_option maxRecDepth 100000
set_option maxHeartbeats 4000000
namespace Go.Proofs.YtbihckigennlhaaGreatDoor
open Go.Sx Go.Proofs
theorem aEo(ds:List Deferred): @cm Tryz.prog (qz Tryz.prog ds) Tryz.f2500=some aCm:=by kernel_rfl
def AG(bb:Nat)(Q:dj→Store→Prop):Exit→ae→Store→Prop
 | .ret,_,σ'=>∃ t x y br σ2,σ'.Perm σ2∧Sub ((t,bb,.cells [iv x,iv y])::br) σ2∧Q (.ret (.agg [iv x,iv y])) br
 | .panic ch,_,σ'=>∃ p c t x y br σ2,ch=[entry p c false]∧σ'.Perm σ2∧Sub ((t,bb,.cells [iv x,iv y])::br) σ2∧Q (.ret (.agg [iv p,iv c])) br
 |_,_,_=>False
theorem Jv{P:Program}[Glob P]{fn:Func}{fc:FC}{c:Code}(h:cm P fn=some fc)(hb:fn.body=some c):eB P fc.N c=some fc.code:=by
 unfold cm at h
 rw[hb]at h
 simp only at h
 split at h
 ·rename_i s r hs hr;cases h;exact hs
 ·cases h
theorem Gg{M:Mem}(x y:Int):uB M (.ret (.agg [iv x,iv y])) (.returned (.agg #[.int .i64 x,.int .i64 y])):=R.tA (cs:=[_,_]) (RL.cons (.v _) (RL.cons (.v _) RL.nil))
theorem aFL{M:Mem}{a:Act}{i j:Nat}{x y:AV}(h0:R M x (a.tmps.getD i undef))(h1:R M y (a.tmps.getD j undef)):bE M [(i,x),(j,y)] a:=fun k=>by
 simp only[lk]
 cases e:Nat.beq i k with
 |true=>obtain rfl:=ZL e;exact h0
 |false=>
  cases e:Nat.beq j k with
  |true=>obtain rfl:=ZL e;exact h1
  |false=>exact .any _
theorem WL{P:Program}{ops:Array Oper}{l:List Nat}{a a':Act}{w w':World}(h:∀ Q':Exit→Act→World→Prop,Q' .normal a' w'→wpOps P ops Q' l a w){Q:Exit→Act→World→Prop}(hq:Q .normal a' w'):wpOps P ops Q l a w:=h Q hq
theorem aE9(b0:Nat)(σ:Store)(Q:dj→Store→Prop)
  (h:∀ bb,@ej Tryz.prog (qz Tryz.prog [sr 113 bb]) 56 2 (.pointer (some ⟨bb,0,none⟩)) aCm.code (AG bb Q) [(0,.lp 1000 b0 0),(2,.lp 2 bb 0)] ((2,bb,.cells [iv 0,iv 0])::σ)):
  Sx.Spec Tryz.prog 65 [.lp 1000 b0 0] σ Q:=by
 intro M w0 w cs hI hl
 obtain⟨v0,rfl,hv0⟩:=hl.dV
 have hmf:∀ (fn:Fn) (first cap:Array Value) (w:World),(Instr.makeFunc fn first cap).run Tryz.prog w= .ok (.func fn first cap) w:=fun _ _ _ _=>rfl
 refine calls_of_wp_defers Tryz.func65 rfl ?_
 refine wp_seq (wp_region (WL (a':={tmps:=(#[v0]++Array.replicate 55 undef).setIfInBounds 2 (.pointer (some ⟨w.heap.size,0,none⟩)),defers:=[]}) (w':=w.alloc (.cells #[.int .i64 0,.int .i64 0] 85)) (fun Q' hq=> ?_) ?_))
 ·simp[wpOps,Oper.wp,go_sem,Tryz.ntmps65]
  exact .inl (by simpa using hq)
 refine wp_seq (wp_region (WL (a':={tmps:=((#[v0]++Array.replicate 55 undef).setIfInBounds 2 (.pointer (some ⟨w.heap.size,0,none⟩))).setIfInBounds 6 (.func (.func 113) #[] #[.pointer (some ⟨w.heap.size,0,none⟩)]),defers:=[sr 113 w.heap.size]}) (w':=w.alloc (.cells #[.int .i64 0,.int .i64 0] 85)) (fun Q' hq=> ?_) ?_))
 ·simp[wpOps,Oper.wp,hmf,go_sem]
  exact .inl (.inl (by simpa[sr]using hq))
 generalize ha:({tmps:=_,defers:=_}:Act)=a1
 have hb:=Sx.Inv.box hI (cs:=[.int .i64 0,.int .i64 0]) (l:=[iv 0,iv 0]) 85 (RL.cons (.v _) (RL.cons (.v _) RL.nil)) 2
 show Code.wp _ _ _ _ _
 refine wp_mono (h w.heap.size _ (@Jv Tryz.prog (qz Tryz.prog [sr 113 w.heap.size]) _ _ _ (aEo _) (by rfl)) (by rfl) M w0 a1 _ (Inv.toD hb) ?_ ?_ ?_ ?_) ?_
 ·refine aFL ?_ ?_
  ·rw[show a1.tmps.getD 0 undef=v0 by subst ha;simp];exact hv0
  ·rw[show a1.tmps.getD 2 undef= .pointer (some ⟨w.heap.size,0,none⟩) by subst ha;simp];exact .lp _ _ _
 ·subst ha;simp
 ·subst ha;rfl
 ·subst ha;simp
 ·rintro e a w' ⟨⟨M',rg,σ',h1,h2,h3,h4,h5,h6⟩,h7⟩
  have KC:=Inv.Nn h2
  cases e with
  |ret=>
   obtain⟨t,x,y,br,σ2,g1,g2,g3⟩:=h6
   have da:=(KC.perm g1).sub g2
   have h7:=h7.resolve_left (by nofun)
   simp only[bodyPostD,h5]
   exact aFa da h7 fun zR D8=>⟨M',_,br,h1,D8.sub Zs,Gg _ _,g3⟩
  |panic ch=>
   obtain⟨p,c,t,x,y,br,σ2,rfl,g1,g2,g3⟩:=h6
   have da:=(KC.perm g1).sub g2
   have h7:=h7.resolve_left (by nofun)
   simp only[bodyPostD,h5]
   exact aFc da h7 p c fun zR D8=>⟨M',_,br,h1,D8.sub Zs,Gg _ _,g3⟩
  |normal=>exact h6.elim
  |exit id=>exact h6.elim
  |goto l=>exact h6.elim
  |outgrown=>exact h6.elim
end Go.Proofs.YtbihckigennlhaaGreatDoor
