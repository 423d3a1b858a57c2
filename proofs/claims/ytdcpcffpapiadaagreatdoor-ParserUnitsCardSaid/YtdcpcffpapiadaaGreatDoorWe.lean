/- item: through the door. -/
import Derived.Test.YtdcpcffpapiadaaGreatDoorWd
set_option linter.unusedSimpArgs false
set_option linter.unusedVariables false
set_option linter.unusedSectionVars false
set_option maxRecDepth 100000
set_option maxHeartbeats 4000000
namespace Go.Proofs.YtdcpcffpapiadaaGreatDoor
open Go.Sx Go.Proofs
theorem comp2500D(ds:List Deferred): @compF Tryz.prog (globD Tryz.prog ds) Tryz.f2500=some c2500:=by kernel_rfl
theorem comp2802D(ds:List Deferred): @compF Tryz.prog (globD Tryz.prog ds) Tryz.f2802=some c2802:=by kernel_rfl
def doorQ(bb:Nat)(Q:Res→Store→Prop):Exit→Regs→Store→Prop
 | .ret,_,σ'=>∃ t x y σ1 σ2,σ'.Perm σ2∧Sub ((t,bb,.cells [iv x,iv y])::σ1) σ2∧Q (.ret (.agg [iv x,iv y])) σ1
 | .panic ch,_,σ'=>∃ p c t x y σ1 σ2,ch=[entry p c false]∧σ'.Perm σ2∧Sub ((t,bb,.cells [iv x,iv y])::σ1) σ2∧Q (.ret (.agg [iv p,iv c])) σ1
 |_,_,_=>False
theorem compF_code{P:Program}[Glob P]{fn:Func}{fc:FC}{c:Code}(h:compF P fn=some fc)(hb:fn.body=some c):compC P fc.N c=some fc.code:=by
 unfold compF at h
 rw[hb]at h
 simp only at h
 split at h
 ·rename_i s r hs hr;cases h;exact hs
 ·cases h
theorem rret_agg{M:Mem}(x y:Int):RRes M (.ret (.agg [iv x,iv y])) (.returned (.agg #[.int .i64 x,.int .i64 y])):=R.mk_agg (cs:=[_,_]) (RL.cons (.v _) (RL.cons (.v _) RL.nil))
theorem regs_two{M:Mem}{a:Act}{i j:Nat}{x y:AV}(h0:R M x (a.tmps.getD i undef))(h1:R M y (a.tmps.getD j undef)):RegsOK M [(i,x),(j,y)] a:=fun k=>by
 simp only[lk]
 cases e:Nat.beq i k with
 |true=>obtain rfl:=Nat.eq_of_beq_eq_true e;exact h0
 |false=>
  cases e:Nat.beq j k with
  |true=>obtain rfl:=Nat.eq_of_beq_eq_true e;exact h1
  |false=>exact .any _
theorem gen_ops{P:Program}{ops:Array Oper}{l:List Nat}{a a':Act}{w w':World}(h:∀ Q':Exit→Act→World→Prop,Q' .normal a' w'→wpOps P ops Q' l a w){Q:Exit→Act→World→Prop}(hq:Q .normal a' w'):wpOps P ops Q l a w:=h Q hq
theorem item_door(b0:Nat)(σ:Store)(Q:Res→Store→Prop)
  (h:∀ bb,@SWp Tryz.prog (globD Tryz.prog [dfr 58 bb]) 56 2 (.pointer (some ⟨bb,0,none⟩)) c2500.code (doorQ bb Q) [(0,.lp 1000 b0 0),(2,.lp 2 bb 0)] ((2,bb,.cells [iv 0,iv 0])::σ)):
  Sx.Spec Tryz.prog 25 [.lp 1000 b0 0] σ Q:=by
 intro M w0 w cs hI hl
 obtain⟨v0,rfl,hv0⟩:=hl.un1
 have hmf:∀ (fn:Fn) (first cap:Array Value) (w:World),(Instr.makeFunc fn first cap).run Tryz.prog w= .ok (.func fn first cap) w:=fun _ _ _ _=>rfl
 refine calls_of_wp_defers Tryz.func25 rfl ?_
 refine wp_seq (wp_region (gen_ops (a':={tmps:=(#[v0]++Array.replicate 55 undef).setIfInBounds 2 (.pointer (some ⟨w.heap.size,0,none⟩)),defers:=[]}) (w':=w.alloc (.cells #[.int .i64 0,.int .i64 0] 49)) (fun Q' hq=> ?_) ?_))
 ·simp[wpOps,Oper.wp,go_sem,Tryz.ntmps25]
  exact .inl (by simpa using hq)
 refine wp_seq (wp_region (gen_ops (a':={tmps:=((#[v0]++Array.replicate 55 undef).setIfInBounds 2 (.pointer (some ⟨w.heap.size,0,none⟩))).setIfInBounds 6 (.func (.func 58) #[] #[.pointer (some ⟨w.heap.size,0,none⟩)]),defers:=[dfr 58 w.heap.size]}) (w':=w.alloc (.cells #[.int .i64 0,.int .i64 0] 49)) (fun Q' hq=> ?_) ?_))
 ·simp[wpOps,Oper.wp,hmf,go_sem]
  exact .inl (.inl (by simpa[dfr]using hq))
 generalize ha:({tmps:=_,defers:=_}:Act)=a1
 have hb:=Sx.Inv.box hI (cs:=[.int .i64 0,.int .i64 0]) (l:=[iv 0,iv 0]) 49 (RL.cons (.v _) (RL.cons (.v _) RL.nil)) 2
 show Code.wp _ _ _ _ _
 refine wp_mono (h w.heap.size _ (@compF_code Tryz.prog (globD Tryz.prog [dfr 58 w.heap.size]) _ _ _ (comp2500D _) (by rfl)) (by rfl) M w0 a1 _ (Inv.toD hb) ?_ ?_ ?_ ?_) ?_
 ·refine regs_two ?_ ?_
  ·rw[show a1.tmps.getD 0 undef=v0 by subst ha;simp];exact hv0
  ·rw[show a1.tmps.getD 2 undef= .pointer (some ⟨w.heap.size,0,none⟩) by subst ha;simp];exact .lp _ _ _
 ·subst ha;simp
 ·subst ha;rfl
 ·subst ha;simp
 ·rintro e a w' ⟨⟨M',rg,σ',h1,h2,h3,h4,h5,h6⟩,h7⟩
  have h2':=Inv.ofD h2
  cases e with
  |ret=>
   obtain⟨t,x,y,σ1,σ2,g1,g2,g3⟩:=h6
   have hI3:=(h2'.perm g1).sub g2
   have h7:=h7.resolve_left (by nofun)
   simp only[bodyPostD,h5]
   exact item_idle hI3 h7 fun w'' hI4=>⟨M',_,σ1,h1,hI4.sub Zs,rret_agg _ _,g3⟩
  |panic ch=>
   obtain⟨p,c,t,x,y,σ1,σ2,rfl,g1,g2,g3⟩:=h6
   have hI3:=(h2'.perm g1).sub g2
   have h7:=h7.resolve_left (by nofun)
   simp only[bodyPostD,h5]
   exact item_pan hI3 h7 p c fun w'' hI4=>⟨M',_,σ1,h1,hI4.sub Zs,rret_agg _ _,g3⟩
  |normal=>exact h6.elim
  |exit id=>exact h6.elim
  |goto l=>exact h6.elim
  |outgrown=>exact h6.elim
end Go.Proofs.YtdcpcffpapiadaaGreatDoor
