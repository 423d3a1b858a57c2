/- Wide numbers: sums. -/
import Derived.Test.YtbihckigennlhaaGreatDoorYa
import Derived.Laws.Externs
import Derived.Shelf.Spec.BitsCarry
set_option linter.unusedSimpArgs false
set_option linter.unusedVariables false
set_option linter.unusedSectionVars false
set_option maxRecDepth 100000
set_option maxHeartbeats 4000000
namespace Go.Proofs.YtbihckigennlhaaGreatDoor
open Go.RowKit Go.Proofs Go.Tb
theorem ID(x y c:Int)(hx:0≤x)(hy:0≤y)(eN:0≤c)(hc:c≤1)(w:World):(callFunc 208 #[.int .u64 x,.int .u64 y,.int .u64 c]).run Tryz.prog w=
  .ok (.value (.tuple #[.int .u64 ((x+y+c) % 18446744073709551616),.int .u64 ((x+y+c) / 18446744073709551616)])) w:=by
 rw[run_callFunc_extern Tryz.func208 (by kernel_rfl) (by kernel_rfl) (by kernel_rfl) (e:=add64Entry) (by kernel_rfl),run_add64 x y c hx hy eN hc]
 rfl
theorem Th(x y:Int)(hx:0≤x)(hy:0≤y)(w:World):(callFunc 208 #[.int .u64 x,.int .u64 y,.int .u64 0]).run Tryz.prog w=
  .ok (.value (.tuple #[.int .u64 ((x+y) % 18446744073709551616),.int .u64 ((x+y) / 18446744073709551616)])) w:=by
 rw[ID x y 0 hx hy (by omega) (by omega),Int.add_zero]
def fR(n:Int):Int:=n % 18446744073709551616
def iG(n:Int):Int:=if n<0 then -1 else 0
abbrev wv(n:Int):Value:= .agg #[.int .i64 (iG n),.int .u64 (fR n)]
theorem Tj(n m:Int)(w:World)(hn: -576460752303423488≤n∧n≤576460752303423488)(hm: -576460752303423488≤m∧m≤576460752303423488):Calls Tryz.prog 182 #[wv n,wv m] w fun e w'=>e= .returned (wv (n+m))∧Below w.heap.size w w':=by
 have h1:0≤fR n:=by unfold fR;omega
 have h2:0≤fR m:=by unfold fR;omega
 generalize pd:fR n=ln at *
 generalize Bf:fR m=lm at *
 generalize hhn:iG n=pg at *
 generalize hhm:iG m=EK at *
 go_enter Tryz.func182,Tryz.ntmps182
 have e1:=Th ln lm h1 h2
 have w1:0≤IntKind.u64.wrap pg:=by rw[IntKind.wrap_u64];omega
 have w2:0≤IntKind.u64.wrap EK:=by rw[IntKind.wrap_u64];omega
 have e2:=ID (IntKind.u64.wrap pg) (IntKind.u64.wrap EK) ((ln+lm) / 18446744073709551616) w1 w2 (by omega) (by rw[← pd,← Bf];unfold fR;omega)
 have Lu:(ln+lm) % 18446744073709551616=fR (n+m):=by rw[← pd,← Bf];unfold fR;omega
 have EC:IntKind.i64.wrap ((IntKind.u64.wrap pg+IntKind.u64.wrap EK+(ln+lm) / 18446744073709551616) % 18446744073709551616)=iG (n+m):=by
  rw[← pd,← Bf,← hhn,← hhm,IntKind.wrap_u64,IntKind.wrap_u64,IntKind.wrap_i64]
  unfold fR iG
  split<;>split<;>split<;>omega
 go_wp2
 simp[bodyPost,results,Tryz.results182,go_sem,EC]
 exact(((Below.refl _ w).alloc (ZI _) _).alloc (by simp) _).alloc (by simp;omega) _
theorem O3(x y b:Int)(hx:0≤x)(hy:0≤y)(hy2:y<18446744073709551616)(qC:0≤b)(hb:b≤1)(w:World):(callFunc 256 #[.int .u64 x,.int .u64 y,.int .u64 b]).run Tryz.prog w=
  .ok (.value (.tuple #[.int .u64 ((x-y-b) % 18446744073709551616),.int .u64 (if x<y+b then 1 else 0)])) w:=by
 obtain⟨X,rfl⟩:=Int.eq_ofNat_of_zero_le hx
 obtain⟨Y,rfl⟩:=Int.eq_ofNat_of_zero_le hy
 obtain⟨B,rfl⟩:=Int.eq_ofNat_of_zero_le qC
 rw[run_callFunc_extern Tryz.func256 (by kernel_rfl) (by kernel_rfl) (by kernel_rfl) (e:=sub64Entry) (by kernel_rfl),run_sub64 X Y B (by omega)]
 have e1:(((X+18446744073709551616-Y-B) % 18446744073709551616:Nat):Int)=((X:Int)-Y-B) % 18446744073709551616:=by omega
 have e2:((if X<Y+B then 1 else 0:Nat):Int)=if(X:Int)<Y+B then 1 else 0:=by
  by_cases h:X<Y+B
  ·rw[if_pos h,if_pos (by omega)];rfl
  ·rw[if_neg h,if_neg (by omega)];rfl
 rw[e1,e2]
 rfl
theorem ax0(n:Int)(w:World)(hn: -576460752303423488≤n∧n≤576460752303423488):Calls Tryz.prog 210 #[wv n] w fun e w'=>e= .returned (.agg #[.int .u64 n.natAbs,.int .u64 0])∧Below w.heap.size w w':=by
 by_cases h0:n<0
 ·have hh:iG n= -1:=if_pos h0
  have hl:fR n=n+18446744073709551616:=by unfold fR;omega
  have e1:=O3 0 (n+18446744073709551616) 0 (by omega) (by omega) (by omega) (by omega) (by omega)
  rw[if_pos (by omega),show((0:Int)-(n+18446744073709551616)-0) % 18446744073709551616=n.natAbs by omega]at e1
  have e2:=O3 0 18446744073709551615 1 (by omega) (by omega) (by omega) (by omega) (by omega)
  rw[if_pos (by omega),show((0:Int)-18446744073709551615-1) % 18446744073709551616=0 by omega]at e2
  have hw:IntKind.u64.wrap (-1)=18446744073709551615:=by rw[IntKind.wrap_u64];rfl
  rw[← hw]at e2
  clear hw
  show Calls Tryz.prog 210 #[.agg #[.int .i64 (iG n),.int .u64 (fR n)]] w _
  rw[hh,hl]
  clear hh hl
  go_enter Tryz.func210,Tryz.ntmps210
  go_wp2
  simp[bodyPost,results,Tryz.results210,go_sem]
  first
   |(rename_i a;refine a _ _ ?_;go_wp2;simp[bodyPost,results,Tryz.results210,go_sem];rename_i a2 q k1 k0;refine a2 _ _ ?_;go_wp2;simp[bodyPost,results,Tryz.results210,go_sem];exact(((((((Below.refl _ w).alloc (ZI _) _).alloc (by simp) _).alloc (by simp;omega) _).alloc (by simp;omega) _).alloc (by simp;omega) _).alloc (by simp;omega) _).alloc (by simp;omega) _)
   |exact(((((((Below.refl _ w).alloc (ZI _) _).alloc (by simp) _).alloc (by simp;omega) _).alloc (by simp;omega) _).alloc (by simp;omega) _).alloc (by simp;omega) _).alloc (by simp;omega) _
 ·have hh:iG n=0:=if_neg h0
  have hl:fR n=n.natAbs:=by unfold fR;omega
  show Calls Tryz.prog 210 #[.agg #[.int .i64 (iG n),.int .u64 (fR n)]] w _
  rw[hh,hl]
  clear hh hl
  go_enter Tryz.func210,Tryz.ntmps210
  go_wp2
  simp[bodyPost,results,Tryz.results210,go_sem]
  exact((Below.refl _ w).alloc (ZI _) _).alloc (by simp) _
end Go.Proofs.YtbihckigennlhaaGreatDoor
