/- Wide numbers: sums. -/
import Derived.Test.YtcccbdelfhgmlaaGreatDoorYa
import Derived.Laws.Externs
import Derived.Shelf.Spec.BitsCarry
set_option linter.unusedSimpArgs false
set_option linter.unusedVariables false
set_option linter.unusedSectionVars false
set_option maxRecDepth 100000
set_option maxHeartbeats 4000000
namespace Go.Proofs.YtcccbdelfhgmlaaGreatDoor
open Go.RowKit Go.Proofs Go.Tb
theorem Ng(x y c:Int)(hx:0≤x)(hy:0≤y)(fx:0≤c)(hc:c≤1)(w:World):(callFunc 223 #[.int .u64 x,.int .u64 y,.int .u64 c]).run Tryz.prog w=
  .ok (.value (.tuple #[.int .u64 ((x+y+c) % 18446744073709551616),.int .u64 ((x+y+c) / 18446744073709551616)])) w:=by
 rw[run_callFunc_extern Tryz.func223 (by kernel_rfl) (by kernel_rfl) (by kernel_rfl) (e:=add64Entry) (by kernel_rfl),run_add64 x y c hx hy fx hc]
 rfl
theorem aaS(x y:Int)(hx:0≤x)(hy:0≤y)(w:World):(callFunc 223 #[.int .u64 x,.int .u64 y,.int .u64 0]).run Tryz.prog w=
  .ok (.value (.tuple #[.int .u64 ((x+y) % 18446744073709551616),.int .u64 ((x+y) / 18446744073709551616)])) w:=by
 rw[Ng x y 0 hx hy (by omega) (by omega),Int.add_zero]
def gF(n:Int):Int:=n % 18446744073709551616
def jr(n:Int):Int:=if n<0 then -1 else 0
abbrev wv(n:Int):Value:= .agg #[.int .i64 (jr n),.int .u64 (gF n)]
theorem aaU(n m:Int)(w:World)(hn: -576460752303423488≤n∧n≤576460752303423488)(hm: -576460752303423488≤m∧m≤576460752303423488):Calls Tryz.prog 209 #[wv n,wv m] w fun e w'=>e= .returned (wv (n+m))∧Below w.heap.size w w':=by
 have h1:0≤gF n:=by unfold gF;omega
 have h2:0≤gF m:=by unfold gF;omega
 generalize qY:gF n=ln at *
 generalize Ea:gF m=lm at *
 generalize hhn:jr n=ja at *
 generalize hhm:jr m=Jd at *
 go_enter Tryz.func209,Tryz.ntmps209
 have e1:=aaS ln lm h1 h2
 have w1:0≤IntKind.u64.wrap ja:=by rw[IntKind.wrap_u64];omega
 have w2:0≤IntKind.u64.wrap Jd:=by rw[IntKind.wrap_u64];omega
 have e2:=Ng (IntKind.u64.wrap ja) (IntKind.u64.wrap Jd) ((ln+lm) / 18446744073709551616) w1 w2 (by omega) (by rw[← qY,← Ea];unfold gF;omega)
 have Bv:(ln+lm) % 18446744073709551616=gF (n+m):=by rw[← qY,← Ea];unfold gF;omega
 have I5:IntKind.i64.wrap ((IntKind.u64.wrap ja+IntKind.u64.wrap Jd+(ln+lm) / 18446744073709551616) % 18446744073709551616)=jr (n+m):=by
  rw[← qY,← Ea,← hhn,← hhm,IntKind.wrap_u64,IntKind.wrap_u64,IntKind.wrap_i64]
  unfold gF jr
  split<;>split<;>split<;>omega
 go_wp2
 simp[bodyPost,results,Tryz.results209,go_sem,I5]
 exact(((Below.refl _ w).alloc (ZR _) _).alloc (by simp) _).alloc (by simp;omega) _
theorem UM(x y b:Int)(hx:0≤x)(hy:0≤y)(Rz:y<18446744073709551616)(kN:0≤b)(hb:b≤1)(w:World):(callFunc 233 #[.int .u64 x,.int .u64 y,.int .u64 b]).run Tryz.prog w=
  .ok (.value (.tuple #[.int .u64 ((x-y-b) % 18446744073709551616),.int .u64 (if x<y+b then 1 else 0)])) w:=by
 obtain⟨X,rfl⟩:=Int.eq_ofNat_of_zero_le hx
 obtain⟨Y,rfl⟩:=Int.eq_ofNat_of_zero_le hy
 obtain⟨B,rfl⟩:=Int.eq_ofNat_of_zero_le kN
 rw[run_callFunc_extern Tryz.func233 (by kernel_rfl) (by kernel_rfl) (by kernel_rfl) (e:=sub64Entry) (by kernel_rfl),run_sub64 X Y B (by omega)]
 have e1:(((X+18446744073709551616-Y-B) % 18446744073709551616:Nat):Int)=((X:Int)-Y-B) % 18446744073709551616:=by omega
 have e2:((if X<Y+B then 1 else 0:Nat):Int)=if(X:Int)<Y+B then 1 else 0:=by
  by_cases h:X<Y+B
  ·rw[Z8 h,Z8 (by omega)];rfl
  ·rw[Z9 h,Z9 (by omega)];rfl
 rw[e1,e2]
 rfl
theorem awo(n:Int)(w:World)(hn: -576460752303423488≤n∧n≤576460752303423488):Calls Tryz.prog 224 #[wv n] w fun e w'=>e= .returned (.agg #[.int .u64 n.natAbs,.int .u64 0])∧Below w.heap.size w w':=by
 by_cases h0:n<0
 ·have hh:jr n= -1:=Z8 h0
  have hl:gF n=n+18446744073709551616:=by unfold gF;omega
  have e1:=UM 0 (n+18446744073709551616) 0 (by omega) (by omega) (by omega) (by omega) (by omega)
  rw[Z8 (by omega),show((0:Int)-(n+18446744073709551616)-0) % 18446744073709551616=n.natAbs by omega]at e1
  have e2:=UM 0 18446744073709551615 1 (by omega) (by omega) (by omega) (by omega) (by omega)
  rw[Z8 (by omega),show((0:Int)-18446744073709551615-1) % 18446744073709551616=0 by omega]at e2
  have hw:IntKind.u64.wrap (-1)=18446744073709551615:=by rw[IntKind.wrap_u64];rfl
  rw[← hw]at e2
  clear hw
  show Calls Tryz.prog 224 #[.agg #[.int .i64 (jr n),.int .u64 (gF n)]] w _
  rw[hh,hl]
  clear hh hl
  go_enter Tryz.func224,Tryz.ntmps224
  go_wp2
  simp[bodyPost,results,Tryz.results224,go_sem]
  first
   |(rename_i a;refine a _ _ ?_;go_wp2;simp[bodyPost,results,Tryz.results224,go_sem];rename_i a2 q k1 k0;refine a2 _ _ ?_;go_wp2;simp[bodyPost,results,Tryz.results224,go_sem];exact(((((((Below.refl _ w).alloc (ZR _) _).alloc (by simp) _).alloc (by simp;omega) _).alloc (by simp;omega) _).alloc (by simp;omega) _).alloc (by simp;omega) _).alloc (by simp;omega) _)
   |exact(((((((Below.refl _ w).alloc (ZR _) _).alloc (by simp) _).alloc (by simp;omega) _).alloc (by simp;omega) _).alloc (by simp;omega) _).alloc (by simp;omega) _).alloc (by simp;omega) _
 ·have hh:jr n=0:=Z9 h0
  have hl:gF n=n.natAbs:=by unfold gF;omega
  show Calls Tryz.prog 224 #[.agg #[.int .i64 (jr n),.int .u64 (gF n)]] w _
  rw[hh,hl]
  clear hh hl
  go_enter Tryz.func224,Tryz.ntmps224
  go_wp2
  simp[bodyPost,results,Tryz.results224,go_sem]
  exact((Below.refl _ w).alloc (ZR _) _).alloc (by simp) _
end Go.Proofs.YtcccbdelfhgmlaaGreatDoor
