/- Wide numbers as contracts of the layer. -/
import Derived.Test.YtbihckigennlhaaGreatDoorYb
import Derived.Test.YtbihckigennlhaaGreatDoorCodeA
import Derived.Test.YtbihckigennlhaaGreatDoorCodeB
import Derived.RegionTactic
import Derived.OwnWalk
set_option linter.unusedSimpArgs false
set_option linter.unusedVariables false
set_option linter.unusedSectionVars false
set_option maxRecDepth 100000
set_option maxHeartbeats 4000000
namespace Go.Proofs.YtbihckigennlhaaGreatDoor
section
open Go.RowKit Go.Proofs Go.Tb
theorem Vt(x:Int)(w:World)(hx:0≤x)(dm:x<18446744073709551616):Calls Tryz.prog 211 #[.int .u64 0,.int .u64 x,.int .u64 1] w fun e w'=>e= .returned (.tuple #[.int .u64 x,.int .u64 0])∧Below w.heap.size w w':=by
 go_enter Tryz.func211,Tryz.ntmps211
 go_wp2
 go_region
 all_goals go_wp2
 all_goals go_ret2
 refine⟨?_,?_⟩
 ·rfl
 ·exact(Below.refl _ _).drew
end
open Go.Sx Go.Proofs Go.Tb
abbrev wA(n:Int):AV:= .agg [iv (iG n),.v (.int .u64 (fR n))]
theorem BJ{M:Mem}{n:Int}{v:Value}(h:R M (wA n) v):v=wv n:=by
 obtain⟨cs,rfl,hl⟩:=h.vS
 obtain⟨a,as',rfl,h1,h2⟩:=hl.cN
 obtain⟨b,rfl,h3⟩:=h2.dV
 rw[h1.az,h3.az]
theorem N5{M:Mem}(n:Int):R M (wA n) (wv n):= .agg _ [.int .i64 (iG n),.int .u64 (fR n)] rfl fun i h1 h2=>by
 match i with
 |0=>exact .v _
 |1=>exact .v _
theorem Ti{n m:Int}(hn: -576460752303423488≤n∧n≤576460752303423488)(hm: -576460752303423488≤m∧m≤576460752303423488):Pure Tryz.prog 182 [wA n,wA m] (wA (n+m)):=
 Pure.shelf fun M w0 w σ cs hI hR=>by
  obtain⟨a,as',rfl,h1,h2⟩:=hR.cN
  obtain⟨b,rfl,h3⟩:=h2.dV
  rw[BJ h1,BJ h3]
  exact(Tj n m w hn hm).mono fun e w' ⟨h,hb⟩=>⟨⟨_,h,N5 _⟩,hb⟩
abbrev szA(n:Int):AV:= .agg [.v (.int .u64 n.natAbs),.v (.int .u64 0)]
theorem OM{n:Int}(hn: -576460752303423488≤n∧n≤576460752303423488):Pure Tryz.prog 210 [wA n] (szA n):=
 Pure.shelf fun M w0 w σ cs hI hR=>by
  obtain⟨a,rfl,h1⟩:=hR.dV
  rw[BJ h1]
  exact(ax0 n w hn).mono fun e w' ⟨h,hb⟩=>⟨⟨_,h,.agg _ [.int .u64 n.natAbs,.int .u64 0] rfl fun i h1 h2=>by
   match i with
   |0=>exact .v _
   |1=>exact .v _⟩,hb⟩
theorem Nl{n:Int}(hn: -576460752303423488≤n∧n≤576460752303423488):Pure Tryz.prog 183 [iv n] (wA n):=by
 refine abX.p fun σ=> ?_
 repeat'(first|exact .nil|refine .k0 ?_|refine .k1 ?_|refine .k2 ?_|refine .k7 ?_|refine .r1 ?_ ?_|(refine .l1 ?_;intro b)|fail)
 all_goals(try simp only[BL]at *)
 ·decide
 ·rw[show n / 2 ^ Int.toNat 63=iG n by show n / 9223372036854775808=_;unfold iG;split<;>omega,show IntKind.u64.wrap n=fR n from IntKind.wrap_u64 n]
  exact Zw
theorem Vs{x:Int}(hx:0≤x)(dm:x<18446744073709551616):Pure Tryz.prog 211 [.v (.int .u64 0),.v (.int .u64 x),.v (.int .u64 1)] (.aI [.v (.int .u64 x),.v (.int .u64 0)]):=
 Pure.shelf fun M w0 w σ cs hI hR=>by
  obtain⟨a,as',rfl,h1,h2⟩:=hR.cN
  obtain⟨b,bs',rfl,h3,h4⟩:=h2.cN
  obtain⟨c,rfl,h5⟩:=h4.dV
  rw[h1.az,h3.az,h5.az]
  exact(Vt x w hx dm).mono fun e w' ⟨h,hb⟩=>⟨⟨_,h,.aI _ [.int .u64 x,.int .u64 0] rfl fun i h1 h2=>by
   match i with
   |0=>exact .v _
   |1=>exact .v _⟩,hb⟩
theorem Qp{x i:Operand}{ty:TypeId}{a b:Int}:OpP Tryz.prog (.index 239 x i) ty [] [x,i] [.agg [.v (.int .u64 a),.v (.int .u64 b)],.v (.int .i64 0)] (.v (.int .u64 a)):=⟨fun σ dR M w0 w ρ hI hR=>by
 obtain⟨v1,vs1,e1,h1,iV⟩:=hR.cN
 obtain⟨v2,e2,h2⟩:=iV.dV
 subst e2
 simp only[ZH,YX,ZW,and_true]at e1
 obtain⟨cs,rfl,hl⟩:=h1.vS
 obtain⟨p,ps,rfl,g1,g2⟩:=hl.cN
 obtain⟨q,rfl,g3⟩:=g2.dV
 have hu:=Tryz.underlying239
 have W4:=Tryz.underlying210
 refine⟨.value (.int .u64 a),w,M,.v (.int .u64 a),.int .u64 a,σ,?_,rfl,Mem.le.refl _,hI,.v _,rfl,rfl⟩
 simp[execOp,e1.1,e1.2,Instr.index,asIntOf,h2.az,g1.az,aY hu,part,isAgg,aY W4]⟩
theorem Vu{n:Int}(hn: -576460752303423488≤n∧n≤576460752303423488):Pure Tryz.prog 185 [wA n,iv 1] (.aI [iv n,.v (.bool true)]):=by
 have hS:=OM hn
 have Xh:=Nl (n:=1) (by omega)
 have Ef:=OM (n:=1) (by omega)
 have hD:=Vs (x:=n.natAbs) (by omega) (by omega)
 refine abY.p fun σ=> ?_
 repeat'(first|exact .nil|refine .k0 ?_|refine .k1 ?_|refine .k2 ?_|refine .k7 ?_|refine .k9 ?_|(refine .cd ?_ ?_<;>(intro hc;skip))|refine .r1 ?_ ?_|(refine .m1 ?_ ?_;intro b)|refine .an rfl (by intro bx;first|exact hS|exact Xh|exact Ef|fail) ?_ ?_|fail)
 all_goals(try simp only[BL]at *)
 ·exact absurd hc (by decide)
 refine Ai rfl (fun _=>Qp) OB.nil ?_
 repeat'(first|exact .nil|refine .k0 ?_|refine .k1 ?_|refine .k2 ?_|refine .k4 ?_|refine .k7 ?_|refine .k9 ?_|(refine .cd ?_ ?_<;>(intro hc;first|exact kt hc (by assumption)|skip))|refine .r1 ?_ ?_|(refine .l1 ?_;intro b)|refine .an rfl (by intro bx;exact hD) ?_ ?_|fail)
 ·exact⟨by decide,by decide⟩
 ·exact absurd hc (by decide)
 ·exact⟨by decide,by decide⟩
 ·exact⟨by decide,by decide⟩
 ·intro _;decide
 ·have:=of_decide_eq_true hc;omega
 ·have aH:n<0:=by
   by_cases h:n<0
   ·exact h
   ·rw[show iG n=0 from if_neg h]at hc;exact absurd hc (by decide)
  rw[aW (n:=(n.natAbs:Int)) (by omega),aW (by omega),show(0:Int)-n.natAbs=n by omega]
  exact Zw
 ·have aH:0≤n:=by
   by_cases h:n<0
   ·rw[show iG n= -1 from if_pos h]at hc;exact absurd hc (by decide)
   ·omega
  rw[aW (n:=(n.natAbs:Int)) (by omega),show(n.natAbs:Int)=n by omega]
  exact Zw
end Go.Proofs.YtbihckigennlhaaGreatDoor
