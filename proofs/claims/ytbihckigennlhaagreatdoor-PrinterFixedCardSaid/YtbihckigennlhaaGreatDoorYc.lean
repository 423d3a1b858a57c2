/- Wide numbers as contracts of the layer. -/
import Derived.Test.YtbihckigennlhaaGreatDoorYb
import Derived.Test.YtbihckigennlhaaGreatDoorCodeA
import Derived.Test.YtbihckigennlhaaGreatDoorCodeB
import Derived.RegionTactic
import Derived.OwnWalk
set_option linter.unusedSimpArgs false
set_option linter.unusedVariables false
set_option linter.unusedSectionVars false
set_option maxRecDepth 100000
set_option maxHeartbeats 4000000
namespace Go.Proofs.YtbihckigennlhaaGreatDoor
section
open Go.RowKit Go.Proofs Go.Tb
theorem SF(x:Int)(w:World)(hx:0≤x)(cX:x<18446744073709551616):Calls Tryz.prog 211 #[.int .u64 0,.int .u64 x,.int .u64 1] w fun e w'=>e= .returned (.tuple #[.int .u64 x,.int .u64 0])∧Below w.heap.size w w':=by
 go_enter Tryz.func211,Tryz.ntmps211
 go_wp2
 go_region
 all_goals go_wp2
 all_goals go_ret2
 refine⟨?_,?_⟩
 ·rfl
 ·exact(Below.refl _ _).drew
end
open Go.Sx Go.Proofs Go.Tb
abbrev wA(n:Int):AV:= .agg [iv (gT n),.v (.int .u64 (fw n))]
theorem Ah{M:Mem}{n:Int}{v:Value}(h:R M (wA n) v):v=wv n:=by
 obtain⟨cs,rfl,hl⟩:=h.uO
 obtain⟨a,as',rfl,h1,h2⟩:=hl.cE
 obtain⟨b,rfl,h3⟩:=h2.dN
 rw[h1.ax,h3.ax]
theorem LL{M:Mem}(n:Int):R M (wA n) (wv n):= .agg _ [.int .i64 (gT n),.int .u64 (fw n)] rfl fun i h1 h2=>by
 match i with
 |0=>exact .v _
 |1=>exact .v _
theorem QD{n m:Int}(hn: -576460752303423488≤n∧n≤576460752303423488)(hm: -576460752303423488≤m∧m≤576460752303423488):Pure Tryz.prog 182 [wA n,wA m] (wA (n+m)):=
 Pure.jB fun M w0 w σ cs hI hR=>by
  obtain⟨a,as',rfl,h1,h2⟩:=hR.cE
  obtain⟨b,rfl,h3⟩:=h2.dN
  rw[Ah h1,Ah h3]
  exact(QE n m w hn hm).mono fun e w' ⟨h,hb⟩=>⟨⟨_,h,LL _⟩,hb⟩
abbrev szA(n:Int):AV:= .agg [.v (.int .u64 n.natAbs),.v (.int .u64 0)]
theorem Mt{n:Int}(hn: -576460752303423488≤n∧n≤576460752303423488):Pure Tryz.prog 210 [wA n] (szA n):=
 Pure.jB fun M w0 w σ cs hI hR=>by
  obtain⟨a,rfl,h1⟩:=hR.dN
  rw[Ah h1]
  exact(ar8 n w hn).mono fun e w' ⟨h,hb⟩=>⟨⟨_,h,.agg _ [.int .u64 n.natAbs,.int .u64 0] rfl fun i h1 h2=>by
   match i with
   |0=>exact .v _
   |1=>exact .v _⟩,hb⟩
theorem K7{n:Int}(hn: -576460752303423488≤n∧n≤576460752303423488):Pure Tryz.prog 183 [iv n] (wA n):=by
 refine Xk.p fun σ=> ?_
 repeat'(first|exact .nil|refine .k0 ?_|refine .k1 ?_|refine .k2 ?_|refine .k7 ?_|refine .r1 ?_ ?_|(refine .l1 ?_;intro b)|fail)
 all_goals(try simp only[BL]at *)
 ·decide
 ·rw[show n / 2 ^ Int.toNat 63=gT n by show n / 9223372036854775808=_;unfold gT;split<;>omega,show IntKind.u64.wrap n=fw n from IntKind.wrap_u64 n]
  exact Zw
theorem SE{x:Int}(hx:0≤x)(cX:x<18446744073709551616):Pure Tryz.prog 211 [.v (.int .u64 0),.v (.int .u64 x),.v (.int .u64 1)] (.aL [.v (.int .u64 x),.v (.int .u64 0)]):=
 Pure.jB fun M w0 w σ cs hI hR=>by
  obtain⟨a,as',rfl,h1,h2⟩:=hR.cE
  obtain⟨b,bs',rfl,h3,h4⟩:=h2.cE
  obtain⟨c,rfl,h5⟩:=h4.dN
  rw[h1.ax,h3.ax,h5.ax]
  exact(SF x w hx cX).mono fun e w' ⟨h,hb⟩=>⟨⟨_,h,.aL _ [.int .u64 x,.int .u64 0] rfl fun i h1 h2=>by
   match i with
   |0=>exact .v _
   |1=>exact .v _⟩,hb⟩
theorem N6{x i:Operand}{ty:TypeId}{a b:Int}:qE Tryz.prog (.index 239 x i) ty [] [x,i] [.agg [.v (.int .u64 a),.v (.int .u64 b)],.v (.int .i64 0)] (.v (.int .u64 a)):=⟨fun σ dI M w0 w ρ hI hR=>by
 obtain⟨v1,vp,e1,h1,ik⟩:=hR.cE
 obtain⟨v2,e2,h2⟩:=ik.dN
 subst e2
 simp only[ZL,Y7,ZY,and_true]at e1
 obtain⟨cs,rfl,hl⟩:=h1.uO
 obtain⟨p,ps,rfl,g1,g2⟩:=hl.cE
 obtain⟨q,rfl,g3⟩:=g2.dN
 have hu:=Tryz.underlying239
 have Uf:=Tryz.underlying210
 refine⟨.value (.int .u64 a),w,M,.v (.int .u64 a),.int .u64 a,σ,?_,rfl,Mem.le.refl _,hI,.v _,rfl,rfl⟩
 simp[execOp,e1.1,e1.2,Instr.index,asIntOf,h2.ax,g1.ax,aV hu,part,isAgg,aV Uf]⟩
theorem SG{n:Int}(hn: -576460752303423488≤n∧n≤576460752303423488):Pure Tryz.prog 185 [wA n,iv 1] (.aL [iv n,.v (.bool true)]):=by
 have hS:=Mt hn
 have Us:=K7 (n:=1) (by omega)
 have CN:=Mt (n:=1) (by omega)
 have hD:=SE (x:=n.natAbs) (by omega) (by omega)
 refine Xl.p fun σ=> ?_
 repeat'(first|exact .nil|refine .k0 ?_|refine .k1 ?_|refine .k2 ?_|refine .k7 ?_|refine .k9 ?_|(refine .cd ?_ ?_<;>(intro hc;skip))|refine .r1 ?_ ?_|(refine .m1 ?_ ?_;intro b)|refine .an rfl (by intro aO;first|exact hS|exact Us|exact CN|fail) ?_ ?_|fail)
 all_goals(try simp only[BL]at *)
 ·exact absurd hc (by decide)
 refine yx rfl (fun _=>N6) OB.nil ?_
 repeat'(first|exact .nil|refine .k0 ?_|refine .k1 ?_|refine .k2 ?_|refine .k4 ?_|refine .k7 ?_|refine .k9 ?_|(refine .cd ?_ ?_<;>(intro hc;first|exact kt hc (by assumption)|skip))|refine .r1 ?_ ?_|(refine .l1 ?_;intro b)|refine .an rfl (by intro aO;exact hD) ?_ ?_|fail)
 ·exact⟨by decide,by decide⟩
 ·exact absurd hc (by decide)
 ·exact⟨by decide,by decide⟩
 ·exact⟨by decide,by decide⟩
 ·intro _;decide
 ·have:=of_decide_eq_true hc;omega
 ·have aE:n<0:=by
   by_cases h:n<0
   ·exact h
   ·rw[show gT n=0 from if_neg h]at hc;exact absurd hc (by decide)
  rw[bw (n:=(n.natAbs:Int)) (by omega),bw (by omega),show(0:Int)-n.natAbs=n by omega]
  exact Zw
 ·have aE:0≤n:=by
   by_cases h:n<0
   ·rw[show gT n= -1 from if_pos h]at hc;exact absurd hc (by decide)
   ·omega
  rw[bw (n:=(n.natAbs:Int)) (by omega),show(n.natAbs:Int)=n by omega]
  exact Zw
end Go.Proofs.YtbihckigennlhaaGreatDoor
