/- Wide numbers as contracts of the layer. -/
import Derived.Test.YtcccbdelfhgmlaaGreatDoorYb
import Derived.Test.YtcccbdelfhgmlaaGreatDoorCodeA
import Derived.Test.YtcccbdelfhgmlaaGreatDoorCodeB
import Derived.RegionTactic
import Derived.OwnWalk
set_option linter.unusedSimpArgs false
set_option linter.unusedVariables false
set_option linter.unusedSectionVars false
set_option maxRecDepth 100000
set_option maxHeartbeats 4000000
namespace Go.Proofs.YtcccbdelfhgmlaaGreatDoor
section
open Go.RowKit Go.Proofs Go.Tb
theorem acZ(x:Int)(w:World)(hx:0≤x)(dK:x<18446744073709551616):Calls Tryz.prog 225 #[.int .u64 0,.int .u64 x,.int .u64 1] w fun e w'=>e= .returned (.tuple #[.int .u64 x,.int .u64 0])∧Below w.heap.size w w':=by
 go_enter Tryz.func225,Tryz.ntmps225
 go_wp2
 go_region
 all_goals go_wp2
 all_goals go_ret2
 refine⟨?_,?_⟩
 ·rfl
 ·exact(Below.refl _ _).drew
end
open Go.Sx Go.Proofs Go.Tb
abbrev wA(n:Int):AV:= .agg [iv (jr n),.v (.int .u64 (gF n))]
theorem EV{M:Mem}{n:Int}{v:Value}(h:R M (wA n) v):v=wv n:=by
 obtain⟨cs,rfl,hl⟩:=h.qd
 obtain⟨a,as',rfl,h1,h2⟩:=hl.bS
 obtain⟨b,rfl,h3⟩:=h2.eg
 rw[h1.ay,h3.ay]
theorem TF{M:Mem}(n:Int):R M (wA n) (wv n):= .agg _ [.int .i64 (jr n),.int .u64 (gF n)] rfl fun i h1 h2=>by
 match i with
 |0=>exact .v _
 |1=>exact .v _
theorem aaT{n m:Int}(hn: -576460752303423488≤n∧n≤576460752303423488)(hm: -576460752303423488≤m∧m≤576460752303423488):Pure Tryz.prog 209 [wA n,wA m] (wA (n+m)):=
 Pure.lj fun M w0 w σ cs hI hR=>by
  obtain⟨a,as',rfl,h1,h2⟩:=hR.bS
  obtain⟨b,rfl,h3⟩:=h2.eg
  rw[EV h1,EV h3]
  exact(aaU n m w hn hm).mono fun e w' ⟨h,hb⟩=>⟨⟨_,h,TF _⟩,hb⟩
abbrev szA(n:Int):AV:= .agg [.v (.int .u64 n.natAbs),.v (.int .u64 0)]
theorem Un{n:Int}(hn: -576460752303423488≤n∧n≤576460752303423488):Pure Tryz.prog 224 [wA n] (szA n):=
 Pure.lj fun M w0 w σ cs hI hR=>by
  obtain⟨a,rfl,h1⟩:=hR.eg
  rw[EV h1]
  exact(awo n w hn).mono fun e w' ⟨h,hb⟩=>⟨⟨_,h,.agg _ [.int .u64 n.natAbs,.int .u64 0] rfl fun i h1 h2=>by
   match i with
   |0=>exact .v _
   |1=>exact .v _⟩,hb⟩
theorem SN{n:Int}(hn: -576460752303423488≤n∧n≤576460752303423488):Pure Tryz.prog 210 [iv n] (wA n):=by
 refine afS.p fun σ=> ?_
 repeat'(first|exact .nil|refine .k0 ?_|refine .k1 ?_|refine .k2 ?_|refine .k7 ?_|refine .r1 ?_ ?_|(refine .l1 ?_;intro b)|fail)
 all_goals(try simp only[BL]at *)
 ·decide
 ·rw[show n / 2 ^ Int.toNat 63=jr n by show n / 9223372036854775808=_;unfold jr;split<;>omega,show IntKind.u64.wrap n=gF n from IntKind.wrap_u64 n]
  exact Zw
theorem acY{x:Int}(hx:0≤x)(dK:x<18446744073709551616):Pure Tryz.prog 225 [.v (.int .u64 0),.v (.int .u64 x),.v (.int .u64 1)] (.aT [.v (.int .u64 x),.v (.int .u64 0)]):=
 Pure.lj fun M w0 w σ cs hI hR=>by
  obtain⟨a,as',rfl,h1,h2⟩:=hR.bS
  obtain⟨b,bs',rfl,h3,h4⟩:=h2.bS
  obtain⟨c,rfl,h5⟩:=h4.eg
  rw[h1.ay,h3.ay,h5.ay]
  exact(acZ x w hx dK).mono fun e w' ⟨h,hb⟩=>⟨⟨_,h,.aT _ [.int .u64 x,.int .u64 0] rfl fun i h1 h2=>by
   match i with
   |0=>exact .v _
   |1=>exact .v _⟩,hb⟩
theorem Wn{x i:Operand}{ty:TypeId}{a b:Int}:uH Tryz.prog (.index 271 x i) ty [] [x,i] [.agg [.v (.int .u64 a),.v (.int .u64 b)],.v (.int .i64 0)] (.v (.int .u64 a)):=⟨fun σ eH M w0 w ρ hI hR=>by
 obtain⟨v1,wC,e1,h1,jK⟩:=hR.bS
 obtain⟨v2,e2,h2⟩:=jK.eg
 subst e2
 simp only[Zu,YO,ZT,Zd]at e1
 obtain⟨cs,rfl,hl⟩:=h1.qd
 obtain⟨p,ps,rfl,g1,g2⟩:=hl.bS
 obtain⟨q,rfl,g3⟩:=g2.eg
 have hu:=Tryz.underlying271
 have PW:=Tryz.underlying178
 refine⟨.value (.int .u64 a),w,M,.v (.int .u64 a),.int .u64 a,σ,?_,rfl,Mem.le.refl _,hI,.v _,rfl,rfl⟩
 simp[execOp,e1.1,e1.2,Instr.index,asIntOf,h2.ay,g1.ay,bw hu,part,isAgg,bw PW]⟩
theorem ac0{n:Int}(hn: -576460752303423488≤n∧n≤576460752303423488):Pure Tryz.prog 212 [wA n,iv 1] (.aT [iv n,.v (.bool true)]):=by
 have hS:=Un hn
 have xL:=SN (n:=1) (by omega)
 have pB:=Un (n:=1) (by omega)
 have hD:=acY (x:=n.natAbs) (by omega) (by omega)
 refine afT.p fun σ=> ?_
 repeat'(first|exact .nil|refine .k0 ?_|refine .k1 ?_|refine .k2 ?_|refine .k7 ?_|refine .k9 ?_|(refine .cd ?_ ?_<;>(intro hc;skip))|refine .r1 ?_ ?_|(refine .m1 ?_ ?_;intro b)|refine .an rfl (by intro br;first|exact hS|exact xL|exact pB|fail) ?_ ?_|fail)
 all_goals(try simp only[BL]at *)
 ·exact absurd hc (by decide)
 refine C9 rfl (fun _=>Wn) OB.nil ?_
 repeat'(first|exact .nil|refine .k0 ?_|refine .k1 ?_|refine .k2 ?_|refine .k4 ?_|refine .k7 ?_|refine .k9 ?_|(refine .cd ?_ ?_<;>(intro hc;first|exact kt hc (by assumption)|skip))|refine .r1 ?_ ?_|(refine .l1 ?_;intro b)|refine .an rfl (by intro br;exact hD) ?_ ?_|fail)
 ·exact⟨by decide,by decide⟩
 ·exact absurd hc (by decide)
 ·exact⟨by decide,by decide⟩
 ·exact⟨by decide,by decide⟩
 ·intro _;decide
 ·have:=Yv hc;omega
 ·have ax:n<0:=by
   by_cases h:n<0
   ·exact h
   ·rw[show jr n=0 from Z9 h]at hc;exact absurd hc (by decide)
  rw[bG (n:=(n.natAbs:Int)) (by omega),bG (by omega),show(0:Int)-n.natAbs=n by omega]
  exact Zw
 ·have ax:0≤n:=by
   by_cases h:n<0
   ·rw[show jr n= -1 from Z8 h]at hc;exact absurd hc (by decide)
   ·omega
  rw[bG (n:=(n.natAbs:Int)) (by omega),show(n.natAbs:Int)=n by omega]
  exact Zw
end Go.Proofs.YtcccbdelfhgmlaaGreatDoor
