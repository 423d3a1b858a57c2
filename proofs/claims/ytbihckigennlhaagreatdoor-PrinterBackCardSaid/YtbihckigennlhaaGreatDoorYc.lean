/- Wide numbers as contracts of the layer. -/
import Derived.Test.YtbihckigennlhaaGreatDoorYb
import Derived.Test.YtbihckigennlhaaGreatDoorCodeA
import Derived.Test.YtbihckigennlhaaGreatDoorCodeB
import Derived.RegionTactic
import Derived.OwnWalk
set_option linter.unusedSimpArgs false
set_option linter.unusedVariables false
set_option linter.unusedSectionVars false
set_option maxRecDepth 100000
set_option maxHeartbeats 4000000
namespace Go.Proofs.YtbihckigennlhaaGreatDoor
section
open Go.RowKit Go.Proofs Go.Tb
theorem div_calls(x:Int)(w:World)(hx:0≤x)(hx2:x<18446744073709551616):Calls Tryz.prog 211 #[.int .u64 0,.int .u64 x,.int .u64 1] w fun e w'=>e= .returned (.tuple #[.int .u64 x,.int .u64 0])∧Below w.heap.size w w':=by
 go_enter Tryz.func211,Tryz.ntmps211
 go_wp2
 go_region
 all_goals go_wp2
 all_goals go_ret2
 refine⟨?_,?_⟩
 ·rfl
 ·exact(Below.refl _ _).drew
end
open Go.Sx Go.Proofs Go.Tb
abbrev wA(n:Int):AV:= .agg [iv (hiW n),.v (.int .u64 (loW n))]
theorem of_wA{M:Mem}{n:Int}{v:Value}(h:R M (wA n) v):v=wv n:=by
 obtain⟨cs,rfl,hl⟩:=h.of_agg
 obtain⟨a,as',rfl,h1,h2⟩:=hl.uncons
 obtain⟨b,rfl,h3⟩:=h2.un1
 rw[h1.of_v,h3.of_v]
theorem r_wA{M:Mem}(n:Int):R M (wA n) (wv n):= .agg _ [.int .i64 (hiW n),.int .u64 (loW n)] rfl fun i h1 h2=>by
 match i with
 |0=>exact .v _
 |1=>exact .v _
theorem addC_ok{n m:Int}(hn: -576460752303423488≤n∧n≤576460752303423488)(hm: -576460752303423488≤m∧m≤576460752303423488):Pure Tryz.prog 182 [wA n,wA m] (wA (n+m)):=
 Pure.shelf fun M w0 w σ cs hI hR=>by
  obtain⟨a,as',rfl,h1,h2⟩:=hR.uncons
  obtain⟨b,rfl,h3⟩:=h2.un1
  rw[of_wA h1,of_wA h3]
  exact(add_calls n m w hn hm).mono fun e w' ⟨h,hb⟩=>⟨⟨_,h,r_wA _⟩,hb⟩
abbrev szA(n:Int):AV:= .agg [.v (.int .u64 n.natAbs),.v (.int .u64 0)]
theorem sizeW_ok{n:Int}(hn: -576460752303423488≤n∧n≤576460752303423488):Pure Tryz.prog 210 [wA n] (szA n):=
 Pure.shelf fun M w0 w σ cs hI hR=>by
  obtain⟨a,rfl,h1⟩:=hR.un1
  rw[of_wA h1]
  exact(size_calls n w hn).mono fun e w' ⟨h,hb⟩=>⟨⟨_,h,.agg _ [.int .u64 n.natAbs,.int .u64 0] rfl fun i h1 h2=>by
   match i with
   |0=>exact .v _
   |1=>exact .v _⟩,hb⟩
theorem ofC_ok{n:Int}(hn: -576460752303423488≤n∧n≤576460752303423488):Pure Tryz.prog 183 [iv n] (wA n):=by
 refine Pure.runk (fun _=>0) Tryz.func183 comp183 era183 (Nat.le_of_ble_eq_true rfl) fun σ=> ?_
 repeat'(first|exact .nil|refine .k0 ?_|refine .k1 ?_|refine .k2 ?_|refine .k7 ?_|refine .r1 ?_ ?_|(refine .l1 ?_;intro b)|fail)
 all_goals(try simp only[BL]at *)
 ·decide
 ·rw[show n / 2 ^ Int.toNat 63=hiW n by show n / 9223372036854775808=_;unfold hiW;split<;>omega,show IntKind.u64.wrap n=loW n from IntKind.wrap_u64 n]
  exact Zw
theorem divB_ok{x:Int}(hx:0≤x)(hx2:x<18446744073709551616):Pure Tryz.prog 211 [.v (.int .u64 0),.v (.int .u64 x),.v (.int .u64 1)] (.tup [.v (.int .u64 x),.v (.int .u64 0)]):=
 Pure.shelf fun M w0 w σ cs hI hR=>by
  obtain⟨a,as',rfl,h1,h2⟩:=hR.uncons
  obtain⟨b,bs',rfl,h3,h4⟩:=h2.uncons
  obtain⟨c,rfl,h5⟩:=h4.un1
  rw[h1.of_v,h3.of_v,h5.of_v]
  exact(div_calls x w hx hx2).mono fun e w' ⟨h,hb⟩=>⟨⟨_,h,.tup _ [.int .u64 x,.int .u64 0] rfl fun i h1 h2=>by
   match i with
   |0=>exact .v _
   |1=>exact .v _⟩,hb⟩
theorem OpP_ixa{x i:Operand}{ty:TypeId}{a b:Int}:OpP Tryz.prog (.index 239 x i) ty [] [x,i] [.agg [.v (.int .u64 a),.v (.int .u64 b)],.v (.int .i64 0)] (.v (.int .u64 a)):=⟨fun σ hti M w0 w ρ hI hR=>by
 obtain⟨v1,vs1,e1,h1,hR1⟩:=hR.uncons
 obtain⟨v2,e2,h2⟩:=hR1.un1
 subst e2
 simp only[List.map_cons,List.map_nil,List.cons.injEq,and_true]at e1
 obtain⟨cs,rfl,hl⟩:=h1.of_agg
 obtain⟨p,ps,rfl,g1,g2⟩:=hl.uncons
 obtain⟨q,rfl,g3⟩:=g2.un1
 have hu:=Tryz.underlying239
 have h64:=Tryz.underlying210
 refine⟨.value (.int .u64 a),w,M,.v (.int .u64 a),.int .u64 a,σ,?_,rfl,Mem.le.refl _,hI,.v _,rfl,rfl⟩
 simp[execOp,e1.1,e1.2,Instr.index,asIntOf,h2.of_v,g1.of_v,run_under hu,part,isAgg,run_under h64]⟩
theorem divideC_ok{n:Int}(hn: -576460752303423488≤n∧n≤576460752303423488):Pure Tryz.prog 185 [wA n,iv 1] (.tup [iv n,.v (.bool true)]):=by
 have hS:=sizeW_ok hn
 have hO1:=ofC_ok (n:=1) (by omega)
 have hS1:=sizeW_ok (n:=1) (by omega)
 have hD:=divB_ok (x:=n.natAbs) (by omega) (by omega)
 refine Pure.runk (fun _=>0) Tryz.func185 comp185 era185 (Nat.le_of_ble_eq_true rfl) fun σ=> ?_
 repeat'(first|exact .nil|refine .k0 ?_|refine .k1 ?_|refine .k2 ?_|refine .k7 ?_|refine .k9 ?_|(refine .cd ?_ ?_<;>(intro hc;skip))|refine .r1 ?_ ?_|(refine .m1 ?_ ?_;intro b)|refine .an rfl (by intro hob;first|exact hS|exact hO1|exact hS1|fail) ?_ ?_|fail)
 all_goals(try simp only[BL]at *)
 ·exact absurd hc (by decide)
 refine VX_extq rfl (fun _=>OpP_ixa) OB.nil ?_
 repeat'(first|exact .nil|refine .k0 ?_|refine .k1 ?_|refine .k2 ?_|refine .k4 ?_|refine .k7 ?_|refine .k9 ?_|(refine .cd ?_ ?_<;>(intro hc;first|exact kt hc (by assumption)|skip))|refine .r1 ?_ ?_|(refine .l1 ?_;intro b)|refine .an rfl (by intro hob;exact hD) ?_ ?_|fail)
 ·exact⟨by decide,by decide⟩
 ·exact absurd hc (by decide)
 ·exact⟨by decide,by decide⟩
 ·exact⟨by decide,by decide⟩
 ·intro _;decide
 ·have:=of_decide_eq_true hc;omega
 ·have hlt:n<0:=by
   by_cases h:n<0
   ·exact h
   ·rw[show hiW n=0 from if_neg h]at hc;exact absurd hc (by decide)
  rw[i64w (n:=(n.natAbs:Int)) (by omega),i64w (by omega),show(0:Int)-n.natAbs=n by omega]
  exact Zw
 ·have hlt:0≤n:=by
   by_cases h:n<0
   ·rw[show hiW n= -1 from if_pos h]at hc;exact absurd hc (by decide)
   ·omega
  rw[i64w (n:=(n.natAbs:Int)) (by omega),show(n.natAbs:Int)=n by omega]
  exact Zw
end Go.Proofs.YtbihckigennlhaaGreatDoor
