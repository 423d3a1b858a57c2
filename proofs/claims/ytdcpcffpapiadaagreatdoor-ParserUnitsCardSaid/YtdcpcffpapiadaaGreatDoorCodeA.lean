/- The compiled code of functions, printed by a program of mine. -/
import Derived.Test.YtdcpcffpapiadaaGreatDoorGi
import Derived.Test.YtdcpcffpapiadaaGreatDoorRows
set_option linter.unusedVariables false
namespace Go.Sx
abbrev za(a0 a1:Nat):CI:=q0 a0 (.mv (.tmp a1))
abbrev zb(a0 a1:Nat):CI:=q0 a0 (.alloc a1 (.agg (List.toArray (List.append (List.append [.int .u8 0,.int .u8 0,.int .u8 0,.int .u8 0,.int .u8 0,.int .u8 0,.int .u8 0,.int .u8 0,.int .u8 0,.int .u8 0,.int .u8 0,.int .u8 0,.int .u8 0,.int .u8 0,.int .u8 0,.int .u8 0,.int .u8 0,.int .u8 0,.int .u8 0,.int .u8 0,.int .u8 0,.int .u8 0,.int .u8 0,.int .u8 0,.int .u8 0,.int .u8 0,.int .u8 0,.int .u8 0,.int .u8 0,.int .u8 0,.int .u8 0,.int .u8 0,.int .u8 0,.int .u8 0,.int .u8 0,.int .u8 0,.int .u8 0,.int .u8 0,.int .u8 0,.int .u8 0,.int .u8 0,.int .u8 0,.int .u8 0,.int .u8 0,.int .u8 0,.int .u8 0,.int .u8 0,.int .u8 0,.int .u8 0,.int .u8 0,.int .u8 0,.int .u8 0,.int .u8 0,.int .u8 0,.int .u8 0,.int .u8 0,.int .u8 0,.int .u8 0,.int .u8 0,.int .u8 0,.int .u8 0,.int .u8 0,.int .u8 0,.int .u8 0] [.int .u8 0,.int .u8 0,.int .u8 0,.int .u8 0,.int .u8 0,.int .u8 0,.int .u8 0,.int .u8 0,.int .u8 0,.int .u8 0,.int .u8 0,.int .u8 0,.int .u8 0,.int .u8 0,.int .u8 0,.int .u8 0,.int .u8 0,.int .u8 0,.int .u8 0,.int .u8 0,.int .u8 0,.int .u8 0,.int .u8 0,.int .u8 0,.int .u8 0,.int .u8 0,.int .u8 0,.int .u8 0,.int .u8 0,.int .u8 0,.int .u8 0,.int .u8 0,.int .u8 0,.int .u8 0,.int .u8 0,.int .u8 0,.int .u8 0,.int .u8 0,.int .u8 0,.int .u8 0,.int .u8 0,.int .u8 0,.int .u8 0,.int .u8 0,.int .u8 0,.int .u8 0,.int .u8 0,.int .u8 0,.int .u8 0,.int .u8 0,.int .u8 0,.int .u8 0,.int .u8 0,.int .u8 0,.int .u8 0,.int .u8 0,.int .u8 0,.int .u8 0,.int .u8 0,.int .u8 0,.int .u8 0,.int .u8 0,.int .u8 0,.int .u8 0]) (List.append [.int .u8 0,.int .u8 0,.int .u8 0,.int .u8 0,.int .u8 0,.int .u8 0,.int .u8 0,.int .u8 0,.int .u8 0,.int .u8 0,.int .u8 0,.int .u8 0,.int .u8 0,.int .u8 0,.int .u8 0,.int .u8 0,.int .u8 0,.int .u8 0,.int .u8 0,.int .u8 0,.int .u8 0,.int .u8 0,.int .u8 0,.int .u8 0,.int .u8 0,.int .u8 0,.int .u8 0,.int .u8 0,.int .u8 0,.int .u8 0,.int .u8 0,.int .u8 0,.int .u8 0,.int .u8 0,.int .u8 0,.int .u8 0,.int .u8 0,.int .u8 0,.int .u8 0,.int .u8 0,.int .u8 0,.int .u8 0,.int .u8 0,.int .u8 0,.int .u8 0,.int .u8 0,.int .u8 0,.int .u8 0,.int .u8 0,.int .u8 0,.int .u8 0,.int .u8 0,.int .u8 0,.int .u8 0,.int .u8 0,.int .u8 0,.int .u8 0,.int .u8 0,.int .u8 0,.int .u8 0,.int .u8 0,.int .u8 0,.int .u8 0,.int .u8 0] [.int .u8 0,.int .u8 0,.int .u8 0,.int .u8 0,.int .u8 0,.int .u8 0,.int .u8 0,.int .u8 0,.int .u8 0,.int .u8 0,.int .u8 0,.int .u8 0,.int .u8 0,.int .u8 0,.int .u8 0,.int .u8 0,.int .u8 0,.int .u8 0,.int .u8 0,.int .u8 0,.int .u8 0,.int .u8 0,.int .u8 0,.int .u8 0,.int .u8 0,.int .u8 0,.int .u8 0,.int .u8 0,.int .u8 0,.int .u8 0,.int .u8 0,.int .u8 0,.int .u8 0,.int .u8 0,.int .u8 0,.int .u8 0,.int .u8 0,.int .u8 0,.int .u8 0,.int .u8 0,.int .u8 0,.int .u8 0,.int .u8 0,.int .u8 0,.int .u8 0,.int .u8 0,.int .u8 0,.int .u8 0,.int .u8 0,.int .u8 0,.int .u8 0,.int .u8 0,.int .u8 0,.int .u8 0,.int .u8 0,.int .u8 0,.int .u8 0,.int .u8 0,.int .u8 0,.int .u8 0,.int .u8 0,.int .u8 0,.int .u8 0,.int .u8 0])))))
abbrev zc(a0 a1 a2:Nat):CI:= .mk none (.store a0 (.tmp a1) (.tmp a2)) none
abbrev zd(a0 a1:Nat):CI:=q0 a0 (.alloc a1 (.agg #[.int .i64 0,.string ⟨#[]⟩,.string ⟨#[]⟩,.string ⟨#[]⟩,.int .i64 0,.int .i64 0,.string ⟨#[]⟩,.slice none 0 0,.int .i64 0,.int .i64 0,.int .i64 0,.slice none 0 0]))
abbrev ze(a0 a1 a2:Nat):CI:=q0 a0 (.load false a1 (.tmp a2))
abbrev zf(a0 a1 a2 a3:Nat):CI:=q0 a0 (.iaddr a1 (.tmp a2) (.tmp a3))
abbrev zg(a0 a1 a2:Nat):CI:=q0 a0 (.faddr a1 (.tmp a2))
abbrev zh(a0 a1 a2:Nat):CI:=q0 a0 (.extract (.tmp a1) a2)
abbrev zi(a0 a1 a2:Nat):CI:=q1 a0 (.mv (.tmp a1)) a2 true
abbrev zj(a0 a1 a2:Nat):CI:=q0 a0 (.pick (.tmp a1) (.tmp a2) kF)
abbrev zk(a0:Nat)(a1:Int):CI:=q0 a0 (.mv (ki a1))
abbrev zl(a0 a1 a2:Nat):CI:=q0 a0 (.call a1 [.tmp a2])
abbrev zm(a0 a1 a2:Nat):CI:=q0 a0 (.pick (.tmp a1) kT (.tmp a2))
abbrev zn(a0 a1:Nat)(a2:Int):CI:=q0 a0 (.bin .add (.tmp a1) (ki a2))
abbrev zo(a0 a1 a2 a3:Nat):CI:=q1 a0 (.load false a1 (.tmp a2)) a3 true
abbrev zp(a0 a1 a2:Nat):CI:=q0 a0 (.load true a1 (.tmp a2))
abbrev zq(a0 a1 a2:Nat):CI:=q1 a0 (.mv (.tmp a1)) a2 false
abbrev zr(a0 a1 a2:Nat):CI:=q0 a0 (.bin .lss (.tmp a1) (.tmp a2))
abbrev zs(a0 a1 a2 a3:Nat):CI:=q1 a0 (.faddr a1 (.tmp a2)) a3 false
abbrev zt(a0 a1 a2 a3:Nat):CI:=q1 a0 (.load false a1 (.tmp a2)) a3 false
abbrev zu(a0 a1:Nat):CI:=q0 a0 (.nilck (.tmp a1))
abbrev zv(a0 a1 a2 a3:Nat):CI:=q0 a0 (.append a1 18 248 [.string ⟨#[]⟩,.string ⟨#[]⟩,.int .i64 0,.slice none 0 0,.string ⟨#[]⟩,.int .i64 0,.string ⟨#[]⟩,.string ⟨#[]⟩,.string ⟨#[]⟩,.int .i64 0,.int .i64 0,.string ⟨#[]⟩,.slice none 0 0,.int .i64 0,.int .i64 0,.int .i64 0,.slice none 0 0,.int .i64 0] (.tmp a2) (.tmp a3))
abbrev zw(a0 a1:Nat)(a2:Int):CI:=q0 a0 (.bin .sub (.tmp a1) (ki a2))
abbrev zx(a0 a1:Nat):CI:=q0 a0 (.len false (.tmp a1))
abbrev zy(a0 a1 a2:Nat):CI:=q0 a0 (.bin .add (.tmp a1) (.tmp a2))
abbrev zz(a0 a1 a2 a3 a4:Nat):CI:=q1 a0 (.iaddr a1 (.tmp a2) (.tmp a3)) a4 true
abbrev zaa(a0 a1 a2:Nat)(a3:Int):CI:=q0 a0 (.iaddr a1 (.tmp a2) (ki a3))
abbrev zab(a0 a1:Nat)(a2:Int):CI:=q0 a0 (.bin .eql (.tmp a1) (ki a2))
abbrev zac(a0 a1 a2:Nat):CI:=q0 a0 (.bin .sub (.tmp a1) (.tmp a2))
abbrev zad(a0:Nat)(a1:Int)(a2 a3:Nat):CI:=q0 a0 (.build [.int .i64 0,.string ⟨#[]⟩,.string ⟨#[]⟩,.string ⟨#[]⟩,.int .i64 0,.int .i64 0,.string ⟨#[]⟩,.slice none 0 0,.int .i64 0,.int .i64 0,.int .i64 0,.slice none 0 0] [(0,1,ki a1),(1,1,.tmp a2),(11,1,.tmp a3)])
abbrev zae(a0 a1:Nat)(a2:Int)(a3:Nat):CI:=q1 a0 (.bin .eql (.tmp a1) (ki a2)) a3 true
abbrev zaf(a0 a1:Nat):CI:=q0 a0 (.bin .and (.tmp a1) (.const (.int .u8 63)))
abbrev zag(a0:Nat):CI:=q0 a0 (.mv kF)
abbrev zah(a0:Nat)(a1:Int)(a2:Nat):CI:=q0 a0 (.build [.int .i64 0,.string ⟨#[]⟩,.string ⟨#[]⟩,.string ⟨#[]⟩,.int .i64 0,.int .i64 0,.string ⟨#[]⟩,.slice none 0 0,.int .i64 0,.int .i64 0,.int .i64 0,.slice none 0 0] [(0,1,ki a1),(4,3,.tmp a2)])
abbrev zai(a0:Nat)(a1:Int)(a2:Nat):CI:=q0 a0 (.build [.int .i64 0,.string ⟨#[]⟩,.string ⟨#[]⟩,.string ⟨#[]⟩,.int .i64 0,.int .i64 0,.string ⟨#[]⟩,.slice none 0 0,.int .i64 0,.int .i64 0,.int .i64 0,.slice none 0 0] [(0,1,ki a1),(2,1,.tmp a2)])
abbrev zaj(a0 a1 a2 a3:Nat):CI:=q1 a0 (.faddr a1 (.tmp a2)) a3 true
abbrev zak(a0 a1 a2 a3 a4:Nat):CI:=q1 a0 (.call a1 [.tmp a2,.tmp a3]) a4 true
abbrev zal(a0 a1:Nat):CI:=q0 a0 (.alloc a1 (.agg #[.string ⟨#[]⟩,.string ⟨#[]⟩,.int .i64 0,.slice none 0 0,.string ⟨#[]⟩,.int .i64 0,.string ⟨#[]⟩,.string ⟨#[]⟩,.string ⟨#[]⟩,.int .i64 0,.int .i64 0,.string ⟨#[]⟩,.slice none 0 0,.int .i64 0,.int .i64 0,.int .i64 0,.slice none 0 0,.int .i64 0]))
abbrev zam(a0:Nat):CI:=q0 a0 (.mv (.const (.slice none 0 0)))
abbrev zan(a0 a1:Nat):CI:=q0 a0 (.alloc a1 (.agg #[.slice none 0 0,.slice none 0 0]))
abbrev zao(a0 a1 a2 a3:Nat):CI:=q1 a0 (.load true a1 (.tmp a2)) a3 false
abbrev zap(a0 a1 a2 a3:Nat):CI:=q0 a0 (.extq (.convert 22 22 (.tmp a1)) a2 [.sl 5,.int .u8,.sl 5,.int .u8] [.tmp a3])
abbrev zaq(a0 a1:Nat):CI:=q0 a0 (.cvint .i32 (.tmp a1))
abbrev zar(a0 a1 a2 a3:Nat):CI:=q0 a0 (.call a1 [.tmp a2,.tmp a3])
abbrev zas(a0:Nat)(a1:Int)(a2:Nat):CI:=q0 a0 (.build [.int .i64 0,.string ⟨#[]⟩,.string ⟨#[]⟩,.string ⟨#[]⟩,.int .i64 0,.int .i64 0,.string ⟨#[]⟩,.slice none 0 0,.int .i64 0,.int .i64 0,.int .i64 0,.slice none 0 0] [(0,1,ki a1),(11,1,.tmp a2)])
abbrev zat(a0 a1:Nat)(a2:Int):CI:=q0 a0 (.bin .neq (.tmp a1) (ki a2))
abbrev zau(a0 a1 a2 a3 a4 a5 a6:Nat):CI:=q0 a0 (.call a1 [.tmp a2,.tmp a3,.tmp a4,.tmp a5,.tmp a6])
abbrev zav(a0 a1:Nat)(a2:Int)(a3:Nat):CI:=q1 a0 (.bin .neq (.tmp a1) (ki a2)) a3 false
abbrev zaw(a0 a1 a2 a3:Nat):CI:=q0 a0 (.extq (.convert 9 22 (.tmp a1)) a2 [.str,.other,.sl 5,.int .u8] [.tmp a3])
abbrev zax(a0 a1 a2 a3 a4 a5:Nat):CI:=q0 a0 (.call a1 [.tmp a2,.tmp a3,.tmp a4,.tmp a5])
abbrev zay(a0 a1 a2 a3 a4:Nat):CI:=q0 a0 (.call a1 [.tmp a2,.tmp a3,.tmp a4])
abbrev zaz(a0 a1 a2 a3:Nat):CI:=q1 a0 (.bin .neq (.tmp a1) (.tmp a2)) a3 false
abbrev za0(a0 a1 a2 a3:Nat):CI:=q0 a0 (.append a1 1 1 [.int .u8 0] (.tmp a2) (.tmp a3))
abbrev za1(a0 a1 a2 a3:Nat):CI:=q1 a0 (.load true a1 (.tmp a2)) a3 true
abbrev za2(a0 a1 a2:Nat)(a3:Int):CI:=q0 a0 (.call a1 [.tmp a2,ki a3])
abbrev za3(a0 a1:Nat)(a2:Int):CI:=q0 a0 (.bin .gtr (.tmp a1) (ki a2))
abbrev za4(a0 a1 a2:Nat):CI:=q0 a0 (.box a1 (.tmp a2))
abbrev za5(a0 a1 a2 a3:Nat):CI:=q0 a0 (.append a1 4 64 [.string ⟨#[]⟩,.string ⟨#[]⟩,.slice none 0 0,.int .i64 0] (.tmp a2) (.tmp a3))
abbrev za6(a0 a1:Nat):CI:=q0 a0 (.un .not (.tmp a1))
abbrev za7(a0 a1 a2:Nat):CI:=q0 a0 (.bin .or (.tmp a1) (.tmp a2))
abbrev za8(a0 a1:Nat)(a2:Int):CI:=q0 a0 (.bin .lss (.tmp a1) (ki a2))
abbrev za9(a0 a1:Nat)(a2:Int)(a3:Nat):CI:=q1 a0 (.bin .gtr (.tmp a1) (ki a2)) a3 false
abbrev zba(a0 a1 a2:Nat):CI:=q1 a0 (.len false (.tmp a1)) a2 false
abbrev zbb(a0 a1 a2:Nat):CI:=q0 a0 (.bin .gtr (.tmp a1) (.tmp a2))
abbrev zbc(a0 a1 a2:Nat):CI:=q0 a0 (.bin .neq (.tmp a1) (.tmp a2))
abbrev zbd(a0 a1:Nat)(a2:Int):CI:=q0 a0 (.bin .geq (.tmp a1) (ki a2))
abbrev zbe(a0:Nat):CI:=q0 a0 (.mv (.const (.int .i32 65533)))
abbrev zbf(a0 a1:Nat)(a2:Int):CI:=q0 a0 (.slice 3 (.tmp a1) (some (ki a2)) none)
abbrev zbg(a0 a1 a2:Nat):CI:=q1 a0 (.len false (.tmp a1)) a2 true
abbrev zbh(a0:Nat)(a1:Int)(a2:Nat):CI:=q0 a0 (.build [.int .i64 0,.int .i64 0,.string ⟨#[]⟩] [(0,1,ki a1),(1,1,.tmp a2)])
abbrev zbi(a0 a1:Nat):CI:=q0 a0 (.alloc a1 (.agg #[.int .i64 0,.slice none 0 0,.string ⟨#[]⟩]))
abbrev zbj(a0 a1 a2 a3:Nat):CI:=q0 a0 (.extq (.convert 22 9 (.tmp a1)) a2 [.sl 5,.int .u8,.str,.other] [.tmp a3])
abbrev zbk(a0 a1:Nat):CI:=q0 a0 (.alloc a1 (.agg #[.int .i64 0,.string ⟨#[]⟩,.int .i64 0]))
abbrev zbl(a0 a1 a2:Nat):CI:=q0 a0 (.bin .leq (.tmp a1) (.tmp a2))
abbrev zbm(a0 a1 a2 a3 a4:Nat):CI:=q1 a0 (.call a1 [.tmp a2,.tmp a3]) a4 false
abbrev zbn(a0 a1 a2:Nat)(a3:Int)(a4:Nat):CI:=q1 a0 (.iaddr a1 (.tmp a2) (ki a3)) a4 true
abbrev zbo(a0 a1:Nat)(a2:Int)(a3:Nat):CI:=q1 a0 (.bin .sub (.tmp a1) (ki a2)) a3 true
abbrev zbp(a0 a1:Nat):CI:=q0 a0 (.bin .shl (.tmp a1) (.const (.int .u64 6)))
abbrev zbr(a0 a1:Nat):CI:=q0 a0 (.cvint .i64 (.tmp a1))
abbrev zbs(a0:Nat):CI:=q0 a0 (.mv kT)
abbrev zbt(a0 a1:Nat)(a2:Int):CI:=q0 a0 (.bin .quo (.tmp a1) (ki a2))
abbrev zbv(a0:Nat)(a1:Int)(a2:Nat):CI:=q0 a0 (.build [.int .i64 0,.slice none 0 0,.string ⟨#[]⟩] [(0,1,ki a1),(1,1,.tmp a2)])
abbrev zbw(a0 a1:Nat):CI:=q0 a0 (.len true (.tmp a1))
abbrev zbx(a0 a1:Nat):CI:=q0 a0 (.alloc a1 (.agg #[.string ⟨#[]⟩,.int .i64 0]))
abbrev zby(a0 a1 a2:Nat):CI:=q0 a0 (.bin .eql (.tmp a1) (.tmp a2))
abbrev zbz(a0 a1 a2 a3:Nat):CI:=q0 a0 (.callv (.tmp a1) [.tmp a2,.tmp a3])
abbrev zb0(a0 a1 a2 a3:Nat):CI:=q0 a0 (.append a1 3 32 [.int .i64 0,.string ⟨#[]⟩,.int .i64 0] (.tmp a2) (.tmp a3))
abbrev zb1(a0 a1:Nat):CI:=q0 a0 (.bin .lss (.tmp a1) (.const (.int .u8 128)))
abbrev zb2(a0 a1 a2:Nat):CI:=q1 a0 (.un .not (.tmp a1)) a2 false
abbrev zb3(a0 a1:Nat)(a2:Int):CI:=q0 a0 (.bin .leq (.tmp a1) (ki a2))
abbrev zb4(a0 a1 a2:Nat):CI:=q1 a0 (.call a1 []) a2 true
abbrev zb5(a0 a1 a2 a3:Nat):CI:=q0 a0 (.slice 1 (.tmp a1) (some (.tmp a2)) (some (.tmp a3)))
abbrev zb6(a0 a1 a2:Nat):CI:=q1 a0 (.bin .lss (.const (.int .u8 191)) (.tmp a1)) a2 false
abbrev zb7(a0 a1 a2:Nat):CI:=q1 a0 (.un .not (.tmp a1)) a2 true
abbrev zb8(a0 a1:Nat):CI:=q0 a0 (.cvint .u64 (.tmp a1))
abbrev zb9(a0 a1 a2 a3 a4:Nat):CI:=q1 a0 (.iaddr a1 (.tmp a2) (.tmp a3)) a4 false
abbrev zca(a0 a1 a2:Nat):CI:=q0 a0 (.build [.int .i64 0,.int .i64 0] [(0,1,.tmp a1),(1,1,.tmp a2)])
abbrev zcb(a0 a1 a2 a3:Nat):CI:=q0 a0 (.mksl a1 12 [.tmp a2,.tmp a3])
abbrev zcc(a0 a1 a2 a3:Nat):CI:=q1 a0 (.bin .lss (.tmp a1) (.tmp a2)) a3 true
abbrev zcd(a0 a1 a2 a3:Nat):CI:=q1 a0 (.bin .eql (.tmp a1) (.tmp a2)) a3 true
abbrev zce(a0:Nat):CI:=q0 a0 (.mv (.const (.int .i64 (-1))))
abbrev zcf(a0 a1 a2:Nat):CI:=q0 a0 (.bin .geq (.tmp a1) (.tmp a2))
abbrev zcg(a0:Nat)(a1:Int)(a2:Nat):CI:=q0 a0 (.build [.int .i64 0,.int .i64 0] [(0,1,ki a1),(1,1,.tmp a2)])
abbrev zch(a0 a1 a2 a3:Nat):CI:=q1 a0 (.pick (.tmp a1) kT (.tmp a2)) a3 true
abbrev zci(a0 a1 a2 a3:Nat):CI:=q0 a0 (.build [.int .i64 0,.string ⟨#[]⟩,.int .i64 0] [(0,1,.tmp a1),(1,1,.tmp a2),(2,1,.tmp a3)])
abbrev zcj(a0 a1 a2 a3:Nat):CI:=q0 a0 (.append a1 2 24 [.string ⟨#[]⟩,.int .i64 0] (.tmp a2) (.tmp a3))
abbrev zck(a0 a1 a2 a3:Nat):CI:=q0 a0 (.append a1 2 16 [.int .i64 0,.int .i64 0] (.tmp a2) (.tmp a3))
abbrev zcl(a0 a1:Nat)(a2:Int):CI:=q0 a0 (.bin .mul (.tmp a1) (ki a2))
abbrev zcm(a0 a1:Nat):CI:=q0 a0 (.alloc a1 (.agg #[.int .i64 0,.int .i64 0]))
abbrev zcn(a0 a1:Nat):CI:=q0 a0 (.bin .shl (.tmp a1) (.const (.int .u64 12)))
abbrev zco(a0 a1:Nat):CI:=q0 a0 (.bin .shr (.tmp a1) (.const (.int .u64 1)))
abbrev zcp(a0 a1:Nat):CI:=q0 a0 (.bin .and (.tmp a1) (.const (.int .u8 7)))
abbrev zcq(a0 a1:Nat)(a2:Int):CI:=q0 a0 (.idxs (.tmp a1) (ki a2))
abbrev zcr(a0 a1 a2 a3:Nat):CI:=q1 a0 (.bin .lss (.tmp a1) (.tmp a2)) a3 false
abbrev zcs(a0 a1:Nat):CI:=q0 a0 (.build [.int .i64 0,.int .i64 0] [(0,2,.tmp a1)])
abbrev zct(a0:Nat)(a1 a2:Int):CI:=q0 a0 (.build [.int .i64 0,.int .i64 0,.string ⟨#[]⟩] [(0,1,ki a1),(1,1,ki a2)])
abbrev zcu(a0 a1 a2:Nat):CI:=q0 a0 (.mksl a1 2 [.tmp a2])
abbrev zcv(a0 a1 a2:Nat):CI:=q0 a0 (.idxs (.tmp a1) (.tmp a2))
abbrev zcw(a0 a1 a2:Nat):CI:=q0 a0 (.iaddrA 256 1 (.tmp a1) (.tmp a2))
abbrev zcx(a0 a1 a2:Nat):CI:=q0 a0 (.build [.string ⟨#[]⟩,.int .i64 0] [(0,1,.tmp a1),(1,1,.tmp a2)])
abbrev zcy(a0 a1:Nat):CI:=q0 a0 (.bin .eql (.tmp a1) (ks ⟨#[113,117,97,110,116,105,108,101]⟩))
abbrev zc0(a0 a1:Nat):CI:=q0 a0 (.field false 1 1 (.tmp a1))
abbrev zc1(a0:Nat):CI:=q0 a0 (.mv (.const (.int .i32 0)))
abbrev zc2(a0:Nat):CI:=q0 a0 (.mv (ks ⟨#[]⟩))
abbrev zc3(a0 a1:Nat):CI:=q0 a0 (.bin .eql (.tmp a1) (ks ⟨#[]⟩))
abbrev zc4(a0 a1:Nat):CI:=q0 a0 (.bin .neq (.tmp a1) (ks ⟨#[]⟩))
abbrev ed(k:Nat)(c:CI)(l:List Nat):CD:= .mk k c l
namespace Z
abbrev r(l:List CI)(k:List Nat)(a:AC):AC:= .seq (.reg l) (.keep k a)
abbrev d(l:List CI)(k:List Nat)(a:AC):AC:= .seq (.dreg l) (.keep k a)
abbrev e(l:List CI):AC:= .seq (.reg l) .ret
abbrev s(a:AC)(k:List Nat)(b:AC):AC:= .seq a (.keep k b)
abbrev c(n:Nat)(a b:AC):AC:= .cond (.tmp n) a b
abbrev g(l:List CI):AC:= .reg l
abbrev l(k:List Nat)(a:AC):AC:= .loop (.keep k a)
abbrev k(k:List Nat)(a:AC):AC:= .keep k a
abbrev b(n:Nat)(a:AC):AC:= .block n a
end Z
end Go.Sx
namespace Go.Proofs.YtdcpcffpapiadaaGreatDoor
open Go.Sx
def s3_0:=[zag 2]
def s3_1:=[q0 17 (.exts (.makeSlice 22 (ki 16385) (ki 16385)) 22 [.sl 5,.int .u8] [ki 16385,ki 16385]),za 3 17]
def s3_2:=[zk 4 0]
def s3_3:=[za 18 4,za 19 3,zx 20 19,zr 21 18 20]
def s3_4:=[za 24 3,za 25 4,zf 26 1 24 25,.mk none (.store 1 (.tmp 26) (.const (.int .u8 32))) none]
def s3_5:=[za 22 4,zn 23 22 1,za 4 23]
def s3_6:=[za 27 3,za 28 0,zaa 29 1 27 0,zc 1 29 28]
def s3_7:=[za 31 3,zl 32 9 31,za 30 32,zh 33 30 0,zh 34 30 1,zh 35 30 2,zan 5 26,zc 2 5 33,za 6 34,za 7 35]
def s3_8:=[za 37 3,zl 38 10 37,za 36 38,zh 39 36 0,zh 40 36 1,zh 41 36 2,zd 8 38,zc 12 8 39,za 9 40,za 10 41]
def s3_9:=[za 43 3,zl 44 11 43,za 42 44,zh 45 42 0,zh 46 42 1,zh 47 42 2,zbi 11 42,zc 3 11 45,za 12 46,za 13 47]
def s3_10:=[za 49 3,q0 50 (.slice 1 (.tmp 49) none (some (ki 16384))),zl 51 9 50,za 48 51,zh 52 48 0,zh 53 48 1,zh 54 48 2,zan 14 26,zc 2 14 52,za 15 53,za 16 54]
def s3_11:=[zg 55 0 5,ze 56 1 55,zx 57 56,zab 58 57 0,za 59 58,zaj 60 1 5 59,zo 61 1 60 59,zbg 62 61 59,zae 63 62 0 59,zj 64 59 63,za 65 64,zi 66 6 65,zbg 67 66 65,zae 68 67 0 65,zj 69 65 68,za 70 69,zi 71 7 70,zae 72 71 2 70,zj 73 70 72,za 74 73,zi 75 10 74,zae 76 75 2 74,zj 77 74 76,za 78 77,zi 79 13 78,zae 80 79 2 78,zj 81 78 80,za 82 81,zi 83 9 82,zae 84 83 0 82,zj 85 82 84,za 86 85,zi 87 12 86,zae 88 87 0 86,zj 89 86 88,za 90 89,zi 91 16 90,zae 92 91 0 90,zj 93 90 92,za 94 93,zb4 95 12 94,zj 96 94 95,za 2 96]
def a3:AC:=Z.r s3_0 [0] (Z.r s3_1 [0,3] (Z.s (Z.r s3_2 [0,3,4] (Z.b 0 (Z.l [0,3,4] (Z.s (Z.r s3_3 [0,3,4,21] (Z.c 21 .skip (.exit 0))) [0,3,4] (Z.s (Z.b 1 (Z.g s3_4)) [0,3,4] (Z.g s3_5)))))) [0,3] (Z.r s3_6 [3] (Z.r s3_7 [3,5,6,7] (Z.r s3_8 [3,5,6,7,9,10] (Z.r s3_9 [3,5,6,7,9,10,12,13] (Z.r s3_10 [5,6,7,9,10,12,13,16] (Z.e s3_11))))))))
def c3:FC:=⟨97,a3.erase,[.tmp 2]⟩
def s4_0:=[zag 4]
def s4_1:=[za 19 0,za2 20 13 19 1000,za 5 20]
def s4_2:=[za 21 1,za2 22 13 21 1000,za 6 22]
def s4_3:=[za 24 5,zl 25 9 24,za 23 25,zh 26 23 0,zh 27 23 1,zh 28 23 2,zan 7 26,zc 2 7 26,za 8 27,za 9 28]
def s4_4:=[za 30 6,zl 31 9 30,za 29 31,zh 32 29 0,zh 33 29 1,zh 34 29 2,zan 10 26,zc 2 10 32,za 11 33,za 12 34]
def s4_5:=[za 35 9,zat 36 35 0,za 37 36,zq 38 12 37,zav 39 38 0 37,zm 40 37 39,za 41 40,zq 42 8 41,zba 43 42 41,za9 44 43 0 41,zm 45 41 44]
def s4_6:=[za 46 9,zab 47 46 0,za 48 47,zi 49 12 48,zae 50 49 0 48,zj 51 48 50,za 52 51,zb4 53 12 52,zj 54 52 53,za 4 54]
def s4_7:=[q0 55 (.mksl 5 1 []),za 56 5,za0 57 5 55 56,q0 58 (.mksl 5 1 [.const (.int .u8 10)]),za0 59 5 57 58,za 60 6,za0 61 5 59 60,za 13 61]
def s4_8:=[za 63 13,zl 64 9 63,za 62 64,zh 65 62 0,zh 66 62 1,zh 67 62 2,zan 14 26,zc 2 14 65,za 15 66,za 16 67]
def s4_9:=[ed 0 (q0 68 (.mksl 95 4 [])) [],ed 1 (zg 69 0 7) [],ed 2 (ze 70 1 69) [],ed 4 (zg 72 0 10) [],ed 5 (ze 73 1 72) [],ed 3 (za5 71 95 68 70) [],ed 6 (za5 74 95 71 73) [],ed 7 (zg 75 0 7) [],ed 8 (zc 1 75 74) [7]]
def s4_10:=[ed 0 (q0 76 (.mksl 98 18 [])) [],ed 1 (zg 77 1 7) [],ed 2 (ze 78 1 77) [],ed 4 (zg 80 1 10) [],ed 5 (ze 81 1 80) [],ed 3 (zv 79 98 76 78) [],ed 6 (zv 82 98 79 81) [],ed 7 (zg 83 1 7) [],ed 8 (zc 1 83 82) [7]]
def s4_11:=[zam 17]
def s4_12:=[zk 18 0]
def s4_13:=[za 84 18,za 85 11,zx 86 85,zr 87 84 86]
def s4_14:=[za 90 17,za 91 11,za 92 18,zf 93 2 91 92,zg 94 0 93,ze 95 1 94,za 96 5,zx 97 96,zy 98 95 97,zn 99 98 1,za 100 11,za 101 18,zf 102 2 100 101,zg 103 1 102,ze 104 1 103,zca 105 99 104,zcu 106 49 105,zck 107 49 90 106,za 17 107]
def s4_15:=[za 88 18,zn 89 88 1,za 18 89]
def s4_16:=[za 108 16,zab 109 108 0,za 110 109,za1 111 2 14 110,za1 112 2 7 110,zak 113 14 111 112 110,zj 114 110 113,za 115 114,zi 116 15 115,zi 117 17 115,zak 118 15 116 117 115,zj 119 115 118,za 120 119,zb4 121 12 120,zj 122 120 121,za 4 122]
def a4:AC:=Z.r s4_0 [0,1] (Z.r s4_1 [1,5] (Z.r s4_2 [5,6] (Z.r s4_3 [5,6,7,8,9] (Z.r s4_4 [5,6,7,8,9,10,11,12] (Z.s (Z.r s4_5 [5,6,7,9,10,11,12,45] (Z.c 45 (Z.e s4_6) .skip)) [5,6,7,10,11] (Z.r s4_7 [5,7,10,11,13] (Z.r s4_8 [5,7,10,11,14,15,16] (Z.s (.mreg [71,74] s4_9) [5,7,10,11,14,15,16] (Z.s (.mreg [79,82] s4_10) [5,7,11,14,15,16] (Z.r s4_11 [5,7,11,14,15,16,17] (Z.s (Z.r s4_12 [5,7,11,14,15,16,17,18] (Z.b 0 (Z.l [5,7,11,14,15,16,17,18] (Z.s (Z.r s4_13 [5,7,11,14,15,16,17,18,87] (Z.c 87 .skip (.exit 0))) [5,7,11,14,15,16,17,18] (Z.s (Z.b 1 (.dreg s4_14)) [5,7,11,14,15,16,17,18] (Z.g s4_15)))))) [7,14,15,16,17] (Z.e s4_16))))))))))))
def c4:FC:=⟨123,a4.erase,[.tmp 4]⟩
def s5_0:=[zag 6]
def s5_1:=[za 21 0,za2 22 13 21 700,za 7 22]
def s5_2:=[za 23 1,za2 24 13 23 700,za 8 24]
def s5_3:=[za 26 7,zl 27 9 26,za 25 27,zh 28 25 0,zh 29 25 1,zh 30 25 2,zan 9 26,zc 2 9 28,za 10 29,za 11 30]
def s5_4:=[za 32 8,zl 33 9 32,za 31 33,zh 34 31 0,zh 35 31 1,zh 36 31 2,zan 12 26,zc 2 12 34,za 13 35,za 14 36]
def s5_5:=[za 37 11,zat 38 37 0,za 39 38,zq 40 14 39,zav 41 40 0 39,zm 42 39 41,za 43 42,zq 44 10 43,zba 45 44 43,za9 46 45 0 43,zm 47 43 46,za 48 47,zq 49 13 48,zba 50 49 48,za9 51 50 0 48,zm 52 48 51]
def s5_6:=[q0 53 (.call 12 []),za 6 53]
def s5_7:=[q0 54 (.mksl 9 1 [ks ⟨#[116,97,98,108,101,59]⟩,ks ⟨#[116,97,98,108,101,32,116,32,111,102,32,123,32,125,59]⟩,ks ⟨#[102,101,97,116,117,114,101,32,102,32,111,102,32,117,58,32,105,110,116,32,61,32,59]⟩,ks ⟨#[102,101,97,116,117,114,101,32,102,32,111,102,32,117,58,32,105,110,116,32,61,32,49,32,43,59]⟩,ks ⟨#[120,59]⟩,ks ⟨#[59]⟩,ks ⟨#[116,97,98,108,101,32,116,32,111,102,32,117,32,123,32,110,32,105,110,116,32,125,59]⟩,ks ⟨#[102,101,97,116,117,114,101,32,102,32,111,102,32,117,58,32,105,110,116,32,61,32,99,111,117,110,116,40,116,44,32,97,108,108,32,119,104,101,114,101,41,59]⟩]),za 15 54]
def s5_8:=[za 55 2,za 56 15,zx 57 56,q0 58 (.bin .rem (.tmp 55) (.tmp 57)),za 16 58]
def s5_9:=[za 59 16,za8 60 59 0]
def s5_10:=[za 61 16,q0 62 (.un .neg (.tmp 61)),za 16 62]
def s5_11:=[ed 0 (q0 63 (.mksl 5 1 [])) [],ed 1 (za 64 7) [],ed 3 (q0 66 (.mksl 5 1 [.const (.int .u8 10)])) [],ed 5 (za 68 15) [],ed 6 (za 69 16) [],ed 7 (zf 70 1 68 69) [],ed 8 (ze 71 1 70) [],ed 2 (za0 65 5 63 64) [],ed 4 (za0 67 5 65 66) [],ed 9 (za0 72 5 67 71) [],ed 10 (za 17 72) []]
def s5_12:=[za 73 17,q0 74 (.mksl 5 1 [.const (.int .u8 10)]),za0 75 5 73 74,za 76 8,za0 77 5 75 76,za 17 77]
def s5_13:=[za 79 17,zl 80 9 79,za 78 80,zh 81 78 0,zh 82 78 1,zh 83 78 2,zan 18 26,zc 2 18 81,za 19 82,za 20 83]
def s5_14:=[ed 0 (q0 84 (.mksl 95 4 [])) [],ed 1 (zg 85 0 9) [],ed 2 (ze 86 1 85) [],ed 4 (zg 88 0 12) [],ed 5 (ze 89 1 88) [],ed 3 (za5 87 95 84 86) [],ed 6 (za5 90 95 87 89) [],ed 7 (zg 91 0 9) [],ed 8 (zc 1 91 90) [9]]
def s5_15:=[ed 0 (q0 92 (.mksl 98 18 [])) [],ed 1 (zg 93 1 9) [],ed 2 (ze 94 1 93) [],ed 4 (zg 96 1 12) [],ed 5 (ze 97 1 96) [],ed 3 (zv 95 98 92 94) [],ed 6 (zv 98 98 95 97) [],ed 7 (zg 99 1 9) [],ed 8 (zc 1 99 98) [9]]
def s5_16:=[za 100 20,zab 101 100 0,za 102 101,za1 103 2 18 102,za1 104 2 9 102,zak 105 14 103 104 102,zj 106 102 105,za 107 106,zi 108 19 107,zbg 109 108 107,zae 110 109 1 107,zj 111 107 110,za 112 111,zi 113 19 112,zbn 114 2 113 0 112,zaj 115 1 114 112,zo 116 1 115 112,zae 117 116 90 112,zj 118 112 117,za 119 118,zi 120 19 119,zbn 121 2 120 0 119,zaj 122 0 121 119,zo 123 1 122 119,zi 124 7 119,zbg 125 124 119,q1 126 (.bin .gtr (.tmp 123) (.tmp 125)) 119 true,zj 127 119 126,za 128 127,zi 129 19 128,zbn 130 2 129 0 128,zaj 131 0 130 128,zo 132 1 131 128,zi 133 7 128,zbg 134 133 128,q1 135 (.bin .add (.tmp 134) (ki 1)) 128 true,zi 136 15 128,zi 137 16 128,zz 138 1 136 137 128,zo 139 1 138 128,q1 140 (.len true (.tmp 139)) 128 true,q1 141 (.bin .add (.tmp 135) (.tmp 140)) 128 true,zcc 142 132 141 128,zj 143 128 142,za 144 143,zb4 145 12 144,zj 146 144 145,za 6 146]
def a5:AC:=Z.r s5_0 [0,1,2] (Z.r s5_1 [1,2,7] (Z.r s5_2 [2,7,8] (Z.r s5_3 [2,7,8,9,10,11] (Z.r s5_4 [2,7,8,9,10,11,12,13,14] (Z.s (Z.r s5_5 [2,7,8,9,12,52] (Z.c 52 (Z.e s5_6) .skip)) [2,7,8,9,12] (Z.r s5_7 [2,7,8,9,12,15] (Z.r s5_8 [7,8,9,12,15,16] (Z.s (Z.r s5_9 [7,8,9,12,15,16,60] (Z.c 60 (Z.g s5_10) .skip)) [7,8,9,12,15,16] (Z.s (.mreg [65,67,72] s5_11) [7,8,9,12,15,16,17] (Z.r s5_12 [7,9,12,15,16,17] (Z.r s5_13 [7,9,12,15,16,18,19,20] (Z.s (.mreg [87,90] s5_14) [7,9,12,15,16,18,19,20] (Z.s (.mreg [95,98] s5_15) [7,9,15,16,18,19,20] (.seq (.dreg s5_16) .ret))))))))))))))
def c5:FC:=⟨147,a5.erase,[.tmp 6]⟩
theorem comp5:compF Tryz.prog Tryz.f5=some c5:=by kernel_rfl
theorem era5:c5.code=a5.erase:=rfl
def s6_0:=[zag 6]
def s6_1:=[za 25 0,za2 26 13 25 300,zbj 27 26 9 26,za 7 27]
def s6_2:=[za 29 7,zaw 30 29 22 29,zl 31 10 30,za 28 31,zh 32 28 0,zh 33 28 1,zh 34 28 2,zd 8 38,zc 12 8 32,za 9 33,za 10 34]
def s6_3:=[za 36 7,q0 37 (.bin .add (ks ⟨#[40]⟩) (.tmp 36)),q0 38 (.bin .add (.tmp 37) (ks ⟨#[10,41]⟩)),zaw 39 38 22 38,zl 40 10 39,za 35 40,zh 41 35 0,zh 42 35 1,zh 43 35 2,zd 11 38,zc 12 11 41,za 12 42,za 13 43]
def s6_4:=[za 44 10,zab 45 44 0,za 46 45,zi 47 13 46,q1 48 (.bin .neq (.tmp 47) (ki 0)) 46 true,zi 49 48 46,zao 50 12 8 49,zao 51 12 11 49,zbm 52 16 50 51 49,zb2 53 52 49,zch 54 49 53 46,zj 55 46 54]
def s6_5:=[zag 6]
def s6_6:=[za 57 1,zl 58 17 57,za 56 58,zh 59 56 0,zh 60 56 1,za 14 59,za 15 60]
def s6_7:=[za 62 2,zl 63 17 62,za 61 63,zh 64 61 0,zh 65 61 1,za 16 64,za 17 65]
def s6_8:=[za 67 14,q0 68 (.bin .add (ks ⟨#[120]⟩) (.tmp 67)),q0 69 (.bin .add (.tmp 68) (ks ⟨#[121]⟩)),za 70 16,zy 71 69 70,q0 72 (.bin .add (.tmp 71) (ks ⟨#[122]⟩)),zaw 73 72 22 72,zl 74 10 73,za 66 74,zh 75 66 0,zh 76 66 1,zh 77 66 2,zd 18 38,zc 12 18 75,za 19 76,za 20 77]
def s6_9:=[za 78 14,q0 79 (.bin .add (ks ⟨#[40,120]⟩) (.tmp 78)),q0 80 (.bin .add (.tmp 79) (ks ⟨#[121,41]⟩)),za 81 16,zy 82 80 81,q0 83 (.bin .add (.tmp 82) (ks ⟨#[122]⟩)),za 21 83]
def s6_10:=[za 84 17,za 85 15,zbb 86 84 85]
def s6_11:=[za 87 14,q0 88 (.bin .add (ks ⟨#[120]⟩) (.tmp 87)),q0 89 (.bin .add (.tmp 88) (ks ⟨#[40,121]⟩)),za 90 16,zy 91 89 90,q0 92 (.bin .add (.tmp 91) (ks ⟨#[122,41]⟩)),za 21 92]
def s6_12:=[za 94 21,zaw 95 94 22 94,zl 96 10 95,za 93 96,zh 97 93 0,zh 98 93 1,zh 99 93 2,zd 22 38,zc 12 22 97,za 23 98,za 24 99]
def s6_13:=[za 100 15,zab 101 100 4,za 102 101,zi 103 17 102,zae 104 103 4 102,zj 105 102 104]
def s6_14:=[za 106 20,zab 107 106 90,za 108 107,zi 109 24 108,zae 110 109 0 108,zj 111 108 110,za 112 111,zb4 113 12 112,zj 114 112 113,za 6 114]
def s6_15:=[za 115 20,zab 116 115 0,za 117 116,zi 118 24 117,zae 119 118 0 117,zj 120 117 119,za 121 120,za1 122 12 18 121,za1 123 12 22 121,zak 124 16 122 123 121,zj 125 121 124,za 126 125,zb4 127 12 126,zj 128 126 127,za 6 128]
def a6:AC:=Z.r s6_0 [0,1,2] (Z.r s6_1 [1,2,7] (Z.r s6_2 [1,2,7,8,10] (Z.r s6_3 [1,2,8,10,11,13] (Z.s (Z.r s6_4 [1,2,55] (Z.c 55 (Z.e s6_5) .skip)) [1,2] (Z.r s6_6 [2,14,15] (Z.r s6_7 [14,15,16,17] (Z.r s6_8 [14,15,16,17,18,20] (Z.r s6_9 [14,15,16,17,18,20,21] (Z.s (Z.r s6_10 [14,15,16,17,18,20,21,86] (Z.c 86 (Z.g s6_11) .skip)) [15,17,18,20,21] (Z.r s6_12 [15,17,18,20,22,24] (Z.s (Z.r s6_13 [18,20,22,24,105] (Z.c 105 (Z.e s6_14) .skip)) [18,20,22,24] (Z.e s6_15))))))))))))
def c6:FC:=⟨129,a6.erase,[.tmp 6]⟩
def s7_0:=[zag 2]
def s7_1:=[za 21 0,za2 22 13 21 2000,za 3 22]
def s7_2:=[za 24 3,zl 25 18 24,za 23 25,zh 26 23 0,zh 27 23 1,zh 28 23 2,za 4 26,za 5 27,za 6 28]
def s7_3:=[za 29 6,zat 30 29 0,za 31 30,zq 32 5 31,zba 33 32 31,za9 34 33 0 31,zm 35 31 34]
def s7_4:=[q0 36 (.call 12 []),za 2 36]
def s7_5:=[za 38 4,zl 39 19 38,za 37 39,zh 40 37 0,zh 41 37 1,za 7 40,za 8 41]
def s7_6:=[za 42 8,zat 43 42 0]
def s7_7:=[zag 2]
def s7_8:=[za 45 3,zl 46 9 45,za 44 46,zh 47 44 0,zh 48 44 1,zh 49 44 2,zan 9 26,zc 2 9 47,za 10 48,za 11 49]
def s7_9:=[za 51 7,zl 52 9 51,za 50 52,zh 53 50 0,zh 54 50 1,zh 55 50 2,zan 12 26,zc 2 12 53,za 13 54,za 14 55]
def s7_10:=[za 57 3,zl 58 10 57,za 56 58,zh 59 56 0,zh 60 56 1,zh 61 56 2,zd 15 38,zc 12 15 59,za 16 60,za 17 61]
def s7_11:=[za 63 7,zl 64 10 63,za 62 64,zh 65 62 0,zh 66 62 1,zh 67 62 2,zd 18 38,zc 12 18 65,za 19 66,za 20 67]
def s7_12:=[za 68 11,za 69 14,zby 70 68 69,za 71 70,zi 72 17 71,zi 73 20 71,zcd 74 72 73 71,zj 75 71 74,za 76 75,zi 77 10 76,zbg 78 77 76,zi 79 13 76,zbg 80 79 76,zcd 81 78 80 76,zj 82 76 81,za 83 82,za1 84 2 9 83,za1 85 2 12 83,zak 86 14 84 85 83,zj 87 83 86,za 88 87,za1 89 12 15 88,za1 90 12 18 88,zak 91 16 89 90 88,zj 92 88 91,za 93 92,zb4 94 12 93,zj 95 93 94,za 2 95]
def a7:AC:=Z.r s7_0 [0] (Z.r s7_1 [3] (Z.r s7_2 [3,4,5,6] (Z.s (Z.r s7_3 [3,4,35] (Z.c 35 (Z.e s7_4) .skip)) [3,4] (Z.r s7_5 [3,7,8] (Z.s (Z.r s7_6 [3,7,43] (Z.c 43 (Z.e s7_7) .skip)) [3,7] (Z.r s7_8 [3,7,9,10,11] (Z.r s7_9 [3,7,9,10,11,12,13,14] (Z.r s7_10 [7,9,10,11,12,13,14,15,17] (Z.r s7_11 [9,10,11,12,13,14,15,17,18,20] (Z.e s7_12))))))))))
def c7:FC:=⟨96,a7.erase,[.tmp 2]⟩
def s8_0:=[zag 4]
def s8_1:=[za 18 0,za 5 18]
def s8_2:=[za 19 5,zx 20 19,za3 21 20 6]
def s8_3:=[za 22 5,q0 23 (.slice 2 (.tmp 22) none (some (ki 6))),za 5 23]
def s8_4:=[za 24 5,zx 25 24,zab 26 25 0]
def s8_5:=[q0 27 (.call 12 []),za 4 27]
def s8_6:=[zk 6 0]
def s8_7:=[za 28 6,za 29 5,zx 30 29,zr 31 28 30]
def s8_8:=[za 34 5,za 35 6,zf 36 2 34 35,zg 37 0 36,ze 38 1 37,zl 39 20 38,za6 40 39,za 41 40,zq 42 5 41,zq 43 6 41,zb9 44 2 42 43 41,zs 45 1 44 41,zt 46 1 45 41,q1 47 (.bin .lss (.tmp 46) (.const (.int .i64 (-1000)))) 41 false,zm 48 41 47,za 49 48,zq 50 5 49,zq 51 6 49,zb9 52 2 50 51 49,zs 53 1 52 49,zt 54 1 53 49,za9 55 54 1000 49,zm 56 49 55]
def s8_9:=[q0 57 (.call 12 []),za 4 57]
def s8_10:=[za 32 6,zn 33 32 1,za 6 33]
def s8_11:=[za 58 5,zl 59 21 58,q0 60 (.bin .add (ks ⟨#[91]⟩) (.tmp 59)),q0 61 (.bin .add (.tmp 60) (ks ⟨#[93]⟩)),za 7 61]
def s8_12:=[za 63 5,zl 64 22 63,za 62 64,zh 65 62 0,zh 66 62 1,za 8 65,za 9 66]
def s8_13:=[za 68 7,q0 69 (.bin .add (ks ⟨#[55,32]⟩) (.tmp 68)),zaw 70 69 22 69,zl 71 10 70,za 67 71,zh 72 67 0,zh 73 67 1,zh 74 67 2,zd 10 38,zc 12 10 72,za 11 73,za 12 74]
def s8_14:=[za 76 7,q0 77 (.bin .add (ks ⟨#[100,101,99,32]⟩) (.tmp 76)),zaw 78 77 22 77,zl 79 11 78,za 75 79,zh 80 75 0,zh 81 75 1,zh 82 75 2,zbi 13 42,zc 3 13 80,za 14 81,za 15 82]
def s8_15:=[za 83 9,zat 84 83 0]
def s8_16:=[za 85 12,za 86 9,zby 87 85 86,za 88 87,zi 89 15 88,zi 90 9 88,zcd 91 89 90 88,zj 92 88 91,za 93 92,zi 94 11 93,zae 95 94 2 93,zj 96 93 95,za 97 96,zb4 98 12 97,zj 99 97 98,za 4 99]
def s8_17:=[za 101 8,zl 102 21 101,zl 103 23 102,za 100 103,zh 104 100 0,zh 105 100 1,za 16 104,za 17 105]
def s8_18:=[za 106 12,zab 107 106 0,za 108 107,zi 109 15 108,zae 110 109 0 108,zj 111 108 110,za 112 111,zi 113 17 112,zae 114 113 0 112,zj 115 112 114,za 116 115,zaj 117 7 10 116,zo 118 1 117 116,zi 119 16 116,zak 120 24 118 119 116,zj 121 116 120,za 122 121,zaj 123 1 13 122,zo 124 1 123 122,zi 125 16 122,zak 126 24 124 125 122,zj 127 122 126,za 128 127,zaj 129 4 10 128,za1 130 3 129 128,q1 131 (.build [.int .i64 0,.int .i64 0,.string ⟨#[]⟩] [(0,1,ki 2),(1,1,ki 7)]) 128 true,q1 132 (.eqs false [.int,.int,.str] (.tmp 130) (.tmp 131)) 128 true,zj 133 128 132,za 134 133,zb4 135 12 134,zj 136 134 135,za 4 136]
def a8:AC:=Z.r s8_0 [0] (Z.r s8_1 [5] (Z.s (Z.r s8_2 [5,21] (Z.c 21 (Z.g s8_3) .skip)) [5] (Z.s (Z.r s8_4 [5,26] (Z.c 26 (Z.e s8_5) .skip)) [5] (Z.s (Z.r s8_6 [5,6] (Z.b 0 (Z.l [5,6] (Z.s (Z.r s8_7 [5,6,31] (Z.c 31 .skip (.exit 0))) [5,6] (Z.s (Z.b 1 (Z.r s8_8 [5,6,56] (Z.c 56 (Z.e s8_9) .skip))) [5,6] (Z.g s8_10)))))) [5] (Z.r s8_11 [5,7] (Z.r s8_12 [7,8,9] (Z.r s8_13 [7,8,9,10,11,12] (Z.r s8_14 [8,9,10,11,12,13,15] (Z.s (Z.r s8_15 [8,9,10,11,12,13,15,84] (Z.c 84 (Z.e s8_16) .skip)) [8,10,12,13,15] (Z.r s8_17 [10,12,13,15,16,17] (Z.e s8_18)))))))))))
def c8:FC:=⟨137,a8.erase,[.tmp 4]⟩
def s9_0:=[zan 2 26,zam 3,zk 4 0]
def s9_1:=[za 9 0,zl 10 18 9,za 8 10,zh 11 8 0,zh 12 8 1,zh 13 8 2,za 5 11,za 3 12,za 4 13]
def s9_2:=[za 14 4,zat 15 14 0,za 16 15,zq 17 5 16,zba 18 17 16,q1 19 (.bin .eql (.tmp 18) (ki 0)) 16 false,zm 20 16 19]
def s9_3:=[q0 21 (.build [.slice none 0 0,.slice none 0 0] []),za 22 4,zc 2 2 21,zam 3,za 4 22]
def s9_4:=[q0 23 (.build [.slice none 0 0,.bool false,.slice none 0 0,.slice none 0 0] []),za4 24 78 23,za 6 24]
def s9_5:=[za 25 5,zaa 26 3 25 0,zg 27 0 26,ze 28 1 27,zat 29 28 6]
def s9_6:=[za 30 6,za 31 5,q0 32 (.build [.slice none 0 0,.bool false] [(0,1,.tmp 31)]),zu 33 30,zg 34 0 33,zc 2 34 32]
def s9_7:=[za 35 6,zl 36 25 35,zcm 7 49,zc 2 7 36]
def s9_8:=[zg 37 1 7,ze 38 1 37,zab 39 38 0]
def s9_9:=[za 40 6,zu 41 40,zg 42 0 41,zg 43 0 42,ze 44 1 43,za 5 44]
def s9_10:=[za 45 3,zp 46 2 7,zcu 47 49 46,zck 48 49 45 47,za 3 48]
def s9_11:=[za 49 5,zx 50 49,za3 51 50 1,za 52 51,zi 53 5 52,zbn 54 3 53 0 52,zaj 55 2 54 52,zo 56 1 55 52,zaj 57 0 7 52,zo 58 1 57 52,zcc 59 56 58 52,zi 60 59 52,zq 61 5 60,q1 62 (.iaddr 3 (.tmp 61) (ki 0)) 60 false,zs 63 0 62 60,zt 64 1 63 60,zav 65 64 5 60,zch 66 60 65 52,zi 67 66 52,zq 68 5 67,q1 69 (.iaddr 3 (.tmp 68) (ki 0)) 67 false,zs 70 1 69 67,zt 71 1 70 67,q1 72 (.bin .neq (.tmp 71) (ks ⟨#[59]⟩)) 67 false,zch 73 67 72 52,zj 74 52 73]
def s9_12:=[za 75 5,zbf 76 75 1,za 5 76]
def s9_13:=[za 77 5,zx 78 77,za3 79 78 1]
def s9_14:=[za 80 5,zbf 81 80 1,za 5 81]
def s9_15:=[za 82 3,q0 83 (.call 26 [.tmp 82,.func 27])]
def s9_16:=[ed 0 (za 84 6) [],ed 1 (zu 85 84) [],ed 2 (zg 86 2 85) [],ed 3 (zp 87 2 86) [],ed 4 (za 88 3) [],ed 5 (za 89 3) [],ed 6 (zx 90 89) [],ed 7 (q0 91 (.min2 (.tmp 90) (ki 32))) [],ed 8 (q0 92 (.slice 2 (.tmp 88) none (some (.tmp 91)))) [],ed 9 (zc 2 2 87) [2],ed 10 (za 3 92) [],ed 11 (zk 4 0) []]
def a9:AC:=Z.r s9_0 [0,2] (Z.r s9_1 [2,3,4,5] (Z.s (Z.r s9_2 [2,3,4,5,20] (Z.c 20 (Z.e s9_3) .skip)) [2,3,5] (Z.r s9_4 [2,3,5,6] (Z.s (Z.b 0 (Z.l [2,3,5,6] (Z.s (Z.r s9_5 [2,3,5,6,29] (Z.c 29 .skip (.exit 0))) [2,3,5,6] (Z.b 1 (Z.r s9_6 [2,3,5,6] (Z.r s9_7 [2,3,5,6,7] (Z.s (Z.r s9_8 [2,3,5,6,7,39] (Z.c 39 (.seq (Z.g s9_9) (.exit 1)) .skip)) [2,3,5,6,7] (Z.r s9_10 [2,3,5,6,7] (Z.s (Z.b 2 (Z.l [2,3,5,6,7] (Z.s (Z.d s9_11 [2,3,5,6,7,74] (Z.c 74 .skip (.exit 2))) [2,3,5,6,7] (Z.b 3 (Z.g s9_12))))) [2,3,5,6] (Z.r s9_13 [2,3,5,6,79] (Z.c 79 (Z.g s9_14) .skip))))))))))) [2,3,6] (Z.r s9_15 [2,3,6] (.seq (.mreg [] s9_16) .ret))))))
def c9:FC:=⟨93,a9.erase,[.cell 2 true 2,.tmp 3,.tmp 4]⟩
theorem comp9:compF Tryz.prog Tryz.f9=some c9:=by kernel_rfl
theorem era9:c9.code=a9.erase:=rfl
def s10_0:=[zd 2 38,zk 3 0,zk 4 0]
def s10_1:=[za 6 0,q0 7 (.mkfn (Fn.func 29) [] [.tmp 2]),zar 8 28 6 7,zcm 5 49,zc 2 5 8]
def s10_2:=[zg 9 1 5,ze 10 1 9,zat 11 10 0]
def s10_3:=[ed 0 (q0 12 (.build [.int .i64 0,.string ⟨#[]⟩,.string ⟨#[]⟩,.string ⟨#[]⟩,.int .i64 0,.int .i64 0,.string ⟨#[]⟩,.slice none 0 0,.int .i64 0,.int .i64 0,.int .i64 0,.slice none 0 0] [])) [],ed 1 (zg 13 0 5) [],ed 2 (ze 14 1 13) [2],ed 3 (zg 15 1 5) [],ed 4 (ze 16 1 15) [2],ed 5 (zc 12 2 12) [2],ed 6 (za 3 14) [],ed 7 (za 4 16) []]
def s10_4:=[zp 17 12 2,zc 12 2 17,zk 3 0,zk 4 0]
def a10:AC:=Z.r s10_0 [0,2] (Z.r s10_1 [2,5] (Z.s (Z.r s10_2 [2,5,11] (Z.c 11 (.seq (.mreg [] s10_3) .ret) .skip)) [2] (Z.e s10_4)))
def c10:FC:=⟨18,a10.erase,[.cell 2 true 12,.tmp 3,.tmp 4]⟩
theorem comp10:compF Tryz.prog Tryz.f10=some c10:=by kernel_rfl
theorem era10:c10.code=a10.erase:=rfl
def s11_0:=[zbi 2 42,zk 3 0,zk 4 0]
def s11_1:=[za 6 0,q0 7 (.mkfn (Fn.func 31) [] [.tmp 2]),zar 8 28 6 7,zcm 5 49,zc 2 5 8]
def s11_2:=[zg 9 1 5,ze 10 1 9,zat 11 10 0]
def s11_3:=[ed 0 (q0 12 (.build [.int .i64 0,.slice none 0 0,.string ⟨#[]⟩] [])) [],ed 1 (zg 13 0 5) [],ed 2 (ze 14 1 13) [2],ed 3 (zg 15 1 5) [],ed 4 (ze 16 1 15) [2],ed 5 (zc 3 2 12) [2],ed 6 (za 3 14) [],ed 7 (za 4 16) []]
def s11_4:=[zp 17 3 2,zc 3 2 17,zk 3 0,zk 4 0]
def a11:AC:=Z.r s11_0 [0,2] (Z.r s11_1 [2,5] (Z.s (Z.r s11_2 [2,5,11] (Z.c 11 (.seq (.mreg [] s11_3) .ret) .skip)) [2] (Z.e s11_4)))
def c11:FC:=⟨18,a11.erase,[.cell 2 true 3,.tmp 3,.tmp 4]⟩
theorem comp11:compF Tryz.prog Tryz.f11=some c11:=by kernel_rfl
theorem era11:c11.code=a11.erase:=rfl
def s12_0:=[zag 0]
def s12_1:=[q0 29 (.mksl 5 1 [.const (.int .u8 49),.const (.int .u8 32),.const (.int .u8 43),.const (.int .u8 32),.const (.int .u8 50),.const (.int .u8 32),.const (.int .u8 42),.const (.int .u8 32),.const (.int .u8 97)]),zap 30 29 22 29,zl 31 10 30,za 28 31,zh 32 28 0,zh 33 28 1,zh 34 28 2,zd 1 38,zc 12 1 32,za 2 33,za 3 34]
def s12_2:=[q0 36 (.mksl 5 1 [.const (.int .u8 97),.const (.int .u8 32),.const (.int .u8 100),.const (.int .u8 101),.const (.int .u8 102),.const (.int .u8 97),.const (.int .u8 117),.const (.int .u8 108),.const (.int .u8 116),.const (.int .u8 32),.const (.int .u8 98),.const (.int .u8 32),.const (.int .u8 100),.const (.int .u8 101),.const (.int .u8 102),.const (.int .u8 97),.const (.int .u8 117),.const (.int .u8 108),.const (.int .u8 116),.const (.int .u8 32),.const (.int .u8 49),.const (.int .u8 46),.const (.int .u8 53)]),zap 37 36 22 36,zl 38 10 37,za 35 38,zh 39 35 0,zh 40 35 1,zh 41 35 2,zd 4 38,zc 12 4 39,za 5 40,za 6 41]
def s12_3:=[q0 43 (.mksl 5 1 [.const (.int .u8 99),.const (.int .u8 111),.const (.int .u8 117),.const (.int .u8 110),.const (.int .u8 116),.const (.int .u8 40),.const (.int .u8 116),.const (.int .u8 44),.const (.int .u8 32),.const (.int .u8 97),.const (.int .u8 108),.const (.int .u8 108),.const (.int .u8 32),.const (.int .u8 119),.const (.int .u8 104),.const (.int .u8 101),.const (.int .u8 114),.const (.int .u8 101),.const (.int .u8 32),.const (.int .u8 120),.const (.int .u8 41)]),zap 44 43 22 43,zl 45 10 44,za 42 45,zh 46 42 0,zh 47 42 1,zh 48 42 2,zd 7 38,zc 12 7 46,za 8 47,za 9 48]
def s12_4:=[q0 50 (.mksl 5 1 [.const (.int .u8 97),.const (.int .u8 32),.const (.int .u8 60),.const (.int .u8 32),.const (.int .u8 98),.const (.int .u8 32),.const (.int .u8 60),.const (.int .u8 32),.const (.int .u8 99)]),zap 51 50 22 50,zl 52 10 51,za 49 52,zh 53 49 0,zh 54 49 1,zh 55 49 2,zd 10 38,zc 12 10 53,za 11 54,za 12 55]
def s12_5:=[q0 57 (.mksl 5 1 [.const (.int .u8 99),.const (.int .u8 111),.const (.int .u8 117),.const (.int .u8 110),.const (.int .u8 116),.const (.int .u8 40),.const (.int .u8 116),.const (.int .u8 44),.const (.int .u8 32),.const (.int .u8 97),.const (.int .u8 108),.const (.int .u8 108)]),zap 58 57 22 57,zl 59 10 58,za 56 59,zh 60 56 0,zh 61 56 1,zh 62 56 2,zd 13 38,zc 12 13 60,za 14 61,za 15 62]
def s12_6:=[q0 64 (.mksl 5 1 [.const (.int .u8 49),.const (.int .u8 32),.const (.int .u8 91),.const (.int .u8 109),.const (.int .u8 94),.const (.int .u8 57),.const (.int .u8 93)]),zap 65 64 22 64,zl 66 10 65,za 63 66,zh 67 63 0,zh 68 63 1,zh 69 63 2,zd 16 38,zc 12 16 67,za 17 68,za 18 69]
def s12_7:=[q0 71 (.mksl 5 1 [.const (.int .u8 100),.const (.int .u8 101),.const (.int .u8 99),.const (.int .u8 32),.const (.int .u8 91),.const (.int .u8 101),.const (.int .u8 117),.const (.int .u8 114),.const (.int .u8 32),.const (.int .u8 42),.const (.int .u8 32),.const (.int .u8 104),.const (.int .u8 94),.const (.int .u8 45),.const (.int .u8 49),.const (.int .u8 93)]),zap 72 71 22 71,zl 73 11 72,za 70 73,zh 74 70 0,zh 75 70 1,zh 76 70 2,zbi 19 42,zc 3 19 74,za 20 75,za 21 76]
def s12_8:=[q0 78 (.mksl 5 1 [.const (.int .u8 116),.const (.int .u8 97),.const (.int .u8 98),.const (.int .u8 108),.const (.int .u8 101),.const (.int .u8 32),.const (.int .u8 116),.const (.int .u8 32),.const (.int .u8 111),.const (.int .u8 102),.const (.int .u8 32),.const (.int .u8 117),.const (.int .u8 32),.const (.int .u8 123),.const (.int .u8 32),.const (.int .u8 110),.const (.int .u8 58),.const (.int .u8 32),.const (.int .u8 105),.const (.int .u8 110),.const (.int .u8 116),.const (.int .u8 32),.const (.int .u8 125),.const (.int .u8 59),.const (.int .u8 32),.const (.int .u8 116),.const (.int .u8 97),.const (.int .u8 98),.const (.int .u8 108),.const (.int .u8 101),.const (.int .u8 32),.const (.int .u8 120),.const (.int .u8 32),.const (.int .u8 111),.const (.int .u8 102),.const (.int .u8 59),.const (.int .u8 32),.const (.int .u8 102),.const (.int .u8 101),.const (.int .u8 97),.const (.int .u8 116),.const (.int .u8 117),.const (.int .u8 114),.const (.int .u8 101),.const (.int .u8 32),.const (.int .u8 102),.const (.int .u8 32),.const (.int .u8 111),.const (.int .u8 102),.const (.int .u8 32),.const (.int .u8 117),.const (.int .u8 58),.const (.int .u8 32),.const (.int .u8 105),.const (.int .u8 110),.const (.int .u8 116),.const (.int .u8 32),.const (.int .u8 61),.const (.int .u8 32),.const (.int .u8 49),.const (.int .u8 59)]),zap 79 78 22 78,zl 80 9 79,za 77 80,zh 81 77 0,zh 82 77 1,zh 83 77 2,zan 22 26,zc 2 22 81,za 23 82,za 24 83]
def s12_9:=[za 84 3,zat 85 84 0,za 86 85,zq 87 6 86,zav 88 87 0 86,zm 89 86 88,za 90 89,zq 91 9 90,zav 92 91 0 90,zm 93 90 92,za 94 93,zq 95 12 94,zav 96 95 90 94,zm 97 94 96,za 98 97,zq 99 11 98,zav 100 99 6 98,zm 101 98 100,za 102 101,zq 103 15 102,zav 104 103 90 102,zm 105 102 104,za 106 105,zq 107 14 106,zav 108 107 12 106,zm 109 106 108,za 110 109,zq 111 18 110,zav 112 111 70 110,zm 113 110 112,za 114 113,zq 115 17 114,zav 116 115 2 114,zm 117 114 116,za 118 117,zq 119 21 118,zav 120 119 0 118,zm 121 118 120,za 122 121,zq 123 24 122,zav 124 123 0 122,zm 125 122 124]
def s12_10:=[zag 0]
def s12_11:=[zct 126 3 1500000,zah 127 1 126,zd 25 38,zc 12 25 127]
def s12_12:=[q0 128 (.call 33 [ks ⟨#[97]⟩]),q0 129 (.call 33 [ks ⟨#[98]⟩]),zcb 130 38 128 129,zas 131 9 130,zd 26 38,zc 12 26 131]
def s12_13:=[q0 132 (.build [.int .i64 0,.int .i64 0] [(0,1,ki 1)]),q0 133 (.call 34 []),q0 134 (.build [.int .i64 0,.string ⟨#[]⟩,.string ⟨#[]⟩,.string ⟨#[]⟩,.int .i64 0,.int .i64 0,.string ⟨#[]⟩,.slice none 0 0,.int .i64 0,.int .i64 0,.int .i64 0,.slice none 0 0] [(0,1,ki 2),(2,1,ks ⟨#[120]⟩)]),zcb 135 38 133 134,q0 136 (.build [.int .i64 0,.string ⟨#[]⟩,.string ⟨#[]⟩,.string ⟨#[]⟩,.int .i64 0,.int .i64 0,.string ⟨#[]⟩,.slice none 0 0,.int .i64 0,.int .i64 0,.int .i64 0,.slice none 0 0] [(0,1,ki 5),(1,1,ks ⟨#[99,111,117,110,116]⟩),(3,1,ks ⟨#[116]⟩),(9,2,.tmp 132),(11,1,.tmp 135)]),zd 27 38,zc 12 27 136]
def s12_14:=[zp 137 12 1,q0 138 (.call 36 [ki 1]),q0 139 (.call 36 [ki 2]),q0 140 (.call 33 [ks ⟨#[97]⟩]),q0 141 (.call 35 [ks ⟨#[42]⟩,.tmp 139,.tmp 140]),q0 142 (.call 35 [ks ⟨#[43]⟩,.tmp 138,.tmp 141]),zar 143 16 137 142,za6 144 143,za 145 144,zao 146 12 4 145,zao 147 12 26 145,zao 148 12 25 145,q1 149 (.mksl 38 12 [.tmp 147,.tmp 148]) 145 false,q1 150 (.build [.int .i64 0,.string ⟨#[]⟩,.string ⟨#[]⟩,.string ⟨#[]⟩,.int .i64 0,.int .i64 0,.string ⟨#[]⟩,.slice none 0 0,.int .i64 0,.int .i64 0,.int .i64 0,.slice none 0 0] [(0,1,ki 9),(11,1,.tmp 149)]) 145 false,zbm 151 16 146 150 145,zb2 152 151 145,zm 153 145 152,za 154 153,zao 155 12 7 154,zao 156 12 27 154,zbm 157 16 155 156 154,zb2 158 157 154,zm 159 154 158]
def s12_15:=[zag 0]
def s12_16:=[zp 160 3 19,q0 161 (.build [.string ⟨#[]⟩,.int .i64 0] [(0,1,ks ⟨#[101,117,114]⟩),(1,1,ki 1)]),q0 162 (.build [.string ⟨#[]⟩,.int .i64 0] [(0,1,ks ⟨#[104]⟩),(1,1,.const (.int .i64 (-1)))]),q0 163 (.mksl 67 2 [.tmp 161,.tmp 162]),zbv 164 3 163,zar 165 37 160 164,za 166 165,zaj 167 0 22 166,zo 168 1 167 166,zbg 169 168 166,zae 170 169 1 166,zj 171 166 170,za 172 171,zaj 173 0 22 172,zo 174 1 173 172,zbn 175 4 174 0 172,zaj 176 0 175 172,zo 177 1 176 172,q1 178 (.bin .eql (.tmp 177) (ks ⟨#[116]⟩)) 172 true,zj 179 172 178,za 180 179,zaj 181 1 22 180,zo 182 1 181 180,zbg 183 182 180,zae 184 183 1 180,zj 185 180 184,za 186 185,zi 187 23 186,zbg 188 187 186,zae 189 188 1 186,zj 190 186 189,za 191 190,zi 192 23 191,zbn 193 2 192 0 191,za1 194 2 193 191,q1 195 (.build [.int .i64 0,.int .i64 0] [(0,1,ki 35),(1,1,ki 90)]) 191 true,q1 196 (.eqs false [.int,.int] (.tmp 194) (.tmp 195)) 191 true,zj 197 191 196,za 0 197]
def a12:AC:=Z.r s12_0 [] (Z.r s12_1 [1,3] (Z.r s12_2 [1,3,4,6] (Z.r s12_3 [1,3,4,6,7,9] (Z.r s12_4 [1,3,4,6,7,9,11,12] (Z.r s12_5 [1,3,4,6,7,9,11,12,14,15] (Z.r s12_6 [1,3,4,6,7,9,11,12,14,15,17,18] (Z.r s12_7 [1,3,4,6,7,9,11,12,14,15,17,18,19,21] (Z.r s12_8 [1,3,4,6,7,9,11,12,14,15,17,18,19,21,22,23,24] (Z.s (Z.r s12_9 [1,4,7,19,22,23,125] (Z.c 125 (Z.e s12_10) .skip)) [1,4,7,19,22,23] (Z.r s12_11 [1,4,7,19,22,23,25] (Z.r s12_12 [1,4,7,19,22,23,25,26] (Z.r s12_13 [1,4,7,19,22,23,25,26,27] (Z.s (Z.d s12_14 [19,22,23,159] (Z.c 159 (Z.e s12_15) .skip)) [19,22,23] (Z.e s12_16))))))))))))))
def c12:FC:=⟨198,a12.erase,[.tmp 0]⟩
theorem comp12:compF Tryz.prog Tryz.f12=some c12:=by kernel_rfl
theorem era12:c12.code=a12.erase:=rfl
def s13_0:=[zam 4]
def s13_1:=[za 5 0,zx 6 5,za 7 1,zbb 8 6 7]
def s13_2:=[za 9 0,za 10 1,q0 11 (.slice 1 (.tmp 9) none (some (.tmp 10))),za 4 11]
def s13_3:=[za 12 0,za 4 12]
def a13:AC:=Z.r s13_0 [0,1] (Z.s (Z.r s13_1 [0,1,8] (Z.c 8 (Z.e s13_2) .skip)) [0] (Z.e s13_3))
def c13:FC:=⟨13,a13.erase,[.tmp 4]⟩
theorem comp13:compF Tryz.prog Tryz.f13=some c13:=by kernel_rfl
theorem era13:c13.code=a13.erase:=rfl
def s14_0:=[za4 2 26 0,za4 3 26 1,zag 4]
def s14_1:=[zg 9 0 2,ze 10 1 9,zx 11 10,zg 12 0 3,ze 13 1 12,zx 14 13,zbc 15 11 14,za 16 15,zs 17 1 2 16,zt 18 1 17 16,zba 19 18 16,zs 20 1 3 16,zt 21 1 20 16,zba 22 21 16,zaz 23 19 22 16,zm 24 16 23]
def s14_2:=[zag 4]
def s14_3:=[zk 5 0]
def s14_4:=[za 25 5,zg 26 0 2,ze 27 1 26,zx 28 27,zr 29 25 28]
def s14_5:=[zg 32 0 2,ze 33 1 32,za 34 5,zf 35 4 33 34,zp 36 4 35,zg 37 0 3,ze 38 1 37,za 39 5,zf 40 4 38 39,zp 41 4 40,zar 42 38 36 41,za6 43 42]
def s14_6:=[zag 4]
def s14_7:=[za 30 5,zn 31 30 1,za 5 31]
def s14_8:=[zk 6 0]
def s14_9:=[za 44 6,zg 45 1 2,ze 46 1 45,zx 47 46,zr 48 44 47]
def s14_10:=[zg 51 1 2,ze 52 1 51,za 53 6,zf 54 18 52 53,zp 55 18 54,zal 7 98,zc 18 7 55]
def s14_11:=[zg 56 1 3,ze 57 1 56,za 58 6,zf 59 18 57 58,zp 60 18 59,zal 8 98,zc 18 8 60]
def s14_12:=[zg 61 0 7,ze 62 1 61,zg 63 0 8,ze 64 1 63,zbc 65 62 64,za 66 65,zs 67 1 7 66,zt 68 1 67 66,zs 69 1 8 66,zt 70 1 69 66,zaz 71 68 70 66,zm 72 66 71,za 73 72,zs 74 17 7 73,zt 75 1 74 73,zs 76 17 8 73,zt 77 1 76 73,zaz 78 75 77 73,zm 79 73 78,za 80 79,zs 81 2 7 80,zao 82 3 81 80,zs 83 2 8 80,zao 84 3 83 80,zbm 85 37 82 84 80,zb2 86 85 80,zm 87 80 86,za 88 87,zs 89 5 7 88,zao 90 12 89 88,zs 91 5 8 88,zao 92 12 91 88,zbm 93 16 90 92 88,zb2 94 93 88,zm 95 88 94]
def s14_13:=[zag 4]
def s14_14:=[za 49 6,zn 50 49 1,za 6 50]
def s14_15:=[zbs 4]
def a14:AC:=Z.r s14_0 [2,3] (Z.s (Z.r s14_1 [2,3,24] (Z.c 24 (Z.e s14_2) .skip)) [2,3] (Z.s (Z.r s14_3 [2,3,5] (Z.b 0 (Z.l [2,3,5] (Z.s (Z.r s14_4 [2,3,5,29] (Z.c 29 .skip (.exit 0))) [2,3,5] (Z.s (Z.b 1 (Z.d s14_5 [2,3,5,43] (Z.c 43 (Z.e s14_6) .skip))) [2,3,5] (Z.g s14_7)))))) [2,3] (Z.s (Z.r s14_8 [2,3,6] (Z.b 2 (Z.l [2,3,6] (Z.s (Z.r s14_9 [2,3,6,48] (Z.c 48 .skip (.exit 2))) [2,3,6] (Z.s (Z.b 3 (Z.r s14_10 [2,3,6,7] (Z.r s14_11 [2,3,6,7,8] (Z.r s14_12 [2,3,6,95] (Z.c 95 (Z.e s14_13) .skip))))) [2,3,6] (Z.g s14_14)))))) [] (Z.e s14_15))))
def c14:FC:=⟨96,a14.erase,[.tmp 4]⟩
theorem comp14:compF Tryz.prog Tryz.f14=some c14:=by kernel_rfl
theorem era14:c14.code=a14.erase:=rfl
def s16_0:=[za4 2 38 0,za4 3 38 1,zag 4]
def s16_1:=[zg 6 0 2,ze 7 1 6,zg 8 0 3,ze 9 1 8,zbc 10 7 9,za 11 10,zs 12 1 2 11,zt 13 1 12 11,zs 14 1 3 11,zt 15 1 14 11,zaz 16 13 15 11,zm 17 11 16,za 18 17,zs 19 2 2 18,zt 20 1 19 18,zs 21 2 3 18,zt 22 1 21 18,zaz 23 20 22 18,zm 24 18 23,za 25 24,zs 26 3 2 25,zt 27 1 26 25,zs 28 3 3 25,zt 29 1 28 25,zaz 30 27 29 25,zm 31 25 30,za 32 31,zs 33 4 2 32,zao 34 3 33 32,zs 35 4 3 32,zao 36 3 35 32,q1 37 (.eqs true [.int,.int,.str] (.tmp 34) (.tmp 36)) 32 false,zm 38 32 37,za 39 38,zs 40 8 2 39,zt 41 1 40 39,zs 42 8 3 39,zt 43 1 42 39,zaz 44 41 43 39,zm 45 39 44,za 46 45,zs 47 9 2 46,zao 48 2 47 46,zs 49 9 3 46,zao 50 2 49 46,q1 51 (.eqs true [.int,.int] (.tmp 48) (.tmp 50)) 46 false,zm 52 46 51,za 53 52,zs 54 11 2 53,zt 55 1 54 53,zba 56 55 53,zs 57 11 3 53,zt 58 1 57 53,zba 59 58 53,zaz 60 56 59 53,zm 61 53 60,za 62 61,zs 63 7 2 62,zt 64 1 63 62,zs 65 7 3 62,zt 66 1 65 62,zbm 67 39 64 66 62,zb2 68 67 62,zm 69 62 68]
def s16_2:=[zag 4]
def s16_3:=[zk 5 0]
def s16_4:=[za 70 5,zg 71 11 2,ze 72 1 71,zx 73 72,zr 74 70 73]
def s16_5:=[zg 77 11 2,ze 78 1 77,za 79 5,zf 80 12 78 79,zp 81 12 80,zg 82 11 3,ze 83 1 82,za 84 5,zf 85 12 83 84,zp 86 12 85,zar 87 16 81 86,za6 88 87]
def s16_6:=[zag 4]
def s16_7:=[za 75 5,zn 76 75 1,za 5 76]
def s16_8:=[zbs 4]
def a16:AC:=Z.r s16_0 [2,3] (Z.s (Z.r s16_1 [2,3,69] (Z.c 69 (Z.e s16_2) .skip)) [2,3] (Z.s (Z.r s16_3 [2,3,5] (Z.b 0 (Z.l [2,3,5] (Z.s (Z.r s16_4 [2,3,5,74] (Z.c 74 .skip (.exit 0))) [2,3,5] (Z.s (Z.b 1 (Z.d s16_5 [2,3,5,88] (Z.c 88 (Z.e s16_6) .skip))) [2,3,5] (Z.g s16_7)))))) [] (Z.e s16_8)))
def c16:FC:=⟨89,a16.erase,[.tmp 4]⟩
theorem comp16:compF Tryz.prog Tryz.f16=some c16:=by kernel_rfl
theorem era16:c16.code=a16.erase:=rfl
def s18_0:=[zam 2,q0 3 (.alloc 27 (.slice none 0 0)),zk 4 0]
def s18_1:=[za 12 0,zx 13 12,za3 14 13 16384]
def s18_2:=[zam 2,.mk none (.store 1 (.tmp 3) (.const (.slice none 0 0))) none,zk 4 2]
def s18_3:=[q0 15 (.call 40 []),zb 5 100,zc 256 5 15]
def s18_4:=[q0 6 (.alloc 3 (.int .i64 0)),.mk none (.store 1 (.tmp 6) (ki 0)) none,zce 7]
def s18_5:=[q0 16 (.mkfn (Fn.func 41) [] [.tmp 3,.tmp 6]),za 8 16]
def s18_6:=[ze 17 1 6,za 18 0,zx 19 18,zby 20 17 19]
def s18_7:=[ed 0 (za 21 2) [],ed 1 (ze 22 1 6) [],ed 2 (q0 23 (.build [.int .i64 0,.string ⟨#[]⟩,.int .i64 0] [(0,1,ki 6),(2,1,.tmp 22)])) [],ed 3 (q0 24 (.mksl 80 3 [.tmp 23])) [],ed 5 (ze 26 1 3) [],ed 4 (zb0 25 80 21 24) [],ed 6 (za 2 25) [],ed 7 (zc 1 3 26) [3],ed 8 (zk 4 0) []]
def s18_8:=[za 28 0,ze 29 1 6,zay 30 42 28 29 5,za 27 30,zh 31 27 0,zh 32 27 1,zh 33 27 2,za 9 31,za 10 32,za 11 33]
def s18_9:=[za 35 9,q0 36 (.bin .eql (.tmp 35) (.const (.int .i64 (-1)))),za 34 36]
def s18_10:=[za 38 11,zat 39 38 0,za 37 39]
def s18_11:=[za 40 8,za 41 11,q0 42 (.callv (.tmp 40) [.tmp 41])]
def s18_12:=[za 44 9,zab 45 44 4,za 43 45]
def s18_13:=[za 46 2,za 47 9,za 48 0,ze 49 1 6,zn 50 49 1,za 51 10,zw 52 51 1,zb5 53 48 50 52,zbj 54 53 9 53,ze 55 1 6,zci 56 47 54 55,q0 57 (.mksl 80 3 [.tmp 56]),zb0 58 80 46 57,za 2 58]
def s18_14:=[za 60 9,zat 61 60 0,za 59 61]
def s18_15:=[za 62 2,za 63 9,za 64 0,ze 65 1 6,za 66 10,zb5 67 64 65 66,zbj 68 67 9 67,ze 69 1 6,zci 70 63 68 69,q0 71 (.mksl 80 3 [.tmp 70]),zb0 72 80 62 71,za 2 72]
def s18_16:=[za 73 10,zc 1 6 73]
def s18_17:=[za 74 7,ze 75 1 6,zw 76 75 1,zbc 77 74 76,za 78 77,zt 79 1 6 78,q1 80 (.bin .eql (.tmp 79) (ki 0)) 78 false,zm 81 78 80]
def s18_18:=[za 82 8,za 83 11,q0 84 (.callv (.tmp 82) [.tmp 83])]
def s18_19:=[ze 85 1 6,za 7 85]
def s18_20:=[ze 86 1 6,zn 87 86 1,zc 1 6 87]
def a18:AC:=Z.r s18_0 [0,2,3] (.scope (Z.s (Z.r s18_1 [0,2,3,14] (Z.c 14 (Z.e s18_2) .skip)) [0,2,3] (Z.r s18_3 [0,2,3,5] (Z.r s18_4 [0,2,3,5,6,7] (Z.r s18_5 [0,2,3,5,6,7,8] (Z.s (.label 0) [0,2,3,5,6,7,8] (Z.s (Z.r s18_6 [0,2,3,5,6,7,8,20] (Z.c 20 (.seq (.mreg [25] s18_7) .ret) .skip)) [0,2,3,5,6,7,8] (Z.r s18_8 [0,2,3,5,6,7,8,9,10,11] (Z.s (Z.b 0 (Z.r s18_9 [0,2,3,5,6,7,8,9,10,11,34] (Z.c 34 (.goto 1) (Z.r s18_10 [0,2,3,5,6,7,8,9,10,11,37] (Z.c 37 (Z.g s18_11) (Z.r s18_12 [0,2,3,5,6,7,8,9,10,43] (Z.c 43 (.dreg s18_13) (Z.r s18_14 [0,2,3,5,6,7,8,9,10,59] (Z.c 59 (.dreg s18_15) .skip))))))))) [0,2,3,5,6,7,8,10] (Z.r s18_16 [0,2,3,5,6,7,8] (Z.s (.goto 0) [0,2,3,5,6,7,8,11] (Z.s (.label 1) [0,2,3,5,6,7,8,11] (Z.s (Z.r s18_17 [0,2,3,5,6,8,11,81] (Z.c 81 (Z.g s18_18) .skip)) [0,2,3,5,6,8] (Z.r s18_19 [0,2,3,5,6,7,8] (Z.r s18_20 [0,2,3,5,6,7,8] (.goto 0))))))))))))))))
def c18:FC:=⟨88,a18.erase,[.tmp 2,.cell 3 false 1,.tmp 4]⟩
theorem comp18:compF Tryz.prog Tryz.f18=some c18:=by kernel_rfl
theorem era18:c18.code=a18.erase:=rfl
def s20_0:=[zag 2]
def s20_1:=[za 5 0,zc3 6 5,za 7 6,zq 8 0 7,q1 9 (.len true (.tmp 8)) 7 false,za9 10 9 24 7,zm 11 7 10,za 12 11,zq 13 0 12,q1 14 (.call 44 [.tmp 13]) 12 false,zm 15 12 14]
def s20_2:=[zag 2]
def s20_3:=[za 16 0,zbw 17 16,zk 18 0]
def s20_4:=[zr 19 18 17]
def s20_5:=[za 20 18,za 3 20]
def s20_6:=[za 21 0,za 22 3,zcv 23 21 22,za 4 23]
def s20_7:=[za 25 4,q0 26 (.bin .geq (.tmp 25) (.const (.int .u8 97))),za 27 26,zi 28 4 27,q1 29 (.bin .leq (.tmp 28) (.const (.int .u8 122))) 27 true,zj 30 27 29,za 24 30]
def s20_8:=[za 32 3,za3 33 32 0,za 34 33,zi 35 4 34,q1 36 (.bin .geq (.tmp 35) (.const (.int .u8 48))) 34 true,zi 37 36 34,zi 38 4 37,q1 39 (.bin .leq (.tmp 38) (.const (.int .u8 57))) 37 true,q1 40 (.pick (.tmp 37) (.tmp 39) kF) 34 true,zi 41 40 34,zq 42 4 41,q1 43 (.bin .eql (.tmp 42) (.const (.int .u8 95))) 41 false,zch 44 41 43 34,zj 45 34 44,za 31 45]
def s20_9:=[zag 2]
def s20_10:=[zn 46 18 1,za 18 46]
def s20_11:=[zbs 2]
def a20:AC:=Z.r s20_0 [0] (Z.s (Z.r s20_1 [0,15] (Z.c 15 (Z.e s20_2) .skip)) [0] (Z.s (Z.r s20_3 [0,17,18] (Z.b 0 (Z.l [0,17,18] (Z.r s20_4 [0,17,18,19] (Z.s (Z.c 19 .skip (.exit 0)) [0,17,18] (Z.s (Z.b 1 (Z.r s20_5 [0,3,17,18] (Z.r s20_6 [0,3,4,17,18] (Z.b 2 (Z.r s20_7 [0,3,4,17,18,24] (Z.c 24 .skip (Z.r s20_8 [0,17,18,31] (Z.c 31 .skip (Z.e s20_9))))))))) [0,17,18] (Z.g s20_10))))))) [] (Z.e s20_11)))
def c20:FC:=⟨47,a20.erase,[.tmp 2]⟩
theorem comp20:compF Tryz.prog Tryz.f20=some c20:=by kernel_rfl
theorem era20:c20.code=a20.erase:=rfl
def s21_0:=[zc2 2]
def s21_1:=[zam 3]
def s21_2:=[za 7 0,zx 8 7,zk 9 0]
def s21_3:=[zr 10 9 8]
def s21_4:=[zf 11 2 7 9,zp 12 2 11,zbx 5 67,zc 2 5 12]
def s21_5:=[zg 13 0 5,ze 14 1 13,za 6 14]
def s21_6:=[zg 15 1 5,ze 16 1 15,zat 17 16 1]
def s21_7:=[za 18 6,zg 19 1 5,ze 20 1 19,zl 21 45 20,q0 22 (.bin .add (ks ⟨#[94]⟩) (.tmp 21)),zy 23 18 22,za 6 23]
def s21_8:=[za 24 3,za 25 6,q0 26 (.mksl 9 1 [.tmp 25]),q0 27 (.append 9 1 16 [.string ⟨#[]⟩] (.tmp 24) (.tmp 26)),za 3 27]
def s21_9:=[zn 28 9 1,za 9 28]
def s21_10:=[za 29 3,q0 30 (.call 46 [.tmp 29,ks ⟨#[42]⟩]),za 2 30]
def a21:AC:=Z.r s21_0 [0] (Z.r s21_1 [0,3] (Z.s (Z.r s21_2 [3,7,8,9] (Z.b 0 (Z.l [3,7,8,9] (Z.r s21_3 [3,7,8,9,10] (Z.s (Z.c 10 .skip (.exit 0)) [3,7,8,9] (Z.s (Z.b 1 (Z.r s21_4 [3,5,7,8,9] (Z.r s21_5 [3,5,6,7,8,9] (Z.s (Z.r s21_6 [3,5,6,7,8,9,17] (Z.c 17 (Z.g s21_7) .skip)) [3,6,7,8,9] (Z.g s21_8))))) [3,7,8,9] (Z.g s21_9))))))) [3] (Z.e s21_10)))
def c21:FC:=⟨31,a21.erase,[.tmp 2]⟩
def s22_0:=[zam 2,zk 3 0]
def s22_1:=[q0 11 (.exts (.makeMap 109 none) 109 [] []),za 4 11]
def s22_2:=[za 12 0,zx 13 12,zk 14 0]
def s22_3:=[zr 15 14 13]
def s22_4:=[zf 16 2 12 14,zp 17 2 16,zbx 6 67,zc 2 6 17]
def s22_5:=[zg 18 0 6,ze 19 1 18,zl 20 47 19,za6 21 20]
def s22_6:=[zam 2,zk 3 1]
def s22_7:=[za 22 4,zg 23 0 6,ze 24 1 23,za 25 4,zg 26 0 6,ze 27 1 26,q0 28 (.extq (.lookup 109 (.tmp 25) (.tmp 27) false) 112 [.mp 9 112,.str] [.tmp 25,.tmp 27]),zg 29 1 6,ze 30 1 29,zl 31 49 30,zar 32 48 28 31]
def s22_8:List CI:=[.mk none (.exts (.mapUpdate 109 (.tmp 22) (.tmp 24) (.tmp 32)) 0 [.mp 9 112,.str] [.tmp 22,.tmp 24,.tmp 32]) none]
def s22_9:=[zn 33 14 1,za 14 33]
def s22_10:=[za 34 4,zl 35 50 34,zx 36 35,zk 37 0]
def s22_11:=[zr 38 37 36]
def s22_12:=[zf 39 1 35 37,ze 40 1 39,za 8 40]
def s22_13:=[za 42 4,za 43 8,q0 44 (.extq (.lookup 109 (.tmp 42) (.tmp 43) false) 112 [.mp 9 112,.str] [.tmp 42,.tmp 43]),za2 45 51 44 1,za 41 45,zh 46 41 0,zh 47 41 1,za 9 46,za 10 47]
def s22_14:=[za 48 10,za6 49 48,za 50 49,zq 51 9 50,q1 52 (.call 52 [.tmp 51,ki 8]) 50 false,zm 53 50 52]
def s22_15:=[zam 2,zk 3 70]
def s22_16:=[za 54 9,zat 55 54 0]
def s22_17:=[za 56 2,za 57 8,za 58 9,zcx 59 57 58,zcu 60 67 59,zcj 61 67 56 60,za 2 61]
def s22_18:=[zn 62 37 1,za 37 62]
def s22_19:=[za 63 2,zx 64 63,za3 65 64 4]
def s22_20:=[zam 2,zk 3 2]
def s22_21:=[za 66 2,za 2 66,zk 3 0]
def a22:AC:=Z.r s22_0 [0,2] (Z.r s22_1 [0,2,4] (Z.s (Z.r s22_2 [2,4,12,13,14] (Z.b 0 (Z.l [2,4,12,13,14] (Z.r s22_3 [2,4,12,13,14,15] (Z.s (Z.c 15 .skip (.exit 0)) [2,4,12,13,14] (Z.s (Z.b 1 (Z.r s22_4 [2,4,6,12,13,14] (Z.s (Z.r s22_5 [2,4,6,12,13,14,21] (Z.c 21 (Z.e s22_6) .skip)) [2,4,6,12,13,14] (Z.d s22_7 [2,4,12,13,14,22,24,32] (Z.g s22_8))))) [2,4,12,13,14] (Z.g s22_9))))))) [2,4] (Z.s (Z.r s22_10 [2,4,35,36,37] (Z.b 2 (Z.l [2,4,35,36,37] (Z.r s22_11 [2,4,35,36,37,38] (Z.s (Z.c 38 .skip (.exit 2)) [2,4,35,36,37] (Z.s (Z.b 3 (Z.r s22_12 [2,4,8,35,36,37] (Z.r s22_13 [2,4,8,9,10,35,36,37] (Z.s (Z.r s22_14 [2,4,8,9,35,36,37,53] (Z.c 53 (Z.e s22_15) .skip)) [2,4,8,9,35,36,37] (Z.r s22_16 [2,4,8,9,35,36,37,55] (Z.c 55 (Z.g s22_17) .skip)))))) [2,4,35,36,37] (Z.g s22_18))))))) [2] (Z.s (Z.r s22_19 [2,65] (Z.c 65 (Z.e s22_20) .skip)) [2] (Z.e s22_21)))))
def c22:FC:=⟨67,a22.erase,[.tmp 2,.tmp 3]⟩
theorem comp22:compF Tryz.prog Tryz.f22=some c22:=by kernel_rfl
theorem era22:c22.code=a22.erase:=rfl
def s26_0:=[za 4 0,za 5 0,zx 6 5,za 7 1,zay 8 62 4 6 7]
def a26:AC:=Z.g s26_0
def c26:FC:=⟨9,a26.erase,[]⟩
theorem comp26:compF Tryz.prog Tryz.f26=some c26:=by kernel_rfl
theorem era26:c26.code=a26.erase:=rfl
def s27_0:=[za4 2 49 0,za4 3 49 1,zk 4 0]
def s27_1:=[zg 5 0 2,ze 6 1 5,zg 7 0 3,ze 8 1 7,zac 9 6 8,za 4 9]
def a27:AC:=Z.r s27_0 [2,3] (Z.e s27_1)
def c27:FC:=⟨10,a27.erase,[.tmp 4]⟩
theorem comp27:compF Tryz.prog Tryz.f27=some c27:=by kernel_rfl
theorem era27:c27.code=a27.erase:=rfl
def s29_0:=[za 3 0,zl 4 30 3,zc 12 1 4]
def a29:AC:=Z.g s29_0
def c29:FC:=⟨5,a29.erase,[]⟩
theorem comp29:compF Tryz.prog Tryz.f29=some c29:=by kernel_rfl
theorem era29:c29.code=a29.erase:=rfl
def s30_0:=[zd 2 38]
def s30_1:=[za 6 0,q0 7 (.call 64 [.tmp 6,ki 1,ks ⟨#[105,102]⟩])]
def s30_2:=[za 8 0,zl 9 30 8,zd 3 38,zc 12 3 9]
def s30_3:=[za 10 0,q0 11 (.call 65 [.tmp 10,ks ⟨#[116,104,101,110]⟩])]
def s30_4:=[za 12 0,zl 13 30 12,zd 4 38,zc 12 4 13]
def s30_5:=[za 14 0,q0 15 (.call 65 [.tmp 14,ks ⟨#[101,108,115,101]⟩])]
def s30_6:=[ed 0 (zp 16 12 3) [],ed 1 (zp 17 12 4) [],ed 2 (za 18 0) [],ed 3 (zl 19 30 18) [],ed 4 (q0 20 (.mksl 38 12 [.tmp 16,.tmp 17,.tmp 19])) [19],ed 5 (zas 21 8 20) [],ed 6 (zc 12 2 21) [2]]
def s30_7:=[za 22 0,za2 23 66 22 1,zd 5 38,zc 12 5 23]
def s30_8:=[za 24 0,q0 25 (.call 64 [.tmp 24,ki 1,ks ⟨#[100,101,102,97,117,108,116]⟩])]
def s30_9:=[ed 0 (zp 26 12 5) [],ed 1 (za 27 0) [],ed 2 (za2 28 66 27 1) [],ed 3 (zcb 29 38 26 28) [28],ed 4 (zas 30 9 29) [],ed 5 (zc 12 5 30) [5]]
def s30_10:=[zp 31 12 5,zc 12 2 31]
def a30:AC:=Z.r s30_0 [0,2] (Z.s (Z.r s30_1 [0,2,7] (Z.c 7 (Z.r s30_2 [0,2,3] (Z.r s30_3 [0,2,3] (Z.r s30_4 [0,2,3,4] (Z.r s30_5 [0,2,3,4] (.seq (.mreg [] s30_6) .ret))))) .skip)) [0,2] (Z.r s30_7 [0,2,5] (Z.s (Z.b 0 (Z.l [0,2,5] (Z.s (Z.r s30_8 [0,2,5,25] (Z.c 25 .skip (.exit 0))) [0,2,5] (Z.b 1 (.mreg [] s30_9))))) [2,5] (Z.e s30_10))))
def c30:FC:=⟨32,a30.erase,[.cell 2 true 12]⟩
theorem comp30:compF Tryz.prog Tryz.f30=some c30:=by kernel_rfl
theorem era30:c30.code=a30.erase:=rfl
def s31_0:=[za 3 0,zl 4 32 3,zc 3 1 4]
def a31:AC:=Z.g s31_0
def c31:FC:=⟨5,a31.erase,[]⟩
theorem comp31:compF Tryz.prog Tryz.f31=some c31:=by kernel_rfl
theorem era31:c31.code=a31.erase:=rfl
def s32_0:=[zbi 2 42]
def s32_1:=[za 4 0,q0 5 (.call 64 [.tmp 4,ki 1,ks ⟨#[98,111,111,108]⟩]),za 3 5]
def s32_2:=[q0 6 (.build [.int .i64 0,.slice none 0 0,.string ⟨#[]⟩] [(0,1,ki 1)]),zc 3 2 6]
def s32_3:=[za 8 0,q0 9 (.call 64 [.tmp 8,ki 1,ks ⟨#[116,101,120,116]⟩]),za 7 9]
def s32_4:=[q0 10 (.build [.int .i64 0,.slice none 0 0,.string ⟨#[]⟩] [(0,1,ki 4)]),zc 3 2 10]
def s32_5:=[za 12 0,q0 13 (.call 64 [.tmp 12,ki 1,ks ⟨#[107,101,121]⟩]),za 11 13]
def s32_6:=[za 14 0,zl 15 67 14,q0 16 (.build [.int .i64 0,.slice none 0 0,.string ⟨#[]⟩] [(0,1,ki 5),(2,1,.tmp 15)]),zc 3 2 16]
def s32_7:=[za 18 0,q0 19 (.call 64 [.tmp 18,ki 1,ks ⟨#[105,110,116]⟩]),za 17 19]
def s32_8:=[za 20 0,zl 21 68 20,zbv 22 2 21,zc 3 2 22]
def s32_9:=[za 23 0,q0 24 (.call 65 [.tmp 23,ks ⟨#[100,101,99]⟩])]
def s32_10:=[za 25 0,zl 26 68 25,zbv 27 3 26,zc 3 2 27]
def a32:AC:=Z.r s32_0 [0,2] (Z.s (Z.b 0 (Z.r s32_1 [0,2,3] (Z.c 3 (Z.e s32_2) (Z.r s32_3 [0,2,7] (Z.c 7 (Z.e s32_4) (Z.r s32_5 [0,2,11] (Z.c 11 (Z.e s32_6) (Z.r s32_7 [0,2,17] (Z.c 17 (Z.e s32_8) .skip))))))))) [0,2] (Z.r s32_9 [0,2] (Z.e s32_10)))
def c32:FC:=⟨28,a32.erase,[.cell 2 true 3]⟩
theorem comp32:compF Tryz.prog Tryz.f32=some c32:=by kernel_rfl
theorem era32:c32.code=a32.erase:=rfl
def s33_0:=[zd 2 38]
def s33_1:=[za 3 0,zai 4 3 3,zc 12 2 4]
def a33:AC:=Z.r s33_0 [0,2] (Z.e s33_1)
def c33:FC:=⟨5,a33.erase,[.cell 2 true 12]⟩
theorem comp33:compF Tryz.prog Tryz.f33=some c33:=by kernel_rfl
theorem era33:c33.code=a33.erase:=rfl
def s34_0:=[zd 0 38]
def s34_1:=[zct 1 1 1,zah 2 1 1,zc 12 0 2]
def a34:AC:=Z.r s34_0 [0] (Z.e s34_1)
def c34:FC:=⟨3,a34.erase,[.cell 0 true 12]⟩
theorem comp34:compF Tryz.prog Tryz.f34=some c34:=by kernel_rfl
theorem era34:c34.code=a34.erase:=rfl
def s35_0:=[za4 4 38 1,za4 5 38 2,zd 6 38]
def s35_1:=[za 7 0,zp 8 12 4,zp 9 12 5,zcb 10 38 8 9,zad 11 7 7 10,zc 12 6 11]
def a35:AC:=Z.r s35_0 [0,4,5,6] (Z.e s35_1)
def c35:FC:=⟨12,a35.erase,[.cell 6 true 12]⟩
theorem comp35:compF Tryz.prog Tryz.f35=some c35:=by kernel_rfl
theorem era35:c35.code=a35.erase:=rfl
def s36_0:=[zd 2 38]
def s36_1:=[za 3 0,zbh 4 2 3,zah 5 1 4,zc 12 2 5]
def a36:AC:=Z.r s36_0 [0,2] (Z.e s36_1)
def c36:FC:=⟨6,a36.erase,[.cell 2 true 12]⟩
theorem comp36:compF Tryz.prog Tryz.f36=some c36:=by kernel_rfl
theorem era36:c36.code=a36.erase:=rfl
def s37_0:=[za4 2 42 0,za4 3 42 1,zag 4]
def s37_1:=[zg 5 0 2,ze 6 1 5,zg 7 0 3,ze 8 1 7,zby 9 6 8,za 10 9,zaj 11 2 2 10,zo 12 1 11 10,zaj 13 2 3 10,zo 14 1 13 10,zcd 15 12 14 10,zj 16 10 15,za 17 16,zaj 18 1 2 17,zo 19 1 18 17,zaj 20 1 3 17,zo 21 1 20 17,zak 22 39 19 21 17,zj 23 17 22,za 4 23]
def a37:AC:=Z.r s37_0 [2,3] (Z.e s37_1)
def c37:FC:=⟨24,a37.erase,[.tmp 4]⟩
theorem comp37:compF Tryz.prog Tryz.f37=some c37:=by kernel_rfl
theorem era37:c37.code=a37.erase:=rfl
def s38_0:=[za4 2 95 0,za4 3 95 1,zag 4]
def s38_1:=[zg 6 0 2,ze 7 1 6,zg 8 0 3,ze 9 1 8,zbc 10 7 9,za 11 10,zs 12 1 2 11,zt 13 1 12 11,zs 14 1 3 11,zt 15 1 14 11,zaz 16 13 15 11,zm 17 11 16,za 18 17,zs 19 3 2 18,zt 20 1 19 18,zs 21 3 3 18,zt 22 1 21 18,zaz 23 20 22 18,zm 24 18 23,za 25 24,zs 26 2 2 25,zt 27 1 26 25,zba 28 27 25,zs 29 2 3 25,zt 30 1 29 25,zba 31 30 25,zaz 32 28 31 25,zm 33 25 32]
def s38_2:=[zag 4]
def s38_3:=[zk 5 0]
def s38_4:=[za 34 5,zg 35 2 2,ze 36 1 35,zx 37 36,zr 38 34 37]
def s38_5:=[zg 41 2 2,ze 42 1 41,za 43 5,zf 44 4 42 43,zg 45 0 44,ze 46 1 45,zg 47 2 3,ze 48 1 47,za 49 5,zf 50 4 48 49,zg 51 0 50,ze 52 1 51,zbc 53 46 52,za 54 53,zs 55 2 2 54,zt 56 1 55 54,zq 57 5 54,zb9 58 4 56 57 54,zs 59 1 58 54,zao 60 3 59 54,zs 61 2 3 54,zt 62 1 61 54,zq 63 5 54,zb9 64 4 62 63 54,zs 65 1 64 54,zao 66 3 65 54,zbm 67 37 60 66 54,zb2 68 67 54,zm 69 54 68]
def s38_6:=[zag 4]
def s38_7:=[za 39 5,zn 40 39 1,za 5 40]
def s38_8:=[zbs 4]
def a38:AC:=Z.r s38_0 [2,3] (Z.s (Z.r s38_1 [2,3,33] (Z.c 33 (Z.e s38_2) .skip)) [2,3] (Z.s (Z.r s38_3 [2,3,5] (Z.b 0 (Z.l [2,3,5] (Z.s (Z.r s38_4 [2,3,5,38] (Z.c 38 .skip (.exit 0))) [2,3,5] (Z.s (Z.b 1 (Z.d s38_5 [2,3,5,69] (Z.c 69 (Z.e s38_6) .skip))) [2,3,5] (Z.g s38_7)))))) [] (Z.e s38_8)))
def c38:FC:=⟨70,a38.erase,[.tmp 4]⟩
theorem comp38:compF Tryz.prog Tryz.f38=some c38:=by kernel_rfl
theorem era38:c38.code=a38.erase:=rfl
def s39_0:=[zag 4]
def s39_1:=[za 6 0,zx 7 6,za 8 1,zx 9 8,zbc 10 7 9]
def s39_2:=[zag 4]
def s39_3:=[zk 5 0]
def s39_4:=[za 11 5,za 12 0,zx 13 12,zr 14 11 13]
def s39_5:=[za 17 0,za 18 5,zf 19 2 17 18,zp 20 2 19,za 21 1,za 22 5,zf 23 2 21 22,zp 24 2 23,q0 25 (.eqs true [.str,.int] (.tmp 20) (.tmp 24))]
def s39_6:=[zag 4]
def s39_7:=[za 15 5,zn 16 15 1,za 5 16]
def s39_8:=[zbs 4]
def a39:AC:=Z.r s39_0 [0,1] (Z.s (Z.r s39_1 [0,1,10] (Z.c 10 (Z.e s39_2) .skip)) [0,1] (Z.s (Z.r s39_3 [0,1,5] (Z.b 0 (Z.l [0,1,5] (Z.s (Z.r s39_4 [0,1,5,14] (Z.c 14 .skip (.exit 0))) [0,1,5] (Z.s (Z.b 1 (Z.d s39_5 [0,1,5,25] (Z.c 25 (Z.e s39_6) .skip))) [0,1,5] (Z.g s39_7)))))) [] (Z.e s39_8)))
def c39:FC:=⟨26,a39.erase,[.tmp 4]⟩
theorem comp39:compF Tryz.prog Tryz.f39=some c39:=by kernel_rfl
theorem era39:c39.code=a39.erase:=rfl
def s40_0:=[zb 0 100]
def s40_1:=[zb 1 100]
def s40_2:=[q0 3 (.mkfn (Fn.func 69) [] [.tmp 1]),za 2 3]
def s40_3:=[za 4 2,q0 5 (.callv (.tmp 4) [ks ⟨#[9,10,13,32]⟩,.const (.int .u8 1)])]
def s40_4:=[za 6 2,q0 7 (.callv (.tmp 6) [ks ⟨#[97,98,99,100,101,102,103,104,105,106,107,108,109,110,111,112,113,114,115,116,117,118,119,120,121,122]⟩,.const (.int .u8 2)])]
def s40_5:=[za 8 2,q0 9 (.callv (.tmp 8) [ks ⟨#[48,49,50,51,52,53,54,55,56,57]⟩,.const (.int .u8 3)])]
def s40_6:=[za 10 2,q0 11 (.callv (.tmp 10) [ks ⟨#[95]⟩,.const (.int .u8 4)])]
def s40_7:=[za 12 2,q0 13 (.callv (.tmp 12) [ks ⟨#[34]⟩,.const (.int .u8 5)])]
def s40_8:=[za 14 2,q0 15 (.callv (.tmp 14) [ks ⟨#[35]⟩,.const (.int .u8 6)])]
def s40_9:=[za 16 2,q0 17 (.callv (.tmp 16) [ks ⟨#[123,125,40,41,91,93,44,58,59,61,60,43,45,42,47,94,64]⟩,.const (.int .u8 7)])]
def s40_10:=[za 18 2,q0 19 (.callv (.tmp 18) [ks ⟨#[33]⟩,.const (.int .u8 8)])]
def s40_11:=[zp 20 256 1,zc 256 0 20]
def a40:AC:=Z.r s40_0 [0] (Z.r s40_1 [0,1] (Z.r s40_2 [0,1,2] (Z.r s40_3 [0,1,2] (Z.r s40_4 [0,1,2] (Z.r s40_5 [0,1,2] (Z.r s40_6 [0,1,2] (Z.r s40_7 [0,1,2] (Z.r s40_8 [0,1,2] (Z.r s40_9 [0,1,2] (Z.r s40_10 [0,1] (Z.e s40_11)))))))))))
def c40:FC:=⟨21,a40.erase,[.cell 0 true 256]⟩
theorem comp40:compF Tryz.prog Tryz.f40=some c40:=by kernel_rfl
theorem era40:c40.code=a40.erase:=rfl
def s41_0:=[ze 4 1 1,zx 5 4,za8 6 5 32]
def s41_1:=[ze 7 1 1,ze 8 1 2,za 9 0,zca 10 8 9,zcu 11 49 10,zck 12 49 7 11,zc 1 1 12]
def a41:AC:=Z.r s41_0 [0,1,2,6] (Z.c 6 (Z.g s41_1) .skip)
def c41:FC:=⟨13,a41.erase,[]⟩
theorem comp41:compF Tryz.prog Tryz.f41=some c41:=by kernel_rfl
theorem era41:c41.code=a41.erase:=rfl
def s42_0:=[za4 3 22 0,za4 5 105 2,zk 6 0,zk 7 0,zk 8 0]
def s42_1:=[q0 12 (.mkfn (Fn.func 70) [] [.tmp 3,.tmp 5]),za 9 12]
def s42_2:=[za 13 1,zn 14 13 1,za 7 14]
def s42_3:=[ze 15 1 5,ze 16 1 3,za 17 1,zf 18 1 16 17,ze 19 1 18,zu 20 15,zcw 21 20 19,ze 22 1 21]
def s42_4:=[q0 24 (.bin .eql (.tmp 22) (.const (.int .u8 1))),za 23 24]
def s42_5:=[za 25 7,zk 6 0,za 7 25,zk 8 0]
def s42_6:=[q0 27 (.bin .eql (.tmp 22) (.const (.int .u8 6))),za 26 27]
def s42_7:=[ze 28 1 3,za 29 1,q0 30 (.slice 1 (.tmp 28) (some (.tmp 29)) none),q0 31 (.call 71 [.tmp 30,.const (.int .u8 10)]),za 10 31]
def s42_8:=[za 32 10,zbd 33 32 0]
def s42_9:=[za 34 1,za 35 10,zy 36 34 35,zk 6 0,za 7 36,zk 8 0]
def s42_10:=[ze 37 1 3,zx 38 37,zk 6 0,za 7 38,zk 8 0]
def s42_11:=[q0 40 (.bin .eql (.tmp 22) (.const (.int .u8 2))),za 39 40]
def s42_12:=[za 41 9,za 42 1,q0 43 (.mksl 5 1 [.const (.int .u8 2),.const (.int .u8 3),.const (.int .u8 4)]),zbz 44 41 42 43,za 7 44]
def s42_13:=[za 45 7,za 46 1,zac 47 45 46,za3 48 47 24]
def s42_14:=[zk 8 2]
def s42_15:=[za 49 7,za 50 8,zk 6 1,za 7 49,za 8 50]
def s42_16:=[q0 52 (.bin .eql (.tmp 22) (.const (.int .u8 3))),za 51 52]
def s42_17:=[za 53 9,za 54 1,q0 55 (.mksl 5 1 [.const (.int .u8 3)]),zbz 56 53 54 55,za 7 56]
def s42_18:=[zk 6 2]
def s42_19:=[za 57 7,ze 58 1 3,zx 59 58,zr 60 57 59,za 61 60,zo 62 1 3 61,zi 63 7 61,zz 64 1 62 63 61,zo 65 1 64 61,q1 66 (.bin .eql (.tmp 65) (.const (.int .u8 46))) 61 true,zj 67 61 66,za 68 67,zi 69 9 68,zi 70 7 68,q1 71 (.bin .add (.tmp 70) (ki 1)) 68 true,q1 72 (.mksl 5 1 [.const (.int .u8 3)]) 68 true,q1 73 (.callv (.tmp 69) [.tmp 71,.tmp 72]) 68 true,zi 74 7 68,q1 75 (.bin .add (.tmp 74) (ki 1)) 68 true,q1 76 (.bin .gtr (.tmp 73) (.tmp 75)) 68 true,zj 77 68 76]
def s42_20:=[za 78 9,za 79 7,zn 80 79 1,q0 81 (.mksl 5 1 [.const (.int .u8 3)]),zbz 82 78 80 81,za 7 82,zk 6 3]
def s42_21:=[za 83 6,za 84 7,za 85 6,ze 86 1 3,za 87 1,za 88 7,zb5 89 86 87 88,zbj 90 89 9 89,zar 91 72 85 90,za 6 83,za 7 84,za 8 91]
def s42_22:=[q0 93 (.bin .eql (.tmp 22) (.const (.int .u8 5))),za 92 93]
def s42_23:=[ze 94 1 3,za 95 1,zn 96 95 1,q0 97 (.slice 1 (.tmp 94) (some (.tmp 96)) none),q0 98 (.call 73 [.tmp 97,ks ⟨#[34,10]⟩]),za 11 98]
def s42_24:=[za 99 11,za8 100 99 0,za 101 100,zt 102 1 3 101,zq 103 1 101,q1 104 (.bin .add (.tmp 103) (ki 1)) 101 false,zq 105 11 101,q1 106 (.bin .add (.tmp 104) (.tmp 105)) 101 false,zb9 107 1 102 106 101,zt 108 1 107 101,q1 109 (.bin .eql (.tmp 108) (.const (.int .u8 10))) 101 false,zm 110 101 109]
def s42_25:=[za 111 7,zce 6,za 7 111,zk 8 80]
def s42_26:=[za 112 1,za 113 11,zy 114 112 113,zn 115 114 2,ze 116 1 3,za 117 1,zn 118 117 1,za 119 1,za 120 11,zy 121 119 120,zn 122 121 1,zb5 123 116 118 122,zl 124 74 123,zk 6 4,za 7 115,za 8 124]
def s42_27:=[q0 126 (.bin .eql (.tmp 22) (.const (.int .u8 7))),za 125 126]
def s42_28:=[q0 127 (.bin .eql (.tmp 22) (.const (.int .u8 8))),za 125 127]
def s42_29:=[za 128 7,ze 129 1 3,zx 130 129,zr 131 128 130,za 132 131,zo 133 1 3 132,zi 134 7 132,zz 135 1 133 134 132,zo 136 1 135 132,q1 137 (.bin .eql (.tmp 136) (.const (.int .u8 61))) 132 true,zj 138 132 137,za 139 138,zo 140 1 3 139,zi 141 1 139,zz 142 1 140 141 139,zo 143 1 142 139,q1 144 (.call 75 [ks ⟨#[61,33,60]⟩,.tmp 143]) 139 true,q1 145 (.bin .geq (.tmp 144) (ki 0)) 139 true,zj 146 139 145]
def s42_30:=[za 147 7,zn 148 147 1,zk 6 5,za 7 148,zk 8 0]
def s42_31:=[ze 149 1 3,za 150 1,zf 151 1 149 150,ze 152 1 151,q0 153 (.bin .neq (.tmp 152) (.const (.int .u8 33)))]
def s42_32:=[za 154 7,zk 6 5,za 7 154,zk 8 0]
def s42_33:=[za 155 7,zce 6,za 7 155,zk 8 80]
def a42:AC:=Z.r s42_0 [1,3,5,8] (Z.r s42_1 [1,3,5,8,9] (Z.r s42_2 [1,3,5,7,8,9] (Z.s (Z.d s42_3 [1,3,7,8,9,22] (Z.b 0 (Z.r s42_4 [1,3,7,8,9,22,23] (Z.c 23 (Z.e s42_5) (Z.r s42_6 [1,3,7,8,9,22,26] (Z.c 26 (Z.s (Z.r s42_7 [1,3,10] (Z.r s42_8 [1,3,10,33] (Z.c 33 (Z.e s42_9) .skip))) [3] (.seq (.dreg s42_10) .ret)) (Z.r s42_11 [1,3,7,8,9,22,39] (Z.c 39 (Z.r s42_12 [1,7,8] (Z.s (Z.r s42_13 [7,8,48] (Z.c 48 (Z.g s42_14) .skip)) [7,8] (Z.e s42_15))) (Z.r s42_16 [1,3,7,9,22,51] (Z.c 51 (Z.r s42_17 [1,3,7,9] (Z.r s42_18 [1,3,6,7,9] (Z.s (Z.r s42_19 [1,3,6,7,9,77] (Z.c 77 (Z.g s42_20) .skip)) [1,3,6,7] (Z.e s42_21)))) (Z.r s42_22 [1,3,7,22,92] (Z.c 92 (Z.r s42_23 [1,3,7,11] (Z.s (Z.r s42_24 [1,3,7,11,110] (Z.c 110 (Z.e s42_25) .skip)) [1,3,11] (Z.e s42_26))) (Z.s (Z.r s42_27 [1,3,7,22,125] (Z.c 125 .skip (Z.g s42_28))) [1,3,7,125] (Z.c 125 (Z.s (Z.r s42_29 [1,3,7,146] (Z.c 146 (Z.e s42_30) .skip)) [1,3,7] (Z.r s42_31 [7,153] (Z.c 153 (Z.e s42_32) .skip))) .skip)))))))))))))) [7] (Z.e s42_33))))
def c42:FC:=⟨156,a42.erase,[.tmp 6,.tmp 7,.tmp 8]⟩
theorem comp42:compF Tryz.prog Tryz.f42=some c42:=by kernel_rfl
theorem era42:c42.code=a42.erase:=rfl
def s44_0:=[zag 2]
def s44_1:=[za 3 0,zc4 4 3,za 5 4,zi 6 0 5,q1 7 (.call 76 [.tmp 6,ks ⟨#[32]⟩]) 5 true,zb7 8 7 5,zj 9 5 8,za 10 9,zi 11 0 10,q1 12 (.bin .add (ks ⟨#[32]⟩) (.tmp 11)) 10 true,q1 13 (.bin .add (.tmp 12) (ks ⟨#[32]⟩)) 10 true,q1 14 (.call 76 [.const (.string (ByteArray.mk (List.toArray (List.append (List.append [32,116,97,98,108,101,32,102,101,97,116,117,114,101,32,111,102,32,107,101,101,112,32,98,111,111,108,32,116,101,120,116,32,107,101,121,32,105,110,116,32,100,101,99,32,105] [102,32,116,104,101,110,32,101,108,115,101,32,100,101,102,97,117,108,116,32,111,114,32,97,110,100,32,110,111,116,32,116,114,117,101,32,102,97,108,115,101,32,110,117,108,108,32]) (List.append [99,111,117,110,116,32,115,117,109,32,109,101,97,110,32,109,105,110,32,109,97,120,32,102,105,114,115,116,32,108,97,115,116,32,100,105,115,116,105,110,99,116,32,113,117,97] [110,116,105,108,101,32,100,101,99,97,121,32,97,108,108,32,115,108,105,100,105,110,103,32,116,117,109,98,108,105,110,103,32,115,101,115,115,105,111,110,32,119,104,101,114,101,32]))))),.tmp 13]) 10 true,zj 15 10 14,za 2 15]
def a44:AC:=Z.r s44_0 [0] (Z.e s44_1)
def c44:FC:=⟨16,a44.erase,[.tmp 2]⟩
theorem comp44:compF Tryz.prog Tryz.f44=some c44:=by kernel_rfl
theorem era44:c44.code=a44.erase:=rfl
def s47_0:=[zag 2]
def s47_1:=[za 5 0,zbw 6 5,zab 7 6 0,za 8 7,zq 9 0 8,q1 10 (.len true (.tmp 9)) 8 false,za9 11 10 24 8,zm 12 8 11,za 13 12,zq 14 0 13,q1 15 (.idxs (.tmp 14) (ki 0)) 13 false,q1 16 (.bin .lss (.tmp 15) (.const (.int .u8 97))) 13 false,zm 17 13 16,za 18 17,zq 19 0 18,q1 20 (.idxs (.tmp 19) (ki 0)) 18 false,q1 21 (.bin .gtr (.tmp 20) (.const (.int .u8 122))) 18 false,zm 22 18 21]
def s47_2:=[zag 2]
def s47_3:=[za 23 0,zbw 24 23,zk 25 0]
def s47_4:=[zr 26 25 24]
def s47_5:=[za 27 25,za 3 27]
def s47_6:=[za 28 0,za 29 3,zcv 30 28 29,za 4 30]
def s47_7:=[za 31 4,q0 32 (.bin .lss (.tmp 31) (.const (.int .u8 97))),za 33 32,zq 34 4 33,q1 35 (.bin .gtr (.tmp 34) (.const (.int .u8 122))) 33 false,zm 36 33 35,za 37 36,zi 38 4 37,q1 39 (.bin .lss (.tmp 38) (.const (.int .u8 48))) 37 true,zi 40 39 37,zq 41 4 40,q1 42 (.bin .gtr (.tmp 41) (.const (.int .u8 57))) 40 false,zch 43 40 42 37,zj 44 37 43,za 45 44,zi 46 4 45,q1 47 (.bin .neq (.tmp 46) (.const (.int .u8 95))) 45 true,zj 48 45 47]
def s47_8:=[zag 2]
def s47_9:=[zn 49 25 1,za 25 49]
def s47_10:=[zbs 2]
def a47:AC:=Z.r s47_0 [0] (Z.s (Z.r s47_1 [0,22] (Z.c 22 (Z.e s47_2) .skip)) [0] (Z.s (Z.r s47_3 [0,24,25] (Z.b 0 (Z.l [0,24,25] (Z.r s47_4 [0,24,25,26] (Z.s (Z.c 26 .skip (.exit 0)) [0,24,25] (Z.s (Z.b 1 (Z.r s47_5 [0,3,24,25] (Z.r s47_6 [0,4,24,25] (Z.r s47_7 [0,24,25,48] (Z.c 48 (Z.e s47_8) .skip))))) [0,24,25] (Z.g s47_9))))))) [] (Z.e s47_10)))
def c47:FC:=⟨50,a47.erase,[.tmp 2]⟩
theorem comp47:compF Tryz.prog Tryz.f47=some c47:=by kernel_rfl
theorem era47:c47.code=a47.erase:=rfl
def s49_0:=[q0 2 (.alloc 112 (.agg #[.int .i64 0,.int .u64 0]))]
def s49_1:=[za 3 0,q0 4 (.bin .shr (.tmp 3) (.const (.int .u64 63))),za 5 0,zb8 6 5,q0 7 (.build [.int .i64 0,.int .u64 0] [(0,1,.tmp 4),(1,1,.tmp 6)]),zc 2 2 7]
def a49:AC:=Z.r s49_0 [0,2] (Z.e s49_1)
def c49:FC:=⟨8,a49.erase,[.cell 2 true 2]⟩
theorem comp49:compF Tryz.prog Tryz.f49=some c49:=by kernel_rfl
theorem era49:c49.code=a49.erase:=rfl
def s51_0:=[za4 2 112 0,zk 4 0,zag 5]
def s51_1:=[za 10 1,zab 11 10 0]
def s51_2:=[zk 4 0,zag 5]
def s51_3:=[zp 12 2 2,zl 13 83 12,za 14 1,zl 15 49 14,zl 16 83 15,q0 17 (.extq (.index 156 (.tmp 16) (ki 0)) 110 [] [.tmp 16,ki 0]),q0 6 (.alloc 156 (.agg #[.int .u64 0,.int .u64 0])),zc 2 6 13,za 7 17]
def s51_4:=[q0 18 (.iaddrA 2 1 (.tmp 6) (ki 1)),ze 19 1 18,za 20 7,zcf 21 19 20]
def s51_5:=[zk 4 0,zag 5]
def s51_6:=[q0 23 (.iaddrA 2 1 (.tmp 6) (ki 1)),ze 24 1 23,q0 25 (.iaddrA 2 1 (.tmp 6) (ki 0)),ze 26 1 25,za 27 7,zay 28 84 24 26 27,za 22 28,zh 29 22 0,zh 30 22 1,za 8 29,za 9 30]
def s51_7:=[za 31 9,za 32 7,za 33 9,zac 34 32 33,zbb 35 31 34,za 36 35,zq 37 9 36,zq 38 7 36,zq 39 9 36,q1 40 (.bin .sub (.tmp 38) (.tmp 39)) 36 false,q1 41 (.bin .eql (.tmp 37) (.tmp 40)) 36 false,zq 42 41 36,zi 43 8 42,q1 44 (.bin .rem (.tmp 43) (.const (.int .u64 2))) 42 true,q1 45 (.bin .eql (.tmp 44) (.const (.int .u64 1))) 42 true,q1 46 (.pick (.tmp 42) (.tmp 45) kF) 36 false,zm 47 36 46]
def s51_8:=[za 48 8,q0 49 (.bin .eql (.tmp 48) (.const (.int .u64 18446744073709551615)))]
def s51_9:=[zk 4 0,zag 5]
def s51_10:=[za 50 8,q0 51 (.bin .add (.tmp 50) (.const (.int .u64 1))),za 8 51]
def s51_11:=[za 52 8,q0 53 (.bin .gtr (.tmp 52) (.const (.int .u64 1152921504606846976)))]
def s51_12:=[zk 4 0,zag 5]
def s51_13:=[zg 54 0 2,ze 55 1 54,za8 56 55 0,za 57 1,za8 58 57 0,q0 59 (.eqb true .bool (.tmp 56) (.tmp 58))]
def s51_14:=[za 60 8,zbr 61 60,q0 62 (.un .neg (.tmp 61)),za 4 62,zbs 5]
def s51_15:=[za 63 8,zbr 64 63,za 4 64,zbs 5]
def a51:AC:=Z.r s51_0 [1,2] (Z.s (Z.r s51_1 [1,2,11] (Z.c 11 (Z.e s51_2) .skip)) [1,2] (Z.r s51_3 [1,2,6,7] (Z.s (Z.r s51_4 [1,2,6,7,21] (Z.c 21 (Z.e s51_5) .skip)) [1,2,6,7] (Z.r s51_6 [1,2,7,8,9] (Z.s (Z.r s51_7 [1,2,8,47] (Z.c 47 (Z.s (Z.r s51_8 [1,2,8,49] (Z.c 49 (Z.e s51_9) .skip)) [1,2,8] (Z.g s51_10)) .skip)) [1,2,8] (Z.s (Z.r s51_11 [1,2,8,53] (Z.c 53 (Z.e s51_12) .skip)) [1,2,8] (Z.s (Z.r s51_13 [8,59] (Z.c 59 (Z.e s51_14) .skip)) [8] (Z.e s51_15))))))))
def c51:FC:=⟨65,a51.erase,[.tmp 4,.tmp 5]⟩
theorem comp51:compF Tryz.prog Tryz.f51=some c51:=by kernel_rfl
theorem era51:c51.code=a51.erase:=rfl
def s52_0:=[zag 4]
def s52_1:=[za 5 0,za 6 1,zbb 7 5 6,za 8 7,zq 9 0 8,zq 10 1 8,q1 11 (.un .neg (.tmp 10)) 8 false,zcr 12 9 11 8,zm 13 8 12,za 4 13]
def a52:AC:=Z.r s52_0 [0,1] (Z.e s52_1)
def c52:FC:=⟨14,a52.erase,[.tmp 4]⟩
theorem comp52:compF Tryz.prog Tryz.f52=some c52:=by kernel_rfl
theorem era52:c52.code=a52.erase:=rfl
def s57_0:=[zag 4]
def s57_1:=[za 6 0,zx 7 6,za 8 1,zx 9 8,zbc 10 7 9]
def s57_2:=[zag 4]
def s57_3:=[za 11 0,zx 12 11,zk 13 0]
def s57_4:=[zr 14 13 12]
def s57_5:=[za 15 13,za 5 15]
def s57_6:=[za 16 0,za 17 5,zf 18 2 16 17,zp 19 2 18,za 20 1,za 21 5,zf 22 2 20 21,zp 23 2 22,q0 24 (.eqs true [.str,.int] (.tmp 19) (.tmp 23))]
def s57_7:=[zag 4]
def s57_8:=[zn 25 13 1,za 13 25]
def s57_9:=[zbs 4]
def a57:AC:=Z.r s57_0 [0,1] (Z.s (Z.r s57_1 [0,1,10] (Z.c 10 (Z.e s57_2) .skip)) [0,1] (Z.s (Z.r s57_3 [0,1,12,13] (Z.b 0 (Z.l [0,1,12,13] (Z.r s57_4 [0,1,12,13,14] (Z.s (Z.c 14 .skip (.exit 0)) [0,1,12,13] (Z.s (Z.b 1 (Z.r s57_5 [0,1,5,12,13] (Z.d s57_6 [0,1,12,13,24] (Z.c 24 (Z.e s57_7) .skip)))) [0,1,12,13] (Z.g s57_8))))))) [] (Z.e s57_9)))
def s59_0:=[za4 1 74 0]
def s59_1:=[q0 2 (.alloc 95 (.agg #[.string ⟨#[]⟩,.string ⟨#[]⟩,.slice none 0 0,.int .i64 0]))]
def s59_2:=[ze 4 1 1,zl 5 89 4,za 3 5,zh 6 3 0,zh 7 3 1,zg 8 0 2,zc 1 8 6,zg 9 1 2,zc 1 9 7]
def s59_3:=[ze 10 1 1,zu 11 10,zg 12 0 11,q0 13 (.call 90 [.tmp 12,ks ⟨#[123]⟩])]
def s59_4:=[ze 14 1 1,zu 15 14,zg 16 0 15,q0 17 (.call 64 [.tmp 16,ki 5,ks ⟨#[125]⟩]),za6 18 17]
def s59_5:=[ze 19 1 1,zu 20 19,zg 21 0 20,q0 22 (.mkfn (Fn.func 92) [] [.tmp 1,.tmp 2]),q0 23 (.call 91 [.tmp 21,ks ⟨#[44]⟩,.tmp 22])]
def s59_6:=[ze 24 1 1,zu 25 24,zg 26 0 25,q0 27 (.call 90 [.tmp 26,ks ⟨#[125]⟩])]
def s59_7:=[ze 28 1 1,zu 29 28,zg 30 0 29,q0 31 (.call 64 [.tmp 30,ki 1,ks ⟨#[107,101,101,112]⟩])]
def s59_8:=[ze 32 1 1,zu 33 32,zg 34 0 33,zl 35 93 34,zg 36 3 2,zc 1 36 35]
def s59_9:=[ze 37 1 1,zu 38 37,zg 39 0 38,q0 40 (.call 90 [.tmp 39,ks ⟨#[59]⟩])]
def s59_10:=[ed 0 (ze 41 1 1) [],ed 1 (ze 42 1 1) [],ed 2 (zu 43 42) [],ed 3 (zg 44 2 43) [],ed 4 (zg 45 0 44) [],ed 5 (ze 46 1 45) [],ed 6 (zp 47 4 2) [],ed 7 (q0 48 (.mksl 95 4 [.tmp 47])) [],ed 8 (za5 49 95 46 48) [],ed 9 (zu 50 41) [],ed 10 (zg 51 2 50) [],ed 11 (zg 52 0 51) [],ed 12 (zc 1 52 49) []]
def a59:AC:=Z.r s59_0 [1] (Z.r s59_1 [1,2] (Z.r s59_2 [1,2] (Z.r s59_3 [1,2] (Z.s (Z.r s59_4 [1,2,18] (Z.c 18 (Z.r s59_5 [1,2] (Z.g s59_6)) .skip)) [1,2] (Z.s (Z.r s59_7 [1,2,31] (Z.c 31 (Z.g s59_8) .skip)) [1,2] (Z.r s59_9 [1,2] (.mreg [49] s59_10)))))))
def c59:FC:=⟨53,a59.erase,[]⟩
theorem comp59:compF Tryz.prog Tryz.f59=some c59:=by kernel_rfl
theorem era59:c59.code=a59.erase:=rfl
def s60_0:=[zal 2 98]
def s60_1:=[za 4 0,zl 5 89 4,za 3 5,zh 6 3 0,zh 7 3 1,zg 8 0 2,zc 1 8 6,zg 9 1 2,zc 1 9 7]
def s60_2:=[za 10 0,zu 11 10,zg 12 0 11,q0 13 (.call 90 [.tmp 12,ks ⟨#[58]⟩])]
def s60_3:=[za 14 0,zu 15 14,zg 16 0 15,zl 17 32 16,zg 18 2 2,zc 3 18 17]
def s60_4:=[za 19 0,zu 20 19,zg 21 0 20,q0 22 (.call 90 [.tmp 21,ks ⟨#[61]⟩])]
def s60_5:=[za 23 0,zu 24 23,zg 25 0 24,zl 26 30 25,zg 27 5 2,zc 12 27 26]
def s60_6:=[za 28 0,zu 29 28,zg 30 0 29,q0 31 (.call 90 [.tmp 30,ks ⟨#[59]⟩])]
def s60_7:=[ed 0 (za 32 0) [],ed 1 (za 33 0) [],ed 2 (zu 34 33) [],ed 3 (zg 35 2 34) [],ed 4 (zg 36 1 35) [],ed 5 (ze 37 1 36) [],ed 6 (zp 38 18 2) [],ed 7 (q0 39 (.mksl 98 18 [.tmp 38])) [],ed 8 (zv 40 98 37 39) [],ed 9 (zu 41 32) [],ed 10 (zg 42 2 41) [],ed 11 (zg 43 1 42) [],ed 12 (zc 1 43 40) [0]]
def a60:AC:=Z.r s60_0 [0,2] (Z.r s60_1 [0,2] (Z.r s60_2 [0,2] (Z.r s60_3 [0,2] (Z.r s60_4 [0,2] (Z.r s60_5 [0,2] (Z.r s60_6 [0,2] (.mreg [40] s60_7)))))))
def c60:FC:=⟨44,a60.erase,[]⟩
theorem comp60:compF Tryz.prog Tryz.f60=some c60:=by kernel_rfl
theorem era60:c60.code=a60.erase:=rfl
def s61_0:=[za 2 0,zu 3 2,zg 4 0 3,ze 5 1 4,zaa 6 3 5 0,zg 7 2 6,ze 8 1 7,q0 9 (.build [.int .i64 0,.int .i64 0] [(0,1,.tmp 8),(1,1,ki 90)]),zcs 10 9,q0 11 (.mkifc 128 (.tmp 10)),.mk none (.panic (.tmp 11)) none]
def a61:AC:=Z.g s61_0
def c61:FC:=⟨12,a61.erase,[]⟩
theorem comp61:compF Tryz.prog Tryz.f61=some c61:=by kernel_rfl
theorem era61:c61.code=a61.erase:=rfl
def s62_0:=[zk 6 20]
def s62_1:=[za 10 6,zk 7 0,za 8 10]
def s62_2:=[za 11 8,za 12 1,zbl 13 11 12]
def s62_3:=[za 14 0,za 15 7,za 16 8,za 17 2,zax 18 94 14 15 16 17]
def s62_4:=[za 19 8,za 7 19]
def s62_5:=[za 20 8,za 21 6,zy 22 20 21,za 8 22]
def s62_6:=[za 23 0,za 24 7,za 25 1,za 26 2,zax 27 94 23 24 25 26]
def s62_7:=[za 28 6,za 29 1,zr 30 28 29]
def s62_8:=[za 31 6,q0 32 (.bin .mul (ki 2) (.tmp 31)),zk 7 0,za 8 32]
def s62_9:=[za 33 8,za 34 1,zbl 35 33 34]
def s62_10:=[za 36 0,za 37 7,za 38 7,za 39 6,zy 40 38 39,za 41 8,za 42 2,zau 43 95 36 37 40 41 42]
def s62_11:=[za 44 8,za 7 44]
def s62_12:=[za 45 8,za 46 6,q0 47 (.bin .mul (ki 2) (.tmp 46)),zy 48 45 47,za 8 48]
def s62_13:=[za 49 7,za 50 6,zy 51 49 50,za 9 51]
def s62_14:=[za 52 9,za 53 1,zr 54 52 53]
def s62_15:=[za 55 0,za 56 7,za 57 9,za 58 1,za 59 2,zau 60 95 55 56 57 58 59]
def s62_16:=[za 61 6,zcl 62 61 2,za 6 62]
def a62:AC:=Z.r s62_0 [0,1,2,6] (Z.r s62_1 [0,1,2,6,7,8] (Z.s (Z.b 0 (Z.l [0,1,2,6,7,8] (Z.s (Z.r s62_2 [0,1,2,6,7,8,13] (Z.c 13 .skip (.exit 0))) [0,1,2,6,7,8] (Z.b 1 (Z.r s62_3 [0,1,2,6,8] (Z.r s62_4 [0,1,2,6,7,8] (Z.g s62_5))))))) [0,1,2,6,7] (Z.r s62_6 [0,1,2,6] (Z.b 2 (Z.l [0,1,2,6] (Z.s (Z.r s62_7 [0,1,2,6,30] (Z.c 30 .skip (.exit 2))) [0,1,2,6] (Z.b 3 (Z.r s62_8 [0,1,2,6,7,8] (Z.s (Z.b 4 (Z.l [0,1,2,6,7,8] (Z.s (Z.r s62_9 [0,1,2,6,7,8,35] (Z.c 35 .skip (.exit 4))) [0,1,2,6,7,8] (Z.b 5 (Z.r s62_10 [0,1,2,6,8] (Z.r s62_11 [0,1,2,6,7,8] (Z.g s62_12))))))) [0,1,2,6,7] (Z.s (Z.r s62_13 [0,1,2,6,7,9] (Z.r s62_14 [0,1,2,6,7,9,54] (Z.c 54 (Z.g s62_15) .skip))) [0,1,2,6] (Z.g s62_16)))))))))))
def c62:FC:=⟨63,a62.erase,[]⟩
theorem comp62:compF Tryz.prog Tryz.f62=some c62:=by kernel_rfl
theorem era62:c62.code=a62.erase:=rfl
def s64_0:=[zag 6]
def s64_1:=[za 7 0,za 8 1,za 9 2,zay 10 96 7 8 9,za6 11 10]
def s64_2:=[zag 6]
def s64_3:=[za 12 0,za 13 0,zu 14 13,zg 15 0 14,ze 16 1 15,zbf 17 16 1,zu 18 12,zg 19 0 18,zc 1 19 17]
def s64_4:=[zbs 6]
def a64:AC:=Z.r s64_0 [0,1,2] (Z.s (Z.r s64_1 [0,11] (Z.c 11 (Z.e s64_2) .skip)) [0] (Z.r s64_3 [] (Z.e s64_4)))
def c64:FC:=⟨20,a64.erase,[.tmp 6]⟩
theorem comp64:compF Tryz.prog Tryz.f64=some c64:=by kernel_rfl
theorem era64:c64.code=a64.erase:=rfl
def s65_0:=[za 4 0,za 5 1,q0 6 (.call 64 [.tmp 4,ki 1,.tmp 5]),za6 7 6]
def s65_1:=[za 8 0,zl 9 61 8]
def a65:AC:=Z.r s65_0 [0,7] (Z.c 7 (Z.g s65_1) .skip)
def c65:FC:=⟨10,a65.erase,[]⟩
theorem comp65:compF Tryz.prog Tryz.f65=some c65:=by kernel_rfl
theorem era65:c65.code=a65.erase:=rfl
def s66_0:=[zd 4 38]
def s66_1:=[za 10 1,zb3 11 10 3,za 12 11,zi 13 0 12,q1 14 (.call 96 [.tmp 13,ki 1,ks ⟨#[110,111,116]⟩]) 12 true,zj 15 12 14,za 5 15]
def s66_2:=[za 16 0,za 17 1,zar 18 97 16 17,zd 6 38,zc 12 6 18]
def s66_3:=[zk 7 7]
def s66_4:=[za 19 5]
def s66_5:=[zk 7 2]
def s66_6:=[za 20 0,zl 21 98 20,za 8 21]
def s66_7:=[za 22 8,za 23 1,zcf 24 22 23,za 25 24,zi 26 8 25,q1 27 (.bin .neq (.tmp 26) (ki 0)) 25 true,zj 28 25 27,za 29 28,zi 30 8 29,zi 31 7 29,q1 32 (.bin .leq (.tmp 30) (.tmp 31)) 29 true,zj 33 29 32]
def s66_8:=[za 36 0,zu 37 36,zg 38 0 37,ze 39 1 38,zaa 40 3 39 0,zg 41 1 40,ze 42 1 41,za 9 42]
def s66_9:=[za 43 0,za 44 0,zu 45 44,zg 46 0 45,ze 47 1 46,zbf 48 47 1,zu 49 43,zg 50 0 49,zc 1 50 48]
def s66_10:=[ed 0 (za 51 9) [],ed 1 (zp 52 12 6) [],ed 2 (za 53 0) [],ed 3 (za 54 8) [],ed 4 (zn 55 54 1) [],ed 5 (zar 56 66 53 55) [],ed 6 (zcb 57 38 52 56) [56],ed 7 (zad 58 7 51 57) [],ed 8 (zc 12 6 58) [6]]
def s66_11:=[za 59 8,za 7 59]
def s66_12:=[za 60 8,zab 61 60 4]
def s66_13:=[zk 7 3]
def s66_14:=[za 34 0,zl 35 98 34,za 8 35]
def s66_15:=[zp 62 12 6,zc 12 4 62]
def a66:AC:=Z.r s66_0 [0,1,4] (Z.r s66_1 [0,1,4,5] (Z.r s66_2 [0,1,4,5,6] (Z.r s66_3 [0,1,4,5,6,7] (Z.s (Z.r s66_4 [0,1,4,6,7,19] (Z.c 19 (Z.g s66_5) .skip)) [0,1,4,6,7] (Z.s (Z.r s66_6 [0,1,4,6,7,8] (Z.b 0 (Z.l [0,1,4,6,7,8] (Z.s (Z.r s66_7 [0,1,4,6,8,33] (Z.c 33 .skip (.exit 0))) [0,1,4,6,8] (Z.s (Z.b 1 (Z.r s66_8 [0,1,4,6,8,9] (Z.r s66_9 [0,1,4,6,8,9] (Z.s (.mreg [] s66_10) [0,1,4,6,8] (Z.r s66_11 [0,1,4,6,7,8] (Z.r s66_12 [0,1,4,6,7,61] (Z.c 61 (Z.g s66_13) .skip))))))) [0,1,4,6,7] (Z.g s66_14)))))) [4,6] (Z.e s66_15))))))
def c66:FC:=⟨63,a66.erase,[.cell 4 true 12]⟩
theorem comp66:compF Tryz.prog Tryz.f66=some c66:=by kernel_rfl
theorem era66:c66.code=a66.erase:=rfl
def s67_0:=[zc2 2]
def s67_1:=[za 3 0,zu 4 3,zg 5 0 4,ze 6 1 5,zaa 7 3 6 0,zg 8 1 7,ze 9 1 8,zl 10 20 9,za6 11 10]
def s67_2:=[za 12 0,zl 13 61 12]
def s67_3:=[za 14 0,za2 15 99 14 1,zc0 16 15,za 2 16]
def a67:AC:=Z.r s67_0 [0] (Z.s (Z.r s67_1 [0,11] (Z.c 11 (Z.g s67_2) .skip)) [0] (Z.e s67_3))
def c67:FC:=⟨17,a67.erase,[.tmp 2]⟩
theorem comp67:compF Tryz.prog Tryz.f67=some c67:=by kernel_rfl
theorem era67:c67.code=a67.erase:=rfl
def s68_0:=[za4 1 85 0,zam 2]
def s68_1:=[ze 7 1 1,zu 8 7,zg 9 0 8,ze 10 1 9,zaa 11 3 10 0,zg 12 2 11,ze 13 1 12,za 3 13]
def s68_2:=[ze 14 1 1,q0 15 (.call 64 [.tmp 14,ki 5,ks ⟨#[91]⟩]),za6 16 15]
def s68_3:=[zam 2]
def s68_4:=[q0 4 (.alloc 33 (.slice none 0 0))]
def s68_5:=[ze 17 1 1,q0 18 (.mkfn (Fn.func 100) [] [.tmp 1,.tmp 4]),q0 19 (.call 91 [.tmp 17,ks ⟨#[42]⟩,.tmp 18])]
def s68_6:=[ze 20 1 1,q0 21 (.call 90 [.tmp 20,ks ⟨#[93]⟩])]
def s68_7:=[ze 23 1 4,zl 24 22 23,za 22 24,zh 25 22 0,zh 26 22 1,za 5 25,za 6 26]
def s68_8:=[za 27 6,zat 28 27 0]
def s68_9:=[za 29 3,za 30 6,zca 31 29 30,zcs 32 31,q0 33 (.mkifc 128 (.tmp 32)),.mk none (.panic (.tmp 33)) none]
def s68_10:=[za 34 5,za 2 34]
def a68:AC:=Z.r s68_0 [1] (Z.r s68_1 [1,3] (Z.s (Z.r s68_2 [1,3,16] (Z.c 16 (Z.e s68_3) .skip)) [1,3] (Z.r s68_4 [1,3,4] (Z.r s68_5 [1,3,4] (Z.r s68_6 [3,4] (Z.r s68_7 [3,5,6] (Z.s (Z.r s68_8 [3,5,6,28] (Z.c 28 (Z.g s68_9) .skip)) [5] (Z.e s68_10))))))))
def c68:FC:=⟨35,a68.erase,[.tmp 2]⟩
theorem comp68:compF Tryz.prog Tryz.f68=some c68:=by kernel_rfl
theorem era68:c68.code=a68.erase:=rfl
def s69_0:=[za 6 0,zbw 7 6,zk 8 0]
def s69_1:=[zr 9 8 7]
def s69_2:=[za 10 8,za 5 10]
def s69_3:=[za 11 0,za 12 5,zcv 13 11 12,za 14 1,zcw 15 2 13,zc 1 15 14]
def s69_4:=[zn 16 8 1,za 8 16]
def a69:AC:=Z.r s69_0 [0,1,2,7,8] (Z.b 0 (Z.l [0,1,2,7,8] (Z.r s69_1 [0,1,2,7,8,9] (Z.s (Z.c 9 .skip (.exit 0)) [0,1,2,7,8] (Z.s (Z.b 1 (Z.r s69_2 [0,1,2,5,7,8] (Z.g s69_3))) [0,1,2,7,8] (Z.g s69_4))))))
def c69:FC:=⟨17,a69.erase,[]⟩
theorem comp69:compF Tryz.prog Tryz.f69=some c69:=by kernel_rfl
theorem era69:c69.code=a69.erase:=rfl
def s70_0:=[zk 6 0]
def s70_1:=[za 7 0,ze 8 1 2,zx 9 8,zr 10 7 9,za 11 10,zi 12 1 11,zo 13 1 3 11,zo 14 1 2 11,zi 15 0 11,zz 16 1 14 15 11,zo 17 1 16 11,q1 18 (.nilck (.tmp 13)) 11 true,q1 19 (.iaddrA 256 1 (.tmp 18) (.tmp 17)) 11 true,zo 20 1 19 11,zak 21 71 12 20 11,q1 22 (.bin .geq (.tmp 21) (ki 0)) 11 true,zj 23 11 22]
def s70_2:=[za 24 0,zn 25 24 1,za 0 25]
def s70_3:=[za 26 0,za 6 26]
def a70:AC:=Z.r s70_0 [0,1,2,3] (Z.s (Z.b 0 (Z.l [0,1,2,3] (Z.s (Z.d s70_1 [0,1,2,3,23] (Z.c 23 .skip (.exit 0))) [0,1,2,3] (Z.b 1 (Z.g s70_2))))) [0] (Z.e s70_3))
def c70:FC:=⟨27,a70.erase,[.tmp 6]⟩
theorem comp70:compF Tryz.prog Tryz.f70=some c70:=by kernel_rfl
theorem era70:c70.code=a70.erase:=rfl
end Go.Proofs.YtdcpcffpapiadaaGreatDoor
