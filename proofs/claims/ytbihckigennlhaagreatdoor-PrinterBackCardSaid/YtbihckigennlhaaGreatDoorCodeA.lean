/- The compiled code of functions, printed by a program of mine. -/
import Derived.Test.YtbihckigennlhaaGreatDoorGi
import Derived.Test.YtbihckigennlhaaGreatDoorRows
set_option linter.unusedVariables false
namespace Go.Sx
abbrev za(a0 a1:Nat):CI:=q0 a0 (.mv (.tmp a1))
abbrev zb(a0 a1 a2:Nat):CI:=q0 a0 (.load false a1 (.tmp a2))
abbrev zc(a0 a1:Nat):CI:=q0 a0 (.alloc a1 (.agg (List.toArray (List.append (List.append [.int .u8 0,.int .u8 0,.int .u8 0,.int .u8 0,.int .u8 0,.int .u8 0,.int .u8 0,.int .u8 0,.int .u8 0,.int .u8 0,.int .u8 0,.int .u8 0,.int .u8 0,.int .u8 0,.int .u8 0,.int .u8 0,.int .u8 0,.int .u8 0,.int .u8 0,.int .u8 0,.int .u8 0,.int .u8 0,.int .u8 0,.int .u8 0,.int .u8 0,.int .u8 0,.int .u8 0,.int .u8 0,.int .u8 0,.int .u8 0,.int .u8 0,.int .u8 0,.int .u8 0,.int .u8 0,.int .u8 0,.int .u8 0,.int .u8 0,.int .u8 0,.int .u8 0,.int .u8 0,.int .u8 0,.int .u8 0,.int .u8 0,.int .u8 0,.int .u8 0,.int .u8 0,.int .u8 0,.int .u8 0,.int .u8 0,.int .u8 0,.int .u8 0,.int .u8 0,.int .u8 0,.int .u8 0,.int .u8 0,.int .u8 0,.int .u8 0,.int .u8 0,.int .u8 0,.int .u8 0,.int .u8 0,.int .u8 0,.int .u8 0,.int .u8 0] [.int .u8 0,.int .u8 0,.int .u8 0,.int .u8 0,.int .u8 0,.int .u8 0,.int .u8 0,.int .u8 0,.int .u8 0,.int .u8 0,.int .u8 0,.int .u8 0,.int .u8 0,.int .u8 0,.int .u8 0,.int .u8 0,.int .u8 0,.int .u8 0,.int .u8 0,.int .u8 0,.int .u8 0,.int .u8 0,.int .u8 0,.int .u8 0,.int .u8 0,.int .u8 0,.int .u8 0,.int .u8 0,.int .u8 0,.int .u8 0,.int .u8 0,.int .u8 0,.int .u8 0,.int .u8 0,.int .u8 0,.int .u8 0,.int .u8 0,.int .u8 0,.int .u8 0,.int .u8 0,.int .u8 0,.int .u8 0,.int .u8 0,.int .u8 0,.int .u8 0,.int .u8 0,.int .u8 0,.int .u8 0,.int .u8 0,.int .u8 0,.int .u8 0,.int .u8 0,.int .u8 0,.int .u8 0,.int .u8 0,.int .u8 0,.int .u8 0,.int .u8 0,.int .u8 0,.int .u8 0,.int .u8 0,.int .u8 0,.int .u8 0,.int .u8 0]) (List.append [.int .u8 0,.int .u8 0,.int .u8 0,.int .u8 0,.int .u8 0,.int .u8 0,.int .u8 0,.int .u8 0,.int .u8 0,.int .u8 0,.int .u8 0,.int .u8 0,.int .u8 0,.int .u8 0,.int .u8 0,.int .u8 0,.int .u8 0,.int .u8 0,.int .u8 0,.int .u8 0,.int .u8 0,.int .u8 0,.int .u8 0,.int .u8 0,.int .u8 0,.int .u8 0,.int .u8 0,.int .u8 0,.int .u8 0,.int .u8 0,.int .u8 0,.int .u8 0,.int .u8 0,.int .u8 0,.int .u8 0,.int .u8 0,.int .u8 0,.int .u8 0,.int .u8 0,.int .u8 0,.int .u8 0,.int .u8 0,.int .u8 0,.int .u8 0,.int .u8 0,.int .u8 0,.int .u8 0,.int .u8 0,.int .u8 0,.int .u8 0,.int .u8 0,.int .u8 0,.int .u8 0,.int .u8 0,.int .u8 0,.int .u8 0,.int .u8 0,.int .u8 0,.int .u8 0,.int .u8 0,.int .u8 0,.int .u8 0,.int .u8 0,.int .u8 0] [.int .u8 0,.int .u8 0,.int .u8 0,.int .u8 0,.int .u8 0,.int .u8 0,.int .u8 0,.int .u8 0,.int .u8 0,.int .u8 0,.int .u8 0,.int .u8 0,.int .u8 0,.int .u8 0,.int .u8 0,.int .u8 0,.int .u8 0,.int .u8 0,.int .u8 0,.int .u8 0,.int .u8 0,.int .u8 0,.int .u8 0,.int .u8 0,.int .u8 0,.int .u8 0,.int .u8 0,.int .u8 0,.int .u8 0,.int .u8 0,.int .u8 0,.int .u8 0,.int .u8 0,.int .u8 0,.int .u8 0,.int .u8 0,.int .u8 0,.int .u8 0,.int .u8 0,.int .u8 0,.int .u8 0,.int .u8 0,.int .u8 0,.int .u8 0,.int .u8 0,.int .u8 0,.int .u8 0,.int .u8 0,.int .u8 0,.int .u8 0,.int .u8 0,.int .u8 0,.int .u8 0,.int .u8 0,.int .u8 0,.int .u8 0,.int .u8 0,.int .u8 0,.int .u8 0,.int .u8 0,.int .u8 0,.int .u8 0,.int .u8 0,.int .u8 0])))))
abbrev zd(a0 a1 a2:Nat):CI:=q0 a0 (.faddr a1 (.tmp a2))
abbrev ze(a0 a1 a2:Nat):CI:= .mk none (.store a0 (.tmp a1) (.tmp a2)) none
abbrev zf(a0 a1:Nat):CI:=q0 a0 (.alloc a1 (.agg #[.int .i64 0,.string ⟨#[]⟩,.string ⟨#[]⟩,.string ⟨#[]⟩,.int .i64 0,.int .i64 0,.string ⟨#[]⟩,.slice none 0 0,.int .i64 0,.int .i64 0,.int .i64 0,.slice none 0 0]))
abbrev zg(a0:Nat)(a1:Int):CI:=q0 a0 (.mv (ki a1))
abbrev zh(a0 a1 a2:Nat):CI:=q0 a0 (.load true a1 (.tmp a2))
abbrev zi(a0 a1 a2 a3:Nat):CI:=q0 a0 (.iaddr a1 (.tmp a2) (.tmp a3))
abbrev zj(a0 a1 a2:Nat):CI:=q0 a0 (.pick (.tmp a1) (.tmp a2) kF)
abbrev zk(a0 a1 a2:Nat):CI:=q0 a0 (.call a1 [.tmp a2])
abbrev zl(a0 a1 a2:Nat):CI:=q1 a0 (.mv (.tmp a1)) a2 true
abbrev zm(a0 a1 a2 a3:Nat):CI:=q1 a0 (.load false a1 (.tmp a2)) a3 true
abbrev zn(a0 a1 a2:Nat):CI:=q0 a0 (.pick (.tmp a1) kT (.tmp a2))
abbrev zo(a0 a1:Nat)(a2:Int):CI:=q0 a0 (.bin .add (.tmp a1) (ki a2))
abbrev zp(a0 a1 a2 a3:Nat):CI:=q1 a0 (.load false a1 (.tmp a2)) a3 false
abbrev zq(a0 a1 a2:Nat):CI:=q0 a0 (.extract (.tmp a1) a2)
abbrev zr(a0 a1:Nat)(a2:Int):CI:=q0 a0 (.bin .eql (.tmp a1) (ki a2))
abbrev zs(a0 a1 a2 a3:Nat):CI:=q1 a0 (.faddr a1 (.tmp a2)) a3 false
abbrev zt(a0 a1 a2 a3:Nat):CI:=q1 a0 (.faddr a1 (.tmp a2)) a3 true
abbrev zu(a0 a1 a2:Nat):CI:=q0 a0 (.bin .lss (.tmp a1) (.tmp a2))
abbrev zv(a0 a1 a2:Nat):CI:=q1 a0 (.mv (.tmp a1)) a2 false
abbrev zw(a0 a1 a2:Nat):CI:=q0 a0 (.box a1 (.tmp a2))
abbrev zx(a0 a1:Nat):CI:=q0 a0 (.len false (.tmp a1))
abbrev zy(a0:Nat):CI:=q0 a0 (.mv kF)
abbrev zz(a0 a1:Nat)(a2:Int):CI:=q0 a0 (.bin .sub (.tmp a1) (ki a2))
abbrev zaa(a0 a1 a2 a3 a4:Nat):CI:=q1 a0 (.iaddr a1 (.tmp a2) (.tmp a3)) a4 true
abbrev zab(a0 a1 a2:Nat):CI:=q0 a0 (.bin .add (.tmp a1) (.tmp a2))
abbrev zac(a0 a1:Nat):CI:=q0 a0 (.nilck (.tmp a1))
abbrev zad(a0 a1:Nat):CI:=q0 a0 (.un .not (.tmp a1))
abbrev zae(a0 a1 a2 a3:Nat):CI:=q0 a0 (.call a1 [.tmp a2,.tmp a3])
abbrev zaf(a0 a1 a2:Nat)(a3:Int):CI:=q0 a0 (.iaddr a1 (.tmp a2) (ki a3))
abbrev zag(a0 a1:Nat)(a2:Int):CI:=q0 a0 (.bin .neq (.tmp a1) (ki a2))
abbrev zah(a0:Nat)(a1:Int)(a2 a3:Nat):CI:=q0 a0 (.build [.int .i64 0,.string ⟨#[]⟩,.string ⟨#[]⟩,.string ⟨#[]⟩,.int .i64 0,.int .i64 0,.string ⟨#[]⟩,.slice none 0 0,.int .i64 0,.int .i64 0,.int .i64 0,.slice none 0 0] [(0,1,ki a1),(1,1,.tmp a2),(11,1,.tmp a3)])
abbrev zai(a0 a1 a2 a3:Nat):CI:=q1 a0 (.load true a1 (.tmp a2)) a3 true
abbrev zaj(a0 a1 a2 a3:Nat):CI:=q1 a0 (.load true a1 (.tmp a2)) a3 false
abbrev zak(a0:Nat)(a1:Int)(a2:Nat):CI:=q0 a0 (.build [.int .i64 0,.string ⟨#[]⟩,.string ⟨#[]⟩,.string ⟨#[]⟩,.int .i64 0,.int .i64 0,.string ⟨#[]⟩,.slice none 0 0,.int .i64 0,.int .i64 0,.int .i64 0,.slice none 0 0] [(0,1,ki a1),(2,1,.tmp a2)])
abbrev zal(a0 a1 a2:Nat):CI:=q0 a0 (.bin .sub (.tmp a1) (.tmp a2))
abbrev zam(a0 a1 a2 a3 a4:Nat):CI:=q1 a0 (.call a1 [.tmp a2,.tmp a3]) a4 true
abbrev zan(a0:Nat):CI:=q0 a0 (.mv (ks ⟨#[]⟩))
abbrev zao(a0:Nat)(a1:Int)(a2:Nat):CI:=q0 a0 (.build [.int .i64 0,.string ⟨#[]⟩,.string ⟨#[]⟩,.string ⟨#[]⟩,.int .i64 0,.int .i64 0,.string ⟨#[]⟩,.slice none 0 0,.int .i64 0,.int .i64 0,.int .i64 0,.slice none 0 0] [(0,1,ki a1),(11,1,.tmp a2)])
abbrev zap(a0:Nat)(a1:Int)(a2:Nat):CI:=q0 a0 (.build [.int .i64 0,.string ⟨#[]⟩,.string ⟨#[]⟩,.string ⟨#[]⟩,.int .i64 0,.int .i64 0,.string ⟨#[]⟩,.slice none 0 0,.int .i64 0,.int .i64 0,.int .i64 0,.slice none 0 0] [(0,1,ki a1),(4,3,.tmp a2)])
abbrev zaq(a0 a1:Nat)(a2:Int)(a3:Nat):CI:=q1 a0 (.bin .gtr (.tmp a1) (ki a2)) a3 false
abbrev zar(a0 a1:Nat)(a2:Int):CI:=q0 a0 (.bin .gtr (.tmp a1) (ki a2))
abbrev zas(a0 a1:Nat):CI:=q0 a0 (.alloc a1 (.agg #[.string ⟨#[]⟩,.string ⟨#[]⟩,.int .i64 0,.slice none 0 0,.string ⟨#[]⟩,.int .i64 0,.string ⟨#[]⟩,.string ⟨#[]⟩,.string ⟨#[]⟩,.int .i64 0,.int .i64 0,.string ⟨#[]⟩,.slice none 0 0,.int .i64 0,.int .i64 0,.int .i64 0,.slice none 0 0,.int .i64 0]))
abbrev zat(a0 a1:Nat)(a2:Int):CI:=q0 a0 (.bin .lss (.tmp a1) (ki a2))
abbrev zau(a0 a1:Nat)(a2:Int)(a3:Nat):CI:=q1 a0 (.bin .eql (.tmp a1) (ki a2)) a3 true
abbrev zav(a0 a1 a2 a3:Nat):CI:=q1 a0 (.bin .eql (.tmp a1) (.tmp a2)) a3 true
abbrev zaw(a0 a1 a2:Nat):CI:=q1 a0 (.un .not (.tmp a1)) a2 false
abbrev zax(a0:Nat)(a1:Int)(a2 a3 a4:Nat)(a5:Int)(a6:Nat):CI:= .mk none (.exts (.insert 199 (.tmp a0) (ki a1) (.tmp a2)) a3 [.mp 3 91,.int .i64] [.tmp a4,ki a5,.tmp a6]) none
abbrev zay(a0 a1 a2 a3:Nat):CI:=q0 a0 (.extq (.convert 9 22 (.tmp a1)) a2 [.str,.other,.sl 5,.int .u8] [.tmp a3])
abbrev zaz(a0:Nat):CI:=q0 a0 (.mv (.const (.slice none 0 0)))
abbrev za0(a0 a1 a2 a3:Nat):CI:=q1 a0 (.call a1 [.tmp a2]) a3 false
abbrev za2(a0 a1 a2 a3:Nat):CI:=q0 a0 (.append a1 18 248 [.string ⟨#[]⟩,.string ⟨#[]⟩,.int .i64 0,.slice none 0 0,.string ⟨#[]⟩,.int .i64 0,.string ⟨#[]⟩,.string ⟨#[]⟩,.string ⟨#[]⟩,.int .i64 0,.int .i64 0,.string ⟨#[]⟩,.slice none 0 0,.int .i64 0,.int .i64 0,.int .i64 0,.slice none 0 0,.int .i64 0] (.tmp a2) (.tmp a3))
abbrev za5(a0 a1 a2 a3 a4:Nat):CI:=q0 a0 (.call a1 [.tmp a2,.tmp a3,.tmp a4])
abbrev za6(a0 a1:Nat)(a2:Int)(a3:Nat):CI:=q1 a0 (.bin .eql (.tmp a1) (ki a2)) a3 false
abbrev za7(a0 a1:Nat):CI:=q0 a0 (.len true (.tmp a1))
abbrev za8(a0 a1:Nat)(a2:Int):CI:=q0 a0 (.bin .geq (.tmp a1) (ki a2))
abbrev za9(a0 a1 a2:Nat):CI:=q1 a0 (.len false (.tmp a1)) a2 false
abbrev zba(a0 a1 a2 a3:Nat):CI:=q0 a0 (.append a1 3 32 [.int .i64 0,.string ⟨#[]⟩,.int .i64 0] (.tmp a2) (.tmp a3))
abbrev zbb(a0 a1 a2 a3:Nat):CI:=q1 a0 (.pick (.tmp a1) kT (.tmp a2)) a3 true
abbrev zbc(a0:Nat):CI:=q0 a0 (.mv (.const (.int .i64 (-1))))
abbrev zbd(a0 a1 a2:Nat):CI:=q1 a0 (.un .not (.tmp a1)) a2 true
abbrev zbe(a0:Nat):CI:=q0 a0 (.mv kT)
abbrev zbf(a0 a1 a2:Nat)(a3:Int):CI:=q0 a0 (.call a1 [.tmp a2,ki a3])
abbrev zbg(a0 a1 a2:Nat):CI:=q0 a0 (.bin .eql (.tmp a1) (.tmp a2))
abbrev zbh(a0 a1 a2:Nat):CI:=q0 a0 (.bin .gtr (.tmp a1) (.tmp a2))
abbrev zbi(a0 a1 a2:Nat)(a3 a4:Int):CI:=q0 a0 (.call a1 [.tmp a2,ki a3,ki a4])
abbrev zbj(a0 a1:Nat):CI:=q0 a0 (.build [.int .i64 0,.string ⟨#[]⟩,.string ⟨#[]⟩,.string ⟨#[]⟩,.int .i64 0,.int .i64 0,.string ⟨#[]⟩,.slice none 0 0,.int .i64 0,.int .i64 0,.int .i64 0,.slice none 0 0] [(0,12,.tmp a1)])
abbrev zbk(a0 a1:Nat)(a2:Int)(a3:Nat):CI:=q1 a0 (.bin .neq (.tmp a1) (ki a2)) a3 false
abbrev zbl(a0 a1:Nat):CI:=q0 a0 (.bin .eql (.tmp a1) (ks ⟨#[113,117,97,110,116,105,108,101]⟩))
abbrev zbm(a0 a1 a2 a3:Nat):CI:=q1 a0 (.call a1 [.tmp a2]) a3 true
abbrev zbn(a0 a1 a2 a3:Nat):CI:=q1 a0 (.bin .neq (.tmp a1) (.tmp a2)) a3 false
abbrev zbo(a0 a1 a2 a3 a4:Nat):CI:=q1 a0 (.iaddr a1 (.tmp a2) (.tmp a3)) a4 false
abbrev zbp(a0 a1:Nat)(a2:Int):CI:=q0 a0 (.slice 3 (.tmp a1) (some (ki a2)) none)
abbrev zbq(a0 a1 a2 a3:Nat):CI:=q1 a0 (.pick (.tmp a1) (.tmp a2) kF) a3 false
abbrev zbr(a0 a1:Nat)(a2:Int):CI:=q0 a0 (.bin .leq (.tmp a1) (ki a2))
abbrev zbt(a0 a1:Nat)(a2:Int)(a3:Nat):CI:=q1 a0 (.bin .sub (.tmp a1) (ki a2)) a3 true
abbrev zbu(a0 a1:Nat):CI:=q0 a0 (.alloc a1 (.agg #[.int .i64 0,.string ⟨#[]⟩,.int .i64 0]))
abbrev zbv(a0 a1 a2:Nat):CI:=q0 a0 (.bin .neq (.tmp a1) (.tmp a2))
abbrev zbx(a0 a1:Nat)(a2:Int)(a3:Nat):CI:=q1 a0 (.bin .leq (.tmp a1) (ki a2)) a3 true
abbrev zbz(a0 a1 a2:Nat):CI:=q0 a0 (.idxs (.tmp a1) (.tmp a2))
abbrev zb0(a0 a1 a2:Nat):CI:=q1 a0 (.len true (.tmp a1)) a2 false
abbrev zb1(a0 a1:Nat):CI:=q0 a0 (.alloc a1 (.agg #[.int .i64 0,.slice none 0 0,.string ⟨#[]⟩]))
abbrev zb2(a0 a1:Nat)(a2:Int):CI:=q0 a0 (.bin .quo (.tmp a1) (ki a2))
abbrev zb4(a0:Nat)(a1:Int)(a2:Nat):CI:=q0 a0 (.build [.int .i64 0,.slice none 0 0,.string ⟨#[]⟩] [(0,1,ki a1),(1,1,.tmp a2)])
abbrev zb5(a0 a1 a2 a3:Nat):CI:=q1 a0 (.bin .add (.tmp a1) (.tmp a2)) a3 false
abbrev zb6(a0 a1 a2:Nat):CI:=q1 a0 (.bin .eql (.tmp a1) (ks ⟨#[]⟩)) a2 true
abbrev zb7(a0:Nat)(a1:Int)(a2:Nat):CI:=q0 a0 (.build [.int .i64 0,.int .i64 0,.string ⟨#[]⟩] [(0,1,ki a1),(1,1,.tmp a2)])
abbrev zb8(a0 a1 a2 a3:Nat):CI:=q0 a0 (.mksl a1 12 [.tmp a2,.tmp a3])
abbrev zb9(a0 a1:Nat)(a2:Int)(a3:Nat):CI:=q1 a0 (.bin .lss (.tmp a1) (ki a2)) a3 false
abbrev zca(a0 a1 a2 a3 a4:Nat):CI:=q1 a0 (.call a1 [.tmp a2,.tmp a3]) a4 false
abbrev zcb(a0:Nat)(a1 a2:Int):CI:=q0 a0 (.build [.int .i64 0,.int .i64 0,.string ⟨#[]⟩] [(0,1,ki a1),(1,1,ki a2)])
abbrev zcc(a0 a1:Nat):CI:=q0 a0 (.cvint .i64 (.tmp a1))
abbrev zcd(a0 a1:Nat):CI:=q0 a0 (.alloc a1 (.agg #[.string ⟨#[]⟩,.int .i64 0,.slice none 0 0,.string ⟨#[]⟩]))
abbrev zce(a0 a1 a2 a3:Nat):CI:=q0 a0 (.callv (.tmp a1) [.tmp a2,.tmp a3])
abbrev zcf(a0 a1 a2 a3:Nat):CI:=q0 a0 (.extq (.convert 22 9 (.tmp a1)) a2 [.sl 5,.int .u8,.str,.other] [.tmp a3])
abbrev zch(a0 a1 a2:Nat):CI:=q1 a0 (.len true (.tmp a1)) a2 true
abbrev zci(a0 a1 a2 a3:Nat):CI:=q0 a0 (.slice 1 (.tmp a1) (some (.tmp a2)) (some (.tmp a3)))
abbrev zcj(a0 a1:Nat):CI:=q0 a0 (.bin .eql (.tmp a1) (ks ⟨#[100,101,99,97,121]⟩))
abbrev zck(a0 a1:Nat):CI:=q0 a0 (.cvint .u64 (.tmp a1))
abbrev zcl(a0 a1 a2 a3:Nat):CI:=q1 a0 (.bin .lss (.tmp a1) (.tmp a2)) a3 false
abbrev zcm(a0:Nat)(a1:Int):CI:=q0 a0 (.build [.int .i64 0,.slice none 0 0,.string ⟨#[]⟩] [(0,1,ki a1)])
abbrev zcn(a0 a1 a2:Nat):CI:=q0 a0 (.bin .geq (.tmp a1) (.tmp a2))
abbrev zco(a0:Nat)(a1:Int)(a2:Nat):CI:=q0 a0 (.build [.int .i64 0,.int .i64 0] [(0,1,ki a1),(1,1,.tmp a2)])
abbrev zcp(a0 a1 a2 a3:Nat):CI:=q0 a0 (.build [.int .i64 0,.string ⟨#[]⟩,.int .i64 0] [(0,1,.tmp a1),(1,1,.tmp a2),(2,1,.tmp a3)])
abbrev zcq(a0 a1:Nat):CI:=q0 a0 (.alloc a1 (.agg #[.string ⟨#[]⟩,.int .i64 0]))
abbrev zcr(a0 a1:Nat)(a2:Int)(a3:Nat):CI:=q1 a0 (.bin .geq (.tmp a1) (ki a2)) a3 true
abbrev zct(a0 a1:Nat):CI:=q0 a0 (.alloc a1 (.agg #[.int .i64 0,.int .i64 0]))
abbrev zcv(a0 a1:Nat):CI:=q0 a0 (.bin .eql (.tmp a1) (ks ⟨#[]⟩))
abbrev zcw(a0 a1:Nat):CI:=q0 a0 (.bin .neq (.tmp a1) (ks ⟨#[]⟩))
abbrev zcy(a0 a1 a2:Nat):CI:=q1 a0 (.len false (.tmp a1)) a2 true
abbrev zcz(a0 a1:Nat):CI:=q0 a0 (.alloc a1 (.agg #[.slice none 0 0,.slice none 0 0]))
abbrev zc1(a0 a1:Nat):CI:=q0 a0 (.bin .eql (.tmp a1) (ks ⟨#[99,111,117,110,116]⟩))
abbrev zc2(a0 a1 a2 a3:Nat):CI:=q1 a0 (.bin .add (.tmp a1) (.tmp a2)) a3 true
abbrev zc3(a0 a1 a2:Nat):CI:=q1 a0 (.bin .gtr (.tmp a1) (.const (.int .u8 126))) a2 false
abbrev zc4(a0 a1 a2:Nat):CI:=q1 a0 (.bin .gtr (.tmp a1) (.const (.int .u8 122))) a2 false
abbrev zc5(a0 a1 a2:Nat):CI:=q1 a0 (.bin .leq (.tmp a1) (.const (.int .u8 122))) a2 true
abbrev zc6(a0 a1:Nat):CI:=q0 a0 (.build [.int .i64 0,.int .i64 0] [(0,2,.tmp a1)])
abbrev zc7(a0 a1 a2:Nat):CI:=q1 a0 (.bin .eql (.tmp a1) (.const (.int .u8 92))) a2 false
abbrev zc8(a0 a1 a2:Nat):CI:=q1 a0 (.bin .leq (.tmp a1) (.const (.int .u8 57))) a2 true
abbrev zc9(a0 a1:Nat):CI:=q0 a0 (.alloc a1 (.agg #[.string ⟨#[]⟩,.string ⟨#[]⟩,.slice none 0 0,.int .i64 0]))
abbrev zda(a0 a1 a2:Nat):CI:=q0 a0 (.callv (.tmp a1) [.tmp a2])
abbrev zdb(a0 a1 a2:Nat):CI:=q0 a0 (.iaddrA 256 1 (.tmp a1) (.tmp a2))
abbrev zdc(a0 a1:Nat):CI:=q0 a0 (.bin .add (.tmp a1) (ks ⟨#[10]⟩))
abbrev zdd(a0 a1:Nat):CI:=q0 a0 (.bin .eql (.tmp a1) (ks ⟨#[45]⟩))
abbrev zde(a0 a1 a2 a3:Nat):CI:=q0 a0 (.mksl a1 1 [.tmp a2,ks ⟨#[44,32]⟩,.tmp a3])
abbrev zdf(a0 a1:Nat):CI:=q0 a0 (.bin .eql (.tmp a1) (ks ⟨#[110,111,116]⟩))
abbrev zdh(a0 a1:Nat):CI:=q0 a0 (.call a1 [])
abbrev zdi(a0 a1 a2:Nat):CI:=q0 a0 (.call a1 [.tmp a2,ks ⟨#[44]⟩])
abbrev zdj(a0 a1:Nat):CI:=q0 a0 (.bin .geq (.tmp a1) (.const (.int .u8 97)))
abbrev zdk(a0 a1:Nat):CI:=q0 a0 (.bin .eql (.tmp a1) (ks ⟨#[100,105,115,116,105,110,99,116]⟩))
abbrev zdn(a0 a1:Nat):CI:=q0 a0 (.field false 1 1 (.tmp a1))
abbrev ed(k:Nat)(c:CI)(l:List Nat):CD:= .mk k c l
namespace Z
abbrev r(l:List CI)(k:List Nat)(a:AC):AC:= .seq (.reg l) (.keep k a)
abbrev d(l:List CI)(k:List Nat)(a:AC):AC:= .seq (.dreg l) (.keep k a)
abbrev e(l:List CI):AC:= .seq (.reg l) .ret
abbrev s(a:AC)(k:List Nat)(b:AC):AC:= .seq a (.keep k b)
abbrev c(n:Nat)(a b:AC):AC:= .cond (.tmp n) a b
abbrev g(l:List CI):AC:= .reg l
abbrev l(k:List Nat)(a:AC):AC:= .loop (.keep k a)
abbrev k(k:List Nat)(a:AC):AC:= .keep k a
abbrev b(n:Nat)(a:AC):AC:= .block n a
end Z
end Go.Sx
namespace Go.Proofs.YtbihckigennlhaaGreatDoor
open Go.Sx
def s3_0:=[zy 2]
def s3_1:=[zdh 13 8,zad 14 13]
def s3_2:=[zy 2]
def s3_3:=[za 15 0,zx 16 15,zar 17 16 3000]
def s3_4:=[zbe 2]
def s3_5:=[za 19 0,zk 20 9 19,za 18 20,zq 21 18 0,zq 22 18 1,zq 23 18 2,zf 3 31,ze 12 3 21,za 4 22,za 5 23]
def s3_6:=[za 24 5,zag 25 24 0]
def s3_7:=[zbe 2]
def s3_8:=[zh 27 12 3,zk 28 10 27,za 26 28,zq 29 26 0,zq 30 26 1,za 6 29,za 7 30]
def s3_9:=[za 31 7,zag 32 31 0]
def s3_10:=[za 33 6,zcv 34 33,za 35 34,zai 36 12 3 35,zbm 37 11 36 35,zl 38 7 35,zav 39 37 38 35,zj 40 35 39,za 2 40]
def s3_11:=[za 42 6,zay 43 42 22 42,zk 44 9 43,za 41 44,zq 45 41 0,zq 46 41 1,zq 47 41 2,zf 8 31,ze 12 8 45,za 9 46,za 10 47]
def s3_12:=[zh 49 12 8,zk 50 10 49,za 48 50,zq 51 48 0,zq 52 48 1,za 11 51,za 12 52]
def s3_13:=[za 53 10,zr 54 53 0,za 55 54,zl 56 12 55,zau 57 56 0 55,zj 58 55 57,za 59 58,zai 60 12 3 59,zai 61 12 8 59,zam 62 12 60 61 59,zj 63 59 62,za 64 63,zl 65 6 64,zl 66 11 64,zav 67 65 66 64,zj 68 64 67,za 2 68]
def a3:AC:=Z.r s3_0 [0] (Z.s (Z.r s3_1 [0,14] (Z.c 14 (Z.e s3_2) .skip)) [0] (Z.s (Z.r s3_3 [0,17] (Z.c 17 (Z.e s3_4) .skip)) [0] (Z.r s3_5 [3,5] (Z.s (Z.r s3_6 [3,25] (Z.c 25 (Z.e s3_7) .skip)) [3] (Z.r s3_8 [3,6,7] (Z.s (Z.r s3_9 [3,6,7,32] (Z.c 32 (Z.e s3_10) .skip)) [3,6] (Z.r s3_11 [3,6,8,10] (Z.r s3_12 [3,6,8,10,11,12] (Z.e s3_13)))))))))
def c3:FC:=⟨69,a3.erase,[.tmp 2]⟩
def s4_0:=[zw 1 31 0,zy 2]
def s4_1:=[zdh 13 8,zad 14 13]
def s4_2:=[zy 2]
def s4_3:=[zh 15 12 1,zbf 16 13 15 100,zat 17 16 0,za 18 17,zaj 19 12 1 18,za0 20 14 19 18,zbk 21 20 0 18,zn 22 18 21]
def s4_4:=[zbe 2]
def s4_5:=[zh 24 12 1,zk 25 10 24,za 23 25,zq 26 23 0,zq 27 23 1,za 3 26,za 4 27]
def s4_6:=[za 29 3,zay 30 29 22 29,zk 31 15 30,za 28 31,zq 32 28 0,zq 33 28 1,zq 34 28 2,za 5 32,za 6 33,za 7 34]
def s4_7:=[za 36 5,zk 37 16 36,za 35 37,zq 38 35 0,zq 39 35 1,za 8 38,za 9 39]
def s4_8:=[za 41 8,zk 42 9 41,za 40 42,zq 43 40 0,zq 44 40 1,zq 45 40 2,zf 10 31,ze 12 10 43,za 11 44,za 12 45]
def s4_9:=[za 46 4,zr 47 46 0,za 48 47,zl 49 7 48,zau 50 49 0 48,zj 51 48 50,za 52 51,zl 53 9 52,zau 54 53 0 52,zj 55 52 54,za 56 55,zl 57 12 56,zau 58 57 0 56,zj 59 56 58,za 60 59,zl 61 6 60,zcy 62 61 60,zau 63 62 0 60,zj 64 60 63,za 65 64,zai 66 12 1 65,zai 67 12 10 65,zam 68 12 66 67 65,zj 69 65 68,za 2 69]
def a4:AC:=Z.r s4_0 [1] (Z.s (Z.r s4_1 [1,14] (Z.c 14 (Z.e s4_2) .skip)) [1] (Z.s (Z.r s4_3 [1,22] (Z.c 22 (Z.e s4_4) .skip)) [1] (Z.r s4_5 [1,3,4] (Z.r s4_6 [1,4,5,6,7] (Z.r s4_7 [1,4,6,7,8,9] (Z.r s4_8 [1,4,6,7,9,10,12] (Z.e s4_9)))))))
def c4:FC:=⟨70,a4.erase,[.tmp 2]⟩
def s5_0:=[zw 2 31 0,zy 4]
def s5_1:=[zdh 18 8,zad 19 18]
def s5_2:=[zy 4]
def s5_3:=[zh 20 12 2,zbf 21 13 20 100,zat 22 21 0,za 23 22,zaj 24 12 2 23,za0 25 14 24 23,zbk 26 25 0 23,zn 27 23 26,za 28 27,zv 29 1 28,zb9 30 29 0 28,zn 31 28 30]
def s5_4:=[zbe 4]
def s5_5:=[zh 33 12 2,zk 34 10 33,za 32 34,zq 35 32 0,zq 36 32 1,za 5 35,za 6 36]
def s5_6:=[za 38 5,zay 39 38 22 38,zk 40 15 39,za 37 40,zq 41 37 0,zq 42 37 1,zq 43 37 2,za 7 41,za 8 42,za 9 43]
def s5_7:=[za 44 7,za 45 1,zae 46 17 44 45,za 10 46]
def s5_8:=[za 47 9,zag 48 47 0,za 49 48,zv 50 10 49,zb9 51 50 0 49,zn 52 49 51]
def s5_9:=[za 53 9,zr 54 53 0,za 4 54]
def s5_10:=[za 55 7,za 56 10,zae 57 18 55 56,za 11 57]
def s5_11:=[za 58 11,zat 59 58 0]
def s5_12:=[zy 4]
def s5_13:=[ed 0 (q0 60 (.mksl 98 3 [])) [],ed 1 (za 61 7) [],ed 2 (za 62 10) [],ed 3 (q0 63 (.slice 3 (.tmp 61) none (some (.tmp 62)))) [],ed 5 (za 65 7) [],ed 6 (za 66 10) [],ed 7 (zo 67 66 1) [],ed 8 (za 68 11) [],ed 9 (q0 69 (.slice 3 (.tmp 65) (some (.tmp 67)) (some (.tmp 68)))) [],ed 4 (zba 64 98 60 63) [],ed 10 (zba 70 98 64 69) [],ed 11 (za 12 70) []]
def s5_14:=[za 71 12,za 72 7,za 73 11,zo 74 73 1,q0 75 (.slice 3 (.tmp 72) (some (.tmp 74)) none),zba 76 98 71 75,za 12 76]
def s5_15:=[za 78 12,zk 79 16 78,za 77 79,zq 80 77 0,zq 81 77 1,za 13 80,za 14 81]
def s5_16:=[za 83 13,zk 84 9 83,za 82 84,zq 85 82 0,zq 86 82 1,zq 87 82 2,zf 15 31,ze 12 15 85,za 16 86,za 17 87]
def s5_17:=[za 88 14,zr 89 88 0,za 90 89,zl 91 17 90,q1 92 (.bin .neq (.tmp 91) (ki 0)) 90 true,zl 93 92 90,zaj 94 12 2 93,zaj 95 12 15 93,zca 96 12 94 95 93,zaw 97 96 93,zbb 98 93 97 90,zj 99 90 98,za 4 99]
def a5:AC:=Z.r s5_0 [1,2] (Z.s (Z.r s5_1 [1,2,19] (Z.c 19 (Z.e s5_2) .skip)) [1,2] (Z.s (Z.r s5_3 [1,2,31] (Z.c 31 (Z.e s5_4) .skip)) [1,2] (Z.r s5_5 [1,2,5] (Z.r s5_6 [1,2,7,9] (Z.r s5_7 [2,7,9,10] (Z.s (Z.r s5_8 [2,7,9,10,52] (Z.c 52 (Z.e s5_9) .skip)) [2,7,10] (Z.r s5_10 [2,7,10,11] (Z.s (Z.r s5_11 [2,7,10,11,59] (Z.c 59 (Z.e s5_12) .skip)) [2,7,10,11] (Z.s (.mreg [64,70] s5_13) [2,7,11,12] (Z.r s5_14 [2,12] (Z.r s5_15 [2,13,14] (Z.r s5_16 [2,14,15,17] (Z.e s5_17)))))))))))))
def c5:FC:=⟨100,a5.erase,[.tmp 4]⟩
def s6_0:=[zw 2 31 0,zw 3 51 1,zy 4]
def s6_1:=[zdh 17 8,zad 18 17]
def s6_2:=[zy 4]
def s6_3:=[zh 19 12 2,zbf 20 13 19 100,zat 21 20 0,za 22 21,zaj 23 3 3 22,za0 24 19 23 22,zaw 25 24 22,zn 26 22 25]
def s6_4:=[zbe 4]
def s6_5:=[zh 27 12 2,zk 28 14 27,zr 29 28 0]
def s6_6:=[zh 31 12 2,zk 32 10 31,za 30 32,zq 33 30 0,zq 34 30 1,za 5 33,za 6 34]
def s6_7:=[za 36 5,zay 37 36 22 36,zk 38 9 37,za 35 38,zq 39 35 0,zq 40 35 1,zq 41 35 2,zf 7 31,ze 12 7 39,za 8 40,za 9 41]
def s6_8:=[zh 43 12 7,zk 44 10 43,za 42 44,zq 45 42 0,zq 46 42 1,za 10 45,za 11 46]
def s6_9:=[za 47 6,zag 48 47 0,za 49 48,zv 50 9 49,zbk 51 50 0 49,zn 52 49 51,za 53 52,zv 54 11 53,zbk 55 54 0 53,zn 56 53 55,za 57 56,zaj 58 12 2 57,zaj 59 12 7 57,zca 60 12 58 59 57,zaw 61 60 57,zn 62 57 61,za 63 62,zv 64 10 63,zv 65 5 63,zbn 66 64 65 63,zn 67 63 66]
def s6_10:=[zy 4]
def s6_11:=[zh 68 3 3,zk 69 20 68,zag 70 69 0]
def s6_12:=[zbe 4]
def s6_13:=[zh 72 3 3,zk 73 21 72,za 71 73,zq 74 71 0,zq 75 71 1,za 12 74,za 13 75]
def s6_14:=[za 77 12,zay 78 77 22 77,zk 79 22 78,za 76 79,zq 80 76 0,zq 81 76 1,zq 82 76 2,zb1 14 51,ze 3 14 80,za 15 81,za 16 82]
def s6_15:=[za 83 13,zr 84 83 0,za 85 84,zl 86 16 85,zau 87 86 0 85,zj 88 85 87,za 89 88,zai 90 3 3 89,zai 91 3 14 89,zam 92 23 90 91 89,zj 93 89 92,za 4 93]
def a6:AC:=Z.r s6_0 [2,3] (Z.s (Z.r s6_1 [2,3,18] (Z.c 18 (Z.e s6_2) .skip)) [2,3] (Z.s (Z.r s6_3 [2,3,26] (Z.c 26 (Z.e s6_4) .skip)) [2,3] (Z.s (Z.r s6_5 [2,3,29] (Z.c 29 (Z.r s6_6 [2,3,5,6] (Z.r s6_7 [2,3,5,6,7,9] (Z.r s6_8 [2,3,5,6,7,9,10,11] (Z.r s6_9 [3,67] (Z.c 67 (Z.e s6_10) .skip))))) .skip)) [3] (Z.s (Z.r s6_11 [3,70] (Z.c 70 (Z.e s6_12) .skip)) [3] (Z.r s6_13 [3,12,13] (Z.r s6_14 [3,13,14,16] (Z.e s6_15)))))))
def c6:FC:=⟨94,a6.erase,[.tmp 4]⟩
theorem comp6:compF Tryz.prog Tryz.f6=some c6:=by kernel_rfl
theorem era6:c6.code=a6.erase:=rfl
def s7_0:=[zw 1 62 0,zy 2]
def s7_1:=[zdh 20 8,zad 21 20]
def s7_2:=[zy 2]
def s7_3:=[zh 22 2 1,zk 23 24 22,zad 24 23]
def s7_4:=[zbe 2]
def s7_5:=[zh 26 2 1,zk 27 25 26,za 25 27,zq 28 25 0,zq 29 25 1,za 3 28,za 4 29]
def s7_6:=[za 30 4,zag 31 30 0]
def s7_7:=[za 32 3,zcv 33 32,za 2 33]
def s7_8:=[za 35 3,zay 36 35 22 35,zk 37 26 36,za 34 37,zq 38 34 0,zq 39 34 1,zq 40 34 2,zcz 5 62,ze 2 5 38,za 6 39,za 7 40]
def s7_9:=[zh 41 2 1,zcz 8 62,ze 2 8 41]
def s7_10:=[zd 42 1 8,.mk none (.store 1 (.tmp 42) (.const (.slice none 0 0))) none]
def s7_11:=[zan 9]
def s7_12:=[zg 10 0]
def s7_13:=[za 43 10,zd 44 0 1,zb 45 1 44,zx 46 45,zu 47 43 46]
def s7_14:=[zd 51 0 1,zb 52 1 51,za 53 10,zi 54 4 52 53,zh 55 4 54,zk 56 27 55,za 50 56,zq 57 50 0,zq 58 50 1,za 11 57,za 12 58]
def s7_15:=[za 59 9,za 60 11,zab 61 59 60,zdc 62 61,za 9 62]
def s7_16:=[za 48 10,zo 49 48 1,za 10 49]
def s7_17:=[zg 13 0]
def s7_18:=[za 63 13,zd 64 1 1,zb 65 1 64,zx 66 65,zu 67 63 66]
def s7_19:=[zd 70 1 1,zb 71 1 70,za 72 13,zi 73 18 71 72,zh 74 18 73,zas 14 72,ze 18 14 74]
def s7_20:=[zd 75 17 14,.mk none (.store 1 (.tmp 75) (ki 0)) none]
def s7_21:=[zd 76 1 8,zb 77 1 76,zh 78 18 14,q0 79 (.mksl 72 18 [.tmp 78]),za2 80 72 77 79,zd 81 1 8,ze 1 81 80]
def s7_22:=[zd 83 1 1,zb 84 1 83,za 85 13,zi 86 18 84 85,zh 87 18 86,zk 88 28 87,za 82 88,zq 89 82 0,zq 90 82 1,za 15 89,za 16 90]
def s7_23:=[za 91 9,za 92 15,zab 93 91 92,zdc 94 93,za 9 94]
def s7_24:=[za 68 13,zo 69 68 1,za 13 69]
def s7_25:=[za 96 3,zay 97 96 22 96,zk 98 15 97,za 95 98,zq 99 95 0,zq 100 95 1,zq 101 95 2,za 17 99,za 18 100,za 19 101]
def s7_26:=[za 102 7,zr 103 102 0,za 104 103,zl 105 6 104,zcy 106 105 104,zau 107 106 0 104,zj 108 104 107,za 109 108,zl 110 19 109,zau 111 110 0 109,zj 112 109 111,za 113 112,zl 114 18 113,zcy 115 114 113,zau 116 115 0 113,zj 117 113 116,za 118 117,zl 119 9 118,zl 120 3 118,zav 121 119 120 118,zj 122 118 121,za 123 122,zai 124 2 5 123,zai 125 2 8 123,zam 126 29 124 125 123,zj 127 123 126,za 2 127]
def a7:AC:=Z.r s7_0 [1] (Z.s (Z.r s7_1 [1,21] (Z.c 21 (Z.e s7_2) .skip)) [1] (Z.s (Z.r s7_3 [1,24] (Z.c 24 (Z.e s7_4) .skip)) [1] (Z.r s7_5 [1,3,4] (Z.s (Z.r s7_6 [1,3,31] (Z.c 31 (Z.e s7_7) .skip)) [1,3] (Z.r s7_8 [1,3,5,6,7] (Z.r s7_9 [1,3,5,6,7,8] (Z.r s7_10 [1,3,5,6,7,8] (Z.r s7_11 [1,3,5,6,7,8,9] (Z.s (Z.r s7_12 [1,3,5,6,7,8,9,10] (Z.b 0 (Z.l [1,3,5,6,7,8,9,10] (Z.s (Z.r s7_13 [1,3,5,6,7,8,9,10,47] (Z.c 47 .skip (.exit 0))) [1,3,5,6,7,8,9,10] (Z.s (Z.b 1 (Z.r s7_14 [1,3,5,6,7,8,9,10,11] (Z.g s7_15))) [1,3,5,6,7,8,9,10] (Z.g s7_16)))))) [1,3,5,6,7,8,9] (Z.s (Z.r s7_17 [1,3,5,6,7,8,9,13] (Z.b 2 (Z.l [1,3,5,6,7,8,9,13] (Z.s (Z.r s7_18 [1,3,5,6,7,8,9,13,67] (Z.c 67 .skip (.exit 2))) [1,3,5,6,7,8,9,13] (Z.s (Z.b 3 (Z.r s7_19 [1,3,5,6,7,8,9,13,14] (Z.r s7_20 [1,3,5,6,7,8,9,13,14] (Z.r s7_21 [1,3,5,6,7,8,9,13] (Z.r s7_22 [1,3,5,6,7,8,9,13,15] (Z.g s7_23)))))) [1,3,5,6,7,8,9,13] (Z.g s7_24)))))) [3,5,6,7,8,9] (Z.r s7_25 [3,5,6,7,8,9,18,19] (Z.e s7_26))))))))))))
def c7:FC:=⟨128,a7.erase,[.tmp 2]⟩
def s8_0:=[zy 0]
def s8_1:=[q0 18 (.call 30 [ks ⟨#[97]⟩]),q0 19 (.call 30 [ks ⟨#[98]⟩]),q0 20 (.call 30 [ks ⟨#[99]⟩]),zf 1 31,zf 2 31,zf 3 31,ze 12 1 18,ze 12 2 19,ze 12 3 20]
def s8_2:=[q0 21 (.build [.string ⟨#[]⟩,.int .i64 0] [(0,1,ks ⟨#[101,117,114]⟩),(1,1,ki 1)]),q0 22 (.mksl 77 2 [.tmp 21]),za 4 22]
def s8_3:=[zcb 23 2 2,za 24 4,q0 25 (.build [.int .i64 0,.string ⟨#[]⟩,.string ⟨#[]⟩,.string ⟨#[]⟩,.int .i64 0,.int .i64 0,.string ⟨#[]⟩,.slice none 0 0,.int .i64 0,.int .i64 0,.int .i64 0,.slice none 0 0] [(0,1,ki 1),(4,3,.tmp 23),(7,1,.tmp 24)]),zf 5 31,ze 12 5 25]
def s8_4:=[zh 26 12 1,zh 27 12 2,zh 28 12 5,q0 29 (.call 32 [ks ⟨#[42]⟩,.tmp 27,.tmp 28]),q0 30 (.call 32 [ks ⟨#[43]⟩,.tmp 26,.tmp 29]),q0 31 (.call 31 [.tmp 30,ks ⟨#[97,32,43,32,98,32,42,32,50,32,91,101,117,114,93]⟩]),zad 32 31,za 33 32,zaj 34 12 1 33,zaj 35 12 2 33,q1 36 (.call 32 [ks ⟨#[43]⟩,.tmp 34,.tmp 35]) 33 false,zaj 37 12 3 33,q1 38 (.call 32 [ks ⟨#[42]⟩,.tmp 36,.tmp 37]) 33 false,q1 39 (.call 31 [.tmp 38,ks ⟨#[40,97,32,43,32,98,41,32,42,32,99]⟩]) 33 false,zaw 40 39 33,zn 41 33 40,za 42 41,zaj 43 12 1 42,q1 44 (.call 33 [ks ⟨#[45]⟩,.tmp 43]) 42 false,q1 45 (.call 33 [ks ⟨#[45]⟩,.tmp 44]) 42 false,q1 46 (.call 31 [.tmp 45,ks ⟨#[45,45,97]⟩]) 42 false,zaw 47 46 42,zn 48 42 47,za 49 48,zaj 50 12 1 49,zaj 51 12 2 49,zaj 52 12 3 49,q1 53 (.call 32 [ks ⟨#[45]⟩,.tmp 51,.tmp 52]) 49 false,q1 54 (.call 32 [ks ⟨#[45]⟩,.tmp 50,.tmp 53]) 49 false,q1 55 (.call 31 [.tmp 54,ks ⟨#[97,32,45,32,40,98,32,45,32,99,41]⟩]) 49 false,zaw 56 55 49,zn 57 49 56,za 58 57,zaj 59 12 1 58,zaj 60 12 2 58,q1 61 (.call 32 [ks ⟨#[61,61]⟩,.tmp 59,.tmp 60]) 58 false,q1 62 (.call 33 [ks ⟨#[110,111,116]⟩,.tmp 61]) 58 false,q1 63 (.call 31 [.tmp 62,ks ⟨#[110,111,116,32,97,32,61,61,32,98]⟩]) 58 false,zaw 64 63 58,zn 65 58 64]
def s8_5:=[zy 0]
def s8_6:=[zh 66 12 1,zh 67 12 2,zh 68 12 3,q0 69 (.mksl 31 12 [.tmp 66,.tmp 67,.tmp 68]),zao 70 8 69,zf 6 31,ze 12 6 70]
def s8_7:=[q0 71 (.build [.int .i64 0,.int .i64 0,.string ⟨#[]⟩] [(0,1,ki 2)]),zap 72 1 71,zf 7 31,ze 12 7 72]
def s8_8:=[q0 73 (.build [.int .i64 0,.int .i64 0,.string ⟨#[]⟩] [(0,1,ki 5),(2,1,ks ⟨#[115,49]⟩)]),q0 74 (.build [.int .i64 0,.string ⟨#[]⟩,.string ⟨#[]⟩,.string ⟨#[]⟩,.int .i64 0,.int .i64 0,.string ⟨#[]⟩,.slice none 0 0,.int .i64 0,.int .i64 0,.int .i64 0,.slice none 0 0] [(0,1,ki 1),(2,1,ks ⟨#[115,104,111,112]⟩),(4,3,.tmp 73)]),zf 8 31,ze 12 8 74]
def s8_9:=[zh 75 12 6,zh 76 12 7,zb8 77 31 75 76,zao 78 9 77,q0 79 (.call 31 [.tmp 78,ks ⟨#[40,105,102,32,97,32,116,104,101,110,32,98,32,101,108,115,101,32,99,41,32,100,101,102,97,117,108,116,32,48]⟩]),zad 80 79,za 81 80,zaj 82 12 8 81,q1 83 (.mksl 31 12 [.tmp 82]) 81 false,q1 84 (.build [.int .i64 0,.string ⟨#[]⟩,.string ⟨#[]⟩,.string ⟨#[]⟩,.int .i64 0,.int .i64 0,.string ⟨#[]⟩,.slice none 0 0,.int .i64 0,.int .i64 0,.int .i64 0,.slice none 0 0] [(0,1,ki 4),(2,1,ks ⟨#[114,97,110,107]⟩),(11,1,.tmp 83)]) 81 false,q1 85 (.call 31 [.tmp 84,ks ⟨#[114,97,110,107,32,111,102,32,40,64,115,104,111,112,32,34,115,49,34,41]⟩]) 81 false,zaw 86 85 81,zn 87 81 86]
def s8_10:=[zy 0]
def s8_11:=[zdh 88 34,zf 9 31,ze 12 9 88]
def s8_12:=[q0 89 (.build [.int .i64 0,.int .i64 0] [(0,1,ki 1)]),zh 90 12 9,zh 91 12 9,zb8 92 31 90 91,q0 93 (.build [.int .i64 0,.string ⟨#[]⟩,.string ⟨#[]⟩,.string ⟨#[]⟩,.int .i64 0,.int .i64 0,.string ⟨#[]⟩,.slice none 0 0,.int .i64 0,.int .i64 0,.int .i64 0,.slice none 0 0] [(0,1,ki 5),(1,1,ks ⟨#[99,111,117,110,116]⟩),(3,1,ks ⟨#[99,108,105,99,107,115]⟩),(9,2,.tmp 89),(11,1,.tmp 92)]),zf 10 31,ze 12 10 93]
def s8_13:=[q0 94 (.build [.int .i64 0,.int .i64 0] [(0,1,ki 2),(1,1,ki 60)]),q0 95 (.call 35 [ks ⟨#[109,115]⟩]),q0 96 (.call 35 [ks ⟨#[111,107]⟩]),zb8 97 31 95 96,q0 98 (.build [.int .i64 0,.string ⟨#[]⟩,.string ⟨#[]⟩,.string ⟨#[]⟩,.int .i64 0,.int .i64 0,.string ⟨#[]⟩,.slice none 0 0,.int .i64 0,.int .i64 0,.int .i64 0,.slice none 0 0] [(0,1,ki 5),(1,1,ks ⟨#[113,117,97,110,116,105,108,101]⟩),(3,1,ks ⟨#[99,97,108,108,115]⟩),(8,1,ki 950),(9,2,.tmp 94),(11,1,.tmp 97)]),zf 11 31,ze 12 11 98]
def s8_14:=[zh 99 12 10,q0 100 (.call 31 [.tmp 99,ks ⟨#[99,111,117,110,116,40,99,108,105,99,107,115,44,32,97,108,108,41]⟩]),zad 101 100,za 102 101,zaj 103 12 11 102,q1 104 (.call 31 [.tmp 103,ks ⟨#[113,117,97,110,116,105,108,101,40,99,97,108,108,115,44,32,109,115,44,32,57,53,48,44,32,115,108,105,100,105,110,103,32,54,48,32,119,104,101,114,101,32,111,107,41]⟩]) 102 false,zaw 105 104 102,zn 106 102 105]
def s8_15:=[zy 0]
def s8_16:=[za 108 4,zb4 109 3 108,q0 110 (.build [.string ⟨#[]⟩,.int .i64 0,.slice none 0 0,.string ⟨#[]⟩] [(0,1,ks ⟨#[120]⟩),(1,3,.tmp 109)]),zcm 111 1,q0 112 (.build [.string ⟨#[]⟩,.int .i64 0,.slice none 0 0,.string ⟨#[]⟩] [(0,1,ks ⟨#[121]⟩),(1,3,.tmp 111)]),q0 113 (.mksl 83 4 [.tmp 110,.tmp 112]),q0 114 (.build [.string ⟨#[]⟩,.string ⟨#[]⟩,.slice none 0 0,.int .i64 0] [(0,1,ks ⟨#[116]⟩),(1,1,ks ⟨#[117,115,101,114]⟩),(2,1,.tmp 113),(3,1,ki 9)]),zk 115 27 114,za 107 115,zq 116 107 0,zq 117 107 1,za 12 116,za 13 117]
def s8_17:=[q0 119 (.build [.string ⟨#[]⟩,.string ⟨#[]⟩,.slice none 0 0,.int .i64 0] [(0,1,ks ⟨#[116]⟩),(1,1,ks ⟨#[117,115,101,114]⟩)]),zk 120 27 119,za 118 120,zq 121 118 0,zq 122 118 1,za 14 121,za 15 122]
def s8_18:=[q0 124 (.call 35 [ks ⟨#[120]⟩]),zk 125 10 124,za 123 125,zq 126 123 0,zq 127 123 1,za 16 126,za 17 127]
def s8_19:=[za 128 12,q0 129 (.bin .eql (.tmp 128) (ks ⟨#[116,97,98,108,101,32,116,32,111,102,32,117,115,101,114,32,123,32,120,58,32,100,101,99,32,91,101,117,114,93,44,32,121,58,32,98,111,111,108,32,125,32,107,101,101,112,32,57,59]⟩)),za 130 129,zl 131 13 130,zau 132 131 0 130,zj 133 130 132,za 134 133,zl 135 14 134,q1 136 (.bin .eql (.tmp 135) (ks ⟨#[116,97,98,108,101,32,116,32,111,102,32,117,115,101,114,32,123,32,125,59]⟩)) 134 true,zj 137 134 136,za 138 137,zl 139 15 138,zau 140 139 0 138,zj 141 138 140,za 142 141,zl 143 17 142,zau 144 143 3 142,zj 145 142 144,za 0 145]
def a8:AC:=Z.r s8_0 [] (Z.r s8_1 [1,2,3] (Z.r s8_2 [1,2,3,4] (Z.r s8_3 [1,2,3,4,5] (Z.s (Z.d s8_4 [1,2,3,4,65] (Z.c 65 (Z.e s8_5) .skip)) [1,2,3,4] (Z.r s8_6 [4,6] (Z.r s8_7 [4,6,7] (Z.r s8_8 [4,6,7,8] (Z.s (Z.r s8_9 [4,87] (Z.c 87 (Z.e s8_10) .skip)) [4] (Z.r s8_11 [4,9] (Z.r s8_12 [4,10] (Z.r s8_13 [4,10,11] (Z.s (Z.r s8_14 [4,106] (Z.c 106 (Z.e s8_15) .skip)) [4] (Z.r s8_16 [12,13] (Z.r s8_17 [12,13,14,15] (Z.r s8_18 [12,13,14,15,17] (Z.e s8_19))))))))))))))))
def c8:FC:=⟨146,a8.erase,[.tmp 0]⟩
theorem comp8:compF Tryz.prog Tryz.f8=some c8:=by kernel_rfl
theorem era8:c8.code=a8.erase:=rfl
def s9_0:=[zf 2 31,zg 3 0,zg 4 0]
def s9_1:=[za 6 0,q0 7 (.mkfn (Fn.func 37) [] [.tmp 2]),zae 8 36 6 7,zct 5 85,ze 2 5 8]
def s9_2:=[zd 9 1 5,zb 10 1 9,zag 11 10 0]
def s9_3:=[ed 0 (q0 12 (.build [.int .i64 0,.string ⟨#[]⟩,.string ⟨#[]⟩,.string ⟨#[]⟩,.int .i64 0,.int .i64 0,.string ⟨#[]⟩,.slice none 0 0,.int .i64 0,.int .i64 0,.int .i64 0,.slice none 0 0] [])) [],ed 1 (zd 13 0 5) [],ed 2 (zb 14 1 13) [2],ed 3 (zd 15 1 5) [],ed 4 (zb 16 1 15) [2],ed 5 (ze 12 2 12) [2],ed 6 (za 3 14) [],ed 7 (za 4 16) []]
def s9_4:=[zh 17 12 2,ze 12 2 17,zg 3 0,zg 4 0]
def a9:AC:=Z.r s9_0 [0,2] (Z.r s9_1 [2,5] (Z.s (Z.r s9_2 [2,5,11] (Z.c 11 (.seq (.mreg [] s9_3) .ret) .skip)) [2] (Z.e s9_4)))
def c9:FC:=⟨18,a9.erase,[.cell 2 true 12,.tmp 3,.tmp 4]⟩
theorem comp9:compF Tryz.prog Tryz.f9=some c9:=by kernel_rfl
theorem era9:c9.code=a9.erase:=rfl
def s10_0:=[zw 1 31 0,zan 2,zg 3 0]
def s10_1:=[zh 5 12 1,zk 6 11 5,za 4 6]
def s10_2:=[za 7 4,zag 8 7 0]
def s10_3:=[za 9 4,zan 2,za 3 9]
def s10_4:=[zh 10 12 1,zbj 11 10,zk 12 39 11,za 2 12,zg 3 0]
def a10:AC:=Z.r s10_0 [1] (Z.s (Z.r s10_1 [1,4] (Z.r s10_2 [1,4,8] (Z.c 8 (Z.e s10_3) .skip))) [1] (Z.e s10_4))
def c10:FC:=⟨13,a10.erase,[.tmp 2,.tmp 3]⟩
theorem comp10:compF Tryz.prog Tryz.f10=some c10:=by kernel_rfl
theorem era10:c10.code=a10.erase:=rfl
def s11_0:=[zw 1 31 0,zg 2 0]
def s11_1:=[zh 3 12 1,zk 4 40 3,zar 5 4 64,za 6 5,zaj 7 12 1 6,za0 8 41 7 6,zaq 9 8 12 6,zn 10 6 9]
def s11_2:=[zg 2 2]
def s11_3:=[zh 11 12 1,q0 12 (.call 42 [.tmp 11,kF]),zad 13 12]
def s11_4:=[zg 2 3]
def s11_5:=[zg 2 0]
def a11:AC:=Z.r s11_0 [1] (Z.s (Z.r s11_1 [1,10] (Z.c 10 (Z.e s11_2) .skip)) [1] (Z.s (Z.r s11_3 [13] (Z.c 13 (Z.e s11_4) .skip)) [] (Z.e s11_5)))
def c11:FC:=⟨14,a11.erase,[.tmp 2]⟩
theorem comp11:compF Tryz.prog Tryz.f11=some c11:=by kernel_rfl
theorem era11:c11.code=a11.erase:=rfl
def s12_0:=[zw 2 31 0,zw 3 31 1,zy 4]
def s12_1:=[zh 6 12 2,zh 7 12 3,zae 8 43 6 7,zad 9 8,za 10 9,zs 11 11 2 10,zp 12 1 11 10,za9 13 12 10,zs 14 11 3 10,zp 15 1 14 10,za9 16 15 10,zbn 17 13 16 10,zn 18 10 17]
def s12_2:=[zy 4]
def s12_3:=[zg 5 0]
def s12_4:=[za 19 5,zd 20 11 2,zb 21 1 20,zx 22 21,zu 23 19 22]
def s12_5:=[zd 26 11 2,zb 27 1 26,za 28 5,zi 29 12 27 28,zh 30 12 29,zd 31 11 3,zb 32 1 31,za 33 5,zi 34 12 32 33,zh 35 12 34,zae 36 12 30 35,zad 37 36]
def s12_6:=[zy 4]
def s12_7:=[za 24 5,zo 25 24 1,za 5 25]
def s12_8:=[zbe 4]
def a12:AC:=Z.r s12_0 [2,3] (Z.s (Z.r s12_1 [2,3,18] (Z.c 18 (Z.e s12_2) .skip)) [2,3] (Z.s (Z.r s12_3 [2,3,5] (Z.b 0 (Z.l [2,3,5] (Z.s (Z.r s12_4 [2,3,5,23] (Z.c 23 .skip (.exit 0))) [2,3,5] (Z.s (Z.b 1 (Z.d s12_5 [2,3,5,37] (Z.c 37 (Z.e s12_6) .skip))) [2,3,5] (Z.g s12_7)))))) [] (Z.e s12_8)))
def c12:FC:=⟨38,a12.erase,[.tmp 4]⟩
theorem comp12:compF Tryz.prog Tryz.f12=some c12:=by kernel_rfl
theorem era12:c12.code=a12.erase:=rfl
def s13_0:=[zw 2 31 0,zg 4 0]
def s13_1:=[za 7 1,zat 8 7 1,za 9 8,zs 10 1 2 9,zp 11 1 10 9,zb0 12 11 9,zs 13 2 2 9,zp 14 1 13 9,zb0 15 14 9,zb5 16 12 15 9,zs 17 3 2 9,zp 18 1 17 9,zb0 19 18 9,zb5 20 16 19 9,zs 21 4 2 9,zs 22 2 21 9,zp 23 1 22 9,zb0 24 23 9,zb5 25 20 24 9,zaq 26 25 300 9,zn 27 9 26,za 28 27,zs 29 7 2 28,zp 30 1 29 28,za9 31 30 28,zaq 32 31 10 28,zn 33 28 32,za 34 33,zs 35 11 2 34,zp 36 1 35 34,za9 37 36 34,zaq 38 37 10 34,zn 39 34 38]
def s13_2:=[zbc 4]
def s13_3:=[zg 5 0]
def s13_4:=[za 40 5,zd 41 7 2,zb 42 1 41,zx 43 42,zu 44 40 43]
def s13_5:=[zd 47 7 2,zb 48 1 47,za 49 5,zi 50 2 48 49,zd 51 0 50,zb 52 1 51,za7 53 52,zar 54 53 100]
def s13_6:=[zbc 4]
def s13_7:=[za 45 5,zo 46 45 1,za 5 46]
def s13_8:=[za 55 1,zz 56 55 1,za 1 56]
def s13_9:=[zg 6 0]
def s13_10:=[za 57 6,zd 58 11 2,zb 59 1 58,zx 60 59,zu 61 57 60,za 62 61,zl 63 1 62,zcr 64 63 0 62,zj 65 62 64]
def s13_11:=[zd 68 11 2,zb 69 1 68,za 70 6,zi 71 12 69 70,zh 72 12 71,za 73 1,zae 74 13 72 73,za 1 74]
def s13_12:=[za 66 6,zo 67 66 1,za 6 67]
def s13_13:=[za 75 1,za 4 75]
def a13:AC:=Z.r s13_0 [1,2] (Z.s (Z.r s13_1 [1,2,39] (Z.c 39 (Z.e s13_2) .skip)) [1,2] (Z.s (Z.r s13_3 [1,2,5] (Z.b 0 (Z.l [1,2,5] (Z.s (Z.r s13_4 [1,2,5,44] (Z.c 44 .skip (.exit 0))) [1,2,5] (Z.s (Z.b 1 (Z.r s13_5 [1,2,5,54] (Z.c 54 (Z.e s13_6) .skip))) [1,2,5] (Z.g s13_7)))))) [1,2] (Z.r s13_8 [1,2] (Z.s (Z.r s13_9 [1,2,6] (Z.b 2 (Z.l [1,2,6] (Z.s (Z.r s13_10 [1,2,6,65] (Z.c 65 .skip (.exit 2))) [1,2,6] (Z.s (Z.b 3 (Z.g s13_11)) [1,2,6] (Z.g s13_12)))))) [1] (Z.e s13_13)))))
def c13:FC:=⟨76,a13.erase,[.tmp 4]⟩
theorem comp13:compF Tryz.prog Tryz.f13=some c13:=by kernel_rfl
theorem era13:c13.code=a13.erase:=rfl
def s14_0:=[zw 1 31 0,zg 2 0]
def s14_1:=[zh 3 12 1,zk 4 44 3,zar 5 4 64,za 6 5,zaj 7 12 1 6,za0 8 45 7 6,zaq 9 8 12 6,zn 10 6 9]
def s14_2:=[zg 2 2]
def s14_3:=[zh 11 12 1,q0 12 (.call 46 [.tmp 11,kF]),zad 13 12]
def s14_4:=[zg 2 3]
def s14_5:=[zg 2 0]
def a14:AC:=Z.r s14_0 [1] (Z.s (Z.r s14_1 [1,10] (Z.c 10 (Z.e s14_2) .skip)) [1] (Z.s (Z.r s14_3 [13] (Z.c 13 (Z.e s14_4) .skip)) [] (Z.e s14_5)))
def c14:FC:=⟨14,a14.erase,[.tmp 2]⟩
theorem comp14:compF Tryz.prog Tryz.f14=some c14:=by kernel_rfl
theorem era14:c14.code=a14.erase:=rfl
def s15_0:=[zaz 2,q0 3 (.alloc 42 (.slice none 0 0)),zg 4 0]
def s15_1:=[za 12 0,zx 13 12,zar 14 13 16384]
def s15_2:=[zaz 2,.mk none (.store 1 (.tmp 3) (.const (.slice none 0 0))) none,zg 4 2]
def s15_3:=[zdh 15 47,zc 5 94,ze 256 5 15]
def s15_4:=[q0 6 (.alloc 3 (.int .i64 0)),.mk none (.store 1 (.tmp 6) (ki 0)) none,zbc 7]
def s15_5:=[q0 16 (.mkfn (Fn.func 48) [] [.tmp 3,.tmp 6]),za 8 16]
def s15_6:=[zb 17 1 6,za 18 0,zx 19 18,zbg 20 17 19]
def s15_7:=[ed 0 (za 21 2) [],ed 1 (zb 22 1 6) [],ed 2 (q0 23 (.build [.int .i64 0,.string ⟨#[]⟩,.int .i64 0] [(0,1,ki 6),(2,1,.tmp 22)])) [],ed 3 (q0 24 (.mksl 98 3 [.tmp 23])) [],ed 5 (zb 26 1 3) [],ed 4 (zba 25 98 21 24) [],ed 6 (za 2 25) [],ed 7 (ze 1 3 26) [3],ed 8 (zg 4 0) []]
def s15_8:=[za 28 0,zb 29 1 6,za5 30 49 28 29 5,za 27 30,zq 31 27 0,zq 32 27 1,zq 33 27 2,za 9 31,za 10 32,za 11 33]
def s15_9:=[za 35 9,q0 36 (.bin .eql (.tmp 35) (.const (.int .i64 (-1)))),za 34 36]
def s15_10:=[za 38 11,zag 39 38 0,za 37 39]
def s15_11:=[za 40 8,za 41 11,zda 42 40 41]
def s15_12:=[za 44 9,zr 45 44 4,za 43 45]
def s15_13:=[za 46 2,za 47 9,za 48 0,zb 49 1 6,zo 50 49 1,za 51 10,zz 52 51 1,zci 53 48 50 52,zcf 54 53 9 53,zb 55 1 6,zcp 56 47 54 55,q0 57 (.mksl 98 3 [.tmp 56]),zba 58 98 46 57,za 2 58]
def s15_14:=[za 60 9,zag 61 60 0,za 59 61]
def s15_15:=[za 62 2,za 63 9,za 64 0,zb 65 1 6,za 66 10,zci 67 64 65 66,zcf 68 67 9 67,zb 69 1 6,zcp 70 63 68 69,q0 71 (.mksl 98 3 [.tmp 70]),zba 72 98 62 71,za 2 72]
def s15_16:=[za 73 10,ze 1 6 73]
def s15_17:=[za 74 7,zb 75 1 6,zz 76 75 1,zbv 77 74 76,za 78 77,zp 79 1 6 78,za6 80 79 0 78,zn 81 78 80]
def s15_18:=[za 82 8,za 83 11,zda 84 82 83]
def s15_19:=[zb 85 1 6,za 7 85]
def s15_20:=[zb 86 1 6,zo 87 86 1,ze 1 6 87]
def a15:AC:=Z.r s15_0 [0,2,3] (.scope (Z.s (Z.r s15_1 [0,2,3,14] (Z.c 14 (Z.e s15_2) .skip)) [0,2,3] (Z.r s15_3 [0,2,3,5] (Z.r s15_4 [0,2,3,5,6,7] (Z.r s15_5 [0,2,3,5,6,7,8] (Z.s (.label 0) [0,2,3,5,6,7,8] (Z.s (Z.r s15_6 [0,2,3,5,6,7,8,20] (Z.c 20 (.seq (.mreg [25] s15_7) .ret) .skip)) [0,2,3,5,6,7,8] (Z.r s15_8 [0,2,3,5,6,7,8,9,10,11] (Z.s (Z.b 0 (Z.r s15_9 [0,2,3,5,6,7,8,9,10,11,34] (Z.c 34 (.goto 1) (Z.r s15_10 [0,2,3,5,6,7,8,9,10,11,37] (Z.c 37 (Z.g s15_11) (Z.r s15_12 [0,2,3,5,6,7,8,9,10,43] (Z.c 43 (.dreg s15_13) (Z.r s15_14 [0,2,3,5,6,7,8,9,10,59] (Z.c 59 (.dreg s15_15) .skip))))))))) [0,2,3,5,6,7,8,10] (Z.r s15_16 [0,2,3,5,6,7,8] (Z.s (.goto 0) [0,2,3,5,6,7,8,11] (Z.s (.label 1) [0,2,3,5,6,7,8,11] (Z.s (Z.r s15_17 [0,2,3,5,6,8,11,81] (Z.c 81 (Z.g s15_18) .skip)) [0,2,3,5,6,8] (Z.r s15_19 [0,2,3,5,6,7,8] (Z.r s15_20 [0,2,3,5,6,7,8] (.goto 0))))))))))))))))
def c15:FC:=⟨88,a15.erase,[.tmp 2,.cell 3 false 1,.tmp 4]⟩
theorem comp15:compF Tryz.prog Tryz.f15=some c15:=by kernel_rfl
theorem era15:c15.code=a15.erase:=rfl
def s19_0:=[zw 1 51 0,zy 2]
def s19_1:=[zd 3 2 1,zb 4 1 3,zd 5 1 1,zb 6 1 5,q0 7 (.build [.int .i64 0,.string ⟨#[]⟩,.string ⟨#[]⟩,.string ⟨#[]⟩,.int .i64 0,.int .i64 0,.string ⟨#[]⟩,.slice none 0 0,.int .i64 0,.int .i64 0,.int .i64 0,.slice none 0 0] [(2,1,.tmp 4),(7,1,.tmp 6)]),zbf 8 13 7 1,za8 9 8 0,za 2 9]
def a19:AC:=Z.r s19_0 [1] (Z.e s19_1)
def c19:FC:=⟨10,a19.erase,[.tmp 2]⟩
theorem comp19:compF Tryz.prog Tryz.f19=some c19:=by kernel_rfl
theorem era19:c19.code=a19.erase:=rfl
def s20_0:=[zw 1 51 0,zg 2 0]
def s20_1:=[zd 4 0 1,zb 5 1 4,zat 6 5 1,za 7 6,zs 8 0 1 7,zp 9 1 8 7,zaq 10 9 5 7,zn 11 7 10]
def s20_2:=[zg 2 3]
def s20_3:=[zd 12 0 1,zb 13 1 12,zr 14 13 5,za 15 14,zt 16 2 1 15,zm 17 1 16 15,zbm 18 52 17 15,zbd 19 18 15,zj 20 15 19,za 21 20,zs 22 0 1 21,zp 23 1 22 21,zbk 24 23 5 21,zv 25 24 21,zt 26 2 1 25,zm 27 1 26 25,q1 28 (.bin .neq (.tmp 27) (ks ⟨#[]⟩)) 25 true,zbq 29 25 28 21,zn 30 21 29,za 31 30,zaj 32 3 1 31,za0 33 53 32 31,zaw 34 33 31,zv 35 34 31,zt 36 1 1 35,zm 37 1 36 35,zcy 38 37 35,q1 39 (.bin .gtr (.tmp 38) (ki 0)) 35 true,zbq 40 35 39 31,zn 41 31 40]
def s20_4:=[zg 2 3]
def s20_5:=[zd 42 1 1,zb 43 1 42,zk 44 54 43,zag 45 44 0]
def s20_6:=[zg 2 70]
def s20_7:=[zg 3 0]
def s20_8:=[za 46 3,zd 47 1 1,zb 48 1 47,zx 49 48,zu 50 46 49]
def s20_9:=[zd 53 1 1,zb 54 1 53,za 55 3,zi 56 2 54 55,zd 57 0 56,zb 58 1 57,zk 59 52 58,zad 60 59]
def s20_10:=[zg 2 70]
def s20_11:=[za 51 3,zo 52 51 1,za 3 52]
def s20_12:=[zg 2 0]
def a20:AC:=Z.r s20_0 [1] (Z.s (Z.r s20_1 [1,11] (Z.c 11 (Z.e s20_2) .skip)) [1] (Z.s (Z.r s20_3 [1,41] (Z.c 41 (Z.e s20_4) .skip)) [1] (Z.s (Z.r s20_5 [1,45] (Z.c 45 (Z.e s20_6) .skip)) [1] (Z.s (Z.r s20_7 [1,3] (Z.b 0 (Z.l [1,3] (Z.s (Z.r s20_8 [1,3,50] (Z.c 50 .skip (.exit 0))) [1,3] (Z.s (Z.b 1 (Z.r s20_9 [1,3,60] (Z.c 60 (Z.e s20_10) .skip))) [1,3] (Z.g s20_11)))))) [] (Z.e s20_12)))))
def c20:FC:=⟨61,a20.erase,[.tmp 2]⟩
theorem comp20:compF Tryz.prog Tryz.f20=some c20:=by kernel_rfl
theorem era20:c20.code=a20.erase:=rfl
def s21_0:=[zw 1 51 0,zan 2,zg 3 0]
def s21_1:=[zh 5 3 1,zk 6 55 5,za 4 6]
def s21_2:=[za 7 4,zag 8 7 0]
def s21_3:=[za 9 4,zan 2,za 3 9]
def s21_4:=[zh 10 3 1,zk 11 56 10,za 2 11,zg 3 0]
def a21:AC:=Z.r s21_0 [1] (Z.s (Z.r s21_1 [1,4] (Z.r s21_2 [1,4,8] (Z.c 8 (Z.e s21_3) .skip))) [1] (Z.e s21_4))
def c21:FC:=⟨12,a21.erase,[.tmp 2,.tmp 3]⟩
theorem comp21:compF Tryz.prog Tryz.f21=some c21:=by kernel_rfl
theorem era21:c21.code=a21.erase:=rfl
def s22_0:=[zb1 2 51,zg 3 0,zg 4 0]
def s22_1:=[za 6 0,q0 7 (.mkfn (Fn.func 57) [] [.tmp 2]),zae 8 36 6 7,zct 5 85,ze 2 5 8]
def s22_2:=[zd 9 1 5,zb 10 1 9,zag 11 10 0]
def s22_3:=[ed 0 (q0 12 (.build [.int .i64 0,.slice none 0 0,.string ⟨#[]⟩] [])) [],ed 1 (zd 13 0 5) [],ed 2 (zb 14 1 13) [2],ed 3 (zd 15 1 5) [],ed 4 (zb 16 1 15) [2],ed 5 (ze 3 2 12) [2],ed 6 (za 3 14) [],ed 7 (za 4 16) []]
def s22_4:=[zh 17 3 2,ze 3 2 17,zg 3 0,zg 4 0]
def a22:AC:=Z.r s22_0 [0,2] (Z.r s22_1 [2,5] (Z.s (Z.r s22_2 [2,5,11] (Z.c 11 (.seq (.mreg [] s22_3) .ret) .skip)) [2] (Z.e s22_4)))
def c22:FC:=⟨18,a22.erase,[.cell 2 true 3,.tmp 3,.tmp 4]⟩
theorem comp22:compF Tryz.prog Tryz.f22=some c22:=by kernel_rfl
theorem era22:c22.code=a22.erase:=rfl
def s23_0:=[zw 2 51 0,zw 3 51 1,zy 4]
def s23_1:=[zd 5 0 2,zb 6 1 5,zd 7 0 3,zb 8 1 7,zbg 9 6 8,za 10 9,zt 11 1 2 10,zm 12 1 11 10,zt 13 1 3 10,zm 14 1 13 10,zam 15 59 12 14 10,zj 16 10 15,za 17 16,zt 18 2 2 17,zm 19 1 18 17,zt 20 2 3 17,zm 21 1 20 17,zav 22 19 21 17,zj 23 17 22,za 4 23]
def a23:AC:=Z.r s23_0 [2,3] (Z.e s23_1)
def c23:FC:=⟨24,a23.erase,[.tmp 4]⟩
theorem comp23:compF Tryz.prog Tryz.f23=some c23:=by kernel_rfl
theorem era23:c23.code=a23.erase:=rfl
def s25_0:=[zw 1 62 0,zan 2,zg 3 0]
def s25_1:=[q0 4 (.alloc 113 (.agg #[.pointer none,.slice none 0 0]))]
def s25_2:=[zd 13 0 1,zb 14 1 13,zx 15 14,zg 16 0]
def s25_3:=[zu 17 16 15]
def s25_4:=[zi 18 4 14 16,zh 19 4 18,zc9 6 70,ze 4 6 19]
def s25_5:=[zh 21 4 6,zk 22 27 21,za 20 22,zq 23 20 0,zq 24 20 1,za 7 23,za 8 24]
def s25_6:=[za 25 8,zag 26 25 0]
def s25_7:=[za 27 8,zan 2,za 3 27]
def s25_8:=[za 28 7,zdc 29 28,zae 30 62 4 29]
def s25_9:=[zo 31 16 1,za 16 31]
def s25_10:=[zd 32 1 1,zb 33 1 32,zx 34 33,zg 35 0]
def s25_11:=[zu 36 35 34]
def s25_12:=[zi 37 18 33 35,zh 38 18 37,zas 10 72,ze 18 10 38]
def s25_13:=[zh 40 18 10,zk 41 28 40,za 39 41,zq 42 39 0,zq 43 39 1,za 11 42,za 12 43]
def s25_14:=[za 44 12,zag 45 44 0]
def s25_15:=[za 46 12,zan 2,za 3 46]
def s25_16:=[za 47 11,zdc 48 47,zae 49 62 4 48]
def s25_17:=[zo 50 35 1,za 35 50]
def s25_18:=[zk 51 63 4,zar 52 51 16384]
def s25_19:=[zan 2,zg 3 2]
def s25_20:=[zk 53 64 4,za 2 53,zg 3 0]
def a25:AC:=Z.r s25_0 [1] (Z.r s25_1 [1,4] (Z.s (Z.r s25_2 [1,4,14,15,16] (Z.b 0 (Z.l [1,4,14,15,16] (Z.r s25_3 [1,4,14,15,16,17] (Z.s (Z.c 17 .skip (.exit 0)) [1,4,14,15,16] (Z.s (Z.b 1 (Z.r s25_4 [1,4,6,14,15,16] (Z.r s25_5 [1,4,7,8,14,15,16] (Z.s (Z.r s25_6 [1,4,7,8,14,15,16,26] (Z.c 26 (Z.e s25_7) .skip)) [1,4,7,14,15,16] (Z.g s25_8))))) [1,4,14,15,16] (Z.g s25_9))))))) [1,4] (Z.s (Z.r s25_10 [4,33,34,35] (Z.b 2 (Z.l [4,33,34,35] (Z.r s25_11 [4,33,34,35,36] (Z.s (Z.c 36 .skip (.exit 2)) [4,33,34,35] (Z.s (Z.b 3 (Z.r s25_12 [4,10,33,34,35] (Z.r s25_13 [4,11,12,33,34,35] (Z.s (Z.r s25_14 [4,11,12,33,34,35,45] (Z.c 45 (Z.e s25_15) .skip)) [4,11,33,34,35] (Z.g s25_16))))) [4,33,34,35] (Z.g s25_17))))))) [4] (Z.s (Z.r s25_18 [4,52] (Z.c 52 (Z.e s25_19) .skip)) [4] (Z.e s25_20)))))
def s27_0:=[zw 1 70 0,zan 2,zg 3 0]
def s27_1:=[zh 8 4 1,zk 9 68 8,za 4 9]
def s27_2:=[za 10 4,zag 11 10 0]
def s27_3:=[za 12 4,zan 2,za 3 12]
def s27_4:=[zaz 5]
def s27_5:=[zd 13 2 1,zb 14 1 13,zx 15 14,zg 16 0]
def s27_6:=[zu 17 16 15]
def s27_7:=[zi 18 4 14 16,zh 19 4 18,zcd 7 83,ze 4 7 19]
def s27_8:=[za 20 5,zd 21 0 7,zb 22 1 21,zd 23 1 7,zh 24 3 23,zk 25 56 24,q0 26 (.mksl 9 1 [ks ⟨#[32]⟩,.tmp 22,ks ⟨#[58,32]⟩,.tmp 25]),zk 27 69 26,q0 28 (.mksl 9 1 [.tmp 27]),q0 29 (.append 9 1 16 [.string ⟨#[]⟩] (.tmp 20) (.tmp 28)),za 5 29]
def s27_9:=[zo 30 16 1,za 16 30]
def s27_10:=[zd 31 0 1,zb 32 1 31,zd 33 1 1,zb 34 1 33,za 35 5,zdi 36 70 35,q0 37 (.mksl 9 1 [ks ⟨#[116,97,98,108,101,32]⟩,.tmp 32,ks ⟨#[32,111,102,32]⟩,.tmp 34,ks ⟨#[32,123]⟩,.tmp 36,ks ⟨#[32,125]⟩]),zk 38 69 37,za 2 38]
def s27_11:=[zd 39 3 1,zb 40 1 39,zag 41 40 0]
def s27_12:=[za 42 2,zd 43 3 1,zb 44 1 43,zk 45 71 44,q0 46 (.mksl 9 1 [.tmp 42,ks ⟨#[32,107,101,101,112,32]⟩,.tmp 45]),zk 47 69 46,za 2 47]
def s27_13:=[za 48 2,q0 49 (.mksl 9 1 [.tmp 48,ks ⟨#[59]⟩]),zk 50 69 49,za 2 50,zg 3 0]
def a27:AC:=Z.r s27_0 [1] (Z.s (Z.r s27_1 [1,4] (Z.r s27_2 [1,4,11] (Z.c 11 (Z.e s27_3) .skip))) [1] (Z.r s27_4 [1,5] (Z.s (Z.r s27_5 [1,5,14,15,16] (Z.b 0 (Z.l [1,5,14,15,16] (Z.r s27_6 [1,5,14,15,16,17] (Z.s (Z.c 17 .skip (.exit 0)) [1,5,14,15,16] (Z.s (Z.b 1 (Z.r s27_7 [1,5,7,14,15,16] (.dreg s27_8))) [1,5,14,15,16] (Z.g s27_9))))))) [1,5] (Z.d s27_10 [1,2] (Z.s (Z.r s27_11 [1,2,41] (Z.c 41 (Z.g s27_12) .skip)) [2] (Z.e s27_13))))))
def c27:FC:=⟨51,a27.erase,[.tmp 2,.tmp 3]⟩
theorem comp27:compF Tryz.prog Tryz.f27=some c27:=by kernel_rfl
theorem era27:c27.code=a27.erase:=rfl
def s30_0:=[zf 2 31]
def s30_1:=[za 3 0,zak 4 3 3,ze 12 2 4]
def a30:AC:=Z.r s30_0 [0,2] (Z.e s30_1)
def c30:FC:=⟨5,a30.erase,[.cell 2 true 12]⟩
theorem comp30:compF Tryz.prog Tryz.f30=some c30:=by kernel_rfl
theorem era30:c30.code=a30.erase:=rfl
def s31_0:=[zw 2 31 0,zy 4]
def s31_1:=[zh 8 12 2,zk 9 10 8,za 7 9,zq 10 7 0,zq 11 7 1,za 5 10,za 6 11]
def s31_2:=[za 12 5,za 13 1,zbg 14 12 13,za 15 14,zl 16 6 15,zau 17 16 0 15,zj 18 15 17,za 4 18]
def a31:AC:=Z.r s31_0 [1,2] (Z.r s31_1 [1,5,6] (Z.e s31_2))
def c31:FC:=⟨19,a31.erase,[.tmp 4]⟩
theorem comp31:compF Tryz.prog Tryz.f31=some c31:=by kernel_rfl
theorem era31:c31.code=a31.erase:=rfl
def s32_0:=[zw 4 31 1,zw 5 31 2,zf 6 31]
def s32_1:=[za 7 0,zh 8 12 4,zh 9 12 5,zb8 10 31 8 9,zah 11 7 7 10,ze 12 6 11]
def a32:AC:=Z.r s32_0 [0,4,5,6] (Z.e s32_1)
def c32:FC:=⟨12,a32.erase,[.cell 6 true 12]⟩
theorem comp32:compF Tryz.prog Tryz.f32=some c32:=by kernel_rfl
theorem era32:c32.code=a32.erase:=rfl
def s33_0:=[zw 3 31 1,zf 4 31]
def s33_1:=[za 5 0,zh 6 12 3,q0 7 (.mksl 31 12 [.tmp 6]),zah 8 6 5 7,ze 12 4 8]
def a33:AC:=Z.r s33_0 [0,3,4] (Z.e s33_1)
def c33:FC:=⟨9,a33.erase,[.cell 4 true 12]⟩
theorem comp33:compF Tryz.prog Tryz.f33=some c33:=by kernel_rfl
theorem era33:c33.code=a33.erase:=rfl
def s34_0:=[zf 0 31]
def s34_1:=[zcb 1 1 1,zap 2 1 1,ze 12 0 2]
def a34:AC:=Z.r s34_0 [0] (Z.e s34_1)
def c34:FC:=⟨3,a34.erase,[.cell 0 true 12]⟩
theorem comp34:compF Tryz.prog Tryz.f34=some c34:=by kernel_rfl
theorem era34:c34.code=a34.erase:=rfl
def s35_0:=[zf 2 31]
def s35_1:=[za 3 0,zak 4 2 3,ze 12 2 4]
def a35:AC:=Z.r s35_0 [0,2] (Z.e s35_1)
def c35:FC:=⟨5,a35.erase,[.cell 2 true 12]⟩
theorem comp35:compF Tryz.prog Tryz.f35=some c35:=by kernel_rfl
theorem era35:c35.code=a35.erase:=rfl
def s37_0:=[za 3 0,zk 4 38 3,ze 12 1 4]
def a37:AC:=Z.g s37_0
def c37:FC:=⟨5,a37.erase,[]⟩
theorem comp37:compF Tryz.prog Tryz.f37=some c37:=by kernel_rfl
theorem era37:c37.code=a37.erase:=rfl
def s38_0:=[zf 2 31]
def s38_1:=[za 6 0,q0 7 (.call 77 [.tmp 6,ki 1,ks ⟨#[105,102]⟩])]
def s38_2:=[za 8 0,zk 9 38 8,zf 3 31,ze 12 3 9]
def s38_3:=[za 10 0,q0 11 (.call 78 [.tmp 10,ks ⟨#[116,104,101,110]⟩])]
def s38_4:=[za 12 0,zk 13 38 12,zf 4 31,ze 12 4 13]
def s38_5:=[za 14 0,q0 15 (.call 78 [.tmp 14,ks ⟨#[101,108,115,101]⟩])]
def s38_6:=[ed 0 (zh 16 12 3) [],ed 1 (zh 17 12 4) [],ed 2 (za 18 0) [],ed 3 (zk 19 38 18) [],ed 4 (q0 20 (.mksl 31 12 [.tmp 16,.tmp 17,.tmp 19])) [19],ed 5 (zao 21 8 20) [],ed 6 (ze 12 2 21) [2]]
def s38_7:=[za 22 0,zbf 23 79 22 1,zf 5 31,ze 12 5 23]
def s38_8:=[za 24 0,q0 25 (.call 77 [.tmp 24,ki 1,ks ⟨#[100,101,102,97,117,108,116]⟩])]
def s38_9:=[ed 0 (zh 26 12 5) [],ed 1 (za 27 0) [],ed 2 (zbf 28 79 27 1) [],ed 3 (zb8 29 31 26 28) [28],ed 4 (zao 30 9 29) [],ed 5 (ze 12 5 30) [5]]
def s38_10:=[zh 31 12 5,ze 12 2 31]
def a38:AC:=Z.r s38_0 [0,2] (Z.s (Z.r s38_1 [0,2,7] (Z.c 7 (Z.r s38_2 [0,2,3] (Z.r s38_3 [0,2,3] (Z.r s38_4 [0,2,3,4] (Z.r s38_5 [0,2,3,4] (.seq (.mreg [] s38_6) .ret))))) .skip)) [0,2] (Z.r s38_7 [0,2,5] (Z.s (Z.b 0 (Z.l [0,2,5] (Z.s (Z.r s38_8 [0,2,5,25] (Z.c 25 .skip (.exit 0))) [0,2,5] (Z.b 1 (.mreg [] s38_9))))) [2,5] (Z.e s38_10))))
def c38:FC:=⟨32,a38.erase,[.cell 2 true 12]⟩
theorem comp38:compF Tryz.prog Tryz.f38=some c38:=by kernel_rfl
theorem era38:c38.code=a38.erase:=rfl
def s39_0:=[zw 1 90 0,zan 2]
def s39_1:=[q0 4 (.exts (.makeMap 141 none) 141 [] []),.mk none (.exts (.insert 141 (.tmp 4) (ki 1) (.func 80)) 0 [.mp 3 140,.int .i64] [.tmp 4,ki 1,.func 80]) none,.mk none (.exts (.insert 141 (.tmp 4) (ki 2) (.func 81)) 0 [.mp 3 140,.int .i64] [.tmp 4,ki 2,.func 81]) none,.mk none (.exts (.insert 141 (.tmp 4) (ki 3) (.func 81)) 0 [.mp 3 140,.int .i64] [.tmp 4,ki 3,.func 81]) none,.mk none (.exts (.insert 141 (.tmp 4) (ki 4) (.func 82)) 0 [.mp 3 140,.int .i64] [.tmp 4,ki 4,.func 82]) none,.mk none (.exts (.insert 141 (.tmp 4) (ki 5) (.func 83)) 0 [.mp 3 140,.int .i64] [.tmp 4,ki 5,.func 83]) none,.mk none (.exts (.insert 141 (.tmp 4) (ki 6) (.func 84)) 0 [.mp 3 140,.int .i64] [.tmp 4,ki 6,.func 84]) none,.mk none (.exts (.insert 141 (.tmp 4) (ki 7) (.func 85)) 0 [.mp 3 140,.int .i64] [.tmp 4,ki 7,.func 85]) none,.mk none (.exts (.insert 141 (.tmp 4) (ki 8) (.func 86)) 0 [.mp 3 140,.int .i64] [.tmp 4,ki 8,.func 86]) none,.mk none (.exts (.insert 141 (.tmp 4) (ki 9) (.func 87)) 0 [.mp 3 140,.int .i64] [.tmp 4,ki 9,.func 87]) none,za 5 4,za 3 5]
def s39_2:=[za 6 3,zd 7 0 1,zd 8 0 7,zb 9 1 8,q0 10 (.extq (.lookup 141 (.tmp 6) (.tmp 9) false) 140 [.mp 3 140,.int .i64] [.tmp 6,.tmp 9]),zh 11 12 1,zda 12 10 11,za 2 12]
def a39:AC:=Z.r s39_0 [1] (Z.r s39_1 [1,3] (Z.e s39_2))
def c39:FC:=⟨13,a39.erase,[.tmp 2]⟩
theorem comp39:compF Tryz.prog Tryz.f39=some c39:=by kernel_rfl
theorem era39:c39.code=a39.erase:=rfl
def s40_0:=[zw 1 31 0,zg 2 0]
def s40_1:=[zg 2 1]
def s40_2:=[zd 5 11 1,zb 6 1 5,zx 7 6,zg 8 0]
def s40_3:=[zu 9 8 7]
def s40_4:=[zi 10 12 6 8,zh 11 12 10,zf 4 31,ze 12 4 11]
def s40_5:=[za 12 2,zh 13 12 4,zk 14 40 13,zab 15 12 14,za 2 15]
def s40_6:=[zo 16 8 1,za 8 16]
def s40_7:=[za 17 2,za 2 17]
def a40:AC:=Z.r s40_0 [1] (Z.r s40_1 [1,2] (Z.s (Z.r s40_2 [2,6,7,8] (Z.b 0 (Z.l [2,6,7,8] (Z.r s40_3 [2,6,7,8,9] (Z.s (Z.c 9 .skip (.exit 0)) [2,6,7,8] (Z.s (Z.b 1 (Z.r s40_4 [2,4,6,7,8] (Z.g s40_5))) [2,6,7,8] (Z.g s40_6))))))) [2] (Z.e s40_7)))
def c40:FC:=⟨18,a40.erase,[.tmp 2]⟩
theorem comp40:compF Tryz.prog Tryz.f40=some c40:=by kernel_rfl
theorem era40:c40.code=a40.erase:=rfl
def s41_0:=[zw 1 31 0,zg 2 0]
def s41_1:=[zd 5 11 1,zb 6 1 5,zx 7 6,zg 8 0]
def s41_2:=[zu 9 8 7]
def s41_3:=[zi 10 12 6 8,zh 11 12 10,zf 4 31,ze 12 4 11]
def s41_4:=[za 12 2,zh 13 12 4,zk 14 41 13,q0 15 (.max2 (.tmp 12) (.tmp 14)),za 2 15]
def s41_5:=[zo 16 8 1,za 8 16]
def s41_6:=[za 17 2,zo 18 17 1,za 2 18]
def a41:AC:=Z.r s41_0 [1,2] (Z.s (Z.r s41_1 [2,6,7,8] (Z.b 0 (Z.l [2,6,7,8] (Z.r s41_2 [2,6,7,8,9] (Z.s (Z.c 9 .skip (.exit 0)) [2,6,7,8] (Z.s (Z.b 1 (Z.r s41_3 [2,4,6,7,8] (Z.g s41_4))) [2,6,7,8] (Z.g s41_5))))))) [2] (Z.e s41_6))
def c41:FC:=⟨19,a41.erase,[.tmp 2]⟩
theorem comp41:compF Tryz.prog Tryz.f41=some c41:=by kernel_rfl
theorem era41:c41.code=a41.erase:=rfl
def s42_0:=[zw 2 31 0,zy 4]
def s42_1:=[zd 12 0 2,zb 13 1 12,q0 14 (.build [.int .i64 0,.string ⟨#[]⟩,.string ⟨#[]⟩,.string ⟨#[]⟩,.int .i64 0,.int .i64 0,.string ⟨#[]⟩,.slice none 0 0,.int .i64 0,.int .i64 0,.int .i64 0,.slice none 0 0] [(0,1,.tmp 13)]),zf 5 31,ze 12 5 14]
def s42_2:=[zg 6 0]
def s42_3:=[zd 15 0 2,zb 16 1 15]
def s42_4:=[zr 18 16 1,za 17 18]
def s42_5:=[ed 0 (zd 19 4 2) [],ed 1 (zh 20 3 19) [],ed 2 (zd 21 7 2) [],ed 3 (zb 22 1 21) [5],ed 4 (zd 23 2 2) [],ed 5 (zb 24 1 23) [5,5],ed 6 (zd 25 4 5) [],ed 7 (ze 3 25 20) [5],ed 8 (zd 26 7 5) [],ed 9 (ze 1 26 22) [5],ed 10 (zd 27 2 5) [],ed 11 (ze 1 27 24) [5]]
def s42_6:=[zd 28 4 2,zh 29 3 28,zk 30 88 29,zag 31 30 0,za 32 31,zs 33 4 2 32,zs 34 1 33 32,zp 35 1 34 32,zb9 36 35 0 32,zn 37 32 36,za 38 37,zs 39 4 2 38,zs 40 0 39 38,zp 41 1 40 38,zs 42 7 2 38,zp 43 1 42 38,zs 44 2 2 38,zp 45 1 44 38,q1 46 (.build [.int .i64 0,.slice none 0 0,.string ⟨#[]⟩] [(0,1,.tmp 41),(1,1,.tmp 43),(2,1,.tmp 45)]) 38 false,za0 47 55 46 38,zbk 48 47 0 38,zn 49 38 48]
def s42_7:=[zy 4]
def s42_8:=[zr 51 16 2,za 50 51]
def s42_9:=[zr 52 16 3,za 50 52]
def s42_10:=[zr 53 16 4,za 50 53]
def s42_11:=[zd 54 2 2,zb 55 1 54,zd 56 2 5,ze 1 56 55]
def s42_12:=[za 57 1,zd 58 0 2,zb 59 1 58,zr 60 59 2,q0 61 (.eqb true .bool (.tmp 57) (.tmp 60)),za 62 61,zs 63 2 2 62,zp 64 1 63 62,za0 65 72 64 62,zaw 66 65 62,zn 67 62 66]
def s42_13:=[zy 4]
def s42_14:=[zd 68 0 2,zb 69 1 68,zr 70 69 4]
def s42_15:=[zg 6 1]
def s42_16:=[zr 72 16 5,za 71 72]
def s42_17:=[ed 0 (zd 73 1 2) [],ed 1 (zb 74 1 73) [],ed 2 (zd 75 3 2) [],ed 3 (zb 76 1 75) [5],ed 4 (zd 77 8 2) [],ed 5 (zb 78 1 77) [5,5],ed 6 (zd 79 9 2) [],ed 7 (zh 80 2 79) [5,5,5],ed 8 (zd 81 1 5) [],ed 9 (ze 1 81 74) [5],ed 10 (zd 82 3 5) [],ed 11 (ze 1 82 76) [5],ed 12 (zd 83 8 5) [],ed 13 (ze 1 83 78) [5],ed 14 (zd 84 9 5) [],ed 15 (ze 2 84 80) [5]]
def s42_18:=[zg 6 2]
def s42_19:=[zg 7 0,zg 8 0]
def s42_20:=[zd 85 1 2,zb 86 1 85]
def s42_21:=[zbl 88 86,za 87 88]
def s42_22:=[zg 7 1,zg 8 1000]
def s42_23:=[zcj 90 86,za 89 90]
def s42_24:=[zg 7 1,zg 8 1073741824]
def s42_25:=[za 91 1,za 92 91,q1 93 (.load false 1 (.global 0)) 92 false,zs 94 1 2 92,zp 95 1 94 92,zca 96 89 93 95 92,zaw 97 96 92,zn 98 92 97,za 99 98,zs 100 3 2 99,zp 101 1 100 99,za0 102 72 101 99,zaw 103 102 99,zn 104 99 103,za 105 104,zs 106 8 2 105,zp 107 1 106 105,zv 108 7 105,zcl 109 107 108 105,zn 110 105 109,za 111 110,zs 112 8 2 111,zp 113 1 112 111,zv 114 8 111,q1 115 (.bin .gtr (.tmp 113) (.tmp 114)) 111 false,zn 116 111 115]
def s42_26:=[zy 4]
def s42_27:=[zd 117 9 2,zd 118 0 117,zb 119 1 118,zat 120 119 1,za 121 120,zs 122 9 2 121,zs 123 0 122 121,zp 124 1 123 121,zaq 125 124 4 121,zn 126 121 125,za 127 126,zs 128 9 2 127,zs 129 0 128 127,zp 130 1 129 127,za6 131 130 1 127,zs 132 9 2 127,zs 133 1 132 127,zp 134 1 133 127,za6 135 134 0 127,q1 136 (.eqb true .bool (.tmp 131) (.tmp 135)) 127 false,zn 137 127 136,za 138 137,zs 139 9 2 138,zs 140 1 139 138,zp 141 1 140 138,zb9 142 141 0 138,zn 143 138 142,za 144 143,zs 145 9 2 144,zs 146 1 145 144,zp 147 1 146 144,zaq 148 147 1099511627776 144,zn 149 144 148]
def s42_28:=[zy 4]
def s42_29:=[zbe 1]
def s42_30:=[zr 151 16 6,za 150 151]
def s42_31:=[zd 152 1 2,zb 153 1 152,zd 154 1 5,ze 1 154 153,zg 6 1]
def s42_32:=[q0 155 (.load false 1 (.global 1)),zd 156 1 2,zb 157 1 156,zae 158 89 155 157,zad 159 158]
def s42_33:=[zy 4]
def s42_34:=[zr 161 16 7,za 160 161]
def s42_35:=[zd 162 1 2,zb 163 1 162,zd 164 1 5,ze 1 164 163,zg 6 2]
def s42_36:=[q0 165 (.load false 1 (.global 2)),zd 166 1 2,zb 167 1 166,zae 168 89 165 167,zad 169 168]
def s42_37:=[zy 4]
def s42_38:=[zr 171 16 8,za 170 171]
def s42_39:=[zg 6 3]
def s42_40:=[zr 173 16 9,za 172 173]
def s42_41:=[zg 6 2]
def s42_42:=[zy 4]
def s42_43:=[zh 174 12 2,zh 175 12 5,zae 176 90 174 175,zad 177 176,za 178 177,zs 179 11 2 178,zp 180 1 179 178,za9 181 180 178,zv 182 6 178,zbn 183 181 182 178,zn 184 178 183]
def s42_44:=[zy 4]
def s42_45:=[zd 185 11 2,zb 186 1 185,zx 187 186,zg 188 0]
def s42_46:=[zu 189 188 187]
def s42_47:=[zi 190 12 186 188,zh 191 12 190,zf 10 31,ze 12 10 191]
def s42_48:=[zh 192 12 10,za 193 1,zae 194 42 192 193,zad 195 194]
def s42_49:=[zy 4]
def s42_50:=[zo 196 188 1,za 188 196]
def s42_51:=[zd 197 1 2,zb 198 1 197,zc1 199 198,za 200 199,zt 201 0 2 200,zm 202 1 201 200,zau 203 202 5 200,zj 204 200 203]
def s42_52:=[zd 205 11 2,zb 206 1 205,zaf 207 12 206 0,zh 208 12 207,zf 11 31,ze 12 11 208]
def s42_53:=[zh 209 12 11,zcb 210 1 1,zap 211 1 210,zae 212 90 209 211,za 4 212]
def s42_54:=[zbe 4]
def a42:AC:=Z.r s42_0 [1,2] (Z.r s42_1 [1,2,5] (Z.r s42_2 [1,2,5,6] (Z.s (Z.r s42_3 [1,2,5,6,16] (Z.b 0 (Z.r s42_4 [1,2,5,6,16,17] (Z.c 17 (Z.s (.mreg [] s42_5) [1,2,5,6] (Z.r s42_6 [1,2,5,6,49] (Z.c 49 (Z.e s42_7) .skip))) (Z.s (Z.r s42_8 [1,2,5,6,16,50] (Z.c 50 .skip (Z.r s42_9 [1,2,5,6,16,50] (Z.c 50 .skip (Z.g s42_10))))) [1,2,5,6,16,50] (Z.c 50 (Z.r s42_11 [1,2,5,6] (Z.s (Z.r s42_12 [1,2,5,6,67] (Z.c 67 (Z.e s42_13) .skip)) [1,2,5,6] (Z.r s42_14 [1,2,5,6,70] (Z.c 70 (Z.g s42_15) .skip)))) (Z.r s42_16 [1,2,5,16,71] (Z.c 71 (Z.s (.mreg [] s42_17) [1,2,5] (Z.r s42_18 [1,2,5,6] (Z.r s42_19 [1,2,5,6,7,8] (Z.s (Z.r s42_20 [1,2,5,6,7,8,86] (Z.b 1 (Z.r s42_21 [1,2,5,6,7,8,86,87] (Z.c 87 (Z.g s42_22) (Z.r s42_23 [1,2,5,6,7,8,89] (Z.c 89 (Z.g s42_24) .skip)))))) [1,2,5,6,7,8] (Z.s (Z.r s42_25 [2,5,6,116] (Z.c 116 (Z.e s42_26) .skip)) [2,5,6] (Z.s (Z.r s42_27 [2,5,6,149] (Z.c 149 (Z.e s42_28) .skip)) [2,5,6] (Z.g s42_29))))))) (Z.r s42_30 [1,2,5,16,150] (Z.c 150 (Z.r s42_31 [1,2,5,6] (Z.r s42_32 [1,2,5,6,159] (Z.c 159 (Z.e s42_33) .skip))) (Z.r s42_34 [1,2,5,16,160] (Z.c 160 (Z.r s42_35 [1,2,5,6] (Z.r s42_36 [1,2,5,6,169] (Z.c 169 (Z.e s42_37) .skip))) (Z.r s42_38 [1,2,5,16,170] (Z.c 170 (Z.g s42_39) (Z.r s42_40 [1,2,5,172] (Z.c 172 (Z.g s42_41) (Z.e s42_42))))))))))))))))) [1,2,5,6] (Z.s (Z.r s42_43 [1,2,184] (Z.c 184 (Z.e s42_44) .skip)) [1,2] (Z.s (Z.r s42_45 [1,2,186,187,188] (Z.b 2 (Z.l [1,2,186,187,188] (Z.r s42_46 [1,2,186,187,188,189] (Z.s (Z.c 189 .skip (.exit 2)) [1,2,186,187,188] (Z.s (Z.b 3 (Z.r s42_47 [1,2,10,186,187,188] (Z.r s42_48 [1,2,186,187,188,195] (Z.c 195 (Z.e s42_49) .skip)))) [1,2,186,187,188] (Z.g s42_50))))))) [2] (Z.s (Z.r s42_51 [2,204] (Z.c 204 (Z.r s42_52 [11] (Z.e s42_53)) .skip)) [] (Z.e s42_54)))))))
def c42:FC:=⟨213,a42.erase,[.tmp 4]⟩
theorem comp42:compF Tryz.prog Tryz.f42=some c42:=by kernel_rfl
theorem era42:c42.code=a42.erase:=rfl
def s43_0:=[zw 2 31 0,zw 3 31 1,zy 4]
def s43_1:=[zd 5 0 2,zb 6 1 5,zd 7 0 3,zb 8 1 7,zbg 9 6 8,za 10 9,zt 11 1 2 10,zm 12 1 11 10,zt 13 1 3 10,zm 14 1 13 10,zav 15 12 14 10,zj 16 10 15,za 17 16,zt 18 2 2 17,zm 19 1 18 17,zt 20 2 3 17,zm 21 1 20 17,zav 22 19 21 17,zj 23 17 22,za 24 23,zt 25 3 2 24,zm 26 1 25 24,zt 27 3 3 24,zm 28 1 27 24,zav 29 26 28 24,zj 30 24 29,za 31 30,zt 32 4 2 31,zai 33 3 32 31,zt 34 4 3 31,zai 35 3 34 31,q1 36 (.eqs false [.int,.int,.str] (.tmp 33) (.tmp 35)) 31 true,zj 37 31 36,za 38 37,zt 39 7 2 38,zm 40 1 39 38,zt 41 7 3 38,zm 42 1 41 38,zam 43 59 40 42 38,zj 44 38 43,za 45 44,zt 46 8 2 45,zm 47 1 46 45,zt 48 8 3 45,zm 49 1 48 45,zav 50 47 49 45,zj 51 45 50,za 52 51,zt 53 9 2 52,zai 54 2 53 52,zt 55 9 3 52,zai 56 2 55 52,q1 57 (.eqs false [.int,.int] (.tmp 54) (.tmp 56)) 52 true,zj 58 52 57,za 4 58]
def a43:AC:=Z.r s43_0 [2,3] (Z.e s43_1)
def c43:FC:=⟨59,a43.erase,[.tmp 4]⟩
theorem comp43:compF Tryz.prog Tryz.f43=some c43:=by kernel_rfl
theorem era43:c43.code=a43.erase:=rfl
def s44_0:=[zw 1 31 0,zg 2 0]
def s44_1:=[zg 3 1]
def s44_2:=[zg 4 0]
def s44_3:=[za 5 4,zd 6 11 1,zb 7 1 6,zx 8 7,zu 9 5 8]
def s44_4:=[za 12 3,zd 13 11 1,zb 14 1 13,za 15 4,zi 16 12 14 15,zh 17 12 16,zk 18 44 17,zab 19 12 18,za 3 19]
def s44_5:=[za 10 4,zo 11 10 1,za 4 11]
def s44_6:=[za 20 3,za 2 20]
def a44:AC:=Z.r s44_0 [1] (Z.r s44_1 [1,3] (Z.s (Z.r s44_2 [1,3,4] (Z.b 0 (Z.l [1,3,4] (Z.s (Z.r s44_3 [1,3,4,9] (Z.c 9 .skip (.exit 0))) [1,3,4] (Z.s (Z.b 1 (Z.g s44_4)) [1,3,4] (Z.g s44_5)))))) [3] (Z.e s44_6)))
def c44:FC:=⟨21,a44.erase,[.tmp 2]⟩
theorem comp44:compF Tryz.prog Tryz.f44=some c44:=by kernel_rfl
theorem era44:c44.code=a44.erase:=rfl
def s45_0:=[zw 1 31 0,zg 2 0]
def s45_1:=[zg 3 0]
def s45_2:=[zg 4 0]
def s45_3:=[za 5 4,zd 6 11 1,zb 7 1 6,zx 8 7,zu 9 5 8]
def s45_4:=[za 12 3,zd 13 11 1,zb 14 1 13,za 15 4,zi 16 12 14 15,zh 17 12 16,zk 18 45 17,q0 19 (.max2 (.tmp 12) (.tmp 18)),za 3 19]
def s45_5:=[za 10 4,zo 11 10 1,za 4 11]
def s45_6:=[za 20 3,zo 21 20 1,za 2 21]
def a45:AC:=Z.r s45_0 [1] (Z.r s45_1 [1,3] (Z.s (Z.r s45_2 [1,3,4] (Z.b 0 (Z.l [1,3,4] (Z.s (Z.r s45_3 [1,3,4,9] (Z.c 9 .skip (.exit 0))) [1,3,4] (Z.s (Z.b 1 (Z.g s45_4)) [1,3,4] (Z.g s45_5)))))) [3] (Z.e s45_6)))
def c45:FC:=⟨22,a45.erase,[.tmp 2]⟩
theorem comp45:compF Tryz.prog Tryz.f45=some c45:=by kernel_rfl
theorem era45:c45.code=a45.erase:=rfl
def s46_0:=[zw 2 31 0,zy 4]
def s46_1:=[zh 9 12 2,za 10 1,zae 11 91 9 10,za 8 11,zq 12 8 0,zq 13 8 1,za 5 12,za 6 13]
def s46_2:=[za 14 6,zad 15 14,za 16 15,zs 17 11 2 16,zp 18 1 17 16,za9 19 18 16,zv 20 5 16,zbn 21 19 20 16,zn 22 16 21]
def s46_3:=[zy 4]
def s46_4:=[zg 7 0]
def s46_5:=[za 23 7,za 24 5,zu 25 23 24]
def s46_6:=[zd 28 11 2,zb 29 1 28,za 30 7,zi 31 12 29 30,zh 32 12 31,za 33 1,za 34 33,zs 35 0 2 34,zp 36 1 35 34,za6 37 36 5 34,zn 38 34 37,zae 39 46 32 38,zad 40 39]
def s46_7:=[zy 4]
def s46_8:=[za 26 7,zo 27 26 1,za 7 27]
def s46_9:=[zd 41 0 2,zb 42 1 41,zag 43 42 5,za 44 43,zs 45 1 2 44,zp 46 1 45 44,q1 47 (.bin .neq (.tmp 46) (ks ⟨#[99,111,117,110,116]⟩)) 44 false,zn 48 44 47,za 49 48,zs 50 11 2 49,zp 51 1 50 49,q1 52 (.iaddr 12 (.tmp 51) (ki 0)) 49 false,zaj 53 12 52 49,q1 54 (.call 34 []) 49 false,zca 55 12 53 54 49,zn 56 49 55,za 4 56]
def a46:AC:=Z.r s46_0 [1,2] (Z.r s46_1 [1,2,5,6] (Z.s (Z.r s46_2 [1,2,5,22] (Z.c 22 (Z.e s46_3) .skip)) [1,2,5] (Z.s (Z.r s46_4 [1,2,5,7] (Z.b 0 (Z.l [1,2,5,7] (Z.s (Z.r s46_5 [1,2,5,7,25] (Z.c 25 .skip (.exit 0))) [1,2,5,7] (Z.s (Z.b 1 (Z.d s46_6 [1,2,5,7,40] (Z.c 40 (Z.e s46_7) .skip))) [1,2,5,7] (Z.g s46_8)))))) [2] (.seq (.dreg s46_9) .ret))))
def c46:FC:=⟨57,a46.erase,[.tmp 4]⟩
theorem comp46:compF Tryz.prog Tryz.f46=some c46:=by kernel_rfl
theorem era46:c46.code=a46.erase:=rfl
def s47_0:=[zc 0 94]
def s47_1:=[zc 1 94]
def s47_2:=[q0 3 (.mkfn (Fn.func 92) [] [.tmp 1]),za 2 3]
def s47_3:=[za 4 2,q0 5 (.callv (.tmp 4) [ks ⟨#[9,10,13,32]⟩,.const (.int .u8 1)])]
def s47_4:=[za 6 2,q0 7 (.callv (.tmp 6) [ks ⟨#[97,98,99,100,101,102,103,104,105,106,107,108,109,110,111,112,113,114,115,116,117,118,119,120,121,122]⟩,.const (.int .u8 2)])]
def s47_5:=[za 8 2,q0 9 (.callv (.tmp 8) [ks ⟨#[48,49,50,51,52,53,54,55,56,57]⟩,.const (.int .u8 3)])]
def s47_6:=[za 10 2,q0 11 (.callv (.tmp 10) [ks ⟨#[95]⟩,.const (.int .u8 4)])]
def s47_7:=[za 12 2,q0 13 (.callv (.tmp 12) [ks ⟨#[34]⟩,.const (.int .u8 5)])]
def s47_8:=[za 14 2,q0 15 (.callv (.tmp 14) [ks ⟨#[35]⟩,.const (.int .u8 6)])]
def s47_9:=[za 16 2,q0 17 (.callv (.tmp 16) [ks ⟨#[123,125,40,41,91,93,44,58,59,61,60,43,45,42,47,94,64]⟩,.const (.int .u8 7)])]
def s47_10:=[za 18 2,q0 19 (.callv (.tmp 18) [ks ⟨#[33]⟩,.const (.int .u8 8)])]
def s47_11:=[zh 20 256 1,ze 256 0 20]
def a47:AC:=Z.r s47_0 [0] (Z.r s47_1 [0,1] (Z.r s47_2 [0,1,2] (Z.r s47_3 [0,1,2] (Z.r s47_4 [0,1,2] (Z.r s47_5 [0,1,2] (Z.r s47_6 [0,1,2] (Z.r s47_7 [0,1,2] (Z.r s47_8 [0,1,2] (Z.r s47_9 [0,1,2] (Z.r s47_10 [0,1] (Z.e s47_11)))))))))))
def c47:FC:=⟨21,a47.erase,[.cell 0 true 256]⟩
theorem comp47:compF Tryz.prog Tryz.f47=some c47:=by kernel_rfl
theorem era47:c47.code=a47.erase:=rfl
def s48_0:=[zb 4 1 1,zx 5 4,zat 6 5 32]
def s48_1:=[zb 7 1 1,zb 8 1 2,za 9 0,q0 10 (.build [.int .i64 0,.int .i64 0] [(0,1,.tmp 8),(1,1,.tmp 9)]),q0 11 (.mksl 85 2 [.tmp 10]),q0 12 (.append 85 2 16 [.int .i64 0,.int .i64 0] (.tmp 7) (.tmp 11)),ze 1 1 12]
def a48:AC:=Z.r s48_0 [0,1,2,6] (Z.c 6 (Z.g s48_1) .skip)
def c48:FC:=⟨13,a48.erase,[]⟩
theorem comp48:compF Tryz.prog Tryz.f48=some c48:=by kernel_rfl
theorem era48:c48.code=a48.erase:=rfl
def s49_0:=[zw 3 22 0,zw 5 101 2,zg 6 0,zg 7 0,zg 8 0]
def s49_1:=[q0 12 (.mkfn (Fn.func 93) [] [.tmp 3,.tmp 5]),za 9 12]
def s49_2:=[za 13 1,zo 14 13 1,za 7 14]
def s49_3:=[zb 15 1 5,zb 16 1 3,za 17 1,zi 18 1 16 17,zb 19 1 18,zac 20 15,zdb 21 20 19,zb 22 1 21]
def s49_4:=[q0 24 (.bin .eql (.tmp 22) (.const (.int .u8 1))),za 23 24]
def s49_5:=[za 25 7,zg 6 0,za 7 25,zg 8 0]
def s49_6:=[q0 27 (.bin .eql (.tmp 22) (.const (.int .u8 6))),za 26 27]
def s49_7:=[zb 28 1 3,za 29 1,q0 30 (.slice 1 (.tmp 28) (some (.tmp 29)) none),q0 31 (.call 94 [.tmp 30,.const (.int .u8 10)]),za 10 31]
def s49_8:=[za 32 10,za8 33 32 0]
def s49_9:=[za 34 1,za 35 10,zab 36 34 35,zg 6 0,za 7 36,zg 8 0]
def s49_10:=[zb 37 1 3,zx 38 37,zg 6 0,za 7 38,zg 8 0]
def s49_11:=[q0 40 (.bin .eql (.tmp 22) (.const (.int .u8 2))),za 39 40]
def s49_12:=[za 41 9,za 42 1,q0 43 (.mksl 5 1 [.const (.int .u8 2),.const (.int .u8 3),.const (.int .u8 4)]),zce 44 41 42 43,za 7 44]
def s49_13:=[za 45 7,za 46 1,zal 47 45 46,zar 48 47 24]
def s49_14:=[zg 8 2]
def s49_15:=[za 49 7,za 50 8,zg 6 1,za 7 49,za 8 50]
def s49_16:=[q0 52 (.bin .eql (.tmp 22) (.const (.int .u8 3))),za 51 52]
def s49_17:=[za 53 9,za 54 1,q0 55 (.mksl 5 1 [.const (.int .u8 3)]),zce 56 53 54 55,za 7 56]
def s49_18:=[zg 6 2]
def s49_19:=[za 57 7,zb 58 1 3,zx 59 58,zu 60 57 59,za 61 60,zm 62 1 3 61,zl 63 7 61,zaa 64 1 62 63 61,zm 65 1 64 61,q1 66 (.bin .eql (.tmp 65) (.const (.int .u8 46))) 61 true,zj 67 61 66,za 68 67,zl 69 9 68,zl 70 7 68,q1 71 (.bin .add (.tmp 70) (ki 1)) 68 true,q1 72 (.mksl 5 1 [.const (.int .u8 3)]) 68 true,q1 73 (.callv (.tmp 69) [.tmp 71,.tmp 72]) 68 true,zl 74 7 68,q1 75 (.bin .add (.tmp 74) (ki 1)) 68 true,q1 76 (.bin .gtr (.tmp 73) (.tmp 75)) 68 true,zj 77 68 76]
def s49_20:=[za 78 9,za 79 7,zo 80 79 1,q0 81 (.mksl 5 1 [.const (.int .u8 3)]),zce 82 78 80 81,za 7 82,zg 6 3]
def s49_21:=[za 83 6,za 84 7,za 85 6,zb 86 1 3,za 87 1,za 88 7,zci 89 86 87 88,zcf 90 89 9 89,zae 91 95 85 90,za 6 83,za 7 84,za 8 91]
def s49_22:=[q0 93 (.bin .eql (.tmp 22) (.const (.int .u8 5))),za 92 93]
def s49_23:=[zb 94 1 3,za 95 1,zo 96 95 1,q0 97 (.slice 1 (.tmp 94) (some (.tmp 96)) none),q0 98 (.call 96 [.tmp 97,ks ⟨#[34,10]⟩]),za 11 98]
def s49_24:=[za 99 11,zat 100 99 0,za 101 100,zp 102 1 3 101,zv 103 1 101,q1 104 (.bin .add (.tmp 103) (ki 1)) 101 false,zv 105 11 101,zb5 106 104 105 101,zbo 107 1 102 106 101,zp 108 1 107 101,q1 109 (.bin .eql (.tmp 108) (.const (.int .u8 10))) 101 false,zn 110 101 109]
def s49_25:=[za 111 7,zbc 6,za 7 111,zg 8 80]
def s49_26:=[za 112 1,za 113 11,zab 114 112 113,zo 115 114 2,zb 116 1 3,za 117 1,zo 118 117 1,za 119 1,za 120 11,zab 121 119 120,zo 122 121 1,zci 123 116 118 122,zk 124 97 123,zg 6 4,za 7 115,za 8 124]
def s49_27:=[q0 126 (.bin .eql (.tmp 22) (.const (.int .u8 7))),za 125 126]
def s49_28:=[q0 127 (.bin .eql (.tmp 22) (.const (.int .u8 8))),za 125 127]
def s49_29:=[za 128 7,zb 129 1 3,zx 130 129,zu 131 128 130,za 132 131,zm 133 1 3 132,zl 134 7 132,zaa 135 1 133 134 132,zm 136 1 135 132,q1 137 (.bin .eql (.tmp 136) (.const (.int .u8 61))) 132 true,zj 138 132 137,za 139 138,zm 140 1 3 139,zl 141 1 139,zaa 142 1 140 141 139,zm 143 1 142 139,q1 144 (.call 98 [ks ⟨#[61,33,60]⟩,.tmp 143]) 139 true,zcr 145 144 0 139,zj 146 139 145]
def s49_30:=[za 147 7,zo 148 147 1,zg 6 5,za 7 148,zg 8 0]
def s49_31:=[zb 149 1 3,za 150 1,zi 151 1 149 150,zb 152 1 151,q0 153 (.bin .neq (.tmp 152) (.const (.int .u8 33)))]
def s49_32:=[za 154 7,zg 6 5,za 7 154,zg 8 0]
def s49_33:=[za 155 7,zbc 6,za 7 155,zg 8 80]
def a49:AC:=Z.r s49_0 [1,3,5,8] (Z.r s49_1 [1,3,5,8,9] (Z.r s49_2 [1,3,5,7,8,9] (Z.s (Z.d s49_3 [1,3,7,8,9,22] (Z.b 0 (Z.r s49_4 [1,3,7,8,9,22,23] (Z.c 23 (Z.e s49_5) (Z.r s49_6 [1,3,7,8,9,22,26] (Z.c 26 (Z.s (Z.r s49_7 [1,3,10] (Z.r s49_8 [1,3,10,33] (Z.c 33 (Z.e s49_9) .skip))) [3] (.seq (.dreg s49_10) .ret)) (Z.r s49_11 [1,3,7,8,9,22,39] (Z.c 39 (Z.r s49_12 [1,7,8] (Z.s (Z.r s49_13 [7,8,48] (Z.c 48 (Z.g s49_14) .skip)) [7,8] (Z.e s49_15))) (Z.r s49_16 [1,3,7,9,22,51] (Z.c 51 (Z.r s49_17 [1,3,7,9] (Z.r s49_18 [1,3,6,7,9] (Z.s (Z.r s49_19 [1,3,6,7,9,77] (Z.c 77 (Z.g s49_20) .skip)) [1,3,6,7] (Z.e s49_21)))) (Z.r s49_22 [1,3,7,22,92] (Z.c 92 (Z.r s49_23 [1,3,7,11] (Z.s (Z.r s49_24 [1,3,7,11,110] (Z.c 110 (Z.e s49_25) .skip)) [1,3,11] (Z.e s49_26))) (Z.s (Z.r s49_27 [1,3,7,22,125] (Z.c 125 .skip (Z.g s49_28))) [1,3,7,125] (Z.c 125 (Z.s (Z.r s49_29 [1,3,7,146] (Z.c 146 (Z.e s49_30) .skip)) [1,3,7] (Z.r s49_31 [7,153] (Z.c 153 (Z.e s49_32) .skip))) .skip)))))))))))))) [7] (Z.e s49_33))))
def c49:FC:=⟨156,a49.erase,[.tmp 6,.tmp 7,.tmp 8]⟩
theorem comp49:compF Tryz.prog Tryz.f49=some c49:=by kernel_rfl
theorem era49:c49.code=a49.erase:=rfl
def s51_0:=[zw 1 98 0,zy 2]
def s51_1:=[zd 3 0 1,zb 4 1 3,zr 5 4 1,za 6 5,zt 7 1 1 6,zm 8 1 7 6,q1 9 (.bin .eql (.tmp 8) (ks ⟨#[111,102]⟩)) 6 true,zl 10 9 6,zs 11 1 1 10,zp 12 1 11 10,q1 13 (.bin .eql (.tmp 12) (ks ⟨#[110,117,108,108]⟩)) 10 false,zbb 14 10 13 6,zl 15 14 6,zs 16 1 1 15,zp 17 1 16 15,q1 18 (.call 100 []) 15 false,zca 19 99 17 18 15,zbb 20 15 19 6,zj 21 6 20,za 2 21]
def a51:AC:=Z.r s51_0 [1] (.seq (.dreg s51_1) .ret)
def c51:FC:=⟨22,a51.erase,[.tmp 2]⟩
def s52_0:=[zy 2]
def s52_1:=[za 3 0,zcw 4 3,za 5 4,zl 6 0 5,zch 7 6 5,zbx 8 7 24 5,zj 9 5 8,za 10 9,zl 11 0 10,q1 12 (.extq (.convert 9 22 (.tmp 11)) 22 [.str,.other,.sl 5,.int .u8] [.tmp 11]) 10 true,q1 13 (.call 101 [.tmp 12,ki 0]) 10 true,zl 14 0 10,zch 15 14 10,zav 16 13 15 10,zj 17 10 16,za 18 17,zl 19 0 18,zbm 20 102 19 18,zbd 21 20 18,zj 22 18 21,za 2 22]
def a52:AC:=Z.r s52_0 [0] (Z.e s52_1)
def c52:FC:=⟨23,a52.erase,[.tmp 2]⟩
theorem comp52:compF Tryz.prog Tryz.f52=some c52:=by kernel_rfl
theorem era52:c52.code=a52.erase:=rfl
def s53_0:=[zw 1 51 0,zy 2]
def s53_1:=[zd 3 0 1,zb 4 1 3,zr 5 4 2,za 6 5,zs 7 0 1 6,zp 8 1 7 6,za6 9 8 3 6,zn 10 6 9,za 2 10]
def a53:AC:=Z.r s53_0 [1] (Z.e s53_1)
def c53:FC:=⟨11,a53.erase,[.tmp 2]⟩
theorem comp53:compF Tryz.prog Tryz.f53=some c53:=by kernel_rfl
theorem era53:c53.code=a53.erase:=rfl
def s54_0:=[zg 2 0]
def s54_1:=[za 5 0,zx 6 5,zar 7 6 4]
def s54_2:=[zg 2 2]
def s54_3:=[zg 3 0]
def s54_4:=[za 8 3,za 9 0,zx 10 9,zu 11 8 10]
def s54_5:=[za 14 0,za 15 3,zi 16 2 14 15,zd 17 0 16,zb 18 1 17,zk 19 103 18,za 4 19]
def s54_6:=[za 20 4,zad 21 20]
def s54_7:=[zg 2 1]
def s54_8:=[za 22 0,za 23 3,zi 24 2 22 23,zd 25 1 24,zb 26 1 25,zr 27 26 0,za 28 27,zv 29 0 28,zv 30 3 28,zbo 31 2 29 30 28,zs 32 1 31 28,zp 33 1 32 28,za0 34 104 33 28,zn 35 28 34]
def s54_9:=[zg 2 70]
def s54_10:=[za 36 3,zar 37 36 0,za 38 37,zl 39 0 38,zl 40 3 38,zaa 41 2 39 40 38,zt 42 0 41 38,zm 43 1 42 38,zl 44 0 38,zl 45 3 38,zbt 46 45 1 38,zaa 47 2 44 46 38,zt 48 0 47 38,zm 49 1 48 38,q1 50 (.bin .leq (.tmp 43) (.tmp 49)) 38 true,zj 51 38 50]
def s54_11:=[zg 2 3]
def s54_12:=[za 12 3,zo 13 12 1,za 3 13]
def s54_13:=[zg 2 0]
def a54:AC:=Z.r s54_0 [0] (Z.s (Z.r s54_1 [0,7] (Z.c 7 (Z.e s54_2) .skip)) [0] (Z.s (Z.r s54_3 [0,3] (Z.b 0 (Z.l [0,3] (Z.s (Z.r s54_4 [0,3,11] (Z.c 11 .skip (.exit 0))) [0,3] (Z.s (Z.b 1 (Z.r s54_5 [0,3,4] (Z.s (Z.r s54_6 [0,3,21] (Z.c 21 (Z.e s54_7) .skip)) [0,3] (Z.s (Z.r s54_8 [0,3,35] (Z.c 35 (Z.e s54_9) .skip)) [0,3] (Z.d s54_10 [0,3,51] (Z.c 51 (Z.e s54_11) .skip)))))) [0,3] (Z.g s54_12)))))) [] (Z.e s54_13)))
def c54:FC:=⟨52,a54.erase,[.tmp 2]⟩
theorem comp54:compF Tryz.prog Tryz.f54=some c54:=by kernel_rfl
theorem era54:c54.code=a54.erase:=rfl
def s55_0:=[zw 1 51 0,zg 2 0]
def s55_1:=[zd 3 0 1,zb 4 1 3,zat 5 4 1,za 6 5,zs 7 0 1 6,zp 8 1 7 6,zaq 9 8 5 6,zn 10 6 9,za 11 10,zs 12 1 1 11,zp 13 1 12 11,za9 14 13 11,zaq 15 14 0 11,zv 16 15 11,zai 17 3 1 16,zbm 18 105 17 16,zbd 19 18 16,zbq 20 16 19 11,zn 21 11 20]
def s55_2:=[zg 2 3]
def s55_3:=[zd 22 0 1,zb 23 1 22,zr 24 23 5,zd 25 2 1,zb 26 1 25,zcw 27 26,q0 28 (.eqb true .bool (.tmp 24) (.tmp 27)),za 29 28,zs 30 2 1 29,zp 31 1 30 29,q1 32 (.bin .neq (.tmp 31) (ks ⟨#[]⟩)) 29 false,zv 33 32 29,zt 34 2 1 33,zm 35 1 34 33,zbm 36 72 35 33,zbd 37 36 33,zbq 38 33 37 29,zn 39 29 38]
def s55_4:=[zg 2 3]
def s55_5:=[zd 40 1 1,zb 41 1 40,zk 42 106 41,zag 43 42 0,za 44 43,zs 45 1 1 44,zp 46 1 45 44,q1 47 (.call 107 [.tmp 46,.func 108]) 44 false,zn 48 44 47]
def s55_6:=[zg 2 70]
def s55_7:=[zg 2 0]
def a55:AC:=Z.r s55_0 [1] (Z.s (Z.r s55_1 [1,21] (Z.c 21 (Z.e s55_2) .skip)) [1] (Z.s (Z.r s55_3 [1,39] (Z.c 39 (Z.e s55_4) .skip)) [1] (Z.s (Z.r s55_5 [48] (Z.c 48 (Z.e s55_6) .skip)) [] (Z.e s55_7))))
def c55:FC:=⟨49,a55.erase,[.tmp 2]⟩
theorem comp55:compF Tryz.prog Tryz.f55=some c55:=by kernel_rfl
theorem era55:c55.code=a55.erase:=rfl
def s56_0:=[zw 1 51 0,zan 2]
def s56_1:=[zd 3 0 1,zb 4 1 3]
def s56_2:=[zr 6 4 1,za 5 6]
def s56_3:=[q0 2 (.mv (ks ⟨#[98,111,111,108]⟩))]
def s56_4:=[zr 8 4 4,za 7 8]
def s56_5:=[q0 2 (.mv (ks ⟨#[116,101,120,116]⟩))]
def s56_6:=[zr 10 4 5,za 9 10]
def s56_7:=[zd 11 2 1,zb 12 1 11,q0 13 (.mksl 9 1 [ks ⟨#[107,101,121,32]⟩,.tmp 12]),zk 14 69 13,za 2 14]
def s56_8:=[zr 16 4 2,za 15 16]
def s56_9:=[zd 17 1 1,zb 18 1 17,zk 19 109 18,q0 20 (.mksl 9 1 [ks ⟨#[105,110,116]⟩,.tmp 19]),zk 21 69 20,za 2 21]
def s56_10:=[zd 22 1 1,zb 23 1 22,zk 24 109 23,q0 25 (.mksl 9 1 [ks ⟨#[100,101,99]⟩,.tmp 24]),zk 26 69 25,za 2 26]
def a56:AC:=Z.r s56_0 [1] (Z.s (Z.r s56_1 [1,4] (Z.b 0 (Z.r s56_2 [1,4,5] (Z.c 5 (Z.e s56_3) (Z.r s56_4 [1,4,7] (Z.c 7 (Z.e s56_5) (Z.r s56_6 [1,4,9] (Z.c 9 (Z.e s56_7) (Z.r s56_8 [1,15] (Z.c 15 (Z.e s56_9) .skip)))))))))) [1] (Z.e s56_10))
def c56:FC:=⟨27,a56.erase,[.tmp 2]⟩
theorem comp56:compF Tryz.prog Tryz.f56=some c56:=by kernel_rfl
theorem era56:c56.code=a56.erase:=rfl
def s57_0:=[za 3 0,zk 4 58 3,ze 3 1 4]
def a57:AC:=Z.g s57_0
def c57:FC:=⟨5,a57.erase,[]⟩
theorem comp57:compF Tryz.prog Tryz.f57=some c57:=by kernel_rfl
theorem era57:c57.code=a57.erase:=rfl
def s58_0:=[zb1 2 51]
def s58_1:=[za 4 0,q0 5 (.call 77 [.tmp 4,ki 1,ks ⟨#[98,111,111,108]⟩]),za 3 5]
def s58_2:=[zcm 6 1,ze 3 2 6]
def s58_3:=[za 8 0,q0 9 (.call 77 [.tmp 8,ki 1,ks ⟨#[116,101,120,116]⟩]),za 7 9]
def s58_4:=[zcm 10 4,ze 3 2 10]
def s58_5:=[za 12 0,q0 13 (.call 77 [.tmp 12,ki 1,ks ⟨#[107,101,121]⟩]),za 11 13]
def s58_6:=[za 14 0,zk 15 110 14,q0 16 (.build [.int .i64 0,.slice none 0 0,.string ⟨#[]⟩] [(0,1,ki 5),(2,1,.tmp 15)]),ze 3 2 16]
def s58_7:=[za 18 0,q0 19 (.call 77 [.tmp 18,ki 1,ks ⟨#[105,110,116]⟩]),za 17 19]
def s58_8:=[za 20 0,zk 21 111 20,zb4 22 2 21,ze 3 2 22]
def s58_9:=[za 23 0,q0 24 (.call 78 [.tmp 23,ks ⟨#[100,101,99]⟩])]
def s58_10:=[za 25 0,zk 26 111 25,zb4 27 3 26,ze 3 2 27]
def a58:AC:=Z.r s58_0 [0,2] (Z.s (Z.b 0 (Z.r s58_1 [0,2,3] (Z.c 3 (Z.e s58_2) (Z.r s58_3 [0,2,7] (Z.c 7 (Z.e s58_4) (Z.r s58_5 [0,2,11] (Z.c 11 (Z.e s58_6) (Z.r s58_7 [0,2,17] (Z.c 17 (Z.e s58_8) .skip))))))))) [0,2] (Z.r s58_9 [0,2] (Z.e s58_10)))
def c58:FC:=⟨28,a58.erase,[.cell 2 true 3]⟩
theorem comp58:compF Tryz.prog Tryz.f58=some c58:=by kernel_rfl
theorem era58:c58.code=a58.erase:=rfl
def s59_0:=[zy 4]
def s59_1:=[za 6 0,zx 7 6,za 8 1,zx 9 8,zbv 10 7 9]
def s59_2:=[zy 4]
def s59_3:=[zg 5 0]
def s59_4:=[za 11 5,za 12 0,zx 13 12,zu 14 11 13]
def s59_5:=[za 17 0,za 18 5,zi 19 2 17 18,zh 20 2 19,za 21 1,za 22 5,zi 23 2 21 22,zh 24 2 23,q0 25 (.eqs true [.str,.int] (.tmp 20) (.tmp 24))]
def s59_6:=[zy 4]
def s59_7:=[za 15 5,zo 16 15 1,za 5 16]
def s59_8:=[zbe 4]
def a59:AC:=Z.r s59_0 [0,1] (Z.s (Z.r s59_1 [0,1,10] (Z.c 10 (Z.e s59_2) .skip)) [0,1] (Z.s (Z.r s59_3 [0,1,5] (Z.b 0 (Z.l [0,1,5] (Z.s (Z.r s59_4 [0,1,5,14] (Z.c 14 .skip (.exit 0))) [0,1,5] (Z.s (Z.b 1 (Z.d s59_5 [0,1,5,25] (Z.c 25 (Z.e s59_6) .skip))) [0,1,5] (Z.g s59_7)))))) [] (Z.e s59_8)))
def c59:FC:=⟨26,a59.erase,[.tmp 4]⟩
theorem comp59:compF Tryz.prog Tryz.f59=some c59:=by kernel_rfl
theorem era59:c59.code=a59.erase:=rfl
def s66_0:=[za 4 0,za 5 0,zx 6 5,za 7 1,za5 8 116 4 6 7]
def a66:AC:=Z.g s66_0
def s68_0:=[zw 1 70 0,zg 2 0]
def s68_1:=[zd 6 0 1,zb 7 1 6,zk 8 72 7,zad 9 8,za 10 9,zs 11 1 1 10,zp 12 1 11 10,za0 13 72 12 10,zaw 14 13 10,zn 15 10 14,za 16 15,zs 17 3 1 16,zp 18 1 17 16,zb9 19 18 0 16,zn 20 16 19,za 21 20,zs 22 3 1 21,zp 23 1 22 21,zaq 24 23 1099511627776 21,zn 25 21 24]
def s68_2:=[zg 2 3]
def s68_3:=[zd 26 2 1,zb 27 1 26,zx 28 27,zar 29 28 8]
def s68_4:=[zg 2 2]
def s68_5:=[zd 30 2 1,zb 31 1 30,zx 32 31,zg 33 0]
def s68_6:=[zu 34 33 32]
def s68_7:=[za 35 33,zi 36 4 31 33,zh 37 4 36,zcd 4 83,za 3 35,ze 4 4 37]
def s68_8:=[zd 38 0 4,zb 39 1 38,zk 40 72 39,zad 41 40]
def s68_9:=[zg 2 3]
def s68_10:=[zd 42 2 1,zb 43 1 42,za 44 3,q0 45 (.slice 4 (.tmp 43) none (some (.tmp 44))),q0 46 (.mkfn (Fn.func 118) [] [.tmp 4]),zae 47 117 45 46]
def s68_11:=[zg 2 121]
def s68_12:=[zd 48 1 4,zh 49 3 48,zk 50 55 49,za 5 50]
def s68_13:=[za 51 5,zag 52 51 0]
def s68_14:=[za 53 5,za 2 53]
def s68_15:=[zo 54 33 1,za 33 54]
def s68_16:=[zg 2 0]
def a68:AC:=Z.r s68_0 [1] (Z.s (Z.r s68_1 [1,25] (Z.c 25 (Z.e s68_2) .skip)) [1] (Z.s (Z.r s68_3 [1,29] (Z.c 29 (Z.e s68_4) .skip)) [1] (Z.s (Z.r s68_5 [1,31,32,33] (Z.b 0 (Z.l [1,31,32,33] (Z.r s68_6 [1,31,32,33,34] (Z.s (Z.c 34 .skip (.exit 0)) [1,31,32,33] (Z.s (Z.b 1 (Z.r s68_7 [1,3,4,31,32,33] (Z.s (Z.r s68_8 [1,3,4,31,32,33,41] (Z.c 41 (Z.e s68_9) .skip)) [1,3,4,31,32,33] (Z.s (Z.r s68_10 [1,4,31,32,33,47] (Z.c 47 (Z.e s68_11) .skip)) [1,4,31,32,33] (Z.r s68_12 [1,5,31,32,33] (Z.r s68_13 [1,5,31,32,33,52] (Z.c 52 (Z.e s68_14) .skip))))))) [1,31,32,33] (Z.g s68_15))))))) [] (Z.e s68_16))))
def c68:FC:=⟨55,a68.erase,[.tmp 2]⟩
theorem comp68:compF Tryz.prog Tryz.f68=some c68:=by kernel_rfl
theorem era68:c68.code=a68.erase:=rfl
def s69_0:=[zan 2]
def s69_1:=[za 3 0,q0 4 (.call 70 [.tmp 3,ks ⟨#[]⟩]),za 2 4]
def a69:AC:=Z.r s69_0 [0] (Z.e s69_1)
def c69:FC:=⟨5,a69.erase,[.tmp 2]⟩
theorem comp69:compF Tryz.prog Tryz.f69=some c69:=by kernel_rfl
theorem era69:c69.code=a69.erase:=rfl
def s72_0:=[zy 2]
def s72_1:=[za 5 0,zcv 6 5,za 7 6,zv 8 0 7,zb0 9 8 7,zaq 10 9 24 7,zn 11 7 10,za 12 11,zv 13 0 12,za0 14 121 13 12,zn 15 12 14]
def s72_2:=[zy 2]
def s72_3:=[za 16 0,za7 17 16,zg 18 0]
def s72_4:=[zu 19 18 17]
def s72_5:=[za 20 18,za 3 20]
def s72_6:=[za 21 0,za 22 3,zbz 23 21 22,za 4 23]
def s72_7:=[za 25 4,zdj 26 25,za 27 26,zl 28 4 27,zc5 29 28 27,zj 30 27 29,za 24 30]
def s72_8:=[za 32 3,zar 33 32 0,za 34 33,zl 35 4 34,q1 36 (.bin .geq (.tmp 35) (.const (.int .u8 48))) 34 true,zl 37 36 34,zl 38 4 37,zc8 39 38 37,q1 40 (.pick (.tmp 37) (.tmp 39) kF) 34 true,zl 41 40 34,zv 42 4 41,q1 43 (.bin .eql (.tmp 42) (.const (.int .u8 95))) 41 false,zbb 44 41 43 34,zj 45 34 44,za 31 45]
def s72_9:=[zy 2]
def s72_10:=[zo 46 18 1,za 18 46]
def s72_11:=[zbe 2]
def a72:AC:=Z.r s72_0 [0] (Z.s (Z.r s72_1 [0,15] (Z.c 15 (Z.e s72_2) .skip)) [0] (Z.s (Z.r s72_3 [0,17,18] (Z.b 0 (Z.l [0,17,18] (Z.r s72_4 [0,17,18,19] (Z.s (Z.c 19 .skip (.exit 0)) [0,17,18] (Z.s (Z.b 1 (Z.r s72_5 [0,3,17,18] (Z.r s72_6 [0,3,4,17,18] (Z.b 2 (Z.r s72_7 [0,3,4,17,18,24] (Z.c 24 .skip (Z.r s72_8 [0,17,18,31] (Z.c 31 .skip (Z.e s72_9))))))))) [0,17,18] (Z.g s72_10))))))) [] (Z.e s72_11)))
def c72:FC:=⟨47,a72.erase,[.tmp 2]⟩
theorem comp72:compF Tryz.prog Tryz.f72=some c72:=by kernel_rfl
theorem era72:c72.code=a72.erase:=rfl
def s76_0:=[za 2 0,zac 3 2,zd 4 0 3,zb 5 1 4,zaf 6 3 5 0,zd 7 2 6,zb 8 1 7,q0 9 (.build [.int .i64 0,.int .i64 0] [(0,1,.tmp 8),(1,1,ki 90)]),zc6 10 9,q0 11 (.mkifc 135 (.tmp 10)),.mk none (.panic (.tmp 11)) none]
def a76:AC:=Z.g s76_0
def c76:FC:=⟨12,a76.erase,[]⟩
theorem comp76:compF Tryz.prog Tryz.f76=some c76:=by kernel_rfl
theorem era76:c76.code=a76.erase:=rfl
def s77_0:=[zy 6]
def s77_1:=[za 7 0,za 8 1,za 9 2,za5 10 122 7 8 9,zad 11 10]
def s77_2:=[zy 6]
def s77_3:=[za 12 0,za 13 0,zac 14 13,zd 15 0 14,zb 16 1 15,zbp 17 16 1,zac 18 12,zd 19 0 18,ze 1 19 17]
def s77_4:=[zbe 6]
def a77:AC:=Z.r s77_0 [0,1,2] (Z.s (Z.r s77_1 [0,11] (Z.c 11 (Z.e s77_2) .skip)) [0] (Z.r s77_3 [] (Z.e s77_4)))
def c77:FC:=⟨20,a77.erase,[.tmp 6]⟩
theorem comp77:compF Tryz.prog Tryz.f77=some c77:=by kernel_rfl
theorem era77:c77.code=a77.erase:=rfl
def s78_0:=[za 4 0,za 5 1,q0 6 (.call 77 [.tmp 4,ki 1,.tmp 5]),zad 7 6]
def s78_1:=[za 8 0,zk 9 76 8]
def a78:AC:=Z.r s78_0 [0,7] (Z.c 7 (Z.g s78_1) .skip)
def c78:FC:=⟨10,a78.erase,[]⟩
theorem comp78:compF Tryz.prog Tryz.f78=some c78:=by kernel_rfl
theorem era78:c78.code=a78.erase:=rfl
def s79_0:=[zf 4 31]
def s79_1:=[za 10 1,zbr 11 10 3,za 12 11,zl 13 0 12,q1 14 (.call 122 [.tmp 13,ki 1,ks ⟨#[110,111,116]⟩]) 12 true,zj 15 12 14,za 5 15]
def s79_2:=[za 16 0,za 17 1,zae 18 123 16 17,zf 6 31,ze 12 6 18]
def s79_3:=[zg 7 7]
def s79_4:=[za 19 5]
def s79_5:=[zg 7 2]
def s79_6:=[za 20 0,zk 21 124 20,za 8 21]
def s79_7:=[za 22 8,za 23 1,zcn 24 22 23,za 25 24,zl 26 8 25,q1 27 (.bin .neq (.tmp 26) (ki 0)) 25 true,zj 28 25 27,za 29 28,zl 30 8 29,zl 31 7 29,q1 32 (.bin .leq (.tmp 30) (.tmp 31)) 29 true,zj 33 29 32]
def s79_8:=[za 36 0,zac 37 36,zd 38 0 37,zb 39 1 38,zaf 40 3 39 0,zd 41 1 40,zb 42 1 41,za 9 42]
def s79_9:=[za 43 0,za 44 0,zac 45 44,zd 46 0 45,zb 47 1 46,zbp 48 47 1,zac 49 43,zd 50 0 49,ze 1 50 48]
def s79_10:=[ed 0 (za 51 9) [],ed 1 (zh 52 12 6) [],ed 2 (za 53 0) [],ed 3 (za 54 8) [],ed 4 (zo 55 54 1) [],ed 5 (zae 56 79 53 55) [],ed 6 (zb8 57 31 52 56) [56],ed 7 (zah 58 7 51 57) [],ed 8 (ze 12 6 58) [6]]
def s79_11:=[za 59 8,za 7 59]
def s79_12:=[za 60 8,zr 61 60 4]
def s79_13:=[zg 7 3]
def s79_14:=[za 34 0,zk 35 124 34,za 8 35]
def s79_15:=[zh 62 12 6,ze 12 4 62]
def a79:AC:=Z.r s79_0 [0,1,4] (Z.r s79_1 [0,1,4,5] (Z.r s79_2 [0,1,4,5,6] (Z.r s79_3 [0,1,4,5,6,7] (Z.s (Z.r s79_4 [0,1,4,6,7,19] (Z.c 19 (Z.g s79_5) .skip)) [0,1,4,6,7] (Z.s (Z.r s79_6 [0,1,4,6,7,8] (Z.b 0 (Z.l [0,1,4,6,7,8] (Z.s (Z.r s79_7 [0,1,4,6,8,33] (Z.c 33 .skip (.exit 0))) [0,1,4,6,8] (Z.s (Z.b 1 (Z.r s79_8 [0,1,4,6,8,9] (Z.r s79_9 [0,1,4,6,8,9] (Z.s (.mreg [] s79_10) [0,1,4,6,8] (Z.r s79_11 [0,1,4,6,7,8] (Z.r s79_12 [0,1,4,6,7,61] (Z.c 61 (Z.g s79_13) .skip))))))) [0,1,4,6,7] (Z.g s79_14)))))) [4,6] (Z.e s79_15))))))
def c79:FC:=⟨63,a79.erase,[.cell 4 true 12]⟩
theorem comp79:compF Tryz.prog Tryz.f79=some c79:=by kernel_rfl
theorem era79:c79.code=a79.erase:=rfl
def s80_0:=[zw 1 90 0,zan 2]
def s80_1:=[zd 3 0 1,zd 4 4 3,zd 5 0 4,zb 6 1 5,zr 7 6 5]
def s80_2:=[zd 8 0 1,zd 9 2 8,zb 10 1 9,zd 11 0 1,zd 12 4 11,zd 13 2 12,zb 14 1 13,q0 15 (.mksl 9 1 [ks ⟨#[64]⟩,.tmp 10,ks ⟨#[32,34]⟩,.tmp 14,ks ⟨#[34]⟩]),zk 16 69 15,za 2 16]
def s80_3:=[zd 17 0 1,zd 18 4 17,zh 19 3 18,zk 20 125 19,zd 21 0 1,zd 22 7 21,zb 23 1 22,zk 24 109 23,q0 25 (.mksl 9 1 [.tmp 20,.tmp 24]),zk 26 69 25,za 2 26]
def a80:AC:=Z.r s80_0 [1] (Z.s (Z.r s80_1 [1,7] (Z.c 7 (Z.e s80_2) .skip)) [1] (.seq (.dreg s80_3) .ret))
def c80:FC:=⟨27,a80.erase,[.tmp 2]⟩
theorem comp80:compF Tryz.prog Tryz.f80=some c80:=by kernel_rfl
theorem era80:c80.code=a80.erase:=rfl
def s81_0:=[zw 1 90 0,zan 2]
def s81_1:=[zd 3 0 1,zd 4 2 3,zb 5 1 4,za 2 5]
def a81:AC:=Z.r s81_0 [1] (Z.e s81_1)
def c81:FC:=⟨6,a81.erase,[.tmp 2]⟩
theorem comp81:compF Tryz.prog Tryz.f81=some c81:=by kernel_rfl
theorem era81:c81.code=a81.erase:=rfl
def s82_0:=[zw 1 90 0,zan 2]
def s82_1:=[zd 3 0 1,zd 4 2 3,zb 5 1 4,zh 6 12 1,zbi 7 126 6 0 0,q0 8 (.mksl 9 1 [.tmp 5,ks ⟨#[32,111,102,32,40]⟩,.tmp 7,ks ⟨#[41]⟩]),zk 9 69 8,za 2 9]
def a82:AC:=Z.r s82_0 [1] (.seq (.dreg s82_1) .ret)
def c82:FC:=⟨10,a82.erase,[.tmp 2]⟩
theorem comp82:compF Tryz.prog Tryz.f82=some c82:=by kernel_rfl
theorem era82:c82.code=a82.erase:=rfl
def s83_0:=[zw 1 90 0,zan 2]
def s83_1:=[zd 5 0 1,zd 6 1 5,zb 7 1 6,zd 8 0 1,zd 9 3 8,zb 10 1 9,q0 11 (.mksl 9 1 [.tmp 7,ks ⟨#[40]⟩,.tmp 10]),zk 12 69 11,za 3 12]
def s83_2:=[zd 13 0 1,zd 14 1 13,zb 15 1 14,q0 16 (.bin .neq (.tmp 15) (ks ⟨#[99,111,117,110,116]⟩))]
def s83_3:=[za 17 3,zh 18 12 1,zbi 19 126 18 0 0,zde 20 9 17 19,zk 21 69 20,za 3 21]
def s83_4:=[zd 22 0 1,zd 23 8 22,zb 24 1 23,zag 25 24 0]
def s83_5:=[za 26 3,zd 27 0 1,zd 28 8 27,zb 29 1 28,zk 30 71 29,zde 31 9 26 30,zk 32 69 31,za 3 32]
def s83_6:=[za 33 3,zh 34 12 1,zk 35 127 34,zde 36 9 33 35,zk 37 69 36,za 3 37]
def s83_7:=[zd 38 0 1,zd 39 11 38,zb 40 1 39,zaf 41 12 40 1,zh 42 12 41,zf 4 31,ze 12 4 42]
def s83_8:=[zd 43 0 4,zb 44 1 43,zag 45 44 1,za 46 45,zs 47 4 4 46,zaj 48 3 47 46,q1 49 (.build [.int .i64 0,.int .i64 0,.string ⟨#[]⟩] [(0,1,ki 1),(1,1,ki 1)]) 46 false,q1 50 (.eqs true [.int,.int,.str] (.tmp 48) (.tmp 49)) 46 false,zn 51 46 50]
def s83_9:=[za 52 3,zh 53 12 1,zbi 54 126 53 1 0,q0 55 (.mksl 9 1 [.tmp 52,ks ⟨#[32,119,104,101,114,101,32]⟩,.tmp 54]),zk 56 69 55,za 3 56]
def s83_10:=[za 57 3,q0 58 (.mksl 9 1 [.tmp 57,ks ⟨#[41]⟩]),zk 59 69 58,za 2 59]
def a83:AC:=Z.r s83_0 [1] (Z.r s83_1 [1,3] (Z.s (Z.r s83_2 [1,3,16] (Z.c 16 (Z.g s83_3) .skip)) [1,3] (Z.s (Z.r s83_4 [1,3,25] (Z.c 25 (Z.g s83_5) .skip)) [1,3] (Z.r s83_6 [1,3] (Z.s (Z.r s83_7 [1,3,4] (Z.r s83_8 [1,3,51] (Z.c 51 (Z.g s83_9) .skip))) [3] (Z.e s83_10))))))
def c83:FC:=⟨60,a83.erase,[.tmp 2]⟩
theorem comp83:compF Tryz.prog Tryz.f83=some c83:=by kernel_rfl
theorem era83:c83.code=a83.erase:=rfl
def s84_0:=[zw 1 90 0,zan 2]
def s84_1:=[zd 3 0 1,zd 4 1 3,zb 5 1 4]
def s84_2:=[zdd 7 5,za 6 7]
def s84_3:=[zh 8 12 1,zbi 9 126 8 0 8,q0 10 (.mksl 9 1 [ks ⟨#[45]⟩,.tmp 9]),zk 11 69 10,za 2 11]
def s84_4:=[zdf 13 5,za 12 13]
def s84_5:=[zh 14 12 1,zbi 15 126 14 0 4,q0 16 (.mksl 9 1 [ks ⟨#[110,111,116,32]⟩,.tmp 15]),zk 17 69 16,za 2 17]
def s84_6:=[zh 18 12 1,zbi 19 126 18 0 0,q0 20 (.mksl 9 1 [ks ⟨#[110,117,108,108,40]⟩,.tmp 19,ks ⟨#[41]⟩]),zk 21 69 20,za 2 21]
def a84:AC:=Z.r s84_0 [1] (Z.s (Z.r s84_1 [1,5] (Z.b 0 (Z.r s84_2 [1,5,6] (Z.c 6 (Z.e s84_3) (Z.r s84_4 [1,12] (Z.c 12 (Z.e s84_5) .skip)))))) [1] (Z.e s84_6))
def c84:FC:=⟨22,a84.erase,[.tmp 2]⟩
theorem comp84:compF Tryz.prog Tryz.f84=some c84:=by kernel_rfl
theorem era84:c84.code=a84.erase:=rfl
def s85_0:=[zw 1 90 0,zan 2]
def s85_1:=[zh 5 12 1,zk 6 128 5,za 3 6]
def s85_2:=[za 7 3,za 4 7]
def s85_3:=[za 8 3,zr 9 8 5]
def s85_4:=[za 10 4,zo 11 10 1,za 4 11]
def s85_5:=[zh 12 12 1,za 13 4,q0 14 (.call 126 [.tmp 12,ki 0,.tmp 13]),zd 15 0 1,zd 16 1 15,zb 17 1 16,zh 18 12 1,za 19 3,zo 20 19 1,q0 21 (.call 126 [.tmp 18,ki 1,.tmp 20]),q0 22 (.mksl 9 1 [.tmp 14,ks ⟨#[32]⟩,.tmp 17,ks ⟨#[32]⟩,.tmp 21]),zk 23 69 22,za 2 23]
def a85:AC:=Z.r s85_0 [1] (Z.r s85_1 [1,3] (Z.r s85_2 [1,3,4] (Z.s (Z.r s85_3 [1,3,4,9] (Z.c 9 (Z.g s85_4) .skip)) [1,3,4] (.seq (.dreg s85_5) .ret))))
def c85:FC:=⟨24,a85.erase,[.tmp 2]⟩
theorem comp85:compF Tryz.prog Tryz.f85=some c85:=by kernel_rfl
theorem era85:c85.code=a85.erase:=rfl
def s86_0:=[zw 1 90 0,zan 2]
def s86_1:=[zh 3 12 1,zbi 4 126 3 0 0,zh 5 12 1,zbi 6 126 5 1 0,zh 7 12 1,zbi 8 126 7 2 0,q0 9 (.mksl 9 1 [ks ⟨#[105,102,32]⟩,.tmp 4,ks ⟨#[32,116,104,101,110,32]⟩,.tmp 6,ks ⟨#[32,101,108,115,101,32]⟩,.tmp 8]),zk 10 69 9,za 2 10]
def a86:AC:=Z.r s86_0 [1] (.seq (.dreg s86_1) .ret)
def c86:FC:=⟨11,a86.erase,[.tmp 2]⟩
theorem comp86:compF Tryz.prog Tryz.f86=some c86:=by kernel_rfl
theorem era86:c86.code=a86.erase:=rfl
def s87_0:=[zw 1 90 0,zan 2]
def s87_1:=[zh 3 12 1,zbi 4 126 3 0 1,zh 5 12 1,zbi 6 126 5 1 2,q0 7 (.mksl 9 1 [.tmp 4,ks ⟨#[32,100,101,102,97,117,108,116,32]⟩,.tmp 6]),zk 8 69 7,za 2 8]
def a87:AC:=Z.r s87_0 [1] (.seq (.dreg s87_1) .ret)
def c87:FC:=⟨9,a87.erase,[.tmp 2]⟩
theorem comp87:compF Tryz.prog Tryz.f87=some c87:=by kernel_rfl
theorem era87:c87.code=a87.erase:=rfl
def s88_0:=[zw 1 25 0,zg 2 0]
def s88_1:=[zd 9 0 1,zb 10 1 9,zr 11 10 2,za 12 11,zs 13 0 1 12,zp 14 1 13 12,za6 15 14 3 12,zn 16 12 15,za 3 16]
def s88_2:=[zd 17 0 1,zb 18 1 17,zr 19 18 4,za 20 19,zs 21 0 1 20,zp 22 1 21 20,za6 23 22 5 20,zn 24 20 23,za 4 24]
def s88_3:=[zd 26 0 1,zb 27 1 26,zat 28 27 0,za 29 28,zs 30 0 1 29,zp 31 1 30 29,zaq 32 31 5 29,zn 33 29 32,za 25 33]
def s88_4:=[za 34 4,zad 35 34,za 36 35,zt 37 2 1 36,zm 38 1 37 36,q1 39 (.bin .neq (.tmp 38) (ks ⟨#[]⟩)) 36 true,zj 40 36 39,za 25 40]
def s88_5:=[zg 2 1]
def s88_6:=[za 42 3,zad 43 42,za 44 43,zt 45 1 1 44,zm 46 1 45 44,q1 47 (.bin .neq (.tmp 46) (ki 0)) 44 true,zj 48 44 47,za 49 48,zt 50 0 1 49,zm 51 1 50 49,q1 52 (.bin .neq (.tmp 51) (ki 1)) 49 true,zl 53 52 49,zs 54 1 1 53,zp 55 1 54 53,zbk 56 55 1 53,zbb 57 53 56 49,zj 58 49 57,za 41 58]
def s88_7:=[zg 2 1]
def s88_8:=[zd 60 1 1,zb 61 1 60,q0 62 (.bin .lss (.tmp 61) (.const (.int .i64 (-1152921504606846976)))),za 63 62,zs 64 1 1 63,zp 65 1 64 63,zaq 66 65 1152921504606846976 63,zn 67 63 66,za 59 67]
def s88_9:=[zg 2 2]
def s88_10:=[za 68 4,zad 69 68]
def s88_11:=[zg 2 0]
def s88_12:=[zg 5 64,q0 6 (.mv (.const (.int .u8 32)))]
def s88_13:=[zd 70 0 1,zb 71 1 70,zr 72 71 5]
def s88_14:=[zg 5 32,q0 6 (.mv (.const (.int .u8 33)))]
def s88_15:=[zd 73 2 1,zb 74 1 73,za7 75 74,za 76 5,zbh 77 75 76]
def s88_16:=[zg 2 2]
def s88_17:=[zd 78 0 1,zb 79 1 78,zr 80 79 5,za 81 80,zt 82 2 1 81,zm 83 1 82 81,zb6 84 83 81,zj 85 81 84]
def s88_18:=[zg 2 3]
def s88_19:=[zd 86 2 1,zb 87 1 86,za7 88 87,zg 89 0]
def s88_20:=[zu 90 89 88]
def s88_21:=[za 91 89,za 7 91]
def s88_22:=[zd 92 2 1,zb 93 1 92,za 94 7,zbz 95 93 94,za 8 95]
def s88_23:=[za 96 8,za 97 6,zu 98 96 97,za 99 98,zv 100 8 99,zc3 101 100 99,zn 102 99 101,za 103 102,zv 104 8 103,q1 105 (.bin .eql (.tmp 104) (.const (.int .u8 34))) 103 false,zn 106 103 105,za 107 106,zv 108 8 107,zc7 109 108 107,zn 110 107 109]
def s88_24:=[zg 2 3]
def s88_25:=[zo 111 89 1,za 89 111]
def s88_26:=[zg 2 0]
def a88:AC:=Z.r s88_0 [1] (Z.r s88_1 [1,3] (Z.r s88_2 [1,3,4] (Z.s (Z.b 0 (Z.s (Z.r s88_3 [1,3,4,25] (Z.c 25 .skip (Z.g s88_4))) [1,3,4,25] (Z.c 25 (Z.e s88_5) (Z.r s88_6 [1,4,41] (Z.c 41 (Z.e s88_7) (Z.r s88_8 [1,4,59] (Z.c 59 (Z.e s88_9) .skip))))))) [1,4] (Z.s (Z.r s88_10 [1,69] (Z.c 69 (Z.e s88_11) .skip)) [1] (Z.r s88_12 [1,5,6] (Z.s (Z.r s88_13 [1,5,6,72] (Z.c 72 (Z.g s88_14) .skip)) [1,5,6] (Z.s (Z.r s88_15 [1,6,77] (Z.c 77 (Z.e s88_16) .skip)) [1,6] (Z.s (Z.r s88_17 [1,6,85] (Z.c 85 (Z.e s88_18) .skip)) [1,6] (Z.s (Z.r s88_19 [1,6,88,89] (Z.b 1 (Z.l [1,6,88,89] (Z.r s88_20 [1,6,88,89,90] (Z.s (Z.c 90 .skip (.exit 1)) [1,6,88,89] (Z.s (Z.b 2 (Z.r s88_21 [1,6,7,88,89] (Z.r s88_22 [1,6,8,88,89] (Z.r s88_23 [1,6,88,89,110] (Z.c 110 (Z.e s88_24) .skip))))) [1,6,88,89] (Z.g s88_25))))))) [] (Z.e s88_26))))))))))
def c88:FC:=⟨112,a88.erase,[.tmp 2]⟩
theorem comp88:compF Tryz.prog Tryz.f88=some c88:=by kernel_rfl
theorem era88:c88.code=a88.erase:=rfl
def s89_0:=[zy 4]
def s89_1:=[za 5 0,za 6 1,zae 7 129 5 6,za8 8 7 0,za 4 8]
def a89:AC:=Z.r s89_0 [0,1] (Z.e s89_1)
def c89:FC:=⟨9,a89.erase,[.tmp 4]⟩
theorem comp89:compF Tryz.prog Tryz.f89=some c89:=by kernel_rfl
theorem era89:c89.code=a89.erase:=rfl
def s90_0:=[zw 2 31 0,zw 3 31 1,zy 4]
def s90_1:=[zd 5 0 2,zb 6 1 5,zd 7 0 3,zb 8 1 7,zbg 9 6 8,za 10 9,zt 11 1 2 10,zm 12 1 11 10,zt 13 1 3 10,zm 14 1 13 10,zav 15 12 14 10,zj 16 10 15,za 17 16,zt 18 2 2 17,zm 19 1 18 17,zt 20 2 3 17,zm 21 1 20 17,zav 22 19 21 17,zj 23 17 22,za 24 23,zt 25 3 2 24,zm 26 1 25 24,zt 27 3 3 24,zm 28 1 27 24,zav 29 26 28 24,zj 30 24 29,za 31 30,zt 32 4 2 31,zai 33 3 32 31,zt 34 4 3 31,zai 35 3 34 31,q1 36 (.eqs false [.int,.int,.str] (.tmp 33) (.tmp 35)) 31 true,zj 37 31 36,za 38 37,zt 39 7 2 38,zm 40 1 39 38,zt 41 7 3 38,zm 42 1 41 38,zam 43 130 40 42 38,zj 44 38 43,za 45 44,zt 46 8 2 45,zm 47 1 46 45,zt 48 8 3 45,zm 49 1 48 45,zav 50 47 49 45,zj 51 45 50,za 52 51,zt 53 9 2 52,zai 54 2 53 52,zt 55 9 3 52,zai 56 2 55 52,q1 57 (.eqs false [.int,.int] (.tmp 54) (.tmp 56)) 52 true,zj 58 52 57,za 4 58]
def a90:AC:=Z.r s90_0 [2,3] (Z.e s90_1)
def c90:FC:=⟨59,a90.erase,[.tmp 4]⟩
theorem comp90:compF Tryz.prog Tryz.f90=some c90:=by kernel_rfl
theorem era90:c90.code=a90.erase:=rfl
def s91_0:=[zw 2 31 0,zg 4 0,zy 5]
def s91_1:=[zd 8 2 2,zb 9 1 8,zk 10 52 9,za 11 10,zai 12 12 2 11,zt 13 0 2 11,zm 14 1 13 11,zt 15 2 2 11,zm 16 1 15 11,q1 17 (.build [.int .i64 0,.string ⟨#[]⟩,.string ⟨#[]⟩,.string ⟨#[]⟩,.int .i64 0,.int .i64 0,.string ⟨#[]⟩,.slice none 0 0,.int .i64 0,.int .i64 0,.int .i64 0,.slice none 0 0] [(0,1,.tmp 14),(2,1,.tmp 16)]) 11 true,zam 18 43 12 17 11,zj 19 11 18,za 6 19]
def s91_2:=[zh 20 12 2,zd 21 0 2,zb 22 1 21,zd 23 1 2,zb 24 1 23,q0 25 (.build [.int .i64 0,.string ⟨#[]⟩,.string ⟨#[]⟩,.string ⟨#[]⟩,.int .i64 0,.int .i64 0,.string ⟨#[]⟩,.slice none 0 0,.int .i64 0,.int .i64 0,.int .i64 0,.slice none 0 0] [(0,1,.tmp 22),(1,1,.tmp 24)]),zae 26 43 20 25,za 7 26]
def s91_3:=[zd 27 0 2,zb 28 1 27]
def s91_4:=[zr 30 28 1,za 29 30]
def s91_5:=[zh 31 12 2,zk 32 131 31,zg 4 0,za 5 32]
def s91_6:=[zr 34 28 2,za 33 34]
def s91_7:=[za 35 1,za 36 35,zl 37 6 36,zj 38 36 37,zg 4 0,za 5 38]
def s91_8:=[zr 40 28 3,za 39 40]
def s91_9:=[za 41 1,zad 42 41,za 43 42,zl 44 6 43,zj 45 43 44,zg 4 0,za 5 45]
def s91_10:=[zr 47 28 4,za 46 47]
def s91_11:=[za 48 1,zad 49 48,za 50 49,zl 51 6 50,zj 52 50 51,zg 4 1,za 5 52]
def s91_12:=[zr 54 28 5,za 53 54]
def s91_13:=[za 55 1,zad 56 55,za 57 56,zai 58 12 2 57,zbm 59 132 58 57,zj 60 57 59,zg 4 2,za 5 60]
def s91_14:=[zr 62 28 6,za 61 62]
def s91_15:=[za 63 7,za 64 63,zt 65 1 2 64,zm 66 1 65 64,q1 67 (.mksl 9 1 [ks ⟨#[45]⟩,ks ⟨#[110,111,116]⟩,ks ⟨#[110,117,108,108]⟩]) 64 true,zam 68 99 66 67 64,zj 69 64 68,zg 4 1,za 5 69]
def s91_16:=[zr 71 28 7,za 70 71]
def s91_17:=[za 72 7,za 73 72,zt 74 1 2 73,zm 75 1 74 73,q1 76 (.call 133 []) 73 true,zam 77 99 75 76 73,zj 78 73 77,zg 4 2,za 5 78]
def s91_18:=[zr 80 28 8,za 79 80]
def s91_19:=[za 81 7,za 82 81,zt 83 1 2 82,zm 84 1 83 82,zb6 85 84 82,zj 86 82 85,zg 4 3,za 5 86]
def s91_20:=[zr 88 28 9,za 87 88]
def s91_21:=[za 89 7,za 90 89,zt 91 1 2 90,zm 92 1 91 90,zb6 93 92 90,zj 94 90 93,zg 4 2,za 5 94]
def s91_22:=[zg 4 0,zy 5]
def a91:AC:=Z.r s91_0 [1,2] (Z.r s91_1 [1,2,6] (Z.r s91_2 [1,2,6,7] (Z.s (Z.r s91_3 [1,2,6,7,28] (Z.b 0 (Z.r s91_4 [1,2,6,7,28,29] (Z.c 29 (Z.e s91_5) (Z.r s91_6 [1,2,6,7,28,33] (Z.c 33 (Z.e s91_7) (Z.r s91_8 [1,2,6,7,28,39] (Z.c 39 (Z.e s91_9) (Z.r s91_10 [1,2,6,7,28,46] (Z.c 46 (Z.e s91_11) (Z.r s91_12 [1,2,7,28,53] (Z.c 53 (Z.e s91_13) (Z.r s91_14 [2,7,28,61] (Z.c 61 (Z.e s91_15) (Z.r s91_16 [2,7,28,70] (Z.c 70 (.seq (.dreg s91_17) .ret) (Z.r s91_18 [2,7,28,79] (Z.c 79 (.seq (.dreg s91_19) .ret) (Z.r s91_20 [2,7,87] (Z.c 87 (.seq (.dreg s91_21) .ret) .skip)))))))))))))))))))) [] (Z.e s91_22))))
def c91:FC:=⟨95,a91.erase,[.tmp 4,.tmp 5]⟩
theorem comp91:compF Tryz.prog Tryz.f91=some c91:=by kernel_rfl
theorem era91:c91.code=a91.erase:=rfl
def s92_0:=[za 6 0,za7 7 6,zg 8 0]
def s92_1:=[zu 9 8 7]
def s92_2:=[za 10 8,za 5 10]
def s92_3:=[za 11 0,za 12 5,zbz 13 11 12,za 14 1,zdb 15 2 13,ze 1 15 14]
def s92_4:=[zo 16 8 1,za 8 16]
def a92:AC:=Z.r s92_0 [0,1,2,7,8] (Z.b 0 (Z.l [0,1,2,7,8] (Z.r s92_1 [0,1,2,7,8,9] (Z.s (Z.c 9 .skip (.exit 0)) [0,1,2,7,8] (Z.s (Z.b 1 (Z.r s92_2 [0,1,2,5,7,8] (Z.g s92_3))) [0,1,2,7,8] (Z.g s92_4))))))
def c92:FC:=⟨17,a92.erase,[]⟩
theorem comp92:compF Tryz.prog Tryz.f92=some c92:=by kernel_rfl
theorem era92:c92.code=a92.erase:=rfl
def s93_0:=[zg 6 0]
def s93_1:=[za 7 0,zb 8 1 2,zx 9 8,zu 10 7 9,za 11 10,zl 12 1 11,zm 13 1 3 11,zm 14 1 2 11,zl 15 0 11,zaa 16 1 14 15 11,zm 17 1 16 11,q1 18 (.nilck (.tmp 13)) 11 true,q1 19 (.iaddrA 256 1 (.tmp 18) (.tmp 17)) 11 true,zm 20 1 19 11,zam 21 94 12 20 11,zcr 22 21 0 11,zj 23 11 22]
def s93_2:=[za 24 0,zo 25 24 1,za 0 25]
def s93_3:=[za 26 0,za 6 26]
def a93:AC:=Z.r s93_0 [0,1,2,3] (Z.s (Z.b 0 (Z.l [0,1,2,3] (Z.s (Z.d s93_1 [0,1,2,3,23] (Z.c 23 .skip (.exit 0))) [0,1,2,3] (Z.b 1 (Z.g s93_2))))) [0] (Z.e s93_3))
def c93:FC:=⟨27,a93.erase,[.tmp 6]⟩
theorem comp93:compF Tryz.prog Tryz.f93=some c93:=by kernel_rfl
theorem era93:c93.code=a93.erase:=rfl
def s97_0:=[zg 2 0]
def s97_1:=[za 5 0,zx 6 5,zar 7 6 64]
def s97_2:=[zg 2 2]
def s97_3:=[za 8 0,zx 9 8,zg 10 0]
def s97_4:=[zu 11 10 9]
def s97_5:=[zi 12 1 8 10,zb 13 1 12,za 4 13]
def s97_6:=[za 14 4,q0 15 (.bin .lss (.tmp 14) (.const (.int .u8 32))),za 16 15,zv 17 4 16,zc3 18 17 16,zn 19 16 18,za 20 19,zv 21 4 20,zc7 22 21 20,zn 23 20 22]
def s97_7:=[zg 2 3]
def s97_8:=[zo 24 10 1,za 10 24]
def s97_9:=[zg 2 0]
def a97:AC:=Z.r s97_0 [0] (Z.s (Z.r s97_1 [0,7] (Z.c 7 (Z.e s97_2) .skip)) [0] (Z.s (Z.r s97_3 [8,9,10] (Z.b 0 (Z.l [8,9,10] (Z.r s97_4 [8,9,10,11] (Z.s (Z.c 11 .skip (.exit 0)) [8,9,10] (Z.s (Z.b 1 (Z.r s97_5 [4,8,9,10] (Z.r s97_6 [8,9,10,23] (Z.c 23 (Z.e s97_7) .skip)))) [8,9,10] (Z.g s97_8))))))) [] (Z.e s97_9)))
def c97:FC:=⟨25,a97.erase,[.tmp 2]⟩
theorem comp97:compF Tryz.prog Tryz.f97=some c97:=by kernel_rfl
theorem era97:c97.code=a97.erase:=rfl
def s99_0:=[zy 4]
def s99_1:=[zg 5 0]
def s99_2:=[za 6 5,za 7 1,zx 8 7,zu 9 6 8]
def s99_3:=[za 12 1,za 13 5,zi 14 1 12 13,zb 15 1 14,za 16 0,zbg 17 15 16]
def s99_4:=[zbe 4]
def s99_5:=[za 10 5,zo 11 10 1,za 5 11]
def s99_6:=[zy 4]
def a99:AC:=Z.r s99_0 [0,1] (Z.s (Z.r s99_1 [0,1,5] (Z.b 0 (Z.l [0,1,5] (Z.s (Z.r s99_2 [0,1,5,9] (Z.c 9 .skip (.exit 0))) [0,1,5] (Z.s (Z.b 1 (Z.r s99_3 [0,1,5,17] (Z.c 17 (Z.e s99_4) .skip))) [0,1,5] (Z.g s99_5)))))) [] (Z.e s99_6))
def c99:FC:=⟨18,a99.erase,[.tmp 4]⟩
theorem comp99:compF Tryz.prog Tryz.f99=some c99:=by kernel_rfl
theorem era99:c99.code=a99.erase:=rfl
def s100_0:=[zaz 0]
def s100_1:=[q0 1 (.mksl 9 1 [ks ⟨#[99,111,117,110,116]⟩,ks ⟨#[115,117,109]⟩,ks ⟨#[109,101,97,110]⟩,ks ⟨#[109,105,110]⟩,ks ⟨#[109,97,120]⟩,ks ⟨#[102,105,114,115,116]⟩,ks ⟨#[108,97,115,116]⟩,ks ⟨#[100,105,115,116,105,110,99,116]⟩,ks ⟨#[113,117,97,110,116,105,108,101]⟩,ks ⟨#[100,101,99,97,121]⟩]),za 0 1]
def a100:AC:=Z.r s100_0 [] (Z.e s100_1)
def c100:FC:=⟨2,a100.erase,[.tmp 0]⟩
theorem comp100:compF Tryz.prog Tryz.f100=some c100:=by kernel_rfl
theorem era100:c100.code=a100.erase:=rfl
def s101_0:=[zg 4 0]
def s101_1:=[za 6 0,za 7 1,zi 8 1 6 7,zb 9 1 8,zk 10 145 9,zad 11 10]
def s101_2:=[zg 4 0]
def s101_3:=[zg 5 1]
def s101_4:=[za 12 1,za 13 5,zab 14 12 13,za 15 0,zx 16 15,zu 17 14 16,za 18 17,zl 19 0 18,zl 20 1 18,zl 21 5 18,zc2 22 20 21 18,zaa 23 1 19 22 18,zm 24 1 23 18,zbm 25 145 24 18,zl 26 25 18,zv 27 0 26,zv 28 1 26,zv 29 5 26,zb5 30 28 29 26,zbo 31 1 27 30 26,zp 32 1 31 26,za0 33 146 32 26,zbb 34 26 33 18,zl 35 34 18,zv 36 0 35,zv 37 1 35,zv 38 5 35,zb5 39 37 38 35,zbo 40 1 36 39 35,zp 41 1 40 35,q1 42 (.bin .eql (.tmp 41) (.const (.int .u8 95))) 35 false,zbb 43 35 42 18,zj 44 18 43]
def s101_5:=[za 45 5,zo 46 45 1,za 5 46]
def s101_6:=[za 47 5,za 4 47]
def a101:AC:=Z.r s101_0 [0,1] (Z.s (Z.r s101_1 [0,1,11] (Z.c 11 (Z.e s101_2) .skip)) [0,1] (Z.r s101_3 [0,1,5] (Z.s (Z.b 0 (Z.l [0,1,5] (Z.s (Z.r s101_4 [0,1,5,44] (Z.c 44 .skip (.exit 0))) [0,1,5] (Z.b 1 (Z.g s101_5))))) [5] (Z.e s101_6))))
def c101:FC:=⟨48,a101.erase,[.tmp 4]⟩
theorem comp101:compF Tryz.prog Tryz.f101=some c101:=by kernel_rfl
theorem era101:c101.code=a101.erase:=rfl
def s102_0:=[zy 2]
def s102_1:=[za 3 0]
def s102_2:=[q0 5 (.bin .eql (.tmp 3) (ks ⟨#[116,97,98,108,101]⟩)),za 4 5]
def s102_3:=[q0 6 (.bin .eql (.tmp 3) (ks ⟨#[102,101,97,116,117,114,101]⟩)),za 4 6]
def s102_4:=[q0 7 (.bin .eql (.tmp 3) (ks ⟨#[111,102]⟩)),za 4 7]
def s102_5:=[q0 8 (.bin .eql (.tmp 3) (ks ⟨#[107,101,101,112]⟩)),za 4 8]
def s102_6:=[q0 9 (.bin .eql (.tmp 3) (ks ⟨#[98,111,111,108]⟩)),za 4 9]
def s102_7:=[q0 10 (.bin .eql (.tmp 3) (ks ⟨#[116,101,120,116]⟩)),za 4 10]
def s102_8:=[q0 11 (.bin .eql (.tmp 3) (ks ⟨#[107,101,121]⟩)),za 4 11]
def s102_9:=[q0 12 (.bin .eql (.tmp 3) (ks ⟨#[105,110,116]⟩)),za 4 12]
def s102_10:=[q0 13 (.bin .eql (.tmp 3) (ks ⟨#[100,101,99]⟩)),za 4 13]
def s102_11:=[q0 14 (.bin .eql (.tmp 3) (ks ⟨#[105,102]⟩)),za 4 14]
def s102_12:=[q0 15 (.bin .eql (.tmp 3) (ks ⟨#[116,104,101,110]⟩)),za 4 15]
def s102_13:=[q0 16 (.bin .eql (.tmp 3) (ks ⟨#[101,108,115,101]⟩)),za 4 16]
def s102_14:=[q0 17 (.bin .eql (.tmp 3) (ks ⟨#[100,101,102,97,117,108,116]⟩)),za 4 17]
def s102_15:=[q0 18 (.bin .eql (.tmp 3) (ks ⟨#[111,114]⟩)),za 4 18]
def s102_16:=[q0 19 (.bin .eql (.tmp 3) (ks ⟨#[97,110,100]⟩)),za 4 19]
def s102_17:=[zdf 20 3,za 4 20]
def s102_18:=[q0 21 (.bin .eql (.tmp 3) (ks ⟨#[116,114,117,101]⟩)),za 4 21]
def s102_19:=[q0 22 (.bin .eql (.tmp 3) (ks ⟨#[102,97,108,115,101]⟩)),za 4 22]
def s102_20:=[q0 23 (.bin .eql (.tmp 3) (ks ⟨#[110,117,108,108]⟩)),za 4 23]
def s102_21:=[zbe 2]
def s102_22:=[zc1 25 3,za 24 25]
def s102_23:=[q0 26 (.bin .eql (.tmp 3) (ks ⟨#[115,117,109]⟩)),za 24 26]
def s102_24:=[q0 27 (.bin .eql (.tmp 3) (ks ⟨#[109,101,97,110]⟩)),za 24 27]
def s102_25:=[q0 28 (.bin .eql (.tmp 3) (ks ⟨#[109,105,110]⟩)),za 24 28]
def s102_26:=[q0 29 (.bin .eql (.tmp 3) (ks ⟨#[109,97,120]⟩)),za 24 29]
def s102_27:=[q0 30 (.bin .eql (.tmp 3) (ks ⟨#[102,105,114,115,116]⟩)),za 24 30]
def s102_28:=[q0 31 (.bin .eql (.tmp 3) (ks ⟨#[108,97,115,116]⟩)),za 24 31]
def s102_29:=[zdk 32 3,za 24 32]
def s102_30:=[zbl 33 3,za 24 33]
def s102_31:=[zcj 34 3,za 24 34]
def s102_32:=[q0 35 (.bin .eql (.tmp 3) (ks ⟨#[97,108,108]⟩)),za 24 35]
def s102_33:=[q0 36 (.bin .eql (.tmp 3) (ks ⟨#[115,108,105,100,105,110,103]⟩)),za 24 36]
def s102_34:=[q0 37 (.bin .eql (.tmp 3) (ks ⟨#[116,117,109,98,108,105,110,103]⟩)),za 24 37]
def s102_35:=[q0 38 (.bin .eql (.tmp 3) (ks ⟨#[115,101,115,115,105,111,110]⟩)),za 24 38]
def s102_36:=[q0 39 (.bin .eql (.tmp 3) (ks ⟨#[119,104,101,114,101]⟩)),za 24 39]
def s102_37:=[zbe 2]
def s102_38:=[zy 2]
def a102:AC:=Z.r s102_0 [0] (Z.s (Z.r s102_1 [3] (Z.b 0 (Z.s (Z.r s102_2 [3,4] (Z.c 4 .skip (Z.r s102_3 [3,4] (Z.c 4 .skip (Z.r s102_4 [3,4] (Z.c 4 .skip (Z.r s102_5 [3,4] (Z.c 4 .skip (Z.r s102_6 [3,4] (Z.c 4 .skip (Z.r s102_7 [3,4] (Z.c 4 .skip (Z.r s102_8 [3,4] (Z.c 4 .skip (Z.r s102_9 [3,4] (Z.c 4 .skip (Z.r s102_10 [3,4] (Z.c 4 .skip (Z.r s102_11 [3,4] (Z.c 4 .skip (Z.r s102_12 [3,4] (Z.c 4 .skip (Z.r s102_13 [3,4] (Z.c 4 .skip (Z.r s102_14 [3,4] (Z.c 4 .skip (Z.r s102_15 [3,4] (Z.c 4 .skip (Z.r s102_16 [3,4] (Z.c 4 .skip (Z.r s102_17 [3,4] (Z.c 4 .skip (Z.r s102_18 [3,4] (Z.c 4 .skip (Z.r s102_19 [3,4] (Z.c 4 .skip (Z.g s102_20))))))))))))))))))))))))))))))))))))) [3,4] (Z.c 4 (Z.e s102_21) (Z.s (Z.r s102_22 [3,24] (Z.c 24 .skip (Z.r s102_23 [3,24] (Z.c 24 .skip (Z.r s102_24 [3,24] (Z.c 24 .skip (Z.r s102_25 [3,24] (Z.c 24 .skip (Z.r s102_26 [3,24] (Z.c 24 .skip (Z.r s102_27 [3,24] (Z.c 24 .skip (Z.r s102_28 [3,24] (Z.c 24 .skip (Z.r s102_29 [3,24] (Z.c 24 .skip (Z.r s102_30 [3,24] (Z.c 24 .skip (Z.r s102_31 [3,24] (Z.c 24 .skip (Z.r s102_32 [3,24] (Z.c 24 .skip (Z.r s102_33 [3,24] (Z.c 24 .skip (Z.r s102_34 [3,24] (Z.c 24 .skip (Z.r s102_35 [3,24] (Z.c 24 .skip (Z.g s102_36))))))))))))))))))))))))))))) [24] (Z.c 24 (Z.e s102_37) .skip)))))) [] (Z.e s102_38))
def c102:FC:=⟨40,a102.erase,[.tmp 2]⟩
theorem comp102:compF Tryz.prog Tryz.f102=some c102:=by kernel_rfl
theorem era102:c102.code=a102.erase:=rfl
def s103_0:=[zy 2]
def s103_1:=[za 6 0,za7 7 6,zat 8 7 1,za 9 8,zv 10 0 9,zb0 11 10 9,zaq 12 11 24 9,zn 13 9 12,za 14 13,zv 15 0 14,q1 16 (.idxs (.tmp 15) (ki 0)) 14 false,q1 17 (.bin .lss (.tmp 16) (.const (.int .u8 97))) 14 false,zn 18 14 17,za 19 18,zv 20 0 19,q1 21 (.idxs (.tmp 20) (ki 0)) 19 false,zc4 22 21 19,zn 23 19 22]
def s103_2:=[zy 2]
def s103_3:=[zg 3 0]
def s103_4:=[za 24 3,za 25 0,za7 26 25,zu 27 24 26]
def s103_5:=[za 30 0,za 31 3,zbz 32 30 31,zdj 33 32,za 34 33,zl 35 0 34,zl 36 3 34,q1 37 (.idxs (.tmp 35) (.tmp 36)) 34 true,zc5 38 37 34,zj 39 34 38,za 4 39]
def s103_6:=[za 40 0,za 41 3,zbz 42 40 41,q0 43 (.bin .geq (.tmp 42) (.const (.int .u8 48))),za 44 43,zl 45 0 44,zl 46 3 44,q1 47 (.idxs (.tmp 45) (.tmp 46)) 44 true,zc8 48 47 44,zj 49 44 48,za 5 49]
def s103_7:=[za 50 4,zad 51 50,za 52 51,zl 53 5 52,zbd 54 53 52,zj 55 52 54,za 56 55,zl 57 0 56,zl 58 3 56,q1 59 (.idxs (.tmp 57) (.tmp 58)) 56 true,q1 60 (.bin .neq (.tmp 59) (.const (.int .u8 95))) 56 true,zj 61 56 60]
def s103_8:=[zy 2]
def s103_9:=[za 28 3,zo 29 28 1,za 3 29]
def s103_10:=[zbe 2]
def a103:AC:=Z.r s103_0 [0] (Z.s (Z.r s103_1 [0,23] (Z.c 23 (Z.e s103_2) .skip)) [0] (Z.s (Z.r s103_3 [0,3] (Z.b 0 (Z.l [0,3] (Z.s (Z.r s103_4 [0,3,27] (Z.c 27 .skip (.exit 0))) [0,3] (Z.s (Z.b 1 (Z.r s103_5 [0,3,4] (Z.r s103_6 [0,3,4,5] (Z.r s103_7 [0,3,61] (Z.c 61 (Z.e s103_8) .skip))))) [0,3] (Z.g s103_9)))))) [] (Z.e s103_10)))
def c103:FC:=⟨62,a103.erase,[.tmp 2]⟩
theorem comp103:compF Tryz.prog Tryz.f103=some c103:=by kernel_rfl
theorem era103:c103.code=a103.erase:=rfl
def s104_0:=[zy 2]
def s104_1:=[za 3 0,zar 4 3 8,za 5 4,zv 6 0 5,q1 7 (.bin .lss (.tmp 6) (.const (.int .i64 (-8)))) 5 false,zn 8 5 7,za 2 8]
def a104:AC:=Z.r s104_0 [0] (Z.e s104_1)
def c104:FC:=⟨9,a104.erase,[.tmp 2]⟩
theorem comp104:compF Tryz.prog Tryz.f104=some c104:=by kernel_rfl
theorem era104:c104.code=a104.erase:=rfl
def s105_0:=[zw 1 51 0,zy 2]
def s105_1:=[zd 3 0 1,zb 4 1 3,zr 5 4 2,za 6 5,zs 7 0 1 6,zp 8 1 7 6,za6 9 8 3 6,zn 10 6 9,za 2 10]
def a105:AC:=Z.r s105_0 [1] (Z.e s105_1)
def c105:FC:=⟨11,a105.erase,[.tmp 2]⟩
theorem comp105:compF Tryz.prog Tryz.f105=some c105:=by kernel_rfl
theorem era105:c105.code=a105.erase:=rfl
def s106_0:=[zg 2 0]
def s106_1:=[za 5 0,zx 6 5,zar 7 6 4]
def s106_2:=[zg 2 2]
def s106_3:=[za 8 0,zx 9 8,zg 10 0]
def s106_4:=[zu 11 10 9]
def s106_5:=[za 12 10,zi 13 2 8 10,zh 14 2 13,zcq 4 77,za 3 12,ze 2 4 14]
def s106_6:=[zd 16 0 4,zb 17 1 16,zk 18 147 17,zad 19 18,za 15 19]
def s106_7:=[zg 2 1]
def s106_8:=[zd 21 1 4,zb 22 1 21,zr 23 22 0,za 24 23,zs 25 1 4 24,zp 26 1 25 24,q1 27 (.call 148 [.tmp 26,ki 8]) 24 false,zn 28 24 27,za 20 28]
def s106_9:=[zg 2 70]
def s106_10:=[za 30 3,zar 31 30 0,za 32 31,zt 33 0 4 32,zm 34 1 33 32,zl 35 0 32,zl 36 3 32,zbt 37 36 1 32,zaa 38 2 35 37 32,zt 39 0 38 32,zm 40 1 39 32,q1 41 (.bin .leq (.tmp 34) (.tmp 40)) 32 true,zj 42 32 41,za 29 42]
def s106_11:=[zg 2 3]
def s106_12:=[zo 43 10 1,za 10 43]
def s106_13:=[zg 2 0]
def a106:AC:=Z.r s106_0 [0] (Z.s (Z.r s106_1 [0,7] (Z.c 7 (Z.e s106_2) .skip)) [0] (Z.s (Z.r s106_3 [0,8,9,10] (Z.b 0 (Z.l [0,8,9,10] (Z.r s106_4 [0,8,9,10,11] (Z.s (Z.c 11 .skip (.exit 0)) [0,8,9,10] (Z.s (Z.b 1 (Z.r s106_5 [0,3,4,8,9,10] (Z.b 2 (Z.r s106_6 [0,3,4,8,9,10,15] (Z.c 15 (Z.e s106_7) (Z.r s106_8 [0,3,4,8,9,10,20] (Z.c 20 (Z.e s106_9) (Z.d s106_10 [0,8,9,10,29] (Z.c 29 (Z.e s106_11) .skip))))))))) [0,8,9,10] (Z.g s106_12))))))) [] (Z.e s106_13)))
def c106:FC:=⟨44,a106.erase,[.tmp 2]⟩
theorem comp106:compF Tryz.prog Tryz.f106=some c106:=by kernel_rfl
theorem era106:c106.code=a106.erase:=rfl
def s107_0:=[zy 4]
def s107_1:=[za 5 0,za 6 1,zae 7 149 5 6,za8 8 7 0,za 4 8]
def a107:AC:=Z.r s107_0 [0,1] (Z.e s107_1)
def c107:FC:=⟨9,a107.erase,[.tmp 4]⟩
theorem comp107:compF Tryz.prog Tryz.f107=some c107:=by kernel_rfl
theorem era107:c107.code=a107.erase:=rfl
def s108_0:=[zw 1 77 0,zy 2]
def s108_1:=[zd 3 0 1,zb 4 1 3,zk 5 72 4,zad 6 5,za 2 6]
def a108:AC:=Z.r s108_0 [1] (Z.e s108_1)
def c108:FC:=⟨7,a108.erase,[.tmp 2]⟩
theorem comp108:compF Tryz.prog Tryz.f108=some c108:=by kernel_rfl
theorem era108:c108.code=a108.erase:=rfl
def s109_0:=[zan 2]
def s109_1:=[za 3 0,zx 4 3,zr 5 4 0]
def s109_2:=[zan 2]
def s109_3:=[za 6 0,zk 7 150 6,q0 8 (.mksl 9 1 [ks ⟨#[32,91]⟩,.tmp 7,ks ⟨#[93]⟩]),zk 9 69 8,za 2 9]
def a109:AC:=Z.r s109_0 [0] (Z.s (Z.r s109_1 [0,5] (Z.c 5 (Z.e s109_2) .skip)) [0] (Z.e s109_3))
def c109:FC:=⟨10,a109.erase,[.tmp 2]⟩
theorem comp109:compF Tryz.prog Tryz.f109=some c109:=by kernel_rfl
theorem era109:c109.code=a109.erase:=rfl
end Go.Proofs.YtbihckigennlhaaGreatDoor
