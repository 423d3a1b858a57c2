/- The compiled code of functions, printed by a program of mine. -/
import Derived.Test.YtekngilbecjkhaaGreatDoorGi
import Derived.Test.YtekngilbecjkhaaGreatDoorRows
set_option linter.unusedVariables false
namespace Go.Sx
abbrev za(a0 a1:Nat):CI:=q0 a0 (.mv (.tmp a1))
abbrev zb(a0 a1 a2:Nat):CI:=q0 a0 (.load false a1 (.tmp a2))
abbrev zc(a0 a1 a2:Nat):CI:=q0 a0 (.faddr a1 (.tmp a2))
abbrev zd(a0 a1 a2:Nat):CI:= .mk none (.store a0 (.tmp a1) (.tmp a2)) none
abbrev ze(a0 a1 a2:Nat):CI:=q0 a0 (.load true a1 (.tmp a2))
abbrev zf(a0 a1 a2 a3:Nat):CI:=q0 a0 (.iaddr a1 (.tmp a2) (.tmp a3))
abbrev zg(a0 a1:Nat):CI:=q0 a0 (.alloc a1 (.agg #[.string ⟨#[]⟩,.string ⟨#[]⟩,.int .i64 0,.slice none 0 0,.string ⟨#[]⟩,.int .i64 0,.string ⟨#[]⟩,.string ⟨#[]⟩,.string ⟨#[]⟩,.int .i64 0,.int .i64 0,.string ⟨#[]⟩,.slice none 0 0,.int .i64 0,.int .i64 0,.int .i64 0,.slice none 0 0,.int .i64 0]))
abbrev zh(a0:Nat)(a1:Int):CI:=q0 a0 (.mv (ki a1))
abbrev zi(a0 a1 a2:Nat):CI:=q0 a0 (.extract (.tmp a1) a2)
abbrev zj(a0 a1 a2 a3:Nat):CI:=q1 a0 (.load false a1 (.tmp a2)) a3 true
abbrev zk(a0 a1 a2:Nat):CI:=q0 a0 (.pick (.tmp a1) kT (.tmp a2))
abbrev zl(a0 a1 a2:Nat):CI:=q1 a0 (.mv (.tmp a1)) a2 true
abbrev zm(a0 a1 a2 a3:Nat):CI:=q1 a0 (.load false a1 (.tmp a2)) a3 false
abbrev zn(a0 a1:Nat)(a2:Int):CI:=q0 a0 (.bin .add (.tmp a1) (ki a2))
abbrev zo(a0 a1 a2:Nat):CI:=q0 a0 (.pick (.tmp a1) (.tmp a2) kF)
abbrev zp(a0 a1 a2 a3:Nat):CI:=q1 a0 (.faddr a1 (.tmp a2)) a3 false
abbrev zq(a0 a1 a2 a3:Nat):CI:=q0 a0 (.call a1 [.tmp a2,.tmp a3])
abbrev zr(a0 a1 a2 a3:Nat):CI:=q1 a0 (.faddr a1 (.tmp a2)) a3 true
abbrev zs(a0 a1 a2:Nat):CI:=q0 a0 (.bin .lss (.tmp a1) (.tmp a2))
abbrev zt(a0 a1 a2:Nat):CI:=q0 a0 (.box a1 (.tmp a2))
abbrev zu(a0 a1:Nat):CI:=q0 a0 (.len false (.tmp a1))
abbrev zv(a0 a1 a2:Nat):CI:=q1 a0 (.mv (.tmp a1)) a2 false
abbrev zw(a0 a1 a2:Nat):CI:=q0 a0 (.call a1 [.tmp a2])
abbrev zx(a0:Nat):CI:=q0 a0 (.mv (.const (.slice none 0 0)))
abbrev zy(a0 a1:Nat)(a2:Int):CI:=q0 a0 (.bin .eql (.tmp a1) (ki a2))
abbrev zz(a0 a1 a2 a3:Nat):CI:=q0 a0 (.append a1 18 248 [.string ⟨#[]⟩,.string ⟨#[]⟩,.int .i64 0,.slice none 0 0,.string ⟨#[]⟩,.int .i64 0,.string ⟨#[]⟩,.string ⟨#[]⟩,.string ⟨#[]⟩,.int .i64 0,.int .i64 0,.string ⟨#[]⟩,.slice none 0 0,.int .i64 0,.int .i64 0,.int .i64 0,.slice none 0 0,.int .i64 0] (.tmp a2) (.tmp a3))
abbrev zaa(a0 a1:Nat):CI:=q0 a0 (.alloc a1 (.agg #[.int .i64 0,.slice none 0 0,.string ⟨#[]⟩]))
abbrev zab(a0 a1:Nat):CI:=q0 a0 (.alloc a1 (.agg #[.int .i64 0,.string ⟨#[]⟩,.string ⟨#[]⟩,.string ⟨#[]⟩,.int .i64 0,.int .i64 0,.string ⟨#[]⟩,.slice none 0 0,.int .i64 0,.int .i64 0,.int .i64 0,.slice none 0 0]))
abbrev zac(a0:Nat):CI:=q0 a0 (.mv kF)
abbrev zad(a0 a1 a2 a3 a4:Nat):CI:=q1 a0 (.iaddr a1 (.tmp a2) (.tmp a3)) a4 true
abbrev zae(a0 a1:Nat):CI:=q0 a0 (.un .not (.tmp a1))
abbrev zaf(a0 a1:Nat)(a2:Int):CI:=q0 a0 (.bin .neq (.tmp a1) (ki a2))
abbrev zag(a0 a1:Nat)(a2:Int):CI:=q0 a0 (.bin .sub (.tmp a1) (ki a2))
abbrev zah(a0 a1:Nat)(a2:Int)(a3:Nat):CI:=q1 a0 (.bin .gtr (.tmp a1) (ki a2)) a3 false
abbrev zai(a0 a1 a2 a3 a4:Nat):CI:=q1 a0 (.call a1 [.tmp a2,.tmp a3]) a4 true
abbrev zaj(a0:Nat):CI:=q0 a0 (.build [.int .i64 0,.slice none 0 0,.string ⟨#[]⟩] [])
abbrev zak(a0 a1 a2 a3:Nat):CI:=q1 a0 (.load true a1 (.tmp a2)) a3 true
abbrev zal(a0 a1 a2:Nat)(a3:Int):CI:=q0 a0 (.iaddr a1 (.tmp a2) (ki a3))
abbrev zam(a0:Nat)(a1:Int)(a2 a3 a4:Nat)(a5:Int)(a6:Nat):CI:= .mk none (.exts (.insert 138 (.tmp a0) (ki a1) (.tmp a2)) a3 [.mp 3 121,.int .i64] [.tmp a4,ki a5,.tmp a6]) none
abbrev zan(a0 a1 a2 a3 a4:Nat):CI:=q0 a0 (.call a1 [.tmp a2,.tmp a3,.tmp a4])
abbrev zao(a0 a1 a2:Nat):CI:=q1 a0 (.len false (.tmp a1)) a2 false
abbrev zap(a0 a1 a2:Nat):CI:=q0 a0 (.bin .add (.tmp a1) (.tmp a2))
abbrev zaq(a0 a1 a2 a3:Nat):CI:=q1 a0 (.bin .eql (.tmp a1) (.tmp a2)) a3 true
abbrev zar(a0 a1:Nat)(a2:Int):CI:=q0 a0 (.bin .gtr (.tmp a1) (ki a2))
abbrev zas(a0 a1 a2 a3:Nat):CI:=q1 a0 (.pick (.tmp a1) (.tmp a2) kF) a3 false
abbrev zat(a0:Nat)(a1:Int)(a2:Nat):CI:=q0 a0 (.build [.int .i64 0,.string ⟨#[]⟩,.string ⟨#[]⟩,.string ⟨#[]⟩,.int .i64 0,.int .i64 0,.string ⟨#[]⟩,.slice none 0 0,.int .i64 0,.int .i64 0,.int .i64 0,.slice none 0 0] [(0,1,ki a1),(4,3,.tmp a2)])
abbrev zau(a0 a1:Nat)(a2:Int):CI:=q0 a0 (.bin .lss (.tmp a1) (ki a2))
abbrev zav(a0 a1 a2:Nat):CI:=q0 a0 (.bin .eql (.tmp a1) (.tmp a2))
abbrev zaw(a0 a1 a2 a3:Nat):CI:=q1 a0 (.call a1 [.tmp a2]) a3 false
abbrev zax(a0 a1 a2:Nat):CI:=q1 a0 (.un .not (.tmp a1)) a2 true
abbrev zay(a0 a1 a2:Nat):CI:=q0 a0 (.bin .neq (.tmp a1) (.tmp a2))
abbrev zaz(a0 a1:Nat):CI:=q0 a0 (.alloc a1 (.agg #[.string ⟨#[]⟩,.string ⟨#[]⟩,.slice none 0 0,.int .i64 0]))
abbrev za0(a0 a1 a2 a3:Nat):CI:=q1 a0 (.load true a1 (.tmp a2)) a3 false
abbrev za1(a0 a1 a2 a3:Nat):CI:=q0 a0 (.append a1 1 16 [.string ⟨#[]⟩] (.tmp a2) (.tmp a3))
abbrev za2(a0 a1 a2 a3:Nat):CI:=q1 a0 (.bin .neq (.tmp a1) (.tmp a2)) a3 false
abbrev za3(a0 a1:Nat):CI:=q0 a0 (.alloc a1 (.agg #[.slice none 0 0,.slice none 0 0,.slice none 0 0,.slice none 0 0,.string ⟨#[]⟩,.string ⟨#[]⟩,.string ⟨#[]⟩,.slice none 0 0,.int .i64 0]))
abbrev za4(a0 a1 a2:Nat):CI:=q1 a0 (.un .not (.tmp a1)) a2 false
abbrev za5(a0 a1 a2 a3:Nat):CI:=q1 a0 (.call a1 [.tmp a2]) a3 true
abbrev za6(a0 a1 a2:Nat):CI:=q0 a0 (.bin .sub (.tmp a1) (.tmp a2))
abbrev za7(a0 a1 a2 a3 a4:Nat):CI:=q1 a0 (.call a1 [.tmp a2,.tmp a3]) a4 false
abbrev za8(a0 a1:Nat)(a2:Int)(a3:Nat):CI:=q1 a0 (.bin .eql (.tmp a1) (ki a2)) a3 false
abbrev za9(a0:Nat):CI:=q0 a0 (.build [.string ⟨#[]⟩,.string ⟨#[]⟩,.int .i64 0,.slice none 0 0,.string ⟨#[]⟩,.int .i64 0,.string ⟨#[]⟩,.string ⟨#[]⟩,.string ⟨#[]⟩,.int .i64 0,.int .i64 0,.string ⟨#[]⟩,.slice none 0 0,.int .i64 0,.int .i64 0,.int .i64 0,.slice none 0 0,.int .i64 0] [])
abbrev zba(a0:Nat)(a1:Int):CI:=q0 a0 (.build [.int .i64 0,.slice none 0 0,.string ⟨#[]⟩] [(0,1,ki a1)])
abbrev zbb(a0 a1:Nat)(a2:Int):CI:=q0 a0 (.bin .geq (.tmp a1) (ki a2))
abbrev zbc(a0:Nat):CI:=q0 a0 (.mv kT)
abbrev zbd(a0 a1 a2:Nat):CI:=q0 a0 (.mksl a1 1 [.tmp a2])
abbrev zbe(a0 a1 a2 a3:Nat):CI:=q0 a0 (.append a1 2 24 [.string ⟨#[]⟩,.int .i64 0] (.tmp a2) (.tmp a3))
abbrev zbf(a0:Nat)(a1:Int)(a2:Nat):CI:=q0 a0 (.build [.int .i64 0,.string ⟨#[]⟩,.string ⟨#[]⟩,.string ⟨#[]⟩,.int .i64 0,.int .i64 0,.string ⟨#[]⟩,.slice none 0 0,.int .i64 0,.int .i64 0,.int .i64 0,.slice none 0 0] [(0,1,ki a1),(1,1,ks ⟨#[43]⟩),(11,1,.tmp a2)])
abbrev zbh(a0 a1:Nat)(a2:Int)(a3:Nat):CI:=q1 a0 (.bin .sub (.tmp a1) (ki a2)) a3 true
abbrev zbi(a0 a1:Nat)(a2:Int):CI:=q0 a0 (.call a1 [ki a2])
abbrev zbj(a0 a1:Nat)(a2:Int)(a3:Nat):CI:=q1 a0 (.bin .lss (.tmp a1) (ki a2)) a3 false
abbrev zbk(a0 a1:Nat):CI:=q0 a0 (.alloc a1 (.agg #[.int .i64 0,.int .u64 0]))
abbrev zbl(a0 a1 a2 a3:Nat):CI:=q1 a0 (.pick (.tmp a1) kT (.tmp a2)) a3 true
abbrev zbm(a0 a1 a2:Nat):CI:=q0 a0 (.call a1 [.tmp a2,.const (.slice none 0 0),.const (.slice none 0 0)])
abbrev zbn(a0 a1 a2:Nat):CI:=q0 a0 (.build [.string ⟨#[]⟩,.int .i64 0] [(0,1,.tmp a1),(1,1,.tmp a2)])
abbrev zbo(a0 a1 a2 a3 a4:Nat):CI:=q1 a0 (.iaddr a1 (.tmp a2) (.tmp a3)) a4 false
abbrev zbp(a0 a1:Nat)(a2:Int)(a3:Nat):CI:=q1 a0 (.bin .neq (.tmp a1) (ki a2)) a3 false
abbrev zbq(a0 a1:Nat)(a2:Int)(a3:Nat):CI:=q1 a0 (.bin .eql (.tmp a1) (ki a2)) a3 true
abbrev zbr(a0 a1 a2 a3:Nat):CI:=q0 a0 (.append a1 1 8 [.int .i64 0] (.tmp a2) (.tmp a3))
abbrev zbs(a0 a1 a2 a3:Nat):CI:=q0 a0 (.build [.int .i64 0,.slice none 0 0,.string ⟨#[]⟩] [(0,1,.tmp a1),(1,1,.tmp a2),(2,1,.tmp a3)])
abbrev zbt(a0:Nat):CI:=q0 a0 (.build [.slice none 0 0,.slice none 0 0,.slice none 0 0,.slice none 0 0,.string ⟨#[]⟩,.string ⟨#[]⟩,.string ⟨#[]⟩,.slice none 0 0,.int .i64 0] [])
abbrev zbu(a0 a1:Nat)(a2:Int):CI:=q0 a0 (.bin .quo (.tmp a1) (ki a2))
abbrev zbw(a0:Nat):CI:=q0 a0 (.mv (.const (.int .i64 (-1))))
abbrev zby(a0 a1 a2 a3:Nat):CI:=q1 a0 (.bin .lss (.tmp a1) (.tmp a2)) a3 false
abbrev zbz(a0 a1 a2 a3:Nat):CI:=q1 a0 (.bin .leq (.tmp a1) (.tmp a2)) a3 true
abbrev zb0(a0:Nat)(a1 a2:Int):CI:=q0 a0 (.build [.int .i64 0,.int .i64 0,.string ⟨#[]⟩] [(0,1,ki a1),(1,1,ki a2)])
abbrev zb1(a0 a1:Nat):CI:=q0 a0 (.cvint .u64 (.tmp a1))
abbrev zb2(a0 a1 a2:Nat):CI:=q0 a0 (.bin .gtr (.tmp a1) (.tmp a2))
abbrev zb4(a0 a1:Nat)(a2:Int)(a3:Nat):CI:=q1 a0 (.bin .leq (.tmp a1) (ki a2)) a3 true
abbrev zb5(a0 a1:Nat):CI:=q0 a0 (.len true (.tmp a1))
abbrev zb6(a0 a1:Nat):CI:=q0 a0 (.bin .eql (.tmp a1) (ks ⟨#[99,111,117,110,116]⟩))
abbrev zb7(a0 a1:Nat):CI:=q0 a0 (.bin .eql (.tmp a1) (ks ⟨#[100,101,99,97,121]⟩))
abbrev zb8(a0 a1 a2:Nat):CI:=q1 a0 (.bin .eql (.tmp a1) (ks ⟨#[]⟩)) a2 true
abbrev zb9(a0 a1:Nat):CI:=q0 a0 (.bin .eql (.tmp a1) (ks ⟨#[113,117,97,110,116,105,108,101]⟩))
abbrev zca(a0 a1:Nat):CI:=q0 a0 (.bin .eql (.tmp a1) (ks ⟨#[100,105,115,116,105,110,99,116]⟩))
abbrev zcb(a0 a1:Nat):CI:=q0 a0 (.alloc a1 (.agg #[.string ⟨#[]⟩,.int .i64 0]))
abbrev zcc(a0 a1:Nat)(a2:Int)(a3:Nat):CI:=q1 a0 (.bin .neq (.tmp a1) (ki a2)) a3 true
abbrev zcd(a0 a1 a2:Nat):CI:=q0 a0 (.eqb true .bool (.tmp a1) (.tmp a2))
abbrev zce(a0 a1 a2:Nat):CI:=q0 a0 (.idxs (.tmp a1) (.tmp a2))
abbrev zcf(a0 a1 a2:Nat):CI:=q0 a0 (.build [.int .i64 0,.slice none 0 0,.string ⟨#[]⟩] [(0,1,.tmp a1),(1,1,.tmp a2)])
abbrev zcg(a0 a1 a2:Nat):CI:=q0 a0 (.bin .geq (.tmp a1) (.tmp a2))
abbrev zch(a0 a1 a2 a3:Nat):CI:=q1 a0 (.bin .eql (.tmp a1) (.tmp a2)) a3 false
abbrev zci(a0 a1 a2 a3:Nat):CI:=q1 a0 (.bin .lss (.tmp a1) (.tmp a2)) a3 true
abbrev zcj(a0 a1 a2:Nat):CI:=q1 a0 (.bin .gtr (.tmp a1) (.const (.int .u8 122))) a2 false
abbrev zck(a0 a1 a2 a3:Nat):CI:=q0 a0 (.append a1 3 48 [.int .i64 0,.slice none 0 0,.string ⟨#[]⟩] (.tmp a2) (.tmp a3))
abbrev zcl(a0 a1 a2:Nat):CI:=q1 a0 (.bin .leq (.tmp a1) (.const (.int .u8 122))) a2 true
abbrev zcm(a0 a1 a2:Nat):CI:=q1 a0 (.len true (.tmp a1)) a2 true
abbrev zco(a0 a1 a2:Nat):CI:=q1 a0 (.bin .leq (.tmp a1) (.const (.int .u8 57))) a2 true
abbrev zcp(a0 a1:Nat):CI:=q0 a0 (.cvint .i64 (.tmp a1))
abbrev zcq(a0 a1 a2:Nat):CI:=q0 a0 (.callv (.tmp a1) [.tmp a2])
abbrev zcr(a0 a1:Nat):CI:=q0 a0 (.bin .eql (.tmp a1) (ks ⟨#[109,101,97,110]⟩))
abbrev zcs(a0 a1:Nat):CI:=q0 a0 (.bin .eql (.tmp a1) (ks ⟨#[60]⟩))
abbrev zct(a0:Nat):CI:=q0 a0 (.build [.string ⟨#[]⟩,.string ⟨#[]⟩,.slice none 0 0,.int .i64 0] [])
abbrev zcu(a0 a1:Nat):CI:=q0 a0 (.bin .neq (.tmp a1) (ks ⟨#[]⟩))
abbrev zcv(a0 a1 a2:Nat):CI:=q0 a0 (.eqs true [.str,.int] (.tmp a1) (.tmp a2))
abbrev zcw(a0 a1:Nat):CI:=q0 a0 (.bin .geq (.tmp a1) (.const (.int .u8 97)))
abbrev zcx(a0 a1:Nat):CI:=q0 a0 (.bin .eql (.tmp a1) (ks ⟨#[97,110,100]⟩))
abbrev zcy(a0 a1:Nat):CI:=q0 a0 (.bin .eql (.tmp a1) (ks ⟨#[111,114]⟩))
abbrev zcz(a0:Nat):CI:=q0 a0 (.mv (.const (.int .u64 0)))
abbrev zc0(a0 a1:Nat):CI:=q0 a0 (.bin .eql (.tmp a1) (ks ⟨#[45]⟩))
abbrev ed(k:Nat)(c:CI)(l:List Nat):CD:= .mk k c l
namespace Z
abbrev r(l:List CI)(k:List Nat)(a:AC):AC:= .seq (.reg l) (.keep k a)
abbrev d(l:List CI)(k:List Nat)(a:AC):AC:= .seq (.dreg l) (.keep k a)
abbrev e(l:List CI):AC:= .seq (.reg l) .ret
abbrev s(a:AC)(k:List Nat)(b:AC):AC:= .seq a (.keep k b)
abbrev c(n:Nat)(a b:AC):AC:= .cond (.tmp n) a b
abbrev g(l:List CI):AC:= .reg l
abbrev l(k:List Nat)(a:AC):AC:= .loop (.keep k a)
abbrev k(k:List Nat)(a:AC):AC:= .keep k a
abbrev b(n:Nat)(a:AC):AC:= .block n a
end Z
end Go.Sx
namespace Go.Proofs.YtekngilbecjkhaaGreatDoor
open Go.Sx
def s3_0:=[zt 1 25 0,zac 2]
def s3_1:=[ze 3 4 1,zw 4 10 3,zae 5 4,za 6 5,za0 7 4 1 6,zaw 8 11 7 6,za0 9 4 1 6,zaw 10 12 9 6,zch 11 8 10 6,zv 12 11 6,q1 13 (.call 13 []) 12 true,zas 14 12 13 6,zk 15 6 14,za 2 15]
def a3:AC:=Z.r s3_0 [1] (.seq (.dreg s3_1) .ret)
def c3:FC:=⟨16,a3.erase,[.tmp 2]⟩
theorem comp3:compF Tryz.prog Tryz.f3=some c3:=by kernel_rfl
theorem era3:c3.code=a3.erase:=rfl
def s4_0:=[zt 2 25 0,zt 3 37 1,zac 4]
def s4_1:=[ze 9 4 2,zw 10 10 9,zae 11 10,za 12 11,za0 13 12 3 12,q1 14 (.call 14 [.tmp 13,ki 500]) 12 false,zah 15 14 500 12,zk 16 12 15]
def s4_2:=[zbc 4]
def s4_3:=[ze 18 4 2,ze 19 12 3,zq 20 15 18 19,za 17 20,zi 21 17 0,zi 22 17 1,za 5 21,za 6 22]
def s4_4:=[ze 24 4 2,ze 25 12 3,zq 26 16 24 25,za 23 26,zi 27 23 0,zi 28 23 1,za 7 27,za 8 28]
def s4_5:=[za 29 5,za 30 7,zq 31 17 29 30,za 32 31,zl 33 6 32,zl 34 8 32,zai 35 17 33 34 32,zo 36 32 35,za 37 36,q1 38 (.call 13 []) 37 true,zo 39 37 38,za 4 39]
def a4:AC:=Z.r s4_0 [2,3] (Z.s (Z.r s4_1 [2,3,16] (Z.c 16 (Z.e s4_2) .skip)) [2,3] (Z.r s4_3 [2,3,5,6] (Z.r s4_4 [5,6,7,8] (Z.e s4_5))))
def c4:FC:=⟨40,a4.erase,[.tmp 4]⟩
def s5_0:=[zt 1 25 0,zac 2]
def s5_1:=[ze 3 4 1,zw 4 10 3,zae 5 4,za 6 5,za0 7 4 1 6,zaw 8 18 7 6,za0 9 4 1 6,zaw 10 19 9 6,za7 11 17 8 10 6,zv 12 11 6,zak 13 4 1 12,za5 14 20 13 12,zak 15 4 1 12,za5 16 21 15 12,zai 17 17 14 16 12,zas 18 12 17 6,zv 19 18 6,q1 20 (.call 13 []) 19 true,zas 21 19 20 6,zk 22 6 21,za 2 22]
def a5:AC:=Z.r s5_0 [1] (.seq (.dreg s5_1) .ret)
def c5:FC:=⟨23,a5.erase,[.tmp 2]⟩
def s6_0:=[zt 2 25 0,zt 3 37 1,zac 4]
def s6_1:=[ze 21 4 2,zw 22 10 21,zae 23 22,za 24 23,za0 25 12 3 24,q1 26 (.call 14 [.tmp 25,ki 500]) 24 false,zah 27 26 500 24,zk 28 24 27]
def s6_2:=[zbc 4]
def s6_3:=[ze 30 4 2,ze 31 12 3,zq 32 15 30 31,za 29 32,zi 33 29 0,zi 34 29 1,za 5 33,za 6 34]
def s6_4:=[ze 36 12 3,zbm 37 22 36,za 35 37,zi 38 35 0,zi 39 35 1,za 7 38,za 8 39]
def s6_5:=[za 40 7,za 41 5,zq 42 23 40 41,zae 43 42,za 44 43,zv 45 8 44,zv 46 6 44,za7 47 23 45 46 44,za4 48 47 44,zk 49 44 48,za 50 49,zv 51 7 50,zao 52 51 50,za8 53 52 0 50,zv 54 53 50,zl 55 5 54,q1 56 (.len false (.tmp 55)) 54 true,zcc 57 56 0 54,zl 58 57 54,zv 59 6 58,zao 60 59 58,zv 61 8 58,zao 62 61 58,za2 63 60 62 58,zbl 64 58 63 54,zas 65 54 64 50,zk 66 50 65]
def s6_6:=[zac 4]
def s6_7:=[zh 9 0]
def s6_8:=[za 67 9,za 68 5,zu 69 68,zs 70 67 69]
def s6_9:=[ed 0 (ze 74 4 2) [],ed 1 (za 75 5) [],ed 2 (za 76 9) [],ed 3 (zf 77 1 75 76) [],ed 4 (zb 78 1 77) [],ed 5 (zq 79 24 74 78) [],ed 6 (za 73 79) [],ed 7 (zi 80 73 0) [],ed 8 (zi 81 73 1) [],ed 9 (zg 10 49) [],ed 10 (zd 18 10 80) [10],ed 11 (za 11 81) []]
def s6_10:=[za 82 11,zae 83 82]
def s6_11:=[ze 85 4 2,zc 86 5 10,ze 87 12 86,zq 88 15 85 87,za 84 88,zi 89 84 0,zi 90 84 1,za 12 89,za 13 90]
def s6_12:=[za 91 12,za 92 5,zq 93 23 91 92,zae 94 93,za 95 94,zv 96 13 95,zv 97 6 95,za7 98 23 96 97 95,za4 99 98 95,zk 100 95 99]
def s6_13:=[zac 4]
def s6_14:=[za 71 9,zn 72 71 1,za 9 72]
def s6_15:=[zh 14 0]
def s6_16:=[za 101 14,za 102 5,zu 103 102,zs 104 101 103]
def s6_17:=[za 107 7,za 108 5,za 109 14,zf 110 1 108 109,zb 111 1 110,zq 112 25 107 111,za 15 112]
def s6_18:=[zh 16 0]
def s6_19:=[za 113 16,za 114 5,zu 115 114,zs 116 113 115,za 117 116,zl 118 15 117,zax 119 118 117,zo 120 117 119]
def s6_20:=[ed 0 (ze 124 4 2) [],ed 1 (za 125 5) [],ed 2 (za 126 16) [],ed 3 (zf 127 1 125 126) [],ed 4 (zb 128 1 127) [],ed 5 (zq 129 24 124 128) [],ed 6 (za 123 129) [],ed 7 (zi 130 123 0) [],ed 8 (zi 131 123 1) [],ed 9 (zg 17 49) [],ed 10 (zd 18 17 130) [17],ed 11 (za 18 131) []]
def s6_21:=[zc 133 5 17,ze 134 12 133,zbm 135 22 134,za 132 135,zi 136 132 0,zi 137 132 1,za 19 136,za 20 137]
def s6_22:=[za 138 18,za 139 138,zl 140 19 139,zl 141 5 139,zl 142 14 139,zad 143 1 141 142 139,zj 144 1 143 139,zai 145 25 140 144 139,zo 146 139 145,za 15 146]
def s6_23:=[za 121 16,zn 122 121 1,za 16 122]
def s6_24:=[za 147 15,zae 148 147]
def s6_25:=[zac 4]
def s6_26:=[za 105 14,zn 106 105 1,za 14 106]
def s6_27:=[q0 149 (.call 13 []),za 4 149]
def a6:AC:=Z.r s6_0 [2,3] (Z.s (Z.r s6_1 [2,3,28] (Z.c 28 (Z.e s6_2) .skip)) [2,3] (Z.r s6_3 [2,3,5,6] (Z.r s6_4 [2,5,6,7,8] (Z.s (Z.r s6_5 [2,5,6,7,66] (Z.c 66 (Z.e s6_6) .skip)) [2,5,6,7] (Z.s (Z.r s6_7 [2,5,6,7,9] (Z.b 0 (Z.l [2,5,6,7,9] (Z.s (Z.r s6_8 [2,5,6,7,9,70] (Z.c 70 .skip (.exit 0))) [2,5,6,7,9] (Z.s (Z.b 1 (Z.s (.mreg [10] s6_9) [2,5,6,7,9,10,11] (Z.s (Z.r s6_10 [2,5,6,7,9,10,83] (Z.c 83 (.exit 1) .skip)) [2,5,6,7,9,10] (Z.r s6_11 [2,5,6,7,9,12,13] (Z.r s6_12 [2,5,6,7,9,100] (Z.c 100 (Z.e s6_13) .skip)))))) [2,5,6,7,9] (Z.g s6_14)))))) [2,5,7] (Z.s (Z.r s6_15 [2,5,7,14] (Z.b 2 (Z.l [2,5,7,14] (Z.s (Z.r s6_16 [2,5,7,14,104] (Z.c 104 .skip (.exit 2))) [2,5,7,14] (Z.s (Z.b 3 (Z.r s6_17 [2,5,7,14,15] (Z.s (Z.r s6_18 [2,5,7,14,15,16] (Z.b 4 (Z.l [2,5,7,14,15,16] (Z.s (Z.r s6_19 [2,5,7,14,15,16,120] (Z.c 120 .skip (.exit 4))) [2,5,7,14,16] (Z.s (Z.b 5 (Z.s (.mreg [17] s6_20) [2,5,7,14,16,17,18] (Z.r s6_21 [2,5,7,14,16,18,19] (Z.g s6_22)))) [2,5,7,14,15,16] (Z.g s6_23)))))) [2,5,7,14,15] (Z.r s6_24 [2,5,7,14,148] (Z.c 148 (Z.e s6_25) .skip))))) [2,5,7,14] (Z.g s6_26)))))) [] (Z.e s6_27)))))))
def s7_0:=[zt 1 25 0,zac 2]
def s7_1:=[ze 19 4 1,zw 20 10 19,zae 21 20]
def s7_2:=[zbc 2]
def s7_3:=[ze 22 4 1,zw 23 20 22,za 3 23]
def s7_4:=[zx 4]
def s7_5:=[zh 5 0]
def s7_6:=[za 24 5,za 25 3,zu 26 25,zs 27 24 26]
def s7_7:=[ed 0 (ze 31 4 1) [],ed 1 (za 32 3) [],ed 2 (za 33 5) [],ed 3 (zf 34 1 32 33) [],ed 4 (zb 35 1 34) [],ed 5 (zq 36 24 31 35) [],ed 6 (za 30 36) [],ed 7 (zi 37 30 0) [],ed 8 (zi 38 30 1) [],ed 9 (zg 6 49) [],ed 10 (zd 18 6 37) [6],ed 11 (za 7 38) []]
def s7_8:=[ze 40 4 1,zc 41 5 6,ze 42 12 41,zq 43 15 40 42,za 39 43,zi 44 39 0,zi 45 39 1,za 8 44,za 9 45]
def s7_9:=[za 46 7,zae 47 46,za 48 47,zv 49 4 48,zv 50 3 48,zv 51 5 48,zbo 52 1 50 51 48,zm 53 1 52 48,za7 54 25 49 53 48,zk 55 48 54,za 56 55,zv 57 8 56,zv 58 3 56,zv 59 5 56,zbo 60 1 58 59 56,zm 61 1 60 56,za7 62 25 57 61 56,zk 63 56 62]
def s7_10:=[zac 2]
def s7_11:=[zh 10 0]
def s7_12:=[za 64 10,za 65 8,zu 66 65,zs 67 64 66]
def s7_13:=[ed 0 (ze 71 4 1) [],ed 1 (za 72 8) [],ed 2 (za 73 10) [],ed 3 (zf 74 1 72 73) [],ed 4 (zb 75 1 74) [],ed 5 (zq 76 24 71 75) [],ed 6 (za 70 76) [],ed 7 (zi 77 70 0) [],ed 8 (zi 78 70 1) [],ed 9 (zg 11 49) [],ed 10 (zd 18 11 77) [11],ed 11 (za 12 78) []]
def s7_14:=[za 79 12,za 80 79,zl 81 4 80,zl 82 8 80,zl 83 10 80,zad 84 1 82 83 80,zj 85 1 84 80,zai 86 25 81 85 80,zax 87 86 80,zo 88 80 87]
def s7_15:=[zac 2]
def s7_16:=[za 68 10,zn 69 68 1,za 10 69]
def s7_17:=[za 89 4,za 90 3,za 91 5,zf 92 1 90 91,zb 93 1 92,zbd 94 9 93,za1 95 9 89 94,za 4 95]
def s7_18:=[za 28 5,zn 29 28 1,za 5 29]
def s7_19:=[ze 96 4 1,zw 97 18 96,za 13 97]
def s7_20:=[za 98 3,zu 99 98,ze 100 4 1,zw 101 26 100,zu 102 101,zav 103 99 102,za 104 13,zu 105 104,zy 106 105 0,zcd 107 103 106]
def s7_21:=[zac 2]
def s7_22:=[zh 14 0]
def s7_23:=[za 108 14,za 109 13,zu 110 109,zs 111 108 110]
def s7_24:=[ed 0 (ze 115 4 1) [],ed 1 (za 116 13) [],ed 2 (za 117 14) [],ed 3 (zf 118 1 116 117) [],ed 4 (zb 119 1 118) [],ed 5 (zq 120 24 115 119) [],ed 6 (za 114 120) [],ed 7 (zi 121 114 0) [],ed 8 (zi 122 114 1) [],ed 9 (zg 15 49) [],ed 10 (zd 18 15 121) [15],ed 11 (za 16 122) []]
def s7_25:=[zc 124 5 15,ze 125 12 124,zbm 126 22 125,za 123 126,zi 127 123 0,zi 128 123 1,za 17 127,za 18 128]
def s7_26:=[za 129 16,zae 130 129,za 131 130,zv 132 17 131,zv 133 13 131,zv 134 14 131,q1 135 (.bin .add (.tmp 134) (ki 1)) 131 false,zv 136 13 131,zao 137 136 131,q1 138 (.bin .rem (.tmp 135) (.tmp 137)) 131 false,zbo 139 1 133 138 131,zm 140 1 139 131,za7 141 25 132 140 131,za4 142 141 131,zk 143 131 142,za 144 143,zv 145 14 144,zah 146 145 0 144,zv 147 146 144,zl 148 13 147,zl 149 14 147,zad 150 1 148 149 147,zj 151 1 150 147,zl 152 13 147,q1 153 (.iaddr 1 (.tmp 152) (ki 0)) 147 true,zj 154 1 153 147,zbz 155 151 154 147,zas 156 147 155 144,zk 157 144 156]
def s7_27:=[zac 2]
def s7_28:=[za 112 14,zn 113 112 1,za 14 113]
def s7_29:=[q0 158 (.call 13 []),za 2 158]
def a7:AC:=Z.r s7_0 [1] (Z.s (Z.r s7_1 [1,21] (Z.c 21 (Z.e s7_2) .skip)) [1] (Z.r s7_3 [1,3] (Z.r s7_4 [1,3,4] (Z.s (Z.r s7_5 [1,3,4,5] (Z.b 0 (Z.l [1,3,4,5] (Z.s (Z.r s7_6 [1,3,4,5,27] (Z.c 27 .skip (.exit 0))) [1,3,4,5] (Z.s (Z.b 1 (Z.s (.mreg [6] s7_7) [1,3,4,5,6,7] (Z.r s7_8 [1,3,4,5,7,8] (Z.s (Z.r s7_9 [1,3,4,5,8,63] (Z.c 63 (Z.e s7_10) .skip)) [1,3,4,5,8] (Z.s (Z.r s7_11 [1,3,4,5,8,10] (Z.b 2 (Z.l [1,3,4,5,8,10] (Z.s (Z.r s7_12 [1,3,4,5,8,10,67] (Z.c 67 .skip (.exit 2))) [1,3,4,5,8,10] (Z.s (Z.b 3 (Z.s (.mreg [11] s7_13) [1,3,4,5,8,10,12] (Z.r s7_14 [1,3,4,5,8,10,88] (Z.c 88 (Z.e s7_15) .skip)))) [1,3,4,5,8,10] (Z.g s7_16)))))) [1,3,4,5] (Z.g s7_17)))))) [1,3,4,5] (Z.g s7_18)))))) [1,3] (Z.r s7_19 [1,3,13] (Z.s (Z.r s7_20 [1,13,107] (Z.c 107 (Z.e s7_21) .skip)) [1,13] (Z.s (Z.r s7_22 [1,13,14] (Z.b 4 (Z.l [1,13,14] (Z.s (Z.r s7_23 [1,13,14,111] (Z.c 111 .skip (.exit 4))) [1,13,14] (Z.s (Z.b 5 (Z.s (.mreg [15] s7_24) [1,13,14,15,16] (Z.r s7_25 [1,13,14,16,17] (Z.d s7_26 [1,13,14,157] (Z.c 157 (Z.e s7_27) .skip))))) [1,13,14] (Z.g s7_28)))))) [] (Z.e s7_29))))))))
def c7:FC:=⟨159,a7.erase,[.tmp 2]⟩
def s8_0:=[zt 1 25 0,zac 2]
def s8_1:=[ze 12 4 1,zw 13 10 12,zae 14 13,za 15 14,za0 16 4 1 15,zaw 17 11 16 15,zbp 18 17 0 15,zk 19 15 18]
def s8_2:=[q0 20 (.call 13 []),za 2 20]
def s8_3:=[ze 21 4 1,zw 22 20 21,zu 23 22,zc 24 1 1,zb 25 1 24,zu 26 25,zay 27 23 26]
def s8_4:=[zac 2]
def s8_5:=[zh 3 0]
def s8_6:=[za 28 3,zc 29 1 1,zb 30 1 29,zu 31 30,zs 32 28 31]
def s8_7:=[zc 35 1 1,zb 36 1 35,za 37 3,zf 38 18 36 37,ze 39 18 38,zg 4 49,zd 18 4 39]
def s8_8:=[ze 41 4 1,zc 42 1 4,zb 43 1 42,zc 44 5 4,ze 45 12 44,zan 46 27 41 43 45,za 40 46,zi 47 40 0,zi 48 40 1,zaa 5 47,zd 3 5 47,za 6 48]
def s8_9:=[ze 50 4 1,zc 51 5 4,ze 52 12 51,zq 53 15 50 52,za 49 53,zi 54 49 0,zi 55 49 1,za 7 54,za 8 55]
def s8_10:=[za 56 6,zaf 57 56 0,za 58 57,za0 59 3 5 58,zp 60 2 4 58,za0 61 3 60 58,za7 62 28 59 61 58,za4 63 62 58,zk 64 58 63]
def s8_11:=[zac 2]
def s8_12:=[zh 9 0]
def s8_13:=[za 65 9,za 66 8,zu 67 66,zs 68 65 67]
def s8_14:=[ed 0 (ze 72 4 1) [],ed 1 (za 73 8) [],ed 2 (za 74 9) [],ed 3 (zf 75 1 73 74) [],ed 4 (zb 76 1 75) [],ed 5 (zq 77 29 72 76) [],ed 6 (za 71 77) [],ed 7 (zi 78 71 0) [],ed 8 (zi 79 71 1) [],ed 9 (zaz 10 58) [],ed 10 (zd 4 10 78) [10],ed 11 (za 11 79) []]
def s8_15:=[za 80 11,zae 81 80]
def s8_16:=[zac 2]
def s8_17:=[za 69 9,zn 70 69 1,za 9 70]
def s8_18:=[za 33 3,zn 34 33 1,za 3 34]
def s8_19:=[q0 82 (.call 13 []),za 2 82]
def a8:AC:=Z.r s8_0 [1] (Z.s (Z.r s8_1 [1,19] (Z.c 19 (Z.e s8_2) .skip)) [1] (Z.s (Z.d s8_3 [1,27] (Z.c 27 (Z.e s8_4) .skip)) [1] (Z.s (Z.r s8_5 [1,3] (Z.b 0 (Z.l [1,3] (Z.s (Z.r s8_6 [1,3,32] (Z.c 32 .skip (.exit 0))) [1,3] (Z.s (Z.b 1 (Z.r s8_7 [1,3,4] (Z.r s8_8 [1,3,4,5,6] (Z.r s8_9 [1,3,4,5,6,8] (Z.s (Z.r s8_10 [1,3,8,64] (Z.c 64 (Z.e s8_11) .skip)) [1,3,8] (Z.r s8_12 [1,3,8,9] (Z.b 2 (Z.l [1,3,8,9] (Z.s (Z.r s8_13 [1,3,8,9,68] (Z.c 68 .skip (.exit 2))) [1,3,8,9] (Z.s (Z.b 3 (Z.s (.mreg [10] s8_14) [1,3,8,9,11] (Z.r s8_15 [1,3,8,9,81] (Z.c 81 (Z.e s8_16) .skip)))) [1,3,8,9] (Z.g s8_17))))))))))) [1,3] (Z.g s8_18)))))) [] (Z.e s8_19))))
def s9_0:=[zt 2 25 0,zac 4]
def s9_1:=[ze 17 4 2,zw 18 10 17,zae 19 18]
def s9_2:=[zbc 4]
def s9_3:=[ze 21 4 2,za 22 1,zq 23 29 21 22,za 20 23,zi 24 20 0,zi 25 20 1,zaz 5 58,zd 4 5 24,za 6 25]
def s9_4:=[ze 27 4 2,za 28 1,zq 29 30 27 28,za 26 29,zi 30 26 0,zi 31 26 1,zaz 7 58,zd 4 7 30,za 8 31]
def s9_5:=[ze 33 4 2,za 34 1,zq 35 24 33 34,za 32 35,zi 36 32 0,zi 37 32 1,zg 9 49,zd 18 9 36,za 10 37]
def s9_6:=[ze 39 4 2,za 40 1,zq 41 31 39 40,za 38 41,zi 42 38 0,zi 43 38 1,zg 11 49,zd 18 11 42,za 12 43]
def s9_7:=[ze 45 4 2,za 46 1,zq 47 32 45 46,za 44 47,zi 48 44 0,zi 49 44 1,zg 13 49,zd 18 13 48,za 14 49]
def s9_8:=[ze 51 4 2,za 52 1,zq 53 33 51 52,za 50 53,zi 54 50 0,zi 55 50 1,zg 15 49,zd 18 15 54,za 16 55]
def s9_9:=[za 56 6,za 57 8,q0 58 (.eqb false .bool (.tmp 56) (.tmp 57)),za 59 58,zl 60 10 59,zl 61 12 59,q1 62 (.eqb false .bool (.tmp 60) (.tmp 61)) 59 true,zo 63 59 62,za 64 63,zl 65 14 64,zl 66 16 64,q1 67 (.eqb false .bool (.tmp 65) (.tmp 66)) 64 true,zo 68 64 67,za 69 68,zak 70 4 5 69,zak 71 4 7 69,zai 72 34 70 71 69,zo 73 69 72,za 74 73,zak 75 18 9 74,zak 76 18 11 74,zai 77 35 75 76 74,zo 78 74 77,za 79 78,zak 80 18 13 79,zak 81 18 15 79,zai 82 35 80 81 79,zo 83 79 82,za 84 83,q1 85 (.call 13 []) 84 true,zo 86 84 85,za 4 86]
def a9:AC:=Z.r s9_0 [1,2] (Z.s (Z.r s9_1 [1,2,19] (Z.c 19 (Z.e s9_2) .skip)) [1,2] (Z.r s9_3 [1,2,5,6] (Z.r s9_4 [1,2,5,6,7,8] (Z.r s9_5 [1,2,5,6,7,8,9,10] (Z.r s9_6 [1,2,5,6,7,8,9,10,11,12] (Z.r s9_7 [1,2,5,6,7,8,9,10,11,12,13,14] (Z.r s9_8 [5,6,7,8,9,10,11,12,13,14,15,16] (Z.e s9_9))))))))
def s10_0:=[zt 1 25 0,zac 2]
def s10_1:=[zc 6 0 1,zb 7 1 6,zu 8 7,zar 9 8 40,za 10 9,zp 11 1 1 10,zm 12 1 11 10,zao 13 12 10,zah 14 13 40 10,zk 15 10 14,za 16 15,zp 17 2 1 16,zm 18 1 17 16,zao 19 18 16,zah 20 19 40 16,zk 21 16 20,za 22 21,zp 23 3 1 22,zm 24 1 23 22,zao 25 24 22,zah 26 25 40 22,zk 27 22 26]
def s10_2:=[zac 2]
def s10_3:=[zh 3 0]
def s10_4:=[ed 0 (q0 28 (.mksl 49 18 [])) [],ed 1 (zc 29 1 1) [],ed 2 (zb 30 1 29) [],ed 4 (zc 32 2 1) [],ed 5 (zb 33 1 32) [],ed 7 (zc 35 3 1) [],ed 8 (zb 36 1 35) [],ed 3 (zz 31 49 28 30) [],ed 6 (zz 34 49 31 33) [],ed 9 (zz 37 49 34 36) [],ed 10 (za 4 37) []]
def s10_5:=[zh 5 0]
def s10_6:=[za 38 5,za 39 4,zu 40 39,zs 41 38 40,za 42 41,zl 43 3 42,zb4 44 43 2000 42,zo 45 42 44]
def s10_7:=[za 48 3,za 49 4,za 50 5,zf 51 18 49 50,zc 52 5 51,ze 53 12 52,za 54 3,q0 55 (.bin .sub (ki 2000) (.tmp 54)),zq 56 14 53 55,zap 57 48 56,za 3 57]
def s10_8:=[za 46 5,zn 47 46 1,za 5 47]
def s10_9:=[za 58 3,q0 59 (.bin .leq (.tmp 58) (ki 2000)),za 2 59]
def a10:AC:=Z.r s10_0 [1] (Z.s (Z.r s10_1 [1,27] (Z.c 27 (Z.e s10_2) .skip)) [1] (Z.r s10_3 [1,3] (Z.s (.mreg [31,34,37] s10_4) [3,4] (Z.s (Z.r s10_5 [3,4,5] (Z.b 0 (Z.l [3,4,5] (Z.s (Z.r s10_6 [3,4,5,45] (Z.c 45 .skip (.exit 0))) [3,4,5] (Z.s (Z.b 1 (Z.g s10_7)) [3,4,5] (Z.g s10_8)))))) [3] (Z.e s10_9)))))
def c10:FC:=⟨60,a10.erase,[.tmp 2]⟩
theorem comp10:compF Tryz.prog Tryz.f10=some c10:=by kernel_rfl
theorem era10:c10.code=a10.erase:=rfl
def s11_0:=[zt 1 25 0,zh 2 0]
def s11_1:=[zc 10 0 1,zb 11 1 10,zu 12 11,zar 13 12 16,za 14 13,zp 15 1 1 14,zm 16 1 15 14,zao 17 16 14,zah 18 17 32 14,zk 19 14 18,za 20 19,zp 21 2 1 20,zm 22 1 21 20,zao 23 22 20,zah 24 23 32 20,zk 25 20 24,za 26 25,zp 27 3 1 26,zm 28 1 27 26,zao 29 28 26,zah 30 29 32 26,zk 31 26 30]
def s11_2:=[zh 2 2]
def s11_3:=[zc 32 0 1,zb 33 1 32,zu 34 33,zh 35 0]
def s11_4:=[zs 36 35 34]
def s11_5:=[za 37 35,zf 38 4 33 35,ze 39 4 38,zaz 4 58,za 3 37,zd 4 4 39]
def s11_6:=[ze 40 4 4,zw 41 36 40,za 5 41]
def s11_7:=[za 42 5,zaf 43 42 0]
def s11_8:=[za 44 5,za 2 44]
def s11_9:=[za 45 3,zar 46 45 0,za 47 46,zr 48 0 4 47,zj 49 1 48 47,zr 50 0 1 47,zj 51 1 50 47,zl 52 3 47,zbh 53 52 1 47,zad 54 4 51 53 47,zr 55 0 54 47,zj 56 1 55 47,zbz 57 49 56 47,zo 58 47 57]
def s11_10:=[zh 2 1]
def s11_11:=[zn 59 35 1,za 35 59]
def s11_12:=[ze 60 4 1,zw 61 37 60,za 6 61]
def s11_13:=[za 62 6,zaf 63 62 0]
def s11_14:=[za 64 6,za 2 64]
def s11_15:=[zc 65 1 1,zb 66 1 65,zu 67 66,zh 68 0]
def s11_16:=[zs 69 68 67]
def s11_17:=[zf 70 18 66 68,ze 71 18 70,zg 8 49,zd 18 8 71]
def s11_18:=[ze 72 4 1,ze 73 18 8,zq 74 38 72 73,za 9 74]
def s11_19:=[za 75 9,zaf 76 75 0]
def s11_20:=[za 77 9,za 2 77]
def s11_21:=[zn 78 68 1,za 68 78]
def s11_22:=[ze 79 4 1,zw 80 18 79,zu 81 80,zar 82 81 0]
def s11_23:=[zh 2 120]
def s11_24:=[zh 2 0]
def a11:AC:=Z.r s11_0 [1] (Z.s (Z.r s11_1 [1,31] (Z.c 31 (Z.e s11_2) .skip)) [1] (Z.s (Z.r s11_3 [1,33,34,35] (Z.b 0 (Z.l [1,33,34,35] (Z.r s11_4 [1,33,34,35,36] (Z.s (Z.c 36 .skip (.exit 0)) [1,33,34,35] (Z.s (Z.b 1 (Z.r s11_5 [1,3,4,33,34,35] (Z.s (Z.r s11_6 [1,3,4,5,33,34,35] (Z.r s11_7 [1,3,4,5,33,34,35,43] (Z.c 43 (Z.e s11_8) .skip))) [1,3,4,33,34,35] (Z.d s11_9 [1,33,34,35,58] (Z.c 58 (Z.e s11_10) .skip))))) [1,33,34,35] (Z.g s11_11))))))) [1] (Z.s (Z.r s11_12 [1,6] (Z.r s11_13 [1,6,63] (Z.c 63 (Z.e s11_14) .skip))) [1] (Z.s (Z.r s11_15 [1,66,67,68] (Z.b 2 (Z.l [1,66,67,68] (Z.r s11_16 [1,66,67,68,69] (Z.s (Z.c 69 .skip (.exit 2)) [1,66,67,68] (Z.s (Z.b 3 (Z.r s11_17 [1,8,66,67,68] (Z.r s11_18 [1,9,66,67,68] (Z.r s11_19 [1,9,66,67,68,76] (Z.c 76 (Z.e s11_20) .skip))))) [1,66,67,68] (Z.g s11_21))))))) [1] (Z.s (Z.r s11_22 [82] (Z.c 82 (Z.e s11_23) .skip)) [] (Z.e s11_24))))))
def c11:FC:=⟨83,a11.erase,[.tmp 2]⟩
theorem comp11:compF Tryz.prog Tryz.f11=some c11:=by kernel_rfl
theorem era11:c11.code=a11.erase:=rfl
def s12_0:=[zt 1 25 0,zh 2 0]
def s12_1:=[zc 10 0 1,zb 11 1 10,zu 12 11,zar 13 12 16,za 14 13,zp 15 1 1 14,zm 16 1 15 14,zao 17 16 14,zah 18 17 32 14,zk 19 14 18,za 20 19,zp 21 2 1 20,zm 22 1 21 20,zao 23 22 20,zah 24 23 32 20,zk 25 20 24,za 26 25,zp 27 3 1 26,zm 28 1 27 26,zao 29 28 26,zah 30 29 32 26,zk 31 26 30]
def s12_2:=[zh 2 2]
def s12_3:=[ze 32 4 1,zw 33 39 32,za 3 33]
def s12_4:=[za 34 3,zaf 35 34 0]
def s12_5:=[za 36 3,za 2 36]
def s12_6:=[ze 37 4 1,zw 38 40 37,za 4 38]
def s12_7:=[zc 39 1 1,zb 40 1 39,zu 41 40,zc 42 2 1,zb 43 1 42,zu 44 43,zap 45 41 44,za 5 45]
def s12_8:=[zh 6 0]
def s12_9:=[za 46 6,za 47 4,zu 48 47,zs 49 46 48]
def s12_10:=[za 52 4,za 53 6,zf 54 18 52 53,ze 55 18 54,zw 56 41 55,za 3 56]
def s12_11:=[za 57 3,zaf 58 57 0]
def s12_12:=[za 59 3,za 2 59]
def s12_13:=[za 60 6,zy 61 60 0,za 62 61,zv 63 6 62,zp 64 1 1 62,zm 65 1 64 62,zao 66 65 62,zch 67 63 66 62,zk 68 62 67,za 69 68,zv 70 6 69,zv 71 5 69,zch 72 70 71 69,zk 73 69 72,za 7 73]
def s12_14:=[za 74 7,zae 75 74,za 76 75,zl 77 4 76,zl 78 6 76,zad 79 18 77 78 76,zr 80 0 79 76,zj 81 1 80 76,zl 82 4 76,zl 83 6 76,zbh 84 83 1 76,zad 85 18 82 84 76,zr 86 0 85 76,zj 87 1 86 76,zci 88 81 87 76,zl 89 88 76,zv 90 6 89,zv 91 5 89,zby 92 90 91 89,zv 93 92 89,zl 94 4 93,zl 95 6 93,zad 96 18 94 95 93,zr 97 0 96 93,zj 98 1 97 93,zl 99 4 93,zl 100 6 93,zbh 101 100 1 93,zad 102 18 99 101 93,zr 103 0 102 93,zj 104 1 103 93,zaq 105 98 104 93,zas 106 93 105 89,zbl 107 89 106 76,zo 108 76 107]
def s12_15:=[zh 2 1]
def s12_16:=[zh 8 0]
def s12_17:=[za 109 8,za 110 6,zs 111 109 110]
def s12_18:=[za 114 4,za 115 8,zf 116 18 114 115,zc 117 0 116,zb 118 1 117,za 119 4,za 120 6,zf 121 18 119 120,zc 122 0 121,zb 123 1 122,zav 124 118 123,za 125 124,zl 126 4 125,zl 127 8 125,zad 128 18 126 127 125,zr 129 17 128 125,zj 130 1 129 125,zl 131 4 125,zl 132 6 125,zad 133 18 131 132 125,zr 134 17 133 125,zj 135 1 134 125,zaq 136 130 135 125,zo 137 125 136]
def s12_19:=[zh 2 121]
def s12_20:=[za 112 8,zn 113 112 1,za 8 113]
def s12_21:=[za 50 6,zn 51 50 1,za 6 51]
def s12_22:=[zh 9 0]
def s12_23:=[za 138 9,zc 139 1 1,zb 140 1 139,zu 141 140,zs 142 138 141]
def s12_24:=[ze 145 4 1,zc 146 1 1,zb 147 1 146,za 148 9,zf 149 18 147 148,ze 150 18 149,zq 151 42 145 150,za 3 151]
def s12_25:=[za 152 3,zaf 153 152 0]
def s12_26:=[za 154 3,za 2 154]
def s12_27:=[za 143 9,zn 144 143 1,za 9 144]
def s12_28:=[ze 155 4 1,zw 156 19 155,zu 157 156,zar 158 157 0]
def s12_29:=[zh 2 120]
def s12_30:=[zh 2 0]
def a12:AC:=Z.r s12_0 [1] (Z.s (Z.r s12_1 [1,31] (Z.c 31 (Z.e s12_2) .skip)) [1] (Z.r s12_3 [1,3] (Z.s (Z.r s12_4 [1,3,35] (Z.c 35 (Z.e s12_5) .skip)) [1] (Z.r s12_6 [1,4] (Z.r s12_7 [1,4,5] (Z.s (Z.r s12_8 [1,4,5,6] (Z.b 0 (Z.l [1,4,5,6] (Z.s (Z.r s12_9 [1,4,5,6,49] (Z.c 49 .skip (.exit 0))) [1,4,5,6] (Z.s (Z.b 1 (Z.r s12_10 [1,3,4,5,6] (Z.s (Z.r s12_11 [1,3,4,5,6,58] (Z.c 58 (Z.e s12_12) .skip)) [1,4,5,6] (Z.r s12_13 [1,4,5,6,7] (Z.s (Z.d s12_14 [1,4,5,6,108] (Z.c 108 (Z.e s12_15) .skip)) [1,4,5,6] (Z.r s12_16 [1,4,5,6,8] (Z.b 2 (Z.l [1,4,5,6,8] (Z.s (Z.r s12_17 [1,4,5,6,8,111] (Z.c 111 .skip (.exit 2))) [1,4,5,6,8] (Z.s (Z.b 3 (Z.d s12_18 [1,4,5,6,8,137] (Z.c 137 (Z.e s12_19) .skip))) [1,4,5,6,8] (Z.g s12_20))))))))))) [1,4,5,6] (Z.g s12_21)))))) [1] (Z.s (Z.r s12_22 [1,9] (Z.b 4 (Z.l [1,9] (Z.s (Z.r s12_23 [1,9,142] (Z.c 142 .skip (.exit 4))) [1,9] (Z.s (Z.b 5 (Z.d s12_24 [1,3,9] (Z.r s12_25 [1,3,9,153] (Z.c 153 (Z.e s12_26) .skip)))) [1,9] (Z.g s12_27)))))) [1] (Z.s (Z.r s12_28 [158] (Z.c 158 (Z.e s12_29) .skip)) [] (Z.e s12_30)))))))))
def c12:FC:=⟨159,a12.erase,[.tmp 2]⟩
theorem comp12:compF Tryz.prog Tryz.f12=some c12:=by kernel_rfl
theorem era12:c12.code=a12.erase:=rfl
def s13_0:=[zac 0]
def s13_1:=[zb0 9 1 1,zat 10 1 9,zab 1 37,zd 12 1 10]
def s13_2:=[q0 11 (.build [.int .i64 0,.int .i64 0,.string ⟨#[]⟩] [(0,1,ki 2)]),zat 12 1 11,zab 2 37,zd 12 2 12]
def s13_3:=[q0 13 (.build [.int .i64 0,.int .i64 0] [(0,1,ki 1)]),ze 14 12 1,ze 15 12 1,q0 16 (.mksl 37 12 [.tmp 14,.tmp 15]),q0 17 (.build [.int .i64 0,.string ⟨#[]⟩,.string ⟨#[]⟩,.string ⟨#[]⟩,.int .i64 0,.int .i64 0,.string ⟨#[]⟩,.slice none 0 0,.int .i64 0,.int .i64 0,.int .i64 0,.slice none 0 0] [(0,1,ki 5),(1,1,ks ⟨#[99,111,117,110,116]⟩),(3,1,ks ⟨#[99,108,105,99,107,115]⟩),(9,2,.tmp 13),(11,1,.tmp 16)]),zab 3 37,zd 12 3 17]
def s13_4:=[q0 18 (.build [.string ⟨#[]⟩,.string ⟨#[]⟩,.slice none 0 0,.int .i64 0] [(0,1,ks ⟨#[99,108,105,99,107,115]⟩),(1,1,ks ⟨#[117,115,101,114]⟩)]),q0 19 (.mksl 58 4 [.tmp 18]),q0 20 (.build [.slice none 0 0,.slice none 0 0,.slice none 0 0,.slice none 0 0] [(0,1,.tmp 19)]),q0 4 (.alloc 25 (.agg #[.slice none 0 0,.slice none 0 0,.slice none 0 0,.slice none 0 0])),zd 4 4 20]
def s13_5:=[ed 0 (ze 21 12 3) [],ed 1 (q0 22 (.call 43 [ks ⟨#[97]⟩,.tmp 21])) [],ed 2 (q0 23 (.call 44 [ks ⟨#[97]⟩])) [],ed 3 (q0 24 (.call 44 [ks ⟨#[99]⟩])) [],ed 4 (q0 25 (.mksl 37 12 [.tmp 23,.tmp 24])) [],ed 5 (zbf 26 7 25) [],ed 6 (q0 27 (.call 43 [ks ⟨#[98]⟩,.tmp 26])) [],ed 7 (q0 28 (.call 44 [ks ⟨#[97]⟩])) [],ed 8 (ze 29 12 2) [],ed 9 (q0 30 (.mksl 37 12 [.tmp 28,.tmp 29])) [],ed 10 (q0 31 (.build [.int .i64 0,.string ⟨#[]⟩,.string ⟨#[]⟩,.string ⟨#[]⟩,.int .i64 0,.int .i64 0,.string ⟨#[]⟩,.slice none 0 0,.int .i64 0,.int .i64 0,.int .i64 0,.slice none 0 0] [(0,1,ki 9),(11,1,.tmp 30)])) [],ed 11 (q0 32 (.call 43 [ks ⟨#[99]⟩,.tmp 31])) [],ed 12 (q0 33 (.mksl 49 18 [.tmp 22,.tmp 27,.tmp 32])) [],ed 13 (zc 34 1 4) [],ed 14 (zd 1 34 33) [4]]
def s13_6:=[ed 0 (zc 35 1 4) [],ed 1 (zb 36 1 35) [],ed 2 (q0 37 (.call 44 [ks ⟨#[107]⟩])) [],ed 3 (q0 38 (.mksl 37 12 [.tmp 37])) [],ed 4 (q0 39 (.build [.int .i64 0,.string ⟨#[]⟩,.string ⟨#[]⟩,.string ⟨#[]⟩,.int .i64 0,.int .i64 0,.string ⟨#[]⟩,.slice none 0 0,.int .i64 0,.int .i64 0,.int .i64 0,.slice none 0 0] [(0,1,ki 4),(2,1,ks ⟨#[101]⟩),(11,1,.tmp 38)])) [],ed 5 (q0 40 (.call 43 [ks ⟨#[100]⟩,.tmp 39])) [],ed 6 (q0 41 (.mksl 49 18 [.tmp 40])) [],ed 7 (zz 42 49 36 41) [],ed 8 (zc 43 1 4) [],ed 9 (zd 1 43 42) [4]]
def s13_7:=[ze 45 4 4,zc 46 1 4,zb 47 1 46,zal 48 18 47 1,zc 49 5 48,ze 50 12 49,zq 51 15 45 50,za 44 51,zi 52 44 0,zi 53 44 1,za 5 52,za 6 53]
def s13_8:=[ze 55 4 4,zc 56 1 4,zb 57 1 56,zal 58 18 57 3,zc 59 5 58,ze 60 12 59,zq 61 15 55 60,za 54 61,zi 62 54 0,zi 63 54 1,za 7 62,za 8 63]
def s13_9:=[za 64 5,q0 65 (.mksl 9 1 [ks ⟨#[97]⟩,ks ⟨#[99]⟩]),zq 66 17 64 65,zae 67 66,za 68 67,zv 69 6 68,q1 70 (.mksl 9 1 [ks ⟨#[99,108,105,99,107,115]⟩]) 68 false,za7 71 17 69 70 68,za4 72 71 68,zk 73 68 72,za 74 73,zv 75 7 74,q1 76 (.mksl 9 1 [ks ⟨#[101]⟩,ks ⟨#[107]⟩]) 74 false,za7 77 17 75 76 74,za4 78 77 74,zk 79 74 78,za 80 79,zv 81 8 80,zao 82 81 80,zbp 83 82 0 80,zk 84 80 83]
def s13_10:=[zac 0]
def s13_11:=[ze 85 4 4,zw 86 20 85,q0 87 (.mksl 9 1 [ks ⟨#[97]⟩,ks ⟨#[99]⟩,ks ⟨#[98]⟩,ks ⟨#[100]⟩]),zq 88 17 86 87,zae 89 88,za 90 89,za0 91 4 4 90,zaw 92 18 91 90,zao 93 92 90,zbp 94 93 0 90,zk 95 90 94,za 96 95,q1 97 (.build [.slice none 0 0,.slice none 0 0,.slice none 0 0,.slice none 0 0] []) 96 false,zaw 98 11 97 96,zbp 99 98 0 96,zk 100 96 99]
def s13_12:=[zac 0]
def s13_13:=[ed 0 (q0 101 (.call 44 [ks ⟨#[99]⟩])) [],ed 1 (ze 102 12 2) [],ed 2 (q0 103 (.mksl 37 12 [.tmp 101,.tmp 102])) [],ed 3 (zbf 104 7 103) [],ed 4 (q0 105 (.call 43 [ks ⟨#[97]⟩,.tmp 104])) [],ed 5 (q0 106 (.mksl 49 18 [.tmp 105])) [],ed 6 (zc 107 1 4) [],ed 7 (zb 108 1 107) [],ed 8 (q0 109 (.slice 18 (.tmp 108) (some (ki 1)) none)) [],ed 9 (zz 110 49 106 109) [],ed 10 (zc 111 1 4) [],ed 11 (zd 1 111 110) [4]]
def s13_14:=[ze 112 4 4,zw 113 18 112,q0 114 (.mksl 9 1 [ks ⟨#[97]⟩,ks ⟨#[99]⟩]),zq 115 17 113 114,za 116 115,zak 117 4 4 116,za5 118 20 117 116,q1 119 (.mksl 9 1 [ks ⟨#[100]⟩]) 116 true,zai 120 17 118 119 116,zo 121 116 120,za 0 121]
def a13:AC:=Z.r s13_0 [] (Z.r s13_1 [1] (Z.r s13_2 [1,2] (Z.r s13_3 [2,3] (Z.r s13_4 [2,3,4] (Z.s (.mreg [] s13_5) [2,4] (Z.s (.mreg [42] s13_6) [2,4] (Z.d s13_7 [2,4,5,6] (Z.d s13_8 [2,4,5,6,7,8] (Z.s (Z.r s13_9 [2,4,84] (Z.c 84 (Z.e s13_10) .skip)) [2,4] (Z.s (Z.r s13_11 [2,4,100] (Z.c 100 (Z.e s13_12) .skip)) [2,4] (Z.s (.mreg [110] s13_13) [4] (Z.e s13_14))))))))))))
def c13:FC:=⟨122,a13.erase,[.tmp 0]⟩
theorem comp13:compF Tryz.prog Tryz.f13=some c13:=by kernel_rfl
theorem era13:c13.code=a13.erase:=rfl
def s14_0:=[zt 2 37 0,zh 4 0]
def s14_1:=[zh 5 1]
def s14_2:=[zh 6 0]
def s14_3:=[za 7 6,zc 8 11 2,zb 9 1 8,zu 10 9,zs 11 7 10,za 12 11,zl 13 5 12,zl 14 1 12,zbz 15 13 14 12,zo 16 12 15]
def s14_4:=[za 19 5,zc 20 11 2,zb 21 1 20,za 22 6,zf 23 12 21 22,ze 24 12 23,za 25 1,za 26 5,za6 27 25 26,zq 28 14 24 27,zap 29 19 28,za 5 29]
def s14_5:=[za 17 6,zn 18 17 1,za 6 18]
def s14_6:=[za 30 5,za 4 30]
def a14:AC:=Z.r s14_0 [1,2] (Z.r s14_1 [1,2,5] (Z.s (Z.r s14_2 [1,2,5,6] (Z.b 0 (Z.l [1,2,5,6] (Z.s (Z.r s14_3 [1,2,5,6,16] (Z.c 16 .skip (.exit 0))) [1,2,5,6] (Z.s (Z.b 1 (Z.g s14_4)) [1,2,5,6] (Z.g s14_5)))))) [5] (Z.e s14_6)))
def c14:FC:=⟨31,a14.erase,[.tmp 4]⟩
theorem comp14:compF Tryz.prog Tryz.f14=some c14:=by kernel_rfl
theorem era14:c14.code=a14.erase:=rfl
def s17_0:=[zac 4]
def s17_1:=[za 6 0,zu 7 6,za 8 1,zu 9 8,zay 10 7 9]
def s17_2:=[zac 4]
def s17_3:=[zh 5 0]
def s17_4:=[za 11 5,za 12 0,zu 13 12,zs 14 11 13]
def s17_5:=[za 17 0,za 18 5,zf 19 1 17 18,zb 20 1 19,za 21 1,za 22 5,zf 23 1 21 22,zb 24 1 23,zay 25 20 24]
def s17_6:=[zac 4]
def s17_7:=[za 15 5,zn 16 15 1,za 5 16]
def s17_8:=[zbc 4]
def a17:AC:=Z.r s17_0 [0,1] (Z.s (Z.r s17_1 [0,1,10] (Z.c 10 (Z.e s17_2) .skip)) [0,1] (Z.s (Z.r s17_3 [0,1,5] (Z.b 0 (Z.l [0,1,5] (Z.s (Z.r s17_4 [0,1,5,14] (Z.c 14 .skip (.exit 0))) [0,1,5] (Z.s (Z.b 1 (Z.d s17_5 [0,1,5,25] (Z.c 25 (Z.e s17_6) .skip))) [0,1,5] (Z.g s17_7)))))) [] (Z.e s17_8)))
def c17:FC:=⟨26,a17.erase,[.tmp 4]⟩
theorem comp17:compF Tryz.prog Tryz.f17=some c17:=by kernel_rfl
theorem era17:c17.code=a17.erase:=rfl
def s19_0:=[zt 1 25 0,zx 2]
def s19_1:=[ze 15 4 1,zw 16 51 15,za 14 16,zi 17 14 0,zi 18 14 1,za 3 17,za 4 18]
def s19_2:=[zbw 5]
def s19_3:=[zh 6 1000]
def s19_4:=[zh 7 0]
def s19_5:=[za 19 7,za 20 3,zu 21 20,zs 22 19 21]
def s19_6:=[za 25 4,za 26 7,zq 27 52 25 26,za 28 7,zf 29 1 27 28,zb 30 1 29,za 8 30]
def s19_7:=[za 31 8,za 32 6,zs 33 31 32]
def s19_8:=[za 34 8,za 6 34]
def s19_9:=[za 35 7,za 5 35]
def s19_10:=[za 23 7,zn 24 23 1,za 7 24]
def s19_11:=[za 36 5,zau 37 36 0]
def s19_12:=[zx 2]
def s19_13:=[za 38 4,za 39 5,zq 40 52 38 39,za 9 40]
def s19_14:=[za 41 3,za 42 5,zf 43 1 41 42,zb 44 1 43,zbd 45 9 44,za 10 45]
def s19_15:=[za 46 5,za 11 46]
def s19_16:=[za 47 6,zag 48 47 1,za 12 48]
def s19_17:=[za 49 12,zar 50 49 0]
def s19_18:=[zh 13 0]
def s19_19:=[za 53 9,za 54 4,za 55 11,zf 56 1 54 55,zb 57 1 56,za 58 13,zf 59 1 57 58,zb 60 1 59,zf 61 1 53 60,zb 62 1 61,za 63 12,zay 64 62 63]
def s19_20:=[za 65 13,zn 66 65 1,za 13 66]
def s19_21:=[za 67 4,za 68 11,zf 69 1 67 68,zb 70 1 69,za 71 13,zf 72 1 70 71,zb 73 1 72,za 11 73]
def s19_22:=[za 74 10,za 75 3,za 76 11,zf 77 1 75 76,zb 78 1 77,zbd 79 9 78,za1 80 9 74 79,za 10 80]
def s19_23:=[za 51 12,zag 52 51 1,za 12 52]
def s19_24:=[za 81 10,za 2 81]
def a19:AC:=Z.r s19_0 [1] (Z.r s19_1 [3,4] (Z.r s19_2 [3,4,5] (Z.r s19_3 [3,4,5,6] (Z.s (Z.r s19_4 [3,4,5,6,7] (Z.b 0 (Z.l [3,4,5,6,7] (Z.s (Z.r s19_5 [3,4,5,6,7,22] (Z.c 22 .skip (.exit 0))) [3,4,5,6,7] (Z.s (Z.b 1 (Z.r s19_6 [3,4,5,6,7,8] (Z.r s19_7 [3,4,5,6,7,8,33] (Z.c 33 (Z.r s19_8 [3,4,6,7] (Z.g s19_9)) .skip)))) [3,4,5,6,7] (Z.g s19_10)))))) [3,4,5,6] (Z.s (Z.r s19_11 [3,4,5,6,37] (Z.c 37 (Z.e s19_12) .skip)) [3,4,5,6] (Z.r s19_13 [3,4,5,6,9] (Z.r s19_14 [3,4,5,6,9,10] (Z.r s19_15 [3,4,6,9,10,11] (Z.s (Z.r s19_16 [3,4,9,10,11,12] (Z.b 2 (Z.l [3,4,9,10,11,12] (Z.s (Z.r s19_17 [3,4,9,10,11,12,50] (Z.c 50 .skip (.exit 2))) [3,4,9,10,11,12] (Z.s (Z.b 3 (Z.r s19_18 [3,4,9,10,11,12,13] (Z.s (Z.b 4 (Z.l [3,4,9,10,11,12,13] (Z.s (Z.r s19_19 [3,4,9,10,11,12,13,64] (Z.c 64 .skip (.exit 4))) [3,4,9,10,11,12,13] (Z.b 5 (Z.g s19_20))))) [3,4,9,10,11,12,13] (Z.r s19_21 [3,4,9,10,11,12] (Z.g s19_22))))) [3,4,9,10,11,12] (Z.g s19_23)))))) [10] (Z.e s19_24))))))))))
def c19:FC:=⟨82,a19.erase,[.tmp 2]⟩
theorem comp19:compF Tryz.prog Tryz.f19=some c19:=by kernel_rfl
theorem era19:c19.code=a19.erase:=rfl
def s22_0:=[zt 3 37 0,zx 6,zx 7]
def s22_1:=[zc 9 0 3,zb 10 1 9,zy 11 10 3,za 12 11,zp 13 0 3 12,zm 14 1 13 12,za8 15 14 4 12,zk 16 12 15]
def s22_2:=[za 17 1,zc 18 2 3,zb 19 1 18,zq 20 54 17 19,za 1 20]
def s22_3:=[zc 21 0 3,zb 22 1 21,zy 23 22 5]
def s22_4:=[za 24 2,zc 25 3 3,zb 26 1 25,zq 27 54 24 26,za 2 27]
def s22_5:=[zh 8 0]
def s22_6:=[za 28 8,zc 29 11 3,zb 30 1 29,zu 31 30,zs 32 28 31]
def s22_7:=[zc 36 11 3,zb 37 1 36,za 38 8,zf 39 12 37 38,ze 40 12 39,za 41 1,za 42 2,zan 43 22 40 41 42,za 35 43,zi 44 35 0,zi 45 35 1,za 1 44,za 2 45]
def s22_8:=[za 33 8,zn 34 33 1,za 8 34]
def s22_9:=[za 46 1,za 47 2,za 6 46,za 7 47]
def a22:AC:=Z.r s22_0 [1,2,3] (Z.s (Z.r s22_1 [1,2,3,16] (Z.c 16 (Z.g s22_2) .skip)) [1,2,3] (Z.s (Z.r s22_3 [1,2,3,23] (Z.c 23 (Z.g s22_4) .skip)) [1,2,3] (Z.s (Z.r s22_5 [1,2,3,8] (Z.b 0 (Z.l [1,2,3,8] (Z.s (Z.r s22_6 [1,2,3,8,32] (Z.c 32 .skip (.exit 0))) [1,2,3,8] (Z.s (Z.b 1 (Z.g s22_7)) [1,2,3,8] (Z.g s22_8)))))) [1,2] (Z.e s22_9))))
def c22:FC:=⟨48,a22.erase,[.tmp 6,.tmp 7]⟩
theorem comp22:compF Tryz.prog Tryz.f22=some c22:=by kernel_rfl
theorem era22:c22.code=a22.erase:=rfl
def s23_0:=[zac 4]
def s23_1:=[zh 5 0]
def s23_2:=[za 6 5,za 7 0,zu 8 7,zs 9 6 8]
def s23_3:=[za 12 1,za 13 0,za 14 5,zf 15 1 13 14,zb 16 1 15,zq 17 25 12 16,zae 18 17]
def s23_4:=[zac 4]
def s23_5:=[za 10 5,zn 11 10 1,za 5 11]
def s23_6:=[zbc 4]
def a23:AC:=Z.r s23_0 [0,1] (Z.s (Z.r s23_1 [0,1,5] (Z.b 0 (Z.l [0,1,5] (Z.s (Z.r s23_2 [0,1,5,9] (Z.c 9 .skip (.exit 0))) [0,1,5] (Z.s (Z.b 1 (Z.r s23_3 [0,1,5,18] (Z.c 18 (Z.e s23_4) .skip))) [0,1,5] (Z.g s23_5)))))) [] (Z.e s23_6))
def s24_0:=[zt 2 25 0,zg 4 49,zac 5]
def s24_1:=[zc 6 1 2,zb 7 1 6,za 8 1,zq 9 55 7 8,zi 10 9 0,zi 11 9 1,zd 18 4 10,za 5 11]
def a24:AC:=Z.r s24_0 [1,2,4] (Z.e s24_1)
def c24:FC:=⟨12,a24.erase,[.cell 4 true 18,.tmp 5]⟩
theorem comp24:compF Tryz.prog Tryz.f24=some c24:=by kernel_rfl
theorem era24:c24.code=a24.erase:=rfl
def s25_0:=[zac 4]
def s25_1:=[zh 5 0]
def s25_2:=[za 6 5,za 7 0,zu 8 7,zs 9 6 8]
def s25_3:=[za 12 0,za 13 5,zf 14 1 12 13,zb 15 1 14,za 16 1,zav 17 15 16]
def s25_4:=[zbc 4]
def s25_5:=[za 10 5,zn 11 10 1,za 5 11]
def s25_6:=[zac 4]
def a25:AC:=Z.r s25_0 [0,1] (Z.s (Z.r s25_1 [0,1,5] (Z.b 0 (Z.l [0,1,5] (Z.s (Z.r s25_2 [0,1,5,9] (Z.c 9 .skip (.exit 0))) [0,1,5] (Z.s (Z.b 1 (Z.r s25_3 [0,1,5,17] (Z.c 17 (Z.e s25_4) .skip))) [0,1,5] (Z.g s25_5)))))) [] (Z.e s25_6))
def c25:FC:=⟨18,a25.erase,[.tmp 4]⟩
theorem comp25:compF Tryz.prog Tryz.f25=some c25:=by kernel_rfl
theorem era25:c25.code=a25.erase:=rfl
def s26_0:=[zt 1 25 0,zx 2]
def s26_1:=[zx 3]
def s26_2:=[zh 4 0]
def s26_3:=[za 5 4,zc 6 1 1,zb 7 1 6,zu 8 7,zs 9 5 8]
def s26_4:=[za 12 3,zc 13 1 1,zb 14 1 13,za 15 4,zf 16 18 14 15,zc 17 0 16,zb 18 1 17,zq 19 54 12 18,za 3 19]
def s26_5:=[za 10 4,zn 11 10 1,za 4 11]
def s26_6:=[za 20 3,za 2 20]
def a26:AC:=Z.r s26_0 [1] (Z.r s26_1 [1,3] (Z.s (Z.r s26_2 [1,3,4] (Z.b 0 (Z.l [1,3,4] (Z.s (Z.r s26_3 [1,3,4,9] (Z.c 9 .skip (.exit 0))) [1,3,4] (Z.s (Z.b 1 (Z.g s26_4)) [1,3,4] (Z.g s26_5)))))) [3] (Z.e s26_6)))
def c26:FC:=⟨21,a26.erase,[.tmp 2]⟩
theorem comp26:compF Tryz.prog Tryz.f26=some c26:=by kernel_rfl
theorem era26:c26.code=a26.erase:=rfl
def s27_0:=[zt 3 25 0,zt 5 37 2,zaa 6 47,zh 7 0]
def s27_1:=[ze 9 12 5,zw 10 56 9,za 8 10]
def s27_2:=[za 11 8,zaf 12 11 0]
def s27_3:=[za 13 8,zw 14 57 13,zi 15 14 0,zi 16 14 1,zd 3 6 15,za 7 16]
def s27_4:=[ze 17 4 3,za 18 1,q0 19 (.build [.slice none 0 0,.slice none 0 0,.slice none 0 0,.slice none 0 0,.string ⟨#[]⟩,.nilFunc] [(0,4,.tmp 17),(4,1,.tmp 18)]),ze 20 12 5,zq 21 58 19 20,zi 22 21 0,zi 23 21 1,zd 3 6 22,za 7 23]
def a27:AC:=Z.r s27_0 [1,3,5,6] (Z.s (Z.r s27_1 [1,3,5,6,8] (Z.r s27_2 [1,3,5,6,8,12] (Z.c 12 (Z.e s27_3) .skip))) [1,3,5,6] (Z.e s27_4))
def c27:FC:=⟨24,a27.erase,[.cell 6 true 3,.tmp 7]⟩
theorem comp27:compF Tryz.prog Tryz.f27=some c27:=by kernel_rfl
theorem era27:c27.code=a27.erase:=rfl
def s28_0:=[zt 2 47 0,zt 3 47 1,zac 4]
def s28_1:=[zc 5 0 2,zb 6 1 5,zc 7 0 3,zb 8 1 7,zav 9 6 8,za 10 9,zr 11 2 2 10,zj 12 1 11 10,zr 13 2 3 10,zj 14 1 13 10,zaq 15 12 14 10,zo 16 10 15,za 17 16,zr 18 1 2 17,zj 19 1 18 17,zr 20 1 3 17,zj 21 1 20 17,zai 22 59 19 21 17,zo 23 17 22,za 4 23]
def a28:AC:=Z.r s28_0 [2,3] (Z.e s28_1)
def s29_0:=[zt 2 25 0,zaz 4 58,zac 5]
def s29_1:=[zc 8 0 2,zb 9 1 8,zu 10 9,zh 11 0]
def s29_2:=[zs 12 11 10]
def s29_3:=[zf 13 4 9 11,ze 14 4 13,zaz 7 58,zd 4 7 14]
def s29_4:=[zc 15 0 7,zb 16 1 15,za 17 1,zav 18 16 17]
def s29_5:=[ze 19 4 7,zd 4 4 19,zbc 5]
def s29_6:=[zn 20 11 1,za 11 20]
def s29_7:=[zct 21,zd 4 4 21,zac 5]
def a29:AC:=Z.r s29_0 [1,2,4] (Z.s (Z.r s29_1 [1,4,9,10,11] (Z.b 0 (Z.l [1,4,9,10,11] (Z.r s29_2 [1,4,9,10,11,12] (Z.s (Z.c 12 .skip (.exit 0)) [1,4,9,10,11] (Z.s (Z.b 1 (Z.r s29_3 [1,4,7,9,10,11] (Z.r s29_4 [1,4,7,9,10,11,18] (Z.c 18 (Z.e s29_5) .skip)))) [1,4,9,10,11] (Z.g s29_6))))))) [4] (Z.e s29_7))
def s31_0:=[zt 2 25 0,zg 4 49,zac 5]
def s31_1:=[zc 6 1 2,zb 7 1 6,za 8 1,zq 9 60 7 8,zi 10 9 0,zi 11 9 1,zd 18 4 10,za 5 11]
def a31:AC:=Z.r s31_0 [1,2,4] (Z.e s31_1)
def c31:FC:=⟨12,a31.erase,[.cell 4 true 18,.tmp 5]⟩
theorem comp31:compF Tryz.prog Tryz.f31=some c31:=by kernel_rfl
theorem era31:c31.code=a31.erase:=rfl
def s32_0:=[zt 2 25 0,zg 4 49,zac 5]
def s32_1:=[zc 6 2 2,zb 7 1 6,za 8 1,zq 9 55 7 8,zi 10 9 0,zi 11 9 1,zd 18 4 10,za 5 11]
def a32:AC:=Z.r s32_0 [1,2,4] (Z.e s32_1)
def s33_0:=[zt 2 25 0,zg 4 49,zac 5]
def s33_1:=[zc 6 2 2,zb 7 1 6,za 8 1,zq 9 60 7 8,zi 10 9 0,zi 11 9 1,zd 18 4 10,za 5 11]
def a33:AC:=Z.r s33_0 [1,2,4] (Z.e s33_1)
def s35_0:=[zt 2 49 0,zt 3 49 1,zac 4]
def s35_1:=[zc 7 2 2,ze 8 3 7,zc 9 2 3,ze 10 3 9,zq 11 28 8 10,za 5 11]
def s35_2:=[zc 12 5 2,ze 13 12 12,zc 14 5 3,ze 15 12 14,zq 16 61 13 15,za 6 16]
def s35_3:=[za 17 5,za 18 17,zl 19 6 18,zo 20 18 19,za 21 20,zr 22 0 2 21,zj 23 1 22 21,zr 24 0 3 21,zj 25 1 24 21,zaq 26 23 25 21,zo 27 21 26,za 28 27,zr 29 1 2 28,zj 30 1 29 28,zr 31 1 3 28,zj 32 1 31 28,zaq 33 30 32 28,zo 34 28 33,za 35 34,zr 36 17 2 35,zj 37 1 36 35,zr 38 17 3 35,zj 39 1 38 35,zaq 40 37 39 35,zo 41 35 40,za 4 41]
def a35:AC:=Z.r s35_0 [2,3] (Z.r s35_1 [2,3,5] (Z.r s35_2 [2,3,5,6] (Z.e s35_3)))
def s36_0:=[zt 1 58 0,zh 2 0]
def s36_1:=[zc 6 0 1,zb 7 1 6,zw 8 62 7,zae 9 8,za 10 9,zp 11 1 1 10,zm 12 1 11 10,zaw 13 62 12 10,za4 14 13 10,zk 15 10 14,za 16 15,zp 17 3 1 16,zm 18 1 17 16,zbj 19 18 0 16,zk 20 16 19,za 21 20,zp 22 3 1 21,zm 23 1 22 21,zah 24 23 1099511627776 21,zk 25 21 24]
def s36_2:=[zh 2 3]
def s36_3:=[zc 26 2 1,zb 27 1 26,zu 28 27,zar 29 28 8]
def s36_4:=[zh 2 2]
def s36_5:=[zc 30 2 1,zb 31 1 30,zu 32 31,zh 33 0]
def s36_6:=[zs 34 33 32]
def s36_7:=[za 35 33,zf 36 4 31 33,ze 37 4 36,q0 4 (.alloc 96 (.agg #[.string ⟨#[]⟩,.int .i64 0,.slice none 0 0,.string ⟨#[]⟩])),za 3 35,zd 4 4 37]
def s36_8:=[zc 38 0 4,zb 39 1 38,zw 40 62 39,zae 41 40]
def s36_9:=[zh 2 3]
def s36_10:=[zc 42 2 1,zb 43 1 42,za 44 3,q0 45 (.slice 4 (.tmp 43) none (some (.tmp 44))),q0 46 (.mkfn (Fn.func 64) [] [.tmp 4]),zq 47 63 45 46]
def s36_11:=[zh 2 121]
def s36_12:=[zc 48 1 4,ze 49 3 48,zw 50 65 49,za 5 50]
def s36_13:=[za 51 5,zaf 52 51 0]
def s36_14:=[za 53 5,za 2 53]
def s36_15:=[zn 54 33 1,za 33 54]
def s36_16:=[zh 2 0]
def a36:AC:=Z.r s36_0 [1] (Z.s (Z.r s36_1 [1,25] (Z.c 25 (Z.e s36_2) .skip)) [1] (Z.s (Z.r s36_3 [1,29] (Z.c 29 (Z.e s36_4) .skip)) [1] (Z.s (Z.r s36_5 [1,31,32,33] (Z.b 0 (Z.l [1,31,32,33] (Z.r s36_6 [1,31,32,33,34] (Z.s (Z.c 34 .skip (.exit 0)) [1,31,32,33] (Z.s (Z.b 1 (Z.r s36_7 [1,3,4,31,32,33] (Z.s (Z.r s36_8 [1,3,4,31,32,33,41] (Z.c 41 (Z.e s36_9) .skip)) [1,3,4,31,32,33] (Z.s (Z.r s36_10 [1,4,31,32,33,47] (Z.c 47 (Z.e s36_11) .skip)) [1,4,31,32,33] (Z.r s36_12 [1,5,31,32,33] (Z.r s36_13 [1,5,31,32,33,52] (Z.c 52 (Z.e s36_14) .skip))))))) [1,31,32,33] (Z.g s36_15))))))) [] (Z.e s36_16))))
def c36:FC:=⟨55,a36.erase,[.tmp 2]⟩
theorem comp36:compF Tryz.prog Tryz.f36=some c36:=by kernel_rfl
theorem era36:c36.code=a36.erase:=rfl
def s37_0:=[zt 1 25 0,zh 2 0]
def s37_1:=[q0 11 (.exts (.makeMap 102 none) 102 [] []),za 3 11]
def s37_2:=[zc 12 1 1,zb 13 1 12,zc 14 2 1,zb 15 1 14,zc 16 3 1,zb 17 1 16,q0 18 (.mksl 23 1 [.tmp 13,.tmp 15,.tmp 17]),zu 19 18,zh 20 0]
def s37_3:=[zs 21 20 19]
def s37_4:=[za 22 20,zf 23 1 18 20,zb 24 1 23,za 4 22,za 5 24]
def s37_5:=[za 25 5,zu 26 25,zh 27 0]
def s37_6:=[zs 28 27 26]
def s37_7:=[za 29 27,zf 30 18 25 27,ze 31 18 30,zg 7 49,za 6 29,zd 18 7 31]
def s37_8:=[zc 32 0 7,zb 33 1 32,zw 34 62 33,zae 35 34,za 36 35,zp 37 1 7 36,zm 38 1 37 36,zaw 39 62 38 36,za4 40 39 36,zk 41 36 40,za 42 41,zp 43 17 7 42,zm 44 1 43 42,zbj 45 44 1 42,zk 46 42 45,za 47 46,zp 48 17 7 47,zm 49 1 48 47,zah 50 49 1099511627776 47,zk 51 47 50]
def s37_9:=[zh 2 1]
def s37_10:=[zc 52 2 7,ze 53 3 52,zw 54 65 53,za 8 54]
def s37_11:=[za 55 8,zaf 56 55 0]
def s37_12:=[za 57 8,za 2 57]
def s37_13:=[zc 58 5 7,ze 59 12 58,zw 60 56 59,za 9 60]
def s37_14:=[za 61 9,zaf 62 61 0]
def s37_15:=[za 63 9,za 2 63]
def s37_16:=[za 64 6,zar 65 64 0,za 66 65,zr 67 0 7 66,zj 68 1 67 66,zl 69 5 66,zl 70 6 66,zbh 71 70 1 66,zad 72 18 69 71 66,zr 73 0 72 66,zj 74 1 73 66,zci 75 68 74 66,zl 76 75 66,zv 77 4 76,zbj 78 77 2 76,zv 79 78 76,zr 80 0 7 79,zj 81 1 80 79,zl 82 5 79,zl 83 6 79,zbh 84 83 1 79,zad 85 18 82 84 79,zr 86 0 85 79,zj 87 1 86 79,zaq 88 81 87 79,zas 89 79 88 76,zbl 90 76 89 66,zo 91 66 90]
def s37_17:=[zh 2 1]
def s37_18:=[zc 92 0 7,zb 93 1 92,zc 94 17 7,zb 95 1 94,zbn 96 93 95,zcb 10 105,zd 2 10 96]
def s37_19:=[za 97 3,ze 98 2 10,q0 99 (.extq (.lookup 102 (.tmp 97) (.tmp 98) false) 4 [.mp 105 4,.other] [.tmp 97,.tmp 98])]
def s37_20:=[zh 2 121]
def s37_21:=[za 100 3,ze 101 2 10,.mk none (.exts (.mapUpdate 102 (.tmp 100) (.tmp 101) kT) 0 [.mp 105 4,.other] [.tmp 100,.tmp 101,kT]) none]
def s37_22:=[zn 102 27 1,za 27 102]
def s37_23:=[zn 103 20 1,za 20 103]
def s37_24:=[zh 2 0]
def a37:AC:=Z.r s37_0 [1] (Z.r s37_1 [1,3] (Z.s (Z.r s37_2 [3,18,19,20] (Z.b 0 (Z.l [3,18,19,20] (Z.r s37_3 [3,18,19,20,21] (Z.s (Z.c 21 .skip (.exit 0)) [3,18,19,20] (Z.s (Z.b 1 (Z.r s37_4 [3,4,5,18,19,20] (Z.r s37_5 [3,4,5,18,19,20,25,26,27] (Z.b 2 (Z.l [3,4,5,18,19,20,25,26,27] (Z.r s37_6 [3,4,5,18,19,20,25,26,27,28] (Z.s (Z.c 28 .skip (.exit 2)) [3,4,5,18,19,20,25,26,27] (Z.s (Z.b 3 (Z.r s37_7 [3,4,5,6,7,18,19,20,25,26,27] (Z.s (Z.r s37_8 [3,4,5,6,7,18,19,20,25,26,27,51] (Z.c 51 (Z.e s37_9) .skip)) [3,4,5,6,7,18,19,20,25,26,27] (Z.s (Z.r s37_10 [3,4,5,6,7,8,18,19,20,25,26,27] (Z.r s37_11 [3,4,5,6,7,8,18,19,20,25,26,27,56] (Z.c 56 (Z.e s37_12) .skip))) [3,4,5,6,7,18,19,20,25,26,27] (Z.s (Z.r s37_13 [3,4,5,6,7,9,18,19,20,25,26,27] (Z.r s37_14 [3,4,5,6,7,9,18,19,20,25,26,27,62] (Z.c 62 (Z.e s37_15) .skip))) [3,4,5,6,7,18,19,20,25,26,27] (Z.s (Z.d s37_16 [3,4,5,7,18,19,20,25,26,27,91] (Z.c 91 (Z.e s37_17) .skip)) [3,4,5,7,18,19,20,25,26,27] (Z.r s37_18 [3,4,5,10,18,19,20,25,26,27] (Z.s (Z.r s37_19 [3,4,5,10,18,19,20,25,26,27,99] (Z.c 99 (Z.e s37_20) .skip)) [3,4,5,10,18,19,20,25,26,27] (Z.g s37_21))))))))) [3,4,5,18,19,20,25,26,27] (Z.g s37_22))))))))) [3,18,19,20] (Z.g s37_23))))))) [] (Z.e s37_24)))
def c37:FC:=⟨104,a37.erase,[.tmp 2]⟩
theorem comp37:compF Tryz.prog Tryz.f37=some c37:=by kernel_rfl
theorem era37:c37.code=a37.erase:=rfl
def s38_0:=[zt 2 25 0,zt 3 49 1,zh 4 0]
def s38_1:=[zc 7 0 3,zb 8 1 7,zw 9 62 8,zae 10 9,za 11 10,zp 12 1 3 11,zm 13 1 12 11,zaw 14 62 13 11,za4 15 14 11,zk 16 11 15,za 17 16,zp 18 17 3 17,zm 19 1 18 17,zbj 20 19 0 17,zk 21 17 20]
def s38_2:=[zh 4 3]
def s38_3:=[zc 22 2 3,ze 23 3 22,zw 24 65 23,za 5 24]
def s38_4:=[za 25 5,zaf 26 25 0]
def s38_5:=[za 27 5,za 4 27]
def s38_6:=[ze 29 4 2,zc 30 1 3,zb 31 1 30,zc 32 5 3,ze 33 12 32,zan 34 27 29 31 33,za 28 34,zi 35 28 0,zi 36 28 1,zaa 6 47,zd 3 6 35,za 4 36]
def s38_7:=[za 37 4,zaf 38 37 0]
def s38_8:=[za 39 4,za 4 39]
def s38_9:=[ze 41 3 6,zc 42 2 3,ze 43 3 42,zq 44 66 41 43,za 40 44,zi 45 40 0,zi 46 40 1,za 4 46]
def s38_10:=[za 47 4,za 4 47]
def a38:AC:=Z.r s38_0 [2,3] (Z.s (Z.r s38_1 [2,3,21] (Z.c 21 (Z.e s38_2) .skip)) [2,3] (Z.s (Z.r s38_3 [2,3,5] (Z.r s38_4 [2,3,5,26] (Z.c 26 (Z.e s38_5) .skip))) [2,3] (Z.r s38_6 [3,4,6] (Z.s (Z.r s38_7 [3,4,6,38] (Z.c 38 (Z.e s38_8) .skip)) [3,6] (Z.r s38_9 [4] (Z.e s38_10))))))
def c38:FC:=⟨48,a38.erase,[.tmp 4]⟩
theorem comp38:compF Tryz.prog Tryz.f38=some c38:=by kernel_rfl
theorem era38:c38.code=a38.erase:=rfl
def s39_0:=[zt 1 25 0,zh 2 0]
def s39_1:=[zh 3 0]
def s39_2:=[za 5 3,zc 6 0 1,zb 7 1 6,zu 8 7,zs 9 5 8]
def s39_3:=[zc 12 0 1,zb 13 1 12,za 14 3,zf 15 4 13 14,ze 16 4 15,zw 17 67 16,za 4 17]
def s39_4:=[za 18 4,zaf 19 18 0]
def s39_5:=[za 20 4,za 2 20]
def s39_6:=[za 21 3,zar 22 21 0,za 23 22,zr 24 0 1 23,zj 25 1 24 23,zl 26 3 23,zad 27 4 25 26 23,zr 28 0 27 23,zj 29 1 28 23,zr 30 0 1 23,zj 31 1 30 23,zl 32 3 23,zbh 33 32 1 23,zad 34 4 31 33 23,zr 35 0 34 23,zj 36 1 35 23,zbz 37 29 36 23,zo 38 23 37]
def s39_7:=[zh 2 1]
def s39_8:=[za 10 3,zn 11 10 1,za 3 11]
def s39_9:=[zh 2 0]
def a39:AC:=Z.r s39_0 [1] (Z.s (Z.r s39_1 [1,3] (Z.b 0 (Z.l [1,3] (Z.s (Z.r s39_2 [1,3,9] (Z.c 9 .skip (.exit 0))) [1,3] (Z.s (Z.b 1 (Z.r s39_3 [1,3,4] (Z.s (Z.r s39_4 [1,3,4,19] (Z.c 19 (Z.e s39_5) .skip)) [1,3] (Z.d s39_6 [1,3,38] (Z.c 38 (Z.e s39_7) .skip))))) [1,3] (Z.g s39_8)))))) [] (Z.e s39_9))
def c39:FC:=⟨39,a39.erase,[.tmp 2]⟩
theorem comp39:compF Tryz.prog Tryz.f39=some c39:=by kernel_rfl
theorem era39:c39.code=a39.erase:=rfl
def s40_0:=[zt 1 25 0,zx 2]
def s40_1:=[q0 4 (.mksl 49 18 []),zc 5 1 1,zb 6 1 5,zz 7 49 4 6,za 3 7]
def s40_2:=[za 8 3,zc 9 2 1,zb 10 1 9,zz 11 49 8 10,za 3 11]
def s40_3:=[za 12 3,zc 13 3 1,zb 14 1 13,zz 15 49 12 14,za 2 15]
def a40:AC:=Z.r s40_0 [1] (Z.r s40_1 [1,3] (Z.r s40_2 [1,3] (Z.e s40_3)))
def c40:FC:=⟨16,a40.erase,[.tmp 2]⟩
theorem comp40:compF Tryz.prog Tryz.f40=some c40:=by kernel_rfl
theorem era40:c40.code=a40.erase:=rfl
def s41_0:=[zt 1 49 0,zh 2 0]
def s41_1:=[zc 5 0 1,zb 6 1 5,zw 7 68 6,za 8 7,zr 9 1 1 8,zj 10 1 9 8,za5 11 68 10 8,zo 12 8 11,za 3 12]
def s41_2:=[za 13 3,zae 14 13,za 15 14,zp 16 17 1 15,zm 17 1 16 15,zbj 18 17 1 15,zk 19 15 18,za 20 19,zp 21 17 1 20,zm 22 1 21 20,zah 23 22 1099511627776 20,zk 24 20 23]
def s41_3:=[zh 2 1]
def s41_4:=[zc 25 2 1,ze 26 3 25,zw 27 69 26,za 4 27]
def s41_5:=[za 28 4,zaf 29 28 0]
def s41_6:=[za 30 4,za 2 30]
def s41_7:=[zc 31 5 1,ze 32 12 31,zw 33 70 32,za 2 33]
def a41:AC:=Z.r s41_0 [1] (Z.r s41_1 [1,3] (Z.s (Z.r s41_2 [1,24] (Z.c 24 (Z.e s41_3) .skip)) [1] (Z.r s41_4 [1,4] (Z.s (Z.r s41_5 [1,4,29] (Z.c 29 (Z.e s41_6) .skip)) [1] (Z.e s41_7)))))
def c41:FC:=⟨34,a41.erase,[.tmp 2]⟩
theorem comp41:compF Tryz.prog Tryz.f41=some c41:=by kernel_rfl
theorem era41:c41.code=a41.erase:=rfl
def s42_0:=[zt 2 25 0,zt 3 49 1,zh 4 0]
def s42_1:=[zc 7 0 3,zb 8 1 7,zw 9 68 8,zae 10 9,za 11 10,zp 12 1 3 11,zm 13 1 12 11,zaw 14 68 13 11,za4 15 14 11,zk 16 11 15,za 17 16,zp 18 17 3 17,zm 19 1 18 17,zbj 20 19 0 17,zk 21 17 20]
def s42_2:=[zh 4 3]
def s42_3:=[zc 22 2 3,ze 23 3 22,zw 24 69 23,za 5 24]
def s42_4:=[za 25 5,zaf 26 25 0]
def s42_5:=[za 27 5,za 4 27]
def s42_6:=[ze 29 4 2,zc 30 1 3,zb 31 1 30,zc 32 5 3,ze 33 12 32,zan 34 71 29 31 33,za 28 34,zi 35 28 0,zi 36 28 1,zaa 6 47,zd 3 6 35,za 5 36]
def s42_7:=[za 37 5,zaf 38 37 0]
def s42_8:=[za 39 5,za 4 39]
def s42_9:=[ze 40 3 6,zc 41 2 3,ze 42 3 41,zq 43 72 40 42,za 4 43]
def a42:AC:=Z.r s42_0 [2,3] (Z.s (Z.r s42_1 [2,3,21] (Z.c 21 (Z.e s42_2) .skip)) [2,3] (Z.r s42_3 [2,3,5] (Z.s (Z.r s42_4 [2,3,5,26] (Z.c 26 (Z.e s42_5) .skip)) [2,3] (Z.r s42_6 [3,5,6] (Z.s (Z.r s42_7 [3,5,6,38] (Z.c 38 (Z.e s42_8) .skip)) [3,6] (Z.e s42_9))))))
def c42:FC:=⟨44,a42.erase,[.tmp 4]⟩
theorem comp42:compF Tryz.prog Tryz.f42=some c42:=by kernel_rfl
theorem era42:c42.code=a42.erase:=rfl
def s43_0:=[zt 3 37 1,zg 4 49]
def s43_1:=[za 5 0,zba 6 2,ze 7 12 3,q0 8 (.build [.string ⟨#[]⟩,.string ⟨#[]⟩,.int .i64 0,.slice none 0 0,.string ⟨#[]⟩,.int .i64 0,.string ⟨#[]⟩,.string ⟨#[]⟩,.string ⟨#[]⟩,.int .i64 0,.int .i64 0,.string ⟨#[]⟩,.slice none 0 0,.int .i64 0,.int .i64 0,.int .i64 0,.slice none 0 0,.int .i64 0] [(0,1,.tmp 5),(1,1,ks ⟨#[117,115,101,114]⟩),(2,3,.tmp 6),(5,12,.tmp 7),(17,1,ki 1)]),zd 18 4 8]
def a43:AC:=Z.r s43_0 [0,3,4] (Z.e s43_1)
def c43:FC:=⟨9,a43.erase,[.cell 4 true 18]⟩
theorem comp43:compF Tryz.prog Tryz.f43=some c43:=by kernel_rfl
theorem era43:c43.code=a43.erase:=rfl
def s44_0:=[zab 2 37]
def s44_1:=[za 3 0,q0 4 (.build [.int .i64 0,.string ⟨#[]⟩,.string ⟨#[]⟩,.string ⟨#[]⟩,.int .i64 0,.int .i64 0,.string ⟨#[]⟩,.slice none 0 0,.int .i64 0,.int .i64 0,.int .i64 0,.slice none 0 0] [(0,1,ki 3),(2,1,.tmp 3)]),zd 12 2 4]
def a44:AC:=Z.r s44_0 [0,2] (Z.e s44_1)
def c44:FC:=⟨5,a44.erase,[.cell 2 true 12]⟩
theorem comp44:compF Tryz.prog Tryz.f44=some c44:=by kernel_rfl
theorem era44:c44.code=a44.erase:=rfl
def s46_0:=[zx 2]
def s46_1:=[za 4 0,zw 5 73 4,za 3 5]
def s46_2:=[za 6 3,zw 7 74 6]
def s46_3:=[za 8 3,za 2 8]
def a46:AC:=Z.r s46_0 [0] (Z.r s46_1 [3] (Z.r s46_2 [3] (Z.e s46_3)))
def s51_0:=[zt 1 25 0,zx 2,zx 3]
def s51_1:=[ze 10 4 1,zw 11 26 10,za 4 11]
def s51_2:=[zx 5]
def s51_3:=[zh 6 0]
def s51_4:=[za 12 6,za 13 4,zu 14 13,zs 15 12 14]
def s51_5:=[ze 18 4 1,za 19 4,za 20 6,zf 21 1 19 20,zb 22 1 21,zq 23 53 18 22,za 7 23]
def s51_6:=[zx 8]
def s51_7:=[zh 9 0]
def s51_8:=[za 24 9,za 25 4,zu 26 25,zs 27 24 26]
def s51_9:=[za 30 7,za 31 4,za 32 9,zf 33 1 31 32,zb 34 1 33,zq 35 25 30 34]
def s51_10:=[za 36 8,za 37 9,zbd 38 3 37,zbr 39 3 36 38,za 8 39]
def s51_11:=[za 28 9,zn 29 28 1,za 9 29]
def s51_12:=[za 40 5,za 41 8,zbd 42 83 41,q0 43 (.append 83 1 24 [.slice none 0 0] (.tmp 40) (.tmp 42)),za 5 43]
def s51_13:=[za 16 6,zn 17 16 1,za 6 17]
def s51_14:=[za 44 4,za 45 5,za 2 44,za 3 45]
def a51:AC:=Z.r s51_0 [1] (Z.r s51_1 [1,4] (Z.r s51_2 [1,4,5] (Z.s (Z.r s51_3 [1,4,5,6] (Z.b 0 (Z.l [1,4,5,6] (Z.s (Z.r s51_4 [1,4,5,6,15] (Z.c 15 .skip (.exit 0))) [1,4,5,6] (Z.s (Z.b 1 (Z.d s51_5 [1,4,5,6,7] (Z.r s51_6 [1,4,5,6,7,8] (Z.s (Z.r s51_7 [1,4,5,6,7,8,9] (Z.b 2 (Z.l [1,4,5,6,7,8,9] (Z.s (Z.r s51_8 [1,4,5,6,7,8,9,27] (Z.c 27 .skip (.exit 2))) [1,4,5,6,7,8,9] (Z.s (Z.b 3 (Z.r s51_9 [1,4,5,6,7,8,9,35] (Z.c 35 (Z.g s51_10) .skip))) [1,4,5,6,7,8,9] (Z.g s51_11)))))) [1,4,5,6,8] (Z.g s51_12))))) [1,4,5,6] (Z.g s51_13)))))) [4,5] (Z.e s51_14))))
def c51:FC:=⟨46,a51.erase,[.tmp 2,.tmp 3]⟩
theorem comp51:compF Tryz.prog Tryz.f51=some c51:=by kernel_rfl
theorem era51:c51.code=a51.erase:=rfl
def s52_0:=[zx 4]
def s52_1:=[za 11 0,zu 12 11,q0 13 (.exts (.makeSlice 83 (.tmp 12) (.tmp 12)) 83 [.sl 3,.int .i64] [.tmp 12,.tmp 12]),za 5 13]
def s52_2:=[zh 6 0]
def s52_3:=[za 14 6,za 15 0,zu 16 15,zs 17 14 16]
def s52_4:=[za 20 5,za 21 6,zf 22 1 20 21,.mk none (.store 1 (.tmp 22) (ki 1000)) none]
def s52_5:=[za 18 6,zn 19 18 1,za 6 19]
def s52_6:=[zbc 7]
def s52_7:=[za 23 7]
def s52_8:=[zac 7]
def s52_9:=[zh 8 0]
def s52_10:=[za 24 8,za 25 0,zu 26 25,zs 27 24 26]
def s52_11:=[zh 9 0]
def s52_12:=[za 30 9,za 31 0,za 32 8,zf 33 1 31 32,zb 34 1 33,zu 35 34,zs 36 30 35]
def s52_13:=[za 39 5,za 40 0,za 41 8,zf 42 1 40 41,zb 43 1 42,za 44 9,zf 45 1 43 44,zb 46 1 45,zf 47 1 39 46,zb 48 1 47,zn 49 48 1,za 10 49]
def s52_14:=[za 50 0,za 51 8,zf 52 1 50 51,zb 53 1 52,za 54 9,zf 55 1 53 54,zb 56 1 55,za 57 1,zav 58 56 57]
def s52_15:=[zh 10 1]
def s52_16:=[za 59 10,za 60 5,za 61 8,zf 62 1 60 61,zb 63 1 62,zs 64 59 63]
def s52_17:=[za 65 5,za 66 8,za 67 10,zf 68 1 65 66,zd 1 68 67]
def s52_18:=[zbc 7]
def s52_19:=[za 37 9,zn 38 37 1,za 9 38]
def s52_20:=[za 28 8,zn 29 28 1,za 8 29]
def s52_21:=[za 69 5,za 4 69]
def a52:AC:=Z.r s52_0 [0,1] (Z.r s52_1 [0,1,5] (Z.s (Z.r s52_2 [0,1,5,6] (Z.b 0 (Z.l [0,1,5,6] (Z.s (Z.r s52_3 [0,1,5,6,17] (Z.c 17 .skip (.exit 0))) [0,1,5,6] (Z.s (Z.b 1 (Z.g s52_4)) [0,1,5,6] (Z.g s52_5)))))) [0,1,5] (Z.r s52_6 [0,1,5,7] (Z.s (Z.b 2 (Z.l [0,1,5,7] (Z.s (Z.r s52_7 [0,1,5,23] (Z.c 23 .skip (.exit 2))) [0,1,5] (Z.b 3 (Z.r s52_8 [0,1,5,7] (Z.r s52_9 [0,1,5,7,8] (Z.b 4 (Z.l [0,1,5,7,8] (Z.s (Z.r s52_10 [0,1,5,7,8,27] (Z.c 27 .skip (.exit 4))) [0,1,5,7,8] (Z.s (Z.b 5 (Z.r s52_11 [0,1,5,7,8,9] (Z.b 6 (Z.l [0,1,5,7,8,9] (Z.s (Z.r s52_12 [0,1,5,7,8,9,36] (Z.c 36 .skip (.exit 6))) [0,1,5,7,8,9] (Z.s (Z.b 7 (Z.r s52_13 [0,1,5,7,8,9,10] (Z.s (Z.r s52_14 [0,1,5,7,8,9,10,58] (Z.c 58 (Z.g s52_15) .skip)) [0,1,5,7,8,9,10] (Z.r s52_16 [0,1,5,7,8,9,10,64] (Z.c 64 (Z.r s52_17 [0,1,5,8,9] (Z.g s52_18)) .skip))))) [0,1,5,7,8,9] (Z.g s52_19))))))) [0,1,5,7,8] (Z.g s52_20))))))))))) [5] (Z.e s52_21)))))
def c52:FC:=⟨70,a52.erase,[.tmp 4]⟩
theorem comp52:compF Tryz.prog Tryz.f52=some c52:=by kernel_rfl
theorem era52:c52.code=a52.erase:=rfl
def s53_0:=[zt 2 25 0,zx 4]
def s53_1:=[ze 14 4 2,za 15 1,zq 16 31 14 15,za 13 16,zi 17 13 0,zi 18 13 1,zg 5 49,zd 18 5 17,za 6 18]
def s53_2:=[zc 20 5 5,ze 21 12 20,zbm 22 22 21,za 19 22,zi 23 19 0,zi 24 19 1,za 7 23,za 8 24]
def s53_3:=[zx 9]
def s53_4:=[zh 10 0]
def s53_5:=[za 25 10,za 26 7,zu 27 26,zs 28 25 27]
def s53_6:=[ed 0 (ze 32 4 2) [],ed 1 (za 33 7) [],ed 2 (za 34 10) [],ed 3 (zf 35 1 33 34) [],ed 4 (zb 36 1 35) [],ed 5 (zq 37 31 32 36) [],ed 6 (za 31 37) [],ed 7 (zi 38 31 0) [],ed 8 (zi 39 31 1) [],ed 9 (zg 11 49) [],ed 10 (zd 18 11 38) [11],ed 11 (za 12 39) []]
def s53_7:=[za 40 12]
def s53_8:=[za 41 9,za 42 7,za 43 10,zf 44 1 42 43,zb 45 1 44,zbd 46 9 45,za1 47 9 41 46,za 9 47]
def s53_9:=[za 29 10,zn 30 29 1,za 10 30]
def s53_10:=[za 48 9,za 4 48]
def a53:AC:=Z.r s53_0 [1,2] (Z.r s53_1 [2,5] (Z.r s53_2 [2,7] (Z.r s53_3 [2,7,9] (Z.s (Z.r s53_4 [2,7,9,10] (Z.b 0 (Z.l [2,7,9,10] (Z.s (Z.r s53_5 [2,7,9,10,28] (Z.c 28 .skip (.exit 0))) [2,7,9,10] (Z.s (Z.b 1 (Z.s (.mreg [11] s53_6) [2,7,9,10,12] (Z.r s53_7 [2,7,9,10,40] (Z.c 40 (Z.g s53_8) .skip)))) [2,7,9,10] (Z.g s53_9)))))) [9] (Z.e s53_10)))))
def c53:FC:=⟨49,a53.erase,[.tmp 4]⟩
theorem comp53:compF Tryz.prog Tryz.f53=some c53:=by kernel_rfl
theorem era53:c53.code=a53.erase:=rfl
def s54_0:=[zx 4]
def s54_1:=[zh 5 0]
def s54_2:=[za 7 5,za 8 0,zu 9 8,zs 10 7 9,za 11 10,zl 12 0 11,zl 13 5 11,zad 14 1 12 13 11,zj 15 1 14 11,zl 16 1 11,zci 17 15 16 11,zo 18 11 17]
def s54_3:=[za 19 5,zn 20 19 1,za 5 20]
def s54_4:=[za 21 5,za 22 0,zu 23 22,zs 24 21 23,za 25 24,zl 26 0 25,zl 27 5 25,zad 28 1 26 27 25,zj 29 1 28 25,zl 30 1 25,zaq 31 29 30 25,zo 32 25 31]
def s54_5:=[za 33 0,za 4 33]
def s54_6:=[q0 34 (.mksl 9 1 []),za 35 0,za 36 5,q0 37 (.slice 1 (.tmp 35) none (some (.tmp 36))),za1 38 9 34 37,za 6 38]
def s54_7:=[za 39 6,za 40 1,zbd 41 9 40,za1 42 9 39 41,za 6 42]
def s54_8:=[za 43 6,za 44 0,za 45 5,q0 46 (.slice 1 (.tmp 44) (some (.tmp 45)) none),za1 47 9 43 46,za 4 47]
def a54:AC:=Z.r s54_0 [0,1] (Z.r s54_1 [0,1,5] (Z.s (Z.b 0 (Z.l [0,1,5] (Z.s (Z.r s54_2 [0,1,5,18] (Z.c 18 .skip (.exit 0))) [0,1,5] (Z.b 1 (Z.g s54_3))))) [0,1,5] (Z.s (Z.r s54_4 [0,1,5,32] (Z.c 32 (Z.e s54_5) .skip)) [0,1,5] (Z.r s54_6 [0,1,5,6] (Z.r s54_7 [0,5,6] (Z.e s54_8))))))
def c54:FC:=⟨48,a54.erase,[.tmp 4]⟩
theorem comp54:compF Tryz.prog Tryz.f54=some c54:=by kernel_rfl
theorem era54:c54.code=a54.erase:=rfl
def s55_0:=[zt 3 9 1,zg 4 49,zac 5]
def s55_1:=[za 7 0,q0 8 (.mkfn (Fn.func 81) [] [.tmp 3]),zq 9 80 7 8,za 6 9]
def s55_2:=[za 10 6,zbb 11 10 0]
def s55_3:=[za 12 0,za 13 6,zf 14 18 12 13,ze 15 18 14,zd 18 4 15,zbc 5]
def s55_4:=[za9 16,zd 18 4 16,zac 5]
def a55:AC:=Z.r s55_0 [0,3,4] (Z.s (Z.r s55_1 [0,4,6] (Z.r s55_2 [0,4,6,11] (Z.c 11 (Z.e s55_3) .skip))) [4] (Z.e s55_4))
def c55:FC:=⟨17,a55.erase,[.cell 4 true 18,.tmp 5]⟩
theorem comp55:compF Tryz.prog Tryz.f55=some c55:=by kernel_rfl
theorem era55:c55.code=a55.erase:=rfl
def s56_0:=[zt 1 37 0,zh 2 0]
def s56_1:=[ze 3 12 1,zw 4 82 3,zar 5 4 64,za 6 5,za0 7 12 1 6,zaw 8 83 7 6,zah 9 8 12 6,zk 10 6 9]
def s56_2:=[zh 2 2]
def s56_3:=[ze 11 12 1,q0 12 (.call 84 [.tmp 11,kF]),zae 13 12]
def s56_4:=[zh 2 3]
def s56_5:=[zh 2 0]
def a56:AC:=Z.r s56_0 [1] (Z.s (Z.r s56_1 [1,10] (Z.c 10 (Z.e s56_2) .skip)) [1] (Z.s (Z.r s56_3 [13] (Z.c 13 (Z.e s56_4) .skip)) [] (Z.e s56_5)))
def c56:FC:=⟨14,a56.erase,[.tmp 2]⟩
theorem comp56:compF Tryz.prog Tryz.f56=some c56:=by kernel_rfl
theorem era56:c56.code=a56.erase:=rfl
def s57_0:=[zaa 2 47,zh 3 0]
def s57_1:=[zaj 4,za 5 0,zd 3 2 4,za 3 5]
def a57:AC:=Z.r s57_0 [0,2] (Z.e s57_1)
def c57:FC:=⟨6,a57.erase,[.cell 2 true 3,.tmp 3]⟩
theorem comp57:compF Tryz.prog Tryz.f57=some c57:=by kernel_rfl
theorem era57:c57.code=a57.erase:=rfl
def s58_0:=[zt 2 92 0,zt 3 37 1,zaa 4 47,zh 5 0]
def s58_1:=[ze 14 6 2,q0 6 (.alloc 92 (.agg #[.slice none 0 0,.slice none 0 0,.slice none 0 0,.slice none 0 0,.string ⟨#[]⟩,.nilFunc])),zd 6 6 14]
def s58_2:=[zc 15 0 3,zb 16 1 15,zy 17 16 5]
def s58_3:=[zc 18 0 2,zc 19 0 18,zb 20 1 19,q0 21 (.mkfn (Fn.func 86) [] [.tmp 3]),zq 22 85 20 21,za 7 22]
def s58_4:=[za 23 7,zau 24 23 0]
def s58_5:=[zbi 25 57 4,zi 26 25 0,zi 27 25 1,zd 3 4 26,za 5 27]
def s58_6:=[zc 28 0 2,zc 29 0 28,zb 30 1 29,za 31 7,zf 32 4 30 31,ze 33 4 32,zaz 8 58,zd 4 8 33]
def s58_7:=[zc 34 1 8,zb 35 1 34,zc 36 4 2,zb 37 1 36,zay 38 35 37]
def s58_8:=[zbi 39 57 5,zi 40 39 0,zi 41 39 1,zd 3 4 40,za 5 41]
def s58_9:=[q0 42 (.mkfn (Fn.func 87) [] [.tmp 8]),zc 43 5 6,zd 1 43 42]
def s58_10:=[zx 9]
def s58_11:=[zc 44 11 3,zb 45 1 44,zu 46 45,zh 47 0]
def s58_12:=[zs 48 47 46]
def s58_13:=[zf 49 12 45 47,ze 50 12 49,zab 11 37,zd 12 11 50]
def s58_14:=[ze 52 6 6,ze 53 12 11,zq 54 58 52 53,za 51 54,zi 55 51 0,zi 56 51 1,zaa 12 47,zd 3 12 55,za 13 56]
def s58_15:=[za 57 13,zaf 58 57 0]
def s58_16:=[za 59 13,zw 60 57 59,zi 61 60 0,zi 62 60 1,zd 3 4 61,za 5 62]
def s58_17:=[za 63 9,ze 64 3 12,q0 65 (.mksl 47 3 [.tmp 64]),zck 66 47 63 65,za 9 66]
def s58_18:=[zn 67 47 1,za 47 67]
def s58_19:=[ed 0 (ze 68 6 2) [],ed 1 (zc 69 0 3) [],ed 2 (zb 70 1 69) [],ed 3 (zq 71 90 68 70) [],ed 4 (ze 72 12 3) [],ed 5 (za 73 9) [],ed 6 (q0 74 (.callv (.tmp 71) [.tmp 72,.tmp 73])) [],ed 7 (zi 75 74 0) [],ed 8 (zi 76 74 1) [],ed 9 (zd 3 4 75) [4],ed 10 (za 5 76) []]
def a58:AC:=Z.r s58_0 [2,3,4] (Z.r s58_1 [2,3,4,6] (Z.s (Z.r s58_2 [2,3,4,6,17] (Z.c 17 (Z.r s58_3 [2,3,4,6,7] (Z.s (Z.r s58_4 [2,3,4,6,7,24] (Z.c 24 (Z.e s58_5) .skip)) [2,3,4,6,7] (Z.r s58_6 [2,3,4,6,8] (Z.s (Z.r s58_7 [2,3,4,6,8,38] (Z.c 38 (Z.e s58_8) .skip)) [2,3,4,6,8] (Z.g s58_9))))) .skip)) [2,3,4,6] (Z.r s58_10 [2,3,4,6,9] (Z.s (Z.r s58_11 [2,3,4,6,9,45,46,47] (Z.b 0 (Z.l [2,3,4,6,9,45,46,47] (Z.r s58_12 [2,3,4,6,9,45,46,47,48] (Z.s (Z.c 48 .skip (.exit 0)) [2,3,4,6,9,45,46,47] (Z.s (Z.b 1 (Z.r s58_13 [2,3,4,6,9,11,45,46,47] (Z.r s58_14 [2,3,4,6,9,12,13,45,46,47] (Z.s (Z.r s58_15 [2,3,4,6,9,12,13,45,46,47,58] (Z.c 58 (Z.e s58_16) .skip)) [2,3,4,6,9,12,45,46,47] (Z.g s58_17))))) [2,3,4,6,9,45,46,47] (Z.g s58_18))))))) [2,3,4,9] (.seq (.mreg [] s58_19) .ret)))))
def c58:FC:=⟨77,a58.erase,[.cell 4 true 3,.tmp 5]⟩
theorem comp58:compF Tryz.prog Tryz.f58=some c58:=by kernel_rfl
theorem era58:c58.code=a58.erase:=rfl
def s60_0:=[zg 4 49,zac 5]
def s60_1:=[zh 6 0]
def s60_2:=[za 7 6,za 8 0,zu 9 8,zs 10 7 9]
def s60_3:=[za 13 0,za 14 6,zf 15 18 13 14,zc 16 0 15,zb 17 1 16,za 18 1,zav 19 17 18]
def s60_4:=[za 20 0,za 21 6,zf 22 18 20 21,ze 23 18 22,zd 18 4 23,zbc 5]
def s60_5:=[za 11 6,zn 12 11 1,za 6 12]
def s60_6:=[za9 24,zd 18 4 24,zac 5]
def a60:AC:=Z.r s60_0 [0,1,4] (Z.s (Z.r s60_1 [0,1,4,6] (Z.b 0 (Z.l [0,1,4,6] (Z.s (Z.r s60_2 [0,1,4,6,10] (Z.c 10 .skip (.exit 0))) [0,1,4,6] (Z.s (Z.b 1 (Z.r s60_3 [0,1,4,6,19] (Z.c 19 (Z.e s60_4) .skip))) [0,1,4,6] (Z.g s60_5)))))) [4] (Z.e s60_6))
def c60:FC:=⟨25,a60.erase,[.cell 4 true 18,.tmp 5]⟩
theorem comp60:compF Tryz.prog Tryz.f60=some c60:=by kernel_rfl
theorem era60:c60.code=a60.erase:=rfl
def s62_0:=[zac 2]
def s62_1:=[za 5 0,q0 6 (.bin .eql (.tmp 5) (ks ⟨#[]⟩)),za 7 6,zv 8 0 7,q1 9 (.len true (.tmp 8)) 7 false,zah 10 9 24 7,zk 11 7 10,za 12 11,zv 13 0 12,zaw 14 91 13 12,zk 15 12 14]
def s62_2:=[zac 2]
def s62_3:=[za 16 0,zb5 17 16,zh 18 0]
def s62_4:=[zs 19 18 17]
def s62_5:=[za 20 18,za 3 20]
def s62_6:=[za 21 0,za 22 3,zce 23 21 22,za 4 23]
def s62_7:=[za 25 4,zcw 26 25,za 27 26,zl 28 4 27,zcl 29 28 27,zo 30 27 29,za 24 30]
def s62_8:=[za 32 3,zar 33 32 0,za 34 33,zl 35 4 34,q1 36 (.bin .geq (.tmp 35) (.const (.int .u8 48))) 34 true,zl 37 36 34,zl 38 4 37,zco 39 38 37,q1 40 (.pick (.tmp 37) (.tmp 39) kF) 34 true,zl 41 40 34,zv 42 4 41,q1 43 (.bin .eql (.tmp 42) (.const (.int .u8 95))) 41 false,zbl 44 41 43 34,zo 45 34 44,za 31 45]
def s62_9:=[zac 2]
def s62_10:=[zn 46 18 1,za 18 46]
def s62_11:=[zbc 2]
def a62:AC:=Z.r s62_0 [0] (Z.s (Z.r s62_1 [0,15] (Z.c 15 (Z.e s62_2) .skip)) [0] (Z.s (Z.r s62_3 [0,17,18] (Z.b 0 (Z.l [0,17,18] (Z.r s62_4 [0,17,18,19] (Z.s (Z.c 19 .skip (.exit 0)) [0,17,18] (Z.s (Z.b 1 (Z.r s62_5 [0,3,17,18] (Z.r s62_6 [0,3,4,17,18] (Z.b 2 (Z.r s62_7 [0,3,4,17,18,24] (Z.c 24 .skip (Z.r s62_8 [0,17,18,31] (Z.c 31 .skip (Z.e s62_9))))))))) [0,17,18] (Z.g s62_10))))))) [] (Z.e s62_11)))
def c62:FC:=⟨47,a62.erase,[.tmp 2]⟩
theorem comp62:compF Tryz.prog Tryz.f62=some c62:=by kernel_rfl
theorem era62:c62.code=a62.erase:=rfl
def s63_0:=[zac 4]
def s63_1:=[za 5 0,za 6 1,zq 7 88 5 6,zbb 8 7 0,za 4 8]
def a63:AC:=Z.r s63_0 [0,1] (Z.e s63_1)
def c63:FC:=⟨9,a63.erase,[.tmp 4]⟩
theorem comp63:compF Tryz.prog Tryz.f63=some c63:=by kernel_rfl
theorem era63:c63.code=a63.erase:=rfl
def s64_0:=[zt 2 96 0,zac 3]
def s64_1:=[zc 4 0 2,zb 5 1 4,zc 6 0 1,zb 7 1 6,zav 8 5 7,za 3 8]
def a64:AC:=Z.r s64_0 [1,2] (Z.e s64_1)
def c64:FC:=⟨9,a64.erase,[.tmp 3]⟩
theorem comp64:compF Tryz.prog Tryz.f64=some c64:=by kernel_rfl
theorem era64:c64.code=a64.erase:=rfl
def s65_0:=[zt 1 47 0,zh 2 0]
def s65_1:=[zc 3 0 1,zb 4 1 3,zau 5 4 1,za 6 5,zp 7 0 1 6,zm 8 1 7 6,zah 9 8 5 6,zk 10 6 9,za 11 10,zp 12 1 1 11,zm 13 1 12 11,zao 14 13 11,zah 15 14 0 11,zv 16 15 11,zak 17 3 1 16,za5 18 92 17 16,zax 19 18 16,zas 20 16 19 11,zk 21 11 20]
def s65_2:=[zh 2 3]
def s65_3:=[zc 22 0 1,zb 23 1 22,zy 24 23 5,zc 25 2 1,zb 26 1 25,zcu 27 26,zcd 28 24 27,za 29 28,zp 30 2 1 29,zm 31 1 30 29,q1 32 (.bin .neq (.tmp 31) (ks ⟨#[]⟩)) 29 false,zv 33 32 29,zr 34 2 1 33,zj 35 1 34 33,za5 36 62 35 33,zax 37 36 33,zas 38 33 37 29,zk 39 29 38]
def s65_4:=[zh 2 3]
def s65_5:=[zc 40 1 1,zb 41 1 40,zw 42 93 41,zaf 43 42 0,za 44 43,zp 45 1 1 44,zm 46 1 45 44,q1 47 (.call 94 [.tmp 46,.func 95]) 44 false,zk 48 44 47]
def s65_6:=[zh 2 70]
def s65_7:=[zh 2 0]
def a65:AC:=Z.r s65_0 [1] (Z.s (Z.r s65_1 [1,21] (Z.c 21 (Z.e s65_2) .skip)) [1] (Z.s (Z.r s65_3 [1,39] (Z.c 39 (Z.e s65_4) .skip)) [1] (Z.s (Z.r s65_5 [48] (Z.c 48 (Z.e s65_6) .skip)) [] (Z.e s65_7))))
def c65:FC:=⟨49,a65.erase,[.tmp 2]⟩
theorem comp65:compF Tryz.prog Tryz.f65=some c65:=by kernel_rfl
theorem era65:c65.code=a65.erase:=rfl
def s66_0:=[zt 2 47 0,zt 3 47 1,zaa 4 47,zh 5 0]
def s66_1:=[zc 6 0 2,zb 7 1 6,zc 8 0 3,zb 9 1 8,zay 10 7 9,za 11 10,zp 12 2 2 11,zm 13 1 12 11,zp 14 2 3 11,zm 15 1 14 11,za2 16 13 15 11,zk 17 11 16]
def s66_2:=[zbi 18 57 5,zi 19 18 0,zi 20 18 1,zd 3 4 19,za 5 20]
def s66_3:=[zc 21 1 2,zb 22 1 21,zc 23 1 3,zb 24 1 23,zq 25 96 22 24,zae 26 25]
def s66_4:=[zbi 27 57 70,zi 28 27 0,zi 29 27 1,zd 3 4 28,za 5 29]
def s66_5:=[ze 30 3 2,zd 3 4 30,zh 5 0]
def a66:AC:=Z.r s66_0 [2,3,4] (Z.s (Z.r s66_1 [2,3,4,17] (Z.c 17 (Z.e s66_2) .skip)) [2,3,4] (Z.s (Z.r s66_3 [2,4,26] (Z.c 26 (Z.e s66_4) .skip)) [2,4] (Z.e s66_5)))
def c66:FC:=⟨31,a66.erase,[.cell 4 true 3,.tmp 5]⟩
theorem comp66:compF Tryz.prog Tryz.f66=some c66:=by kernel_rfl
theorem era66:c66.code=a66.erase:=rfl
def s67_0:=[zt 1 58 0,zh 2 0]
def s67_1:=[zc 6 0 1,zb 7 1 6,zw 8 68 7,zae 9 8,za 10 9,zp 11 1 1 10,zm 12 1 11 10,zaw 13 68 12 10,za4 14 13 10,zk 15 10 14,za 16 15,zp 17 3 1 16,zm 18 1 17 16,zbj 19 18 0 16,zk 20 16 19,za 21 20,zp 22 3 1 21,zm 23 1 22 21,zah 24 23 1099511627776 21,zk 25 21 24]
def s67_2:=[zh 2 3]
def s67_3:=[zc 26 2 1,zb 27 1 26,zu 28 27,zar 29 28 8]
def s67_4:=[zh 2 2]
def s67_5:=[zh 3 0]
def s67_6:=[za 30 3,zc 31 2 1,zb 32 1 31,zu 33 32,zs 34 30 33]
def s67_7:=[zc 37 2 1,zb 38 1 37,za 39 3,zf 40 4 38 39,zc 41 0 40,zb 42 1 41,zw 43 68 42,zae 44 43]
def s67_8:=[zh 2 3]
def s67_9:=[zh 4 0]
def s67_10:=[za 45 4,za 46 3,zs 47 45 46]
def s67_11:=[zc 50 2 1,zb 51 1 50,za 52 4,zf 53 4 51 52,zc 54 0 53,zb 55 1 54,zc 56 2 1,zb 57 1 56,za 58 3,zf 59 4 57 58,zc 60 0 59,zb 61 1 60,zav 62 55 61]
def s67_12:=[zh 2 121]
def s67_13:=[za 48 4,zn 49 48 1,za 4 49]
def s67_14:=[zc 63 2 1,zb 64 1 63,za 65 3,zf 66 4 64 65,zc 67 1 66,ze 68 3 67,zw 69 69 68,za 5 69]
def s67_15:=[za 70 5,zaf 71 70 0]
def s67_16:=[za 72 5,za 2 72]
def s67_17:=[za 35 3,zn 36 35 1,za 3 36]
def s67_18:=[zh 2 0]
def a67:AC:=Z.r s67_0 [1] (Z.s (Z.r s67_1 [1,25] (Z.c 25 (Z.e s67_2) .skip)) [1] (Z.s (Z.r s67_3 [1,29] (Z.c 29 (Z.e s67_4) .skip)) [1] (Z.s (Z.r s67_5 [1,3] (Z.b 0 (Z.l [1,3] (Z.s (Z.r s67_6 [1,3,34] (Z.c 34 .skip (.exit 0))) [1,3] (Z.s (Z.b 1 (Z.s (Z.r s67_7 [1,3,44] (Z.c 44 (Z.e s67_8) .skip)) [1,3] (Z.s (Z.r s67_9 [1,3,4] (Z.b 2 (Z.l [1,3,4] (Z.s (Z.r s67_10 [1,3,4,47] (Z.c 47 .skip (.exit 2))) [1,3,4] (Z.s (Z.b 3 (Z.d s67_11 [1,3,4,62] (Z.c 62 (Z.e s67_12) .skip))) [1,3,4] (Z.g s67_13)))))) [1,3] (Z.r s67_14 [1,3,5] (Z.r s67_15 [1,3,5,71] (Z.c 71 (Z.e s67_16) .skip)))))) [1,3] (Z.g s67_17)))))) [] (Z.e s67_18))))
def c67:FC:=⟨73,a67.erase,[.tmp 2]⟩
theorem comp67:compF Tryz.prog Tryz.f67=some c67:=by kernel_rfl
theorem era67:c67.code=a67.erase:=rfl
def s68_0:=[zac 2]
def s68_1:=[za 3 0,zcu 4 3,za 5 4,zl 6 0 5,zcm 7 6 5,zb4 8 7 24 5,zo 9 5 8,za 10 9,zl 11 0 10,q1 12 (.extq (.convert 9 130 (.tmp 11)) 130 [.str,.other,.sl 5,.int .u8] [.tmp 11]) 10 true,q1 13 (.call 97 [.tmp 12,ki 0]) 10 true,zl 14 0 10,zcm 15 14 10,zaq 16 13 15 10,zo 17 10 16,za 18 17,zl 19 0 18,za5 20 98 19 18,zax 21 20 18,zo 22 18 21,za 2 22]
def a68:AC:=Z.r s68_0 [0] (Z.e s68_1)
def c68:FC:=⟨23,a68.erase,[.tmp 2]⟩
theorem comp68:compF Tryz.prog Tryz.f68=some c68:=by kernel_rfl
theorem era68:c68.code=a68.erase:=rfl
def s69_0:=[zt 1 47 0,zh 2 0]
def s69_1:=[zc 4 0 1,zb 5 1 4,zau 6 5 1,za 7 6,zp 8 0 1 7,zm 9 1 8 7,zah 10 9 5 7,zk 11 7 10]
def s69_2:=[zh 2 3]
def s69_3:=[zc 12 0 1,zb 13 1 12,zy 14 13 5,za 15 14,zr 16 2 1 15,zj 17 1 16 15,za5 18 68 17 15,zax 19 18 15,zo 20 15 19,za 21 20,zp 22 0 1 21,zm 23 1 22 21,zbp 24 23 5 21,zv 25 24 21,zr 26 2 1 25,zj 27 1 26 25,q1 28 (.bin .neq (.tmp 27) (ks ⟨#[]⟩)) 25 true,zas 29 25 28 21,zk 30 21 29,za 31 30,za0 32 3 1 31,zaw 33 99 32 31,za4 34 33 31,zv 35 34 31,zr 36 1 1 35,zj 37 1 36 35,q1 38 (.len false (.tmp 37)) 35 true,q1 39 (.bin .gtr (.tmp 38) (ki 0)) 35 true,zas 40 35 39 31,zk 41 31 40]
def s69_4:=[zh 2 3]
def s69_5:=[zc 42 1 1,zb 43 1 42,zw 44 100 43,zaf 45 44 0]
def s69_6:=[zh 2 70]
def s69_7:=[zh 3 0]
def s69_8:=[za 46 3,zc 47 1 1,zb 48 1 47,zu 49 48,zs 50 46 49]
def s69_9:=[zc 53 1 1,zb 54 1 53,za 55 3,zf 56 2 54 55,zc 57 0 56,zb 58 1 57,zw 59 68 58,zae 60 59]
def s69_10:=[zh 2 70]
def s69_11:=[za 51 3,zn 52 51 1,za 3 52]
def s69_12:=[zh 2 0]
def a69:AC:=Z.r s69_0 [1] (Z.s (Z.r s69_1 [1,11] (Z.c 11 (Z.e s69_2) .skip)) [1] (Z.s (Z.r s69_3 [1,41] (Z.c 41 (Z.e s69_4) .skip)) [1] (Z.s (Z.r s69_5 [1,45] (Z.c 45 (Z.e s69_6) .skip)) [1] (Z.s (Z.r s69_7 [1,3] (Z.b 0 (Z.l [1,3] (Z.s (Z.r s69_8 [1,3,50] (Z.c 50 .skip (.exit 0))) [1,3] (Z.s (Z.b 1 (Z.r s69_9 [1,3,60] (Z.c 60 (Z.e s69_10) .skip))) [1,3] (Z.g s69_11)))))) [] (Z.e s69_12)))))
def c69:FC:=⟨61,a69.erase,[.tmp 2]⟩
theorem comp69:compF Tryz.prog Tryz.f69=some c69:=by kernel_rfl
theorem era69:c69.code=a69.erase:=rfl
def s70_0:=[zt 1 37 0,zh 2 0]
def s70_1:=[ze 3 12 1,zw 4 101 3,zar 5 4 64,za 6 5,za0 7 12 1 6,zaw 8 102 7 6,zah 9 8 12 6,zk 10 6 9]
def s70_2:=[zh 2 2]
def s70_3:=[ze 11 12 1,q0 12 (.call 103 [.tmp 11,kF]),zae 13 12]
def s70_4:=[zh 2 3]
def s70_5:=[zh 2 0]
def a70:AC:=Z.r s70_0 [1] (Z.s (Z.r s70_1 [1,10] (Z.c 10 (Z.e s70_2) .skip)) [1] (Z.s (Z.r s70_3 [13] (Z.c 13 (Z.e s70_4) .skip)) [] (Z.e s70_5)))
def c70:FC:=⟨14,a70.erase,[.tmp 2]⟩
theorem comp70:compF Tryz.prog Tryz.f70=some c70:=by kernel_rfl
theorem era70:c70.code=a70.erase:=rfl
def s71_0:=[zt 3 25 0,zt 5 37 2,zaa 6 47,zh 7 0]
def s71_1:=[ze 10 12 5,zw 11 70 10,za 8 11]
def s71_2:=[za 12 8,zaf 13 12 0]
def s71_3:=[zaj 14,za 15 8,zd 3 6 14,za 7 15]
def s71_4:=[ze 16 4 3,za 17 1,q0 18 (.build [.slice none 0 0,.slice none 0 0,.slice none 0 0,.slice none 0 0,.string ⟨#[]⟩,.string ⟨#[]⟩,.string ⟨#[]⟩,.slice none 0 0,.int .i64 0] [(0,4,.tmp 16),(4,1,.tmp 17)]),za3 9 132,zd 9 9 18]
def s71_5:=[ze 19 9 9,ze 20 12 5,zq 21 104 19 20,zi 22 21 0,zi 23 21 1,zd 3 6 22,za 7 23]
def a71:AC:=Z.r s71_0 [1,3,5,6] (Z.r s71_1 [1,3,5,6,8] (Z.s (Z.r s71_2 [1,3,5,6,8,13] (Z.c 13 (Z.e s71_3) .skip)) [1,3,5,6] (Z.r s71_4 [5,6,9] (Z.e s71_5))))
def c71:FC:=⟨24,a71.erase,[.cell 6 true 3,.tmp 7]⟩
theorem comp71:compF Tryz.prog Tryz.f71=some c71:=by kernel_rfl
theorem era71:c71.code=a71.erase:=rfl
def s72_0:=[zt 2 47 0,zt 3 47 1,zh 4 0]
def s72_1:=[zc 5 0 2,zb 6 1 5,zc 7 0 3,zb 8 1 7,zay 9 6 8,za 10 9,zp 11 2 2 10,zm 12 1 11 10,zp 13 2 3 10,zm 14 1 13 10,za2 15 12 14 10,zk 16 10 15]
def s72_2:=[zh 4 5]
def s72_3:=[zc 17 1 2,zb 18 1 17,zc 19 1 3,zb 20 1 19,zq 21 105 18 20,zae 22 21]
def s72_4:=[zh 4 70]
def s72_5:=[zh 4 0]
def a72:AC:=Z.r s72_0 [2,3] (Z.s (Z.r s72_1 [2,3,16] (Z.c 16 (Z.e s72_2) .skip)) [2,3] (Z.s (Z.r s72_3 [22] (Z.c 22 (Z.e s72_4) .skip)) [] (Z.e s72_5)))
def c72:FC:=⟨23,a72.erase,[.tmp 4]⟩
theorem comp72:compF Tryz.prog Tryz.f72=some c72:=by kernel_rfl
theorem era72:c72.code=a72.erase:=rfl
def s80_0:=[zh 4 0]
def s80_1:=[za 6 0,zu 7 6,zh 8 0]
def s80_2:=[zs 9 8 7]
def s80_3:=[za 10 8,za 5 10]
def s80_4:=[za 11 1,za 12 0,za 13 5,zf 14 18 12 13,ze 15 18 14,zcq 16 11 15]
def s80_5:=[za 17 5,za 4 17]
def s80_6:=[zn 18 8 1,za 8 18]
def s80_7:=[zbw 4]
def a80:AC:=Z.r s80_0 [0,1] (Z.s (Z.r s80_1 [0,1,7,8] (Z.b 0 (Z.l [0,1,7,8] (Z.r s80_2 [0,1,7,8,9] (Z.s (Z.c 9 .skip (.exit 0)) [0,1,7,8] (Z.s (Z.b 1 (Z.r s80_3 [0,1,5,7,8] (Z.r s80_4 [0,1,5,7,8,16] (Z.c 16 (Z.e s80_5) .skip)))) [0,1,7,8] (Z.g s80_6))))))) [] (Z.e s80_7))
def c80:FC:=⟨19,a80.erase,[.tmp 4]⟩
theorem comp80:compF Tryz.prog Tryz.f80=some c80:=by kernel_rfl
theorem era80:c80.code=a80.erase:=rfl
def s81_0:=[zt 2 49 0,zac 3]
def s81_1:=[zc 4 0 2,zb 5 1 4,zb 6 1 1,zav 7 5 6,za 3 7]
def a81:AC:=Z.r s81_0 [1,2] (Z.e s81_1)
def c81:FC:=⟨8,a81.erase,[.tmp 3]⟩
theorem comp81:compF Tryz.prog Tryz.f81=some c81:=by kernel_rfl
theorem era81:c81.code=a81.erase:=rfl
def s82_0:=[zt 1 37 0,zh 2 0]
def s82_1:=[zh 2 1]
def s82_2:=[zc 5 11 1,zb 6 1 5,zu 7 6,zh 8 0]
def s82_3:=[zs 9 8 7]
def s82_4:=[zf 10 12 6 8,ze 11 12 10,zab 4 37,zd 12 4 11]
def s82_5:=[za 12 2,ze 13 12 4,zw 14 82 13,zap 15 12 14,za 2 15]
def s82_6:=[zn 16 8 1,za 8 16]
def s82_7:=[za 17 2,za 2 17]
def a82:AC:=Z.r s82_0 [1] (Z.r s82_1 [1,2] (Z.s (Z.r s82_2 [2,6,7,8] (Z.b 0 (Z.l [2,6,7,8] (Z.r s82_3 [2,6,7,8,9] (Z.s (Z.c 9 .skip (.exit 0)) [2,6,7,8] (Z.s (Z.b 1 (Z.r s82_4 [2,4,6,7,8] (Z.g s82_5))) [2,6,7,8] (Z.g s82_6))))))) [2] (Z.e s82_7)))
def c82:FC:=⟨18,a82.erase,[.tmp 2]⟩
theorem comp82:compF Tryz.prog Tryz.f82=some c82:=by kernel_rfl
theorem era82:c82.code=a82.erase:=rfl
def s83_0:=[zt 1 37 0,zh 2 0]
def s83_1:=[zc 5 11 1,zb 6 1 5,zu 7 6,zh 8 0]
def s83_2:=[zs 9 8 7]
def s83_3:=[zf 10 12 6 8,ze 11 12 10,zab 4 37,zd 12 4 11]
def s83_4:=[za 12 2,ze 13 12 4,zw 14 83 13,q0 15 (.max2 (.tmp 12) (.tmp 14)),za 2 15]
def s83_5:=[zn 16 8 1,za 8 16]
def s83_6:=[za 17 2,zn 18 17 1,za 2 18]
def a83:AC:=Z.r s83_0 [1,2] (Z.s (Z.r s83_1 [2,6,7,8] (Z.b 0 (Z.l [2,6,7,8] (Z.r s83_2 [2,6,7,8,9] (Z.s (Z.c 9 .skip (.exit 0)) [2,6,7,8] (Z.s (Z.b 1 (Z.r s83_3 [2,4,6,7,8] (Z.g s83_4))) [2,6,7,8] (Z.g s83_5))))))) [2] (Z.e s83_6))
def c83:FC:=⟨19,a83.erase,[.tmp 2]⟩
theorem comp83:compF Tryz.prog Tryz.f83=some c83:=by kernel_rfl
theorem era83:c83.code=a83.erase:=rfl
def s84_0:=[zt 2 37 0,zac 4]
def s84_1:=[zc 12 0 2,zb 13 1 12,q0 14 (.build [.int .i64 0,.string ⟨#[]⟩,.string ⟨#[]⟩,.string ⟨#[]⟩,.int .i64 0,.int .i64 0,.string ⟨#[]⟩,.slice none 0 0,.int .i64 0,.int .i64 0,.int .i64 0,.slice none 0 0] [(0,1,.tmp 13)]),zab 5 37,zd 12 5 14]
def s84_2:=[zh 6 0]
def s84_3:=[zc 15 0 2,zb 16 1 15]
def s84_4:=[zy 18 16 1,za 17 18]
def s84_5:=[ed 0 (zc 19 4 2) [],ed 1 (ze 20 3 19) [],ed 2 (zc 21 7 2) [],ed 3 (zb 22 1 21) [5],ed 4 (zc 23 2 2) [],ed 5 (zb 24 1 23) [5,5],ed 6 (zc 25 4 5) [],ed 7 (zd 3 25 20) [5],ed 8 (zc 26 7 5) [],ed 9 (zd 1 26 22) [5],ed 10 (zc 27 2 5) [],ed 11 (zd 1 27 24) [5]]
def s84_6:=[zc 28 4 2,ze 29 3 28,zw 30 109 29,zaf 31 30 0,za 32 31,zp 33 4 2 32,zp 34 1 33 32,zm 35 1 34 32,zbj 36 35 0 32,zk 37 32 36,za 38 37,zp 39 4 2 38,zp 40 0 39 38,zm 41 1 40 38,zp 42 7 2 38,zm 43 1 42 38,zp 44 2 2 38,zm 45 1 44 38,q1 46 (.build [.int .i64 0,.slice none 0 0,.string ⟨#[]⟩] [(0,1,.tmp 41),(1,1,.tmp 43),(2,1,.tmp 45)]) 38 false,zaw 47 65 46 38,zbp 48 47 0 38,zk 49 38 48]
def s84_7:=[zac 4]
def s84_8:=[zy 51 16 2,za 50 51]
def s84_9:=[zy 52 16 3,za 50 52]
def s84_10:=[zy 53 16 4,za 50 53]
def s84_11:=[zc 54 2 2,zb 55 1 54,zc 56 2 5,zd 1 56 55]
def s84_12:=[za 57 1,zc 58 0 2,zb 59 1 58,zy 60 59 2,zcd 61 57 60,za 62 61,zp 63 2 2 62,zm 64 1 63 62,zaw 65 62 64 62,za4 66 65 62,zk 67 62 66]
def s84_13:=[zac 4]
def s84_14:=[zc 68 0 2,zb 69 1 68,zy 70 69 4]
def s84_15:=[zh 6 1]
def s84_16:=[zy 72 16 5,za 71 72]
def s84_17:=[ed 0 (zc 73 1 2) [],ed 1 (zb 74 1 73) [],ed 2 (zc 75 3 2) [],ed 3 (zb 76 1 75) [5],ed 4 (zc 77 8 2) [],ed 5 (zb 78 1 77) [5,5],ed 6 (zc 79 9 2) [],ed 7 (ze 80 2 79) [5,5,5],ed 8 (zc 81 1 5) [],ed 9 (zd 1 81 74) [5],ed 10 (zc 82 3 5) [],ed 11 (zd 1 82 76) [5],ed 12 (zc 83 8 5) [],ed 13 (zd 1 83 78) [5],ed 14 (zc 84 9 5) [],ed 15 (zd 2 84 80) [5]]
def s84_18:=[zh 6 2]
def s84_19:=[zh 7 0,zh 8 0]
def s84_20:=[zc 85 1 2,zb 86 1 85]
def s84_21:=[zb9 88 86,za 87 88]
def s84_22:=[zh 7 1,zh 8 1000]
def s84_23:=[zb7 90 86,za 89 90]
def s84_24:=[zh 7 1,zh 8 1073741824]
def s84_25:=[za 91 1,za 92 91,q1 93 (.load false 1 (.global 0)) 92 false,zp 94 1 2 92,zm 95 1 94 92,za7 96 110 93 95 92,za4 97 96 92,zk 98 92 97,za 99 98,zp 100 3 2 99,zm 101 1 100 99,zaw 102 62 101 99,za4 103 102 99,zk 104 99 103,za 105 104,zp 106 8 2 105,zm 107 1 106 105,zv 108 7 105,zby 109 107 108 105,zk 110 105 109,za 111 110,zp 112 8 2 111,zm 113 1 112 111,zv 114 8 111,q1 115 (.bin .gtr (.tmp 113) (.tmp 114)) 111 false,zk 116 111 115]
def s84_26:=[zac 4]
def s84_27:=[zc 117 9 2,zc 118 0 117,zb 119 1 118,zau 120 119 1,za 121 120,zp 122 9 2 121,zp 123 0 122 121,zm 124 1 123 121,zah 125 124 4 121,zk 126 121 125,za 127 126,zp 128 9 2 127,zp 129 0 128 127,zm 130 1 129 127,za8 131 130 1 127,zp 132 9 2 127,zp 133 1 132 127,zm 134 1 133 127,za8 135 134 0 127,q1 136 (.eqb true .bool (.tmp 131) (.tmp 135)) 127 false,zk 137 127 136,za 138 137,zp 139 9 2 138,zp 140 1 139 138,zm 141 1 140 138,zbj 142 141 0 138,zk 143 138 142,za 144 143,zp 145 9 2 144,zp 146 1 145 144,zm 147 1 146 144,zah 148 147 1099511627776 144,zk 149 144 148]
def s84_28:=[zac 4]
def s84_29:=[zbc 1]
def s84_30:=[zy 151 16 6,za 150 151]
def s84_31:=[zc 152 1 2,zb 153 1 152,zc 154 1 5,zd 1 154 153,zh 6 1]
def s84_32:=[q0 155 (.load false 1 (.global 1)),zc 156 1 2,zb 157 1 156,zq 158 110 155 157,zae 159 158]
def s84_33:=[zac 4]
def s84_34:=[zy 161 16 7,za 160 161]
def s84_35:=[zc 162 1 2,zb 163 1 162,zc 164 1 5,zd 1 164 163,zh 6 2]
def s84_36:=[q0 165 (.load false 1 (.global 2)),zc 166 1 2,zb 167 1 166,zq 168 110 165 167,zae 169 168]
def s84_37:=[zac 4]
def s84_38:=[zy 171 16 8,za 170 171]
def s84_39:=[zh 6 3]
def s84_40:=[zy 173 16 9,za 172 173]
def s84_41:=[zh 6 2]
def s84_42:=[zac 4]
def s84_43:=[ze 174 12 2,ze 175 12 5,zq 176 111 174 175,zae 177 176,za 178 177,zp 179 11 2 178,zm 180 1 179 178,zao 181 180 178,zv 182 6 178,za2 183 181 182 178,zk 184 178 183]
def s84_44:=[zac 4]
def s84_45:=[zc 185 11 2,zb 186 1 185,zu 187 186,zh 188 0]
def s84_46:=[zs 189 188 187]
def s84_47:=[zf 190 12 186 188,ze 191 12 190,zab 10 37,zd 12 10 191]
def s84_48:=[ze 192 12 10,za 193 1,zq 194 84 192 193,zae 195 194]
def s84_49:=[zac 4]
def s84_50:=[zn 196 188 1,za 188 196]
def s84_51:=[zc 197 1 2,zb 198 1 197,zb6 199 198,za 200 199,zr 201 0 2 200,zj 202 1 201 200,zbq 203 202 5 200,zo 204 200 203]
def s84_52:=[zc 205 11 2,zb 206 1 205,zal 207 12 206 0,ze 208 12 207,zab 11 37,zd 12 11 208]
def s84_53:=[ze 209 12 11,zb0 210 1 1,zat 211 1 210,zq 212 111 209 211,za 4 212]
def s84_54:=[zbc 4]
def a84:AC:=Z.r s84_0 [1,2] (Z.r s84_1 [1,2,5] (Z.r s84_2 [1,2,5,6] (Z.s (Z.r s84_3 [1,2,5,6,16] (Z.b 0 (Z.r s84_4 [1,2,5,6,16,17] (Z.c 17 (Z.s (.mreg [] s84_5) [1,2,5,6] (Z.r s84_6 [1,2,5,6,49] (Z.c 49 (Z.e s84_7) .skip))) (Z.s (Z.r s84_8 [1,2,5,6,16,50] (Z.c 50 .skip (Z.r s84_9 [1,2,5,6,16,50] (Z.c 50 .skip (Z.g s84_10))))) [1,2,5,6,16,50] (Z.c 50 (Z.r s84_11 [1,2,5,6] (Z.s (Z.r s84_12 [1,2,5,6,67] (Z.c 67 (Z.e s84_13) .skip)) [1,2,5,6] (Z.r s84_14 [1,2,5,6,70] (Z.c 70 (Z.g s84_15) .skip)))) (Z.r s84_16 [1,2,5,16,71] (Z.c 71 (Z.s (.mreg [] s84_17) [1,2,5] (Z.r s84_18 [1,2,5,6] (Z.r s84_19 [1,2,5,6,7,8] (Z.s (Z.r s84_20 [1,2,5,6,7,8,86] (Z.b 1 (Z.r s84_21 [1,2,5,6,7,8,86,87] (Z.c 87 (Z.g s84_22) (Z.r s84_23 [1,2,5,6,7,8,89] (Z.c 89 (Z.g s84_24) .skip)))))) [1,2,5,6,7,8] (Z.s (Z.r s84_25 [2,5,6,116] (Z.c 116 (Z.e s84_26) .skip)) [2,5,6] (Z.s (Z.r s84_27 [2,5,6,149] (Z.c 149 (Z.e s84_28) .skip)) [2,5,6] (Z.g s84_29))))))) (Z.r s84_30 [1,2,5,16,150] (Z.c 150 (Z.r s84_31 [1,2,5,6] (Z.r s84_32 [1,2,5,6,159] (Z.c 159 (Z.e s84_33) .skip))) (Z.r s84_34 [1,2,5,16,160] (Z.c 160 (Z.r s84_35 [1,2,5,6] (Z.r s84_36 [1,2,5,6,169] (Z.c 169 (Z.e s84_37) .skip))) (Z.r s84_38 [1,2,5,16,170] (Z.c 170 (Z.g s84_39) (Z.r s84_40 [1,2,5,172] (Z.c 172 (Z.g s84_41) (Z.e s84_42))))))))))))))))) [1,2,5,6] (Z.s (Z.r s84_43 [1,2,184] (Z.c 184 (Z.e s84_44) .skip)) [1,2] (Z.s (Z.r s84_45 [1,2,186,187,188] (Z.b 2 (Z.l [1,2,186,187,188] (Z.r s84_46 [1,2,186,187,188,189] (Z.s (Z.c 189 .skip (.exit 2)) [1,2,186,187,188] (Z.s (Z.b 3 (Z.r s84_47 [1,2,10,186,187,188] (Z.r s84_48 [1,2,186,187,188,195] (Z.c 195 (Z.e s84_49) .skip)))) [1,2,186,187,188] (Z.g s84_50))))))) [2] (Z.s (Z.r s84_51 [2,204] (Z.c 204 (Z.r s84_52 [11] (Z.e s84_53)) .skip)) [] (Z.e s84_54)))))))
def c84:FC:=⟨213,a84.erase,[.tmp 4]⟩
theorem comp84:compF Tryz.prog Tryz.f84=some c84:=by kernel_rfl
theorem era84:c84.code=a84.erase:=rfl
def s85_0:=[zh 4 0]
def s85_1:=[za 6 0,zu 7 6,zh 8 0]
def s85_2:=[zs 9 8 7]
def s85_3:=[za 10 8,za 5 10]
def s85_4:=[za 11 1,za 12 0,za 13 5,zf 14 4 12 13,ze 15 4 14,zcq 16 11 15]
def s85_5:=[za 17 5,za 4 17]
def s85_6:=[zn 18 8 1,za 8 18]
def s85_7:=[zbw 4]
def a85:AC:=Z.r s85_0 [0,1] (Z.s (Z.r s85_1 [0,1,7,8] (Z.b 0 (Z.l [0,1,7,8] (Z.r s85_2 [0,1,7,8,9] (Z.s (Z.c 9 .skip (.exit 0)) [0,1,7,8] (Z.s (Z.b 1 (Z.r s85_3 [0,1,5,7,8] (Z.r s85_4 [0,1,5,7,8,16] (Z.c 16 (Z.e s85_5) .skip)))) [0,1,7,8] (Z.g s85_6))))))) [] (Z.e s85_7))
def c85:FC:=⟨19,a85.erase,[.tmp 4]⟩
theorem comp85:compF Tryz.prog Tryz.f85=some c85:=by kernel_rfl
theorem era85:c85.code=a85.erase:=rfl
def s86_0:=[zt 2 58 0,zac 3]
def s86_1:=[zc 4 0 2,zb 5 1 4,zc 6 3 1,zb 7 1 6,zav 8 5 7,za 3 8]
def a86:AC:=Z.r s86_0 [1,2] (Z.e s86_1)
def c86:FC:=⟨9,a86.erase,[.tmp 3]⟩
theorem comp86:compF Tryz.prog Tryz.f86=some c86:=by kernel_rfl
theorem era86:c86.code=a86.erase:=rfl
def s87_0:=[zt 2 9 0,zaa 3 47,zh 4 0]
def s87_1:=[zc 6 2 1,zb 7 1 6,q0 8 (.mkfn (Fn.func 89) [] [.tmp 2]),zq 9 88 7 8,za 5 9]
def s87_2:=[za 10 5,zau 11 10 0]
def s87_3:=[zbi 12 57 4,zi 13 12 0,zi 14 12 1,zd 3 3 13,za 4 14]
def s87_4:=[zc 15 2 1,zb 16 1 15,za 17 5,zf 18 4 16 17,zc 19 1 18,ze 20 3 19,zd 3 3 20,zh 4 0]
def a87:AC:=Z.r s87_0 [1,2,3] (Z.r s87_1 [1,3,5] (Z.s (Z.r s87_2 [1,3,5,11] (Z.c 11 (Z.e s87_3) .skip)) [1,3,5] (Z.e s87_4)))
def c87:FC:=⟨21,a87.erase,[.cell 3 true 3,.tmp 4]⟩
theorem comp87:compF Tryz.prog Tryz.f87=some c87:=by kernel_rfl
theorem era87:c87.code=a87.erase:=rfl
def s88_0:=[zh 4 0]
def s88_1:=[za 6 0,zu 7 6,zh 8 0]
def s88_2:=[zs 9 8 7]
def s88_3:=[za 10 8,za 5 10]
def s88_4:=[za 11 1,za 12 0,za 13 5,zf 14 4 12 13,ze 15 4 14,zcq 16 11 15]
def s88_5:=[za 17 5,za 4 17]
def s88_6:=[zn 18 8 1,za 8 18]
def s88_7:=[zbw 4]
def a88:AC:=Z.r s88_0 [0,1] (Z.s (Z.r s88_1 [0,1,7,8] (Z.b 0 (Z.l [0,1,7,8] (Z.r s88_2 [0,1,7,8,9] (Z.s (Z.c 9 .skip (.exit 0)) [0,1,7,8] (Z.s (Z.b 1 (Z.r s88_3 [0,1,5,7,8] (Z.r s88_4 [0,1,5,7,8,16] (Z.c 16 (Z.e s88_5) .skip)))) [0,1,7,8] (Z.g s88_6))))))) [] (Z.e s88_7))
def c88:FC:=⟨19,a88.erase,[.tmp 4]⟩
theorem comp88:compF Tryz.prog Tryz.f88=some c88:=by kernel_rfl
theorem era88:c88.code=a88.erase:=rfl
def s89_0:=[zt 2 96 0,zac 3]
def s89_1:=[zc 4 0 2,zb 5 1 4,zb 6 1 1,zav 7 5 6,za 3 7]
def a89:AC:=Z.r s89_0 [1,2] (Z.e s89_1)
def c89:FC:=⟨8,a89.erase,[.tmp 3]⟩
theorem comp89:compF Tryz.prog Tryz.f89=some c89:=by kernel_rfl
theorem era89:c89.code=a89.erase:=rfl
def s90_0:=[zt 2 92 0,q0 4 (.mv (.const .nilFunc))]
def s90_1:=[q0 5 (.exts (.makeMap 138 none) 138 [] []),ze 6 6 2,q0 7 (.mkfn (Fn.func 112) [.tmp 6] []),zam 5 1 7 0 5 1 7,ze 8 6 2,q0 9 (.mkfn (Fn.func 113) [.tmp 8] []),zam 5 2 9 0 5 2 9,ze 10 6 2,q0 11 (.mkfn (Fn.func 114) [.tmp 10] []),zam 5 3 11 0 5 3 11,ze 12 6 2,q0 13 (.mkfn (Fn.func 115) [.tmp 12] []),zam 5 4 13 0 5 4 13,ze 14 6 2,q0 15 (.mkfn (Fn.func 116) [.tmp 14] []),zam 5 5 15 0 5 5 15,ze 16 6 2,q0 17 (.mkfn (Fn.func 117) [.tmp 16] []),zam 5 6 17 0 5 6 17,ze 18 6 2,q0 19 (.mkfn (Fn.func 118) [.tmp 18] []),zam 5 7 19 0 5 7 19,ze 20 6 2,q0 21 (.mkfn (Fn.func 119) [.tmp 20] []),zam 5 8 21 0 5 8 21,ze 22 6 2,q0 23 (.mkfn (Fn.func 120) [.tmp 22] []),zam 5 9 23 0 5 9 23,za 24 5,za 25 1,q0 26 (.extq (.lookup 138 (.tmp 24) (.tmp 25) false) 121 [.mp 3 121,.int .i64] [.tmp 24,.tmp 25]),za 4 26]
def a90:AC:=Z.r s90_0 [1,2] (Z.e s90_1)
def c90:FC:=⟨27,a90.erase,[.tmp 4]⟩
theorem comp90:compF Tryz.prog Tryz.f90=some c90:=by kernel_rfl
theorem era90:c90.code=a90.erase:=rfl
def s91_0:=[zac 2]
def s91_1:=[za 3 0,zcu 4 3,za 5 4,zl 6 0 5,q1 7 (.call 121 [.tmp 6,ks ⟨#[32]⟩]) 5 true,zax 8 7 5,zo 9 5 8,za 10 9,zl 11 0 10,q1 12 (.bin .add (ks ⟨#[32]⟩) (.tmp 11)) 10 true,q1 13 (.bin .add (.tmp 12) (ks ⟨#[32]⟩)) 10 true,q1 14 (.call 121 [.const (.string (ByteArray.mk (List.toArray (List.append (List.append [32,116,97,98,108,101,32,102,101,97,116,117,114,101,32,111,102,32,107,101,101,112,32,98,111,111,108,32,116,101,120,116,32,107,101,121,32,105,110,116,32,100,101,99,32,105] [102,32,116,104,101,110,32,101,108,115,101,32,100,101,102,97,117,108,116,32,111,114,32,97,110,100,32,110,111,116,32,116,114,117,101,32,102,97,108,115,101,32,110,117,108,108,32]) (List.append [99,111,117,110,116,32,115,117,109,32,109,101,97,110,32,109,105,110,32,109,97,120,32,102,105,114,115,116,32,108,97,115,116,32,100,105,115,116,105,110,99,116,32,113,117,97] [110,116,105,108,101,32,100,101,99,97,121,32,97,108,108,32,115,108,105,100,105,110,103,32,116,117,109,98,108,105,110,103,32,115,101,115,115,105,111,110,32,119,104,101,114,101,32]))))),.tmp 13]) 10 true,zo 15 10 14,za 2 15]
def a91:AC:=Z.r s91_0 [0] (Z.e s91_1)
def c91:FC:=⟨16,a91.erase,[.tmp 2]⟩
theorem comp91:compF Tryz.prog Tryz.f91=some c91:=by kernel_rfl
theorem era91:c91.code=a91.erase:=rfl
def s92_0:=[zt 1 47 0,zac 2]
def s92_1:=[zc 3 0 1,zb 4 1 3,zy 5 4 2,za 6 5,zp 7 0 1 6,zm 8 1 7 6,za8 9 8 3 6,zk 10 6 9,za 2 10]
def a92:AC:=Z.r s92_0 [1] (Z.e s92_1)
def c92:FC:=⟨11,a92.erase,[.tmp 2]⟩
theorem comp92:compF Tryz.prog Tryz.f92=some c92:=by kernel_rfl
theorem era92:c92.code=a92.erase:=rfl
def s93_0:=[zh 2 0]
def s93_1:=[za 5 0,zu 6 5,zar 7 6 4]
def s93_2:=[zh 2 2]
def s93_3:=[za 8 0,zu 9 8,zh 10 0]
def s93_4:=[zs 11 10 9]
def s93_5:=[za 12 10,zf 13 2 8 10,ze 14 2 13,zcb 4 124,za 3 12,zd 2 4 14]
def s93_6:=[zc 16 0 4,zb 17 1 16,zw 18 122 17,zae 19 18,za 15 19]
def s93_7:=[zh 2 1]
def s93_8:=[zc 21 1 4,zb 22 1 21,zy 23 22 0,za 24 23,zp 25 1 4 24,zm 26 1 25 24,q1 27 (.call 123 [.tmp 26,ki 8]) 24 false,zk 28 24 27,za 20 28]
def s93_9:=[zh 2 70]
def s93_10:=[za 30 3,zar 31 30 0,za 32 31,zr 33 0 4 32,zj 34 1 33 32,zl 35 0 32,zl 36 3 32,zbh 37 36 1 32,zad 38 2 35 37 32,zr 39 0 38 32,zj 40 1 39 32,zbz 41 34 40 32,zo 42 32 41,za 29 42]
def s93_11:=[zh 2 3]
def s93_12:=[zn 43 10 1,za 10 43]
def s93_13:=[zh 2 0]
def a93:AC:=Z.r s93_0 [0] (Z.s (Z.r s93_1 [0,7] (Z.c 7 (Z.e s93_2) .skip)) [0] (Z.s (Z.r s93_3 [0,8,9,10] (Z.b 0 (Z.l [0,8,9,10] (Z.r s93_4 [0,8,9,10,11] (Z.s (Z.c 11 .skip (.exit 0)) [0,8,9,10] (Z.s (Z.b 1 (Z.r s93_5 [0,3,4,8,9,10] (Z.b 2 (Z.r s93_6 [0,3,4,8,9,10,15] (Z.c 15 (Z.e s93_7) (Z.r s93_8 [0,3,4,8,9,10,20] (Z.c 20 (Z.e s93_9) (Z.d s93_10 [0,8,9,10,29] (Z.c 29 (Z.e s93_11) .skip))))))))) [0,8,9,10] (Z.g s93_12))))))) [] (Z.e s93_13)))
def c93:FC:=⟨44,a93.erase,[.tmp 2]⟩
theorem comp93:compF Tryz.prog Tryz.f93=some c93:=by kernel_rfl
theorem era93:c93.code=a93.erase:=rfl
def s94_0:=[zac 4]
def s94_1:=[za 5 0,za 6 1,zq 7 124 5 6,zbb 8 7 0,za 4 8]
def a94:AC:=Z.r s94_0 [0,1] (Z.e s94_1)
def c94:FC:=⟨9,a94.erase,[.tmp 4]⟩
theorem comp94:compF Tryz.prog Tryz.f94=some c94:=by kernel_rfl
theorem era94:c94.code=a94.erase:=rfl
def s95_0:=[zt 1 124 0,zac 2]
def s95_1:=[zc 3 0 1,zb 4 1 3,zw 5 62 4,zae 6 5,za 2 6]
def a95:AC:=Z.r s95_0 [1] (Z.e s95_1)
def c95:FC:=⟨7,a95.erase,[.tmp 2]⟩
theorem comp95:compF Tryz.prog Tryz.f95=some c95:=by kernel_rfl
theorem era95:c95.code=a95.erase:=rfl
def s96_0:=[zac 4]
def s96_1:=[za 5 0,za 6 1,zq 7 125 5 6,za 4 7]
def a96:AC:=Z.r s96_0 [0,1] (Z.e s96_1)
def c96:FC:=⟨8,a96.erase,[.tmp 4]⟩
theorem comp96:compF Tryz.prog Tryz.f96=some c96:=by kernel_rfl
theorem era96:c96.code=a96.erase:=rfl
def s97_0:=[zh 4 0]
def s97_1:=[za 6 0,za 7 1,zf 8 1 6 7,zb 9 1 8,zw 10 126 9,zae 11 10]
def s97_2:=[zh 4 0]
def s97_3:=[zh 5 1]
def s97_4:=[za 12 1,za 13 5,zap 14 12 13,za 15 0,zu 16 15,zs 17 14 16,za 18 17,zl 19 0 18,zl 20 1 18,zl 21 5 18,q1 22 (.bin .add (.tmp 20) (.tmp 21)) 18 true,zad 23 1 19 22 18,zj 24 1 23 18,za5 25 126 24 18,zl 26 25 18,zv 27 0 26,zv 28 1 26,zv 29 5 26,q1 30 (.bin .add (.tmp 28) (.tmp 29)) 26 false,zbo 31 1 27 30 26,zm 32 1 31 26,zaw 33 127 32 26,zbl 34 26 33 18,zl 35 34 18,zv 36 0 35,zv 37 1 35,zv 38 5 35,q1 39 (.bin .add (.tmp 37) (.tmp 38)) 35 false,zbo 40 1 36 39 35,zm 41 1 40 35,q1 42 (.bin .eql (.tmp 41) (.const (.int .u8 95))) 35 false,zbl 43 35 42 18,zo 44 18 43]
def s97_5:=[za 45 5,zn 46 45 1,za 5 46]
def s97_6:=[za 47 5,za 4 47]
def a97:AC:=Z.r s97_0 [0,1] (Z.s (Z.r s97_1 [0,1,11] (Z.c 11 (Z.e s97_2) .skip)) [0,1] (Z.r s97_3 [0,1,5] (Z.s (Z.b 0 (Z.l [0,1,5] (Z.s (Z.r s97_4 [0,1,5,44] (Z.c 44 .skip (.exit 0))) [0,1,5] (Z.b 1 (Z.g s97_5))))) [5] (Z.e s97_6))))
def c97:FC:=⟨48,a97.erase,[.tmp 4]⟩
theorem comp97:compF Tryz.prog Tryz.f97=some c97:=by kernel_rfl
theorem era97:c97.code=a97.erase:=rfl
def s98_0:=[zac 2]
def s98_1:=[za 3 0]
def s98_2:=[q0 5 (.bin .eql (.tmp 3) (ks ⟨#[116,97,98,108,101]⟩)),za 4 5]
def s98_3:=[q0 6 (.bin .eql (.tmp 3) (ks ⟨#[102,101,97,116,117,114,101]⟩)),za 4 6]
def s98_4:=[q0 7 (.bin .eql (.tmp 3) (ks ⟨#[111,102]⟩)),za 4 7]
def s98_5:=[q0 8 (.bin .eql (.tmp 3) (ks ⟨#[107,101,101,112]⟩)),za 4 8]
def s98_6:=[q0 9 (.bin .eql (.tmp 3) (ks ⟨#[98,111,111,108]⟩)),za 4 9]
def s98_7:=[q0 10 (.bin .eql (.tmp 3) (ks ⟨#[116,101,120,116]⟩)),za 4 10]
def s98_8:=[q0 11 (.bin .eql (.tmp 3) (ks ⟨#[107,101,121]⟩)),za 4 11]
def s98_9:=[q0 12 (.bin .eql (.tmp 3) (ks ⟨#[105,110,116]⟩)),za 4 12]
def s98_10:=[q0 13 (.bin .eql (.tmp 3) (ks ⟨#[100,101,99]⟩)),za 4 13]
def s98_11:=[q0 14 (.bin .eql (.tmp 3) (ks ⟨#[105,102]⟩)),za 4 14]
def s98_12:=[q0 15 (.bin .eql (.tmp 3) (ks ⟨#[116,104,101,110]⟩)),za 4 15]
def s98_13:=[q0 16 (.bin .eql (.tmp 3) (ks ⟨#[101,108,115,101]⟩)),za 4 16]
def s98_14:=[q0 17 (.bin .eql (.tmp 3) (ks ⟨#[100,101,102,97,117,108,116]⟩)),za 4 17]
def s98_15:=[zcy 18 3,za 4 18]
def s98_16:=[zcx 19 3,za 4 19]
def s98_17:=[q0 20 (.bin .eql (.tmp 3) (ks ⟨#[110,111,116]⟩)),za 4 20]
def s98_18:=[q0 21 (.bin .eql (.tmp 3) (ks ⟨#[116,114,117,101]⟩)),za 4 21]
def s98_19:=[q0 22 (.bin .eql (.tmp 3) (ks ⟨#[102,97,108,115,101]⟩)),za 4 22]
def s98_20:=[q0 23 (.bin .eql (.tmp 3) (ks ⟨#[110,117,108,108]⟩)),za 4 23]
def s98_21:=[zbc 2]
def s98_22:=[zb6 25 3,za 24 25]
def s98_23:=[q0 26 (.bin .eql (.tmp 3) (ks ⟨#[115,117,109]⟩)),za 24 26]
def s98_24:=[zcr 27 3,za 24 27]
def s98_25:=[q0 28 (.bin .eql (.tmp 3) (ks ⟨#[109,105,110]⟩)),za 24 28]
def s98_26:=[q0 29 (.bin .eql (.tmp 3) (ks ⟨#[109,97,120]⟩)),za 24 29]
def s98_27:=[q0 30 (.bin .eql (.tmp 3) (ks ⟨#[102,105,114,115,116]⟩)),za 24 30]
def s98_28:=[q0 31 (.bin .eql (.tmp 3) (ks ⟨#[108,97,115,116]⟩)),za 24 31]
def s98_29:=[zca 32 3,za 24 32]
def s98_30:=[zb9 33 3,za 24 33]
def s98_31:=[zb7 34 3,za 24 34]
def s98_32:=[q0 35 (.bin .eql (.tmp 3) (ks ⟨#[97,108,108]⟩)),za 24 35]
def s98_33:=[q0 36 (.bin .eql (.tmp 3) (ks ⟨#[115,108,105,100,105,110,103]⟩)),za 24 36]
def s98_34:=[q0 37 (.bin .eql (.tmp 3) (ks ⟨#[116,117,109,98,108,105,110,103]⟩)),za 24 37]
def s98_35:=[q0 38 (.bin .eql (.tmp 3) (ks ⟨#[115,101,115,115,105,111,110]⟩)),za 24 38]
def s98_36:=[q0 39 (.bin .eql (.tmp 3) (ks ⟨#[119,104,101,114,101]⟩)),za 24 39]
def s98_37:=[zbc 2]
def s98_38:=[zac 2]
def a98:AC:=Z.r s98_0 [0] (Z.s (Z.r s98_1 [3] (Z.b 0 (Z.s (Z.r s98_2 [3,4] (Z.c 4 .skip (Z.r s98_3 [3,4] (Z.c 4 .skip (Z.r s98_4 [3,4] (Z.c 4 .skip (Z.r s98_5 [3,4] (Z.c 4 .skip (Z.r s98_6 [3,4] (Z.c 4 .skip (Z.r s98_7 [3,4] (Z.c 4 .skip (Z.r s98_8 [3,4] (Z.c 4 .skip (Z.r s98_9 [3,4] (Z.c 4 .skip (Z.r s98_10 [3,4] (Z.c 4 .skip (Z.r s98_11 [3,4] (Z.c 4 .skip (Z.r s98_12 [3,4] (Z.c 4 .skip (Z.r s98_13 [3,4] (Z.c 4 .skip (Z.r s98_14 [3,4] (Z.c 4 .skip (Z.r s98_15 [3,4] (Z.c 4 .skip (Z.r s98_16 [3,4] (Z.c 4 .skip (Z.r s98_17 [3,4] (Z.c 4 .skip (Z.r s98_18 [3,4] (Z.c 4 .skip (Z.r s98_19 [3,4] (Z.c 4 .skip (Z.g s98_20))))))))))))))))))))))))))))))))))))) [3,4] (Z.c 4 (Z.e s98_21) (Z.s (Z.r s98_22 [3,24] (Z.c 24 .skip (Z.r s98_23 [3,24] (Z.c 24 .skip (Z.r s98_24 [3,24] (Z.c 24 .skip (Z.r s98_25 [3,24] (Z.c 24 .skip (Z.r s98_26 [3,24] (Z.c 24 .skip (Z.r s98_27 [3,24] (Z.c 24 .skip (Z.r s98_28 [3,24] (Z.c 24 .skip (Z.r s98_29 [3,24] (Z.c 24 .skip (Z.r s98_30 [3,24] (Z.c 24 .skip (Z.r s98_31 [3,24] (Z.c 24 .skip (Z.r s98_32 [3,24] (Z.c 24 .skip (Z.r s98_33 [3,24] (Z.c 24 .skip (Z.r s98_34 [3,24] (Z.c 24 .skip (Z.r s98_35 [3,24] (Z.c 24 .skip (Z.g s98_36))))))))))))))))))))))))))))) [24] (Z.c 24 (Z.e s98_37) .skip)))))) [] (Z.e s98_38))
def c98:FC:=⟨40,a98.erase,[.tmp 2]⟩
theorem comp98:compF Tryz.prog Tryz.f98=some c98:=by kernel_rfl
theorem era98:c98.code=a98.erase:=rfl
def s99_0:=[zt 1 47 0,zac 2]
def s99_1:=[zc 3 0 1,zb 4 1 3,zy 5 4 2,za 6 5,zp 7 0 1 6,zm 8 1 7 6,za8 9 8 3 6,zk 10 6 9,za 2 10]
def a99:AC:=Z.r s99_0 [1] (Z.e s99_1)
def c99:FC:=⟨11,a99.erase,[.tmp 2]⟩
theorem comp99:compF Tryz.prog Tryz.f99=some c99:=by kernel_rfl
theorem era99:c99.code=a99.erase:=rfl
def s100_0:=[zh 2 0]
def s100_1:=[za 5 0,zu 6 5,zar 7 6 4]
def s100_2:=[zh 2 2]
def s100_3:=[zh 3 0]
def s100_4:=[za 8 3,za 9 0,zu 10 9,zs 11 8 10]
def s100_5:=[za 14 0,za 15 3,zf 16 2 14 15,zc 17 0 16,zb 18 1 17,zw 19 128 18,za 4 19]
def s100_6:=[za 20 4,zae 21 20]
def s100_7:=[zh 2 1]
def s100_8:=[za 22 0,za 23 3,zf 24 2 22 23,zc 25 1 24,zb 26 1 25,zy 27 26 0,za 28 27,zv 29 0 28,zv 30 3 28,zbo 31 2 29 30 28,zp 32 1 31 28,zm 33 1 32 28,zaw 34 129 33 28,zk 35 28 34]
def s100_9:=[zh 2 70]
def s100_10:=[za 36 3,zar 37 36 0,za 38 37,zl 39 0 38,zl 40 3 38,zad 41 2 39 40 38,zr 42 0 41 38,zj 43 1 42 38,zl 44 0 38,zl 45 3 38,zbh 46 45 1 38,zad 47 2 44 46 38,zr 48 0 47 38,zj 49 1 48 38,zbz 50 43 49 38,zo 51 38 50]
def s100_11:=[zh 2 3]
def s100_12:=[za 12 3,zn 13 12 1,za 3 13]
def s100_13:=[zh 2 0]
def a100:AC:=Z.r s100_0 [0] (Z.s (Z.r s100_1 [0,7] (Z.c 7 (Z.e s100_2) .skip)) [0] (Z.s (Z.r s100_3 [0,3] (Z.b 0 (Z.l [0,3] (Z.s (Z.r s100_4 [0,3,11] (Z.c 11 .skip (.exit 0))) [0,3] (Z.s (Z.b 1 (Z.r s100_5 [0,3,4] (Z.s (Z.r s100_6 [0,3,21] (Z.c 21 (Z.e s100_7) .skip)) [0,3] (Z.s (Z.r s100_8 [0,3,35] (Z.c 35 (Z.e s100_9) .skip)) [0,3] (Z.d s100_10 [0,3,51] (Z.c 51 (Z.e s100_11) .skip)))))) [0,3] (Z.g s100_12)))))) [] (Z.e s100_13)))
def c100:FC:=⟨52,a100.erase,[.tmp 2]⟩
theorem comp100:compF Tryz.prog Tryz.f100=some c100:=by kernel_rfl
theorem era100:c100.code=a100.erase:=rfl
def s101_0:=[zt 1 37 0,zh 2 0]
def s101_1:=[zh 3 1]
def s101_2:=[zh 4 0]
def s101_3:=[za 5 4,zc 6 11 1,zb 7 1 6,zu 8 7,zs 9 5 8]
def s101_4:=[za 12 3,zc 13 11 1,zb 14 1 13,za 15 4,zf 16 12 14 15,ze 17 12 16,zw 18 101 17,zap 19 12 18,za 3 19]
def s101_5:=[za 10 4,zn 11 10 1,za 4 11]
def s101_6:=[za 20 3,za 2 20]
def a101:AC:=Z.r s101_0 [1] (Z.r s101_1 [1,3] (Z.s (Z.r s101_2 [1,3,4] (Z.b 0 (Z.l [1,3,4] (Z.s (Z.r s101_3 [1,3,4,9] (Z.c 9 .skip (.exit 0))) [1,3,4] (Z.s (Z.b 1 (Z.g s101_4)) [1,3,4] (Z.g s101_5)))))) [3] (Z.e s101_6)))
def c101:FC:=⟨21,a101.erase,[.tmp 2]⟩
theorem comp101:compF Tryz.prog Tryz.f101=some c101:=by kernel_rfl
theorem era101:c101.code=a101.erase:=rfl
end Go.Proofs.YtekngilbecjkhaaGreatDoor
