
/- The compiled code of functions, printed by a program of mine. -/
import Derived.Test.YtekngilbecjkhaaGreatDoorGi
import Derived.Test.YtekngilbecjkhaaGreatDoorRows
set_option linter.unusedVariables false
namespace Go.Proofs.YtekngilbecjkhaaGreatDoor
open Go.Sx
def s109_0 : List CI := [q0 1 (.box 31 (.tmp 0)), q0 2 (.mv (ki 0))]
def s109_1 : List CI := [q0 9 (.faddr 0 (.tmp 1)), q0 10 (.load false 1 (.tmp 9)), q0 11 (.bin .eql (.tmp 10) (ki 2)), q0 12 (.mv (.tmp 11)), q1 13 (.faddr 0 (.tmp 1)) 12 false, q1 14 (.load false 1 (.tmp 13)) 12 false, q1 15 (.bin .eql (.tmp 14) (ki 3)) 12 false, q0 16 (.pick (.tmp 12) kT (.tmp 15)), q0 3 (.mv (.tmp 16))]
def s109_2 : List CI := [q0 17 (.faddr 0 (.tmp 1)), q0 18 (.load false 1 (.tmp 17)), q0 19 (.bin .eql (.tmp 18) (ki 4)), q0 20 (.mv (.tmp 19)), q1 21 (.faddr 0 (.tmp 1)) 20 false, q1 22 (.load false 1 (.tmp 21)) 20 false, q1 23 (.bin .eql (.tmp 22) (ki 5)) 20 false, q0 24 (.pick (.tmp 20) kT (.tmp 23)), q0 4 (.mv (.tmp 24))]
def s109_3 : List CI := [q0 26 (.faddr 0 (.tmp 1)), q0 27 (.load false 1 (.tmp 26)), q0 28 (.bin .lss (.tmp 27) (ki 0)), q0 29 (.mv (.tmp 28)), q1 30 (.faddr 0 (.tmp 1)) 29 false, q1 31 (.load false 1 (.tmp 30)) 29 false, q1 32 (.bin .gtr (.tmp 31) (ki 5)) 29 false, q0 33 (.pick (.tmp 29) kT (.tmp 32)), q0 25 (.mv (.tmp 33))]
def s109_4 : List CI := [q0 34 (.mv (.tmp 4)), q0 35 (.un .not (.tmp 34)), q0 36 (.mv (.tmp 35)), q1 37 (.faddr 2 (.tmp 1)) 36 true, q1 38 (.load false 1 (.tmp 37)) 36 true, q1 39 (.bin .neq (.tmp 38) (ks ⟨#[]⟩)) 36 true, q0 40 (.pick (.tmp 36) (.tmp 39) kF), q0 25 (.mv (.tmp 40))]
def s109_5 : List CI := [q0 2 (.mv (ki 1))]
def s109_6 : List CI := [q0 42 (.mv (.tmp 3)), q0 43 (.un .not (.tmp 42)), q0 44 (.mv (.tmp 43)), q1 45 (.faddr 1 (.tmp 1)) 44 true, q1 46 (.load false 1 (.tmp 45)) 44 true, q1 47 (.bin .neq (.tmp 46) (ki 0)) 44 true, q0 48 (.pick (.tmp 44) (.tmp 47) kF), q0 49 (.mv (.tmp 48)), q1 50 (.faddr 0 (.tmp 1)) 49 true, q1 51 (.load false 1 (.tmp 50)) 49 true, q1 52 (.bin .neq (.tmp 51) (ki 1)) 49 true, q1 53 (.mv (.tmp 52)) 49 true, q1 54 (.faddr 1 (.tmp 1)) 53 false, q1 55 (.load false 1 (.tmp 54)) 53 false, q1 56 (.bin .neq (.tmp 55) (ki 1)) 53 false, q1 57 (.pick (.tmp 53) kT (.tmp 56)) 49 true, q0 58 (.pick (.tmp 49) (.tmp 57) kF), q0 41 (.mv (.tmp 58))]
def s109_7 : List CI := [q0 2 (.mv (ki 1))]
def s109_8 : List CI := [q0 60 (.faddr 1 (.tmp 1)), q0 61 (.load false 1 (.tmp 60)), q0 62 (.bin .lss (.tmp 61) (.const (.int .i64 (-1152921504606846976)))), q0 63 (.mv (.tmp 62)), q1 64 (.faddr 1 (.tmp 1)) 63 false, q1 65 (.load false 1 (.tmp 64)) 63 false, q1 66 (.bin .gtr (.tmp 65) (ki 1152921504606846976)) 63 false, q0 67 (.pick (.tmp 63) kT (.tmp 66)), q0 59 (.mv (.tmp 67))]
def s109_9 : List CI := [q0 2 (.mv (ki 2))]
def s109_10 : List CI := [q0 68 (.mv (.tmp 4)), q0 69 (.un .not (.tmp 68))]
def s109_11 : List CI := [q0 2 (.mv (ki 0))]
def s109_12 : List CI := [q0 5 (.mv (ki 64)), q0 6 (.mv (.const (.int .u8 32)))]
def s109_13 : List CI := [q0 70 (.faddr 0 (.tmp 1)), q0 71 (.load false 1 (.tmp 70)), q0 72 (.bin .eql (.tmp 71) (ki 5))]
def s109_14 : List CI := [q0 5 (.mv (ki 32)), q0 6 (.mv (.const (.int .u8 33)))]
def s109_15 : List CI := [q0 73 (.faddr 2 (.tmp 1)), q0 74 (.load false 1 (.tmp 73)), q0 75 (.len true (.tmp 74)), q0 76 (.mv (.tmp 5)), q0 77 (.bin .gtr (.tmp 75) (.tmp 76))]
def s109_16 : List CI := [q0 2 (.mv (ki 2))]
def s109_17 : List CI := [q0 78 (.faddr 0 (.tmp 1)), q0 79 (.load false 1 (.tmp 78)), q0 80 (.bin .eql (.tmp 79) (ki 5)), q0 81 (.mv (.tmp 80)), q1 82 (.faddr 2 (.tmp 1)) 81 true, q1 83 (.load false 1 (.tmp 82)) 81 true, q1 84 (.bin .eql (.tmp 83) (ks ⟨#[]⟩)) 81 true, q0 85 (.pick (.tmp 81) (.tmp 84) kF)]
def s109_18 : List CI := [q0 2 (.mv (ki 3))]
def s109_19 : List CI := [q0 86 (.faddr 2 (.tmp 1)), q0 87 (.load false 1 (.tmp 86)), q0 88 (.len true (.tmp 87)), q0 89 (.mv (ki 0))]
def s109_20 : List CI := [q0 90 (.bin .lss (.tmp 89) (.tmp 88))]
def s109_21 : List CI := [q0 91 (.mv (.tmp 89)), q0 7 (.mv (.tmp 91))]
def s109_22 : List CI := [q0 92 (.faddr 2 (.tmp 1)), q0 93 (.load false 1 (.tmp 92)), q0 94 (.mv (.tmp 7)), q0 95 (.idxs (.tmp 93) (.tmp 94)), q0 8 (.mv (.tmp 95))]
def s109_23 : List CI := [q0 96 (.mv (.tmp 8)), q0 97 (.mv (.tmp 6)), q0 98 (.bin .lss (.tmp 96) (.tmp 97)), q0 99 (.mv (.tmp 98)), q1 100 (.mv (.tmp 8)) 99 false, q1 101 (.bin .gtr (.tmp 100) (.const (.int .u8 126))) 99 false, q0 102 (.pick (.tmp 99) kT (.tmp 101)), q0 103 (.mv (.tmp 102)), q1 104 (.mv (.tmp 8)) 103 false, q1 105 (.bin .eql (.tmp 104) (.const (.int .u8 34))) 103 false, q0 106 (.pick (.tmp 103) kT (.tmp 105)), q0 107 (.mv (.tmp 106)), q1 108 (.mv (.tmp 8)) 107 false, q1 109 (.bin .eql (.tmp 108) (.const (.int .u8 92))) 107 false, q0 110 (.pick (.tmp 107) kT (.tmp 109))]
def s109_24 : List CI := [q0 2 (.mv (ki 3))]
def s109_25 : List CI := [q0 111 (.bin .add (.tmp 89) (ki 1)), q0 89 (.mv (.tmp 111))]
def s109_26 : List CI := [q0 2 (.mv (ki 0))]
def a109 : AC := (.seq (.reg s109_0) (.keep [1] (.seq (.reg s109_1) (.keep [1, 3] (.seq (.reg s109_2) (.keep [1, 3, 4] (.seq (.block 0 (.seq (.seq (.reg s109_3) (.keep [1, 3, 4, 25] (.cond (.tmp 25) .skip (.reg s109_4)))) (.keep [1, 3, 4, 25] (.cond (.tmp 25) (.seq (.reg s109_5) .ret) (.seq (.reg s109_6) (.keep [1, 4, 41] (.cond (.tmp 41) (.seq (.reg s109_7) .ret) (.seq (.reg s109_8) (.keep [1, 4, 59] (.cond (.tmp 59) (.seq (.reg s109_9) .ret) .skip)))))))))) (.keep [1, 4] (.seq (.seq (.reg s109_10) (.keep [1, 69] (.cond (.tmp 69) (.seq (.reg s109_11) .ret) .skip))) (.keep [1] (.seq (.reg s109_12) (.keep [1, 5, 6] (.seq (.seq (.reg s109_13) (.keep [1, 5, 6, 72] (.cond (.tmp 72) (.reg s109_14) .skip))) (.keep [1, 5, 6] (.seq (.seq (.reg s109_15) (.keep [1, 6, 77] (.cond (.tmp 77) (.seq (.reg s109_16) .ret) .skip))) (.keep [1, 6] (.seq (.seq (.reg s109_17) (.keep [1, 6, 85] (.cond (.tmp 85) (.seq (.reg s109_18) .ret) .skip))) (.keep [1, 6] (.seq (.seq (.reg s109_19) (.keep [1, 6, 88, 89] (.block 1 (.loop (.keep [1, 6, 88, 89] (.seq (.reg s109_20) (.keep [1, 6, 88, 89, 90] (.seq (.cond (.tmp 90) .skip (.exit 1)) (.keep [1, 6, 88, 89] (.seq (.block 2 (.seq (.reg s109_21) (.keep [1, 6, 7, 88, 89] (.seq (.reg s109_22) (.keep [1, 6, 8, 88, 89] (.seq (.reg s109_23) (.keep [1, 6, 88, 89, 110] (.cond (.tmp 110) (.seq (.reg s109_24) .ret) .skip)))))))) (.keep [1, 6, 88, 89] (.reg s109_25)))))))))))) (.keep [] (.seq (.reg s109_26) .ret)))))))))))))))))))))
def c109 : FC := ⟨112, a109.erase, [.tmp 2]⟩
theorem comp109 : compF Tryz.prog Tryz.f109 = some c109 := by kernel_rfl
theorem era109 : c109.code = a109.erase := rfl
def s110_0 : List CI := [q0 4 (.mv kF)]
def s110_1 : List CI := [q0 5 (.mv (.tmp 0)), q0 6 (.mv (.tmp 1)), q0 7 (.call 146 [.tmp 5, .tmp 6]), q0 8 (.bin .geq (.tmp 7) (ki 0)), q0 4 (.mv (.tmp 8))]
def a110 : AC := (.seq (.reg s110_0) (.keep [0, 1] (.seq (.reg s110_1) .ret)))
def c110 : FC := ⟨9, a110.erase, [.tmp 4]⟩
theorem comp110 : compF Tryz.prog Tryz.f110 = some c110 := by kernel_rfl
theorem era110 : c110.code = a110.erase := rfl
def s111_0 : List CI := [q0 2 (.box 37 (.tmp 0)), q0 3 (.box 37 (.tmp 1)), q0 4 (.mv kF)]
def s111_1 : List CI := [q0 5 (.faddr 0 (.tmp 2)), q0 6 (.load false 1 (.tmp 5)), q0 7 (.faddr 0 (.tmp 3)), q0 8 (.load false 1 (.tmp 7)), q0 9 (.bin .eql (.tmp 6) (.tmp 8)), q0 10 (.mv (.tmp 9)), q1 11 (.faddr 1 (.tmp 2)) 10 true, q1 12 (.load false 1 (.tmp 11)) 10 true, q1 13 (.faddr 1 (.tmp 3)) 10 true, q1 14 (.load false 1 (.tmp 13)) 10 true, q1 15 (.bin .eql (.tmp 12) (.tmp 14)) 10 true, q0 16 (.pick (.tmp 10) (.tmp 15) kF), q0 17 (.mv (.tmp 16)), q1 18 (.faddr 2 (.tmp 2)) 17 true, q1 19 (.load false 1 (.tmp 18)) 17 true, q1 20 (.faddr 2 (.tmp 3)) 17 true, q1 21 (.load false 1 (.tmp 20)) 17 true, q1 22 (.bin .eql (.tmp 19) (.tmp 21)) 17 true, q0 23 (.pick (.tmp 17) (.tmp 22) kF), q0 24 (.mv (.tmp 23)), q1 25 (.faddr 3 (.tmp 2)) 24 true, q1 26 (.load false 1 (.tmp 25)) 24 true, q1 27 (.faddr 3 (.tmp 3)) 24 true, q1 28 (.load false 1 (.tmp 27)) 24 true, q1 29 (.bin .eql (.tmp 26) (.tmp 28)) 24 true, q0 30 (.pick (.tmp 24) (.tmp 29) kF), q0 31 (.mv (.tmp 30)), q1 32 (.faddr 4 (.tmp 2)) 31 true, q1 33 (.load true 3 (.tmp 32)) 31 true, q1 34 (.faddr 4 (.tmp 3)) 31 true, q1 35 (.load true 3 (.tmp 34)) 31 true, q1 36 (.eqs false [.int, .int, .str] (.tmp 33) (.tmp 35)) 31 true, q0 37 (.pick (.tmp 31) (.tmp 36) kF), q0 38 (.mv (.tmp 37)), q1 39 (.faddr 7 (.tmp 2)) 38 true, q1 40 (.load false 1 (.tmp 39)) 38 true, q1 41 (.faddr 7 (.tmp 3)) 38 true, q1 42 (.load false 1 (.tmp 41)) 38 true, q1 43 (.call 125 [.tmp 40, .tmp 42]) 38 true, q0 44 (.pick (.tmp 38) (.tmp 43) kF), q0 45 (.mv (.tmp 44)), q1 46 (.faddr 8 (.tmp 2)) 45 true, q1 47 (.load false 1 (.tmp 46)) 45 true, q1 48 (.faddr 8 (.tmp 3)) 45 true, q1 49 (.load false 1 (.tmp 48)) 45 true, q1 50 (.bin .eql (.tmp 47) (.tmp 49)) 45 true, q0 51 (.pick (.tmp 45) (.tmp 50) kF), q0 52 (.mv (.tmp 51)), q1 53 (.faddr 9 (.tmp 2)) 52 true, q1 54 (.load true 2 (.tmp 53)) 52 true, q1 55 (.faddr 9 (.tmp 3)) 52 true, q1 56 (.load true 2 (.tmp 55)) 52 true, q1 57 (.eqs false [.int, .int] (.tmp 54) (.tmp 56)) 52 true, q0 58 (.pick (.tmp 52) (.tmp 57) kF), q0 4 (.mv (.tmp 58))]
def a111 : AC := (.seq (.reg s111_0) (.keep [2, 3] (.seq (.reg s111_1) .ret)))
def c111 : FC := ⟨59, a111.erase, [.tmp 4]⟩
theorem comp111 : compF Tryz.prog Tryz.f111 = some c111 := by kernel_rfl
theorem era111 : c111.code = a111.erase := rfl
def s112_0 : List CI := [q0 3 (.box 92 (.tmp 0)), q0 4 (.box 37 (.tmp 1)), q0 6 (.alloc 47 (.agg #[.int .i64 0, .slice none 0 0, .string ⟨#[]⟩])), q0 7 (.mv (ki 0))]
def s112_1 : List CI := [q0 8 (.faddr 4 (.tmp 4)), q0 9 (.faddr 0 (.tmp 8)), q0 10 (.load false 1 (.tmp 9)), q0 11 (.faddr 7 (.tmp 4)), q0 12 (.load false 1 (.tmp 11)), q0 13 (.faddr 2 (.tmp 4)), q0 14 (.load false 1 (.tmp 13)), q0 15 (.build [.int .i64 0, .slice none 0 0, .string ⟨#[]⟩] [(0, 1, .tmp 10), (1, 1, .tmp 12), (2, 1, .tmp 14)]), .mk none (.store 3 (.tmp 6) (.tmp 15)) none, q0 7 (.mv (ki 0))]
def a112 : AC := (.seq (.reg s112_0) (.keep [4, 6] (.seq (.reg s112_1) .ret)))
def c112 : FC := ⟨16, a112.erase, [.cell 6 true 3, .tmp 7]⟩
theorem comp112 : compF Tryz.prog Tryz.f112 = some c112 := by kernel_rfl
theorem era112 : c112.code = a112.erase := rfl
def s113_0 : List CI := [q0 3 (.box 92 (.tmp 0)), q0 4 (.box 37 (.tmp 1)), q0 6 (.alloc 47 (.agg #[.int .i64 0, .slice none 0 0, .string ⟨#[]⟩])), q0 7 (.mv (ki 0))]
def s113_1 : List CI := [q0 8 (.faddr 5 (.tmp 3)), q0 9 (.load false 1 (.tmp 8)), q0 10 (.faddr 2 (.tmp 4)), q0 11 (.load false 1 (.tmp 10)), q0 12 (.callv (.tmp 9) [.tmp 11]), q0 13 (.extract (.tmp 12) 0), q0 14 (.extract (.tmp 12) 1), .mk none (.store 3 (.tmp 6) (.tmp 13)) none, q0 7 (.mv (.tmp 14))]
def a113 : AC := (.seq (.reg s113_0) (.keep [3, 4, 6] (.seq (.reg s113_1) .ret)))
def c113 : FC := ⟨15, a113.erase, [.cell 6 true 3, .tmp 7]⟩
theorem comp113 : compF Tryz.prog Tryz.f113 = some c113 := by kernel_rfl
theorem era113 : c113.code = a113.erase := rfl
def s114_0 : List CI := [q0 3 (.box 92 (.tmp 0)), q0 4 (.box 37 (.tmp 1)), q0 6 (.alloc 47 (.agg #[.int .i64 0, .slice none 0 0, .string ⟨#[]⟩])), q0 7 (.mv (ki 0))]
def s114_1 : List CI := [q0 8 (.load true 6 (.tmp 3)), q0 9 (.faddr 2 (.tmp 4)), q0 10 (.load false 1 (.tmp 9)), q0 11 (.faddr 4 (.tmp 3)), q0 12 (.load false 1 (.tmp 11)), q0 13 (.call 147 [.tmp 8, .tmp 10, .tmp 12]), q0 14 (.extract (.tmp 13) 0), q0 15 (.extract (.tmp 13) 1), .mk none (.store 3 (.tmp 6) (.tmp 14)) none, q0 7 (.mv (.tmp 15))]
def a114 : AC := (.seq (.reg s114_0) (.keep [3, 4, 6] (.seq (.reg s114_1) .ret)))
def c114 : FC := ⟨16, a114.erase, [.cell 6 true 3, .tmp 7]⟩
theorem comp114 : compF Tryz.prog Tryz.f114 = some c114 := by kernel_rfl
theorem era114 : c114.code = a114.erase := rfl
def s115_0 : List CI := [q0 3 (.box 92 (.tmp 0)), q0 4 (.box 37 (.tmp 1)), q0 6 (.alloc 47 (.agg #[.int .i64 0, .slice none 0 0, .string ⟨#[]⟩])), q0 7 (.mv (ki 0))]
def s115_1 : List CI := [q0 8 (.mv (.tmp 2)), q0 9 (.iaddr 3 (.tmp 8) (ki 0)), q0 10 (.faddr 0 (.tmp 9)), q0 11 (.load false 1 (.tmp 10)), q0 12 (.bin .neq (.tmp 11) (ki 5))]
def s115_2 : List CI := [q0 13 (.call 57 [ki 5]), q0 14 (.extract (.tmp 13) 0), q0 15 (.extract (.tmp 13) 1), .mk none (.store 3 (.tmp 6) (.tmp 14)) none, q0 7 (.mv (.tmp 15))]
def s115_3 : List CD := [.mk 0 (q0 16 (.load true 6 (.tmp 3))) [], .mk 1 (q0 17 (.faddr 2 (.tmp 4))) [], .mk 2 (q0 18 (.load false 1 (.tmp 17))) [], .mk 3 (q0 19 (.mv (.tmp 2))) [], .mk 4 (q0 20 (.iaddr 3 (.tmp 19) (ki 0))) [], .mk 5 (q0 21 (.faddr 2 (.tmp 20))) [], .mk 6 (q0 22 (.load false 1 (.tmp 21))) [], .mk 7 (q0 23 (.call 147 [.tmp 16, .tmp 18, .tmp 22])) [], .mk 8 (q0 24 (.extract (.tmp 23) 0)) [], .mk 9 (q0 25 (.extract (.tmp 23) 1)) [], .mk 10 (.mk none (.store 3 (.tmp 6) (.tmp 24)) none) [6], .mk 11 (q0 7 (.mv (.tmp 25))) []]
def a115 : AC := (.seq (.reg s115_0) (.keep [2, 3, 4, 6] (.seq (.seq (.reg s115_1) (.keep [2, 3, 4, 6, 12] (.cond (.tmp 12) (.seq (.reg s115_2) .ret) .skip))) (.keep [2, 3, 4, 6] (.seq (.mreg [] s115_3) .ret)))))
def c115 : FC := ⟨26, a115.erase, [.cell 6 true 3, .tmp 7]⟩
theorem comp115 : compF Tryz.prog Tryz.f115 = some c115 := by kernel_rfl
theorem era115 : c115.code = a115.erase := rfl
def s116_0 : List CI := [q0 3 (.box 92 (.tmp 0)), q0 4 (.box 37 (.tmp 1)), q0 6 (.alloc 47 (.agg #[.int .i64 0, .slice none 0 0, .string ⟨#[]⟩])), q0 7 (.mv (ki 0))]
def s116_1 : List CI := [q0 9 (.mv (.tmp 2)), q0 10 (.iaddr 3 (.tmp 9) (ki 1)), q0 11 (.faddr 0 (.tmp 10)), q0 12 (.load false 1 (.tmp 11)), q0 13 (.bin .neq (.tmp 12) (ki 1))]
def s116_2 : List CI := [q0 14 (.call 57 [ki 5]), q0 15 (.extract (.tmp 14) 0), q0 16 (.extract (.tmp 14) 1), .mk none (.store 3 (.tmp 6) (.tmp 15)) none, q0 7 (.mv (.tmp 16))]
def s116_3 : List CI := [q0 17 (.mv (.tmp 2)), q0 18 (.iaddr 3 (.tmp 17) (ki 0)), q0 19 (.faddr 1 (.tmp 18)), q0 20 (.load false 1 (.tmp 19)), q0 21 (.build [.int .i64 0, .slice none 0 0, .string ⟨#[]⟩] [(0, 1, ki 3), (1, 1, .tmp 20)]), q0 8 (.alloc 47 (.agg #[.int .i64 0, .slice none 0 0, .string ⟨#[]⟩])), .mk none (.store 3 (.tmp 8) (.tmp 21)) none]
def s116_4 : List CI := [q0 22 (.faddr 1 (.tmp 4)), q0 23 (.load false 1 (.tmp 22))]
def s116_5 : List CI := [q0 25 (.bin .eql (.tmp 23) (ks ⟨#[99, 111, 117, 110, 116]⟩)), q0 24 (.mv (.tmp 25))]
def s116_6 : List CI := [q0 26 (.bin .eql (.tmp 23) (ks ⟨#[100, 105, 115, 116, 105, 110, 99, 116]⟩)), q0 24 (.mv (.tmp 26))]
def s116_7 : List CI := [q0 27 (.build [.int .i64 0, .slice none 0 0, .string ⟨#[]⟩] [(0, 1, ki 2)]), .mk none (.store 3 (.tmp 6) (.tmp 27)) none, q0 7 (.mv (ki 0))]
def s116_8 : List CI := [q0 29 (.bin .eql (.tmp 23) (ks ⟨#[102, 105, 114, 115, 116]⟩)), q0 28 (.mv (.tmp 29))]
def s116_9 : List CI := [q0 30 (.bin .eql (.tmp 23) (ks ⟨#[108, 97, 115, 116]⟩)), q0 28 (.mv (.tmp 30))]
def s116_10 : List CI := [q0 31 (.mv (.tmp 2)), q0 32 (.iaddr 3 (.tmp 31) (ki 0)), q0 33 (.load true 3 (.tmp 32)), .mk none (.store 3 (.tmp 6) (.tmp 33)) none, q0 7 (.mv (ki 0))]
def s116_11 : List CI := [q0 35 (.bin .eql (.tmp 23) (ks ⟨#[109, 105, 110]⟩)), q0 34 (.mv (.tmp 35))]
def s116_12 : List CI := [q0 36 (.bin .eql (.tmp 23) (ks ⟨#[109, 97, 120]⟩)), q0 34 (.mv (.tmp 36))]
def s116_13 : List CI := [q0 37 (.mv (.tmp 2)), q0 38 (.iaddr 3 (.tmp 37) (ki 0)), q0 39 (.faddr 0 (.tmp 38)), q0 40 (.load false 1 (.tmp 39)), q0 41 (.bin .eql (.tmp 40) (ki 4))]
def s116_14 : List CI := [q0 42 (.mv (.tmp 2)), q0 43 (.iaddr 3 (.tmp 42) (ki 0)), q0 44 (.load true 3 (.tmp 43)), .mk none (.store 3 (.tmp 6) (.tmp 44)) none, q0 7 (.mv (ki 0))]
def s116_15 : List CI := [q0 45 (.mv (.tmp 2)), q0 46 (.iaddr 3 (.tmp 45) (ki 0)), q0 47 (.load true 3 (.tmp 46)), q0 48 (.call 92 [.tmp 47]), q0 49 (.un .not (.tmp 48))]
def s116_16 : List CI := [q0 50 (.call 57 [ki 5]), q0 51 (.extract (.tmp 50) 0), q0 52 (.extract (.tmp 50) 1), .mk none (.store 3 (.tmp 6) (.tmp 51)) none, q0 7 (.mv (.tmp 52))]
def s116_17 : List CI := [q0 53 (.faddr 1 (.tmp 4)), q0 54 (.load false 1 (.tmp 53)), q0 55 (.bin .eql (.tmp 54) (ks ⟨#[109, 101, 97, 110]⟩)), q0 56 (.mv (.tmp 55)), q1 57 (.faddr 1 (.tmp 4)) 56 false, q1 58 (.load false 1 (.tmp 57)) 56 false, q1 59 (.bin .eql (.tmp 58) (ks ⟨#[100, 101, 99, 97, 121]⟩)) 56 false, q0 60 (.pick (.tmp 56) kT (.tmp 59))]
def s116_18 : List CI := [q0 61 (.load true 3 (.tmp 8)), .mk none (.store 3 (.tmp 6) (.tmp 61)) none, q0 7 (.mv (ki 0))]
def s116_19 : List CI := [q0 62 (.mv (.tmp 2)), q0 63 (.iaddr 3 (.tmp 62) (ki 0)), q0 64 (.load true 3 (.tmp 63)), .mk none (.store 3 (.tmp 6) (.tmp 64)) none, q0 7 (.mv (ki 0))]
def a116 : AC := (.seq (.reg s116_0) (.keep [2, 4, 6] (.seq (.seq (.reg s116_1) (.keep [2, 4, 6, 13] (.cond (.tmp 13) (.seq (.reg s116_2) .ret) .skip))) (.keep [2, 4, 6] (.seq (.reg s116_3) (.keep [2, 4, 6, 8] (.seq (.seq (.reg s116_4) (.keep [2, 4, 6, 8, 23] (.block 0 (.seq (.seq (.reg s116_5) (.keep [2, 4, 6, 8, 23, 24] (.cond (.tmp 24) .skip (.reg s116_6)))) (.keep [2, 4, 6, 8, 23, 24] (.cond (.tmp 24) (.seq (.reg s116_7) .ret) (.seq (.seq (.reg s116_8) (.keep [2, 4, 6, 8, 23, 28] (.cond (.tmp 28) .skip (.reg s116_9)))) (.keep [2, 4, 6, 8, 23, 28] (.cond (.tmp 28) (.seq (.reg s116_10) .ret) (.seq (.seq (.reg s116_11) (.keep [2, 4, 6, 8, 23, 34] (.cond (.tmp 34) .skip (.reg s116_12)))) (.keep [2, 4, 6, 8, 34] (.cond (.tmp 34) (.seq (.reg s116_13) (.keep [2, 4, 6, 8, 41] (.cond (.tmp 41) (.seq (.reg s116_14) .ret) .skip))) .skip)))))))))))) (.keep [2, 4, 6, 8] (.seq (.seq (.reg s116_15) (.keep [2, 4, 6, 8, 49] (.cond (.tmp 49) (.seq (.reg s116_16) .ret) .skip))) (.keep [2, 4, 6, 8] (.seq (.seq (.reg s116_17) (.keep [2, 6, 8, 60] (.cond (.tmp 60) (.seq (.reg s116_18) .ret) .skip))) (.keep [2, 6] (.seq (.reg s116_19) .ret)))))))))))))
def c116 : FC := ⟨65, a116.erase, [.cell 6 true 3, .tmp 7]⟩
theorem comp116 : compF Tryz.prog Tryz.f116 = some c116 := by kernel_rfl
theorem era116 : c116.code = a116.erase := rfl
def s117_0 : List CI := [q0 3 (.box 92 (.tmp 0)), q0 4 (.box 37 (.tmp 1)), q0 6 (.alloc 47 (.agg #[.int .i64 0, .slice none 0 0, .string ⟨#[]⟩])), q0 7 (.mv (ki 0))]
def s117_1 : List CI := [q0 9 (.faddr 1 (.tmp 4)), q0 10 (.load false 1 (.tmp 9)), q0 11 (.bin .eql (.tmp 10) (ks ⟨#[45]⟩)), q0 12 (.mv (.tmp 11)), q1 13 (.mv (.tmp 2)) 12 true, q1 14 (.iaddr 3 (.tmp 13) (ki 0)) 12 true, q1 15 (.load true 3 (.tmp 14)) 12 true, q1 16 (.call 92 [.tmp 15]) 12 true, q0 17 (.pick (.tmp 12) (.tmp 16) kF), q0 8 (.mv (.tmp 17))]
def s117_2 : List CI := [q0 18 (.mv (.tmp 2)), q0 19 (.iaddr 3 (.tmp 18) (ki 0)), q0 20 (.load true 3 (.tmp 19)), .mk none (.store 3 (.tmp 6) (.tmp 20)) none, q0 7 (.mv (ki 0))]
def s117_3 : List CI := [q0 22 (.faddr 1 (.tmp 4)), q0 23 (.load false 1 (.tmp 22)), q0 24 (.bin .eql (.tmp 23) (ks ⟨#[110, 117, 108, 108]⟩)), q0 21 (.mv (.tmp 24))]
def s117_4 : List CI := [q0 25 (.faddr 1 (.tmp 4)), q0 26 (.load false 1 (.tmp 25)), q0 27 (.bin .eql (.tmp 26) (ks ⟨#[110, 111, 116]⟩)), q0 28 (.mv (.tmp 27)), q1 29 (.mv (.tmp 2)) 28 true, q1 30 (.iaddr 3 (.tmp 29) (ki 0)) 28 true, q1 31 (.faddr 0 (.tmp 30)) 28 true, q1 32 (.load false 1 (.tmp 31)) 28 true, q1 33 (.bin .eql (.tmp 32) (ki 1)) 28 true, q0 34 (.pick (.tmp 28) (.tmp 33) kF), q0 21 (.mv (.tmp 34))]
def s117_5 : List CI := [q0 35 (.build [.int .i64 0, .slice none 0 0, .string ⟨#[]⟩] [(0, 1, ki 1)]), .mk none (.store 3 (.tmp 6) (.tmp 35)) none, q0 7 (.mv (ki 0))]
def s117_6 : List CI := [q0 36 (.call 57 [ki 5]), q0 37 (.extract (.tmp 36) 0), q0 38 (.extract (.tmp 36) 1), .mk none (.store 3 (.tmp 6) (.tmp 37)) none, q0 7 (.mv (.tmp 38))]
def a117 : AC := (.seq (.reg s117_0) (.keep [2, 4, 6] (.seq (.block 0 (.seq (.reg s117_1) (.keep [2, 4, 6, 8] (.cond (.tmp 8) (.seq (.reg s117_2) .ret) (.seq (.seq (.reg s117_3) (.keep [2, 4, 6, 21] (.cond (.tmp 21) .skip (.reg s117_4)))) (.keep [6, 21] (.cond (.tmp 21) (.seq (.reg s117_5) .ret) .skip))))))) (.keep [6] (.seq (.reg s117_6) .ret)))))
def c117 : FC := ⟨39, a117.erase, [.cell 6 true 3, .tmp 7]⟩
theorem comp117 : compF Tryz.prog Tryz.f117 = some c117 := by kernel_rfl
theorem era117 : c117.code = a117.erase := rfl
def s118_0 : List CI := [q0 3 (.box 92 (.tmp 0)), q0 4 (.box 37 (.tmp 1)), q0 6 (.alloc 47 (.agg #[.int .i64 0, .slice none 0 0, .string ⟨#[]⟩])), q0 7 (.mv (ki 0))]
def s118_1 : List CD := [.mk 0 (q0 16 (.mv (.tmp 2))) [], .mk 1 (q0 17 (.iaddr 3 (.tmp 16) (ki 0))) [], .mk 2 (q0 18 (.load true 3 (.tmp 17))) [], .mk 3 (q0 19 (.mv (.tmp 2))) [], .mk 4 (q0 20 (.iaddr 3 (.tmp 19) (ki 1))) [], .mk 5 (q0 21 (.load true 3 (.tmp 20))) [], .mk 6 (q0 8 (.alloc 47 (.agg #[.int .i64 0, .slice none 0 0, .string ⟨#[]⟩]))) [], .mk 7 (q0 9 (.alloc 47 (.agg #[.int .i64 0, .slice none 0 0, .string ⟨#[]⟩]))) [], .mk 8 (.mk none (.store 3 (.tmp 8) (.tmp 18)) none) [8], .mk 9 (.mk none (.store 3 (.tmp 9) (.tmp 21)) none) [9]]
def s118_2 : List CI := [q0 22 (.load true 3 (.tmp 8)), q0 23 (.call 92 [.tmp 22]), q0 24 (.mv (.tmp 23)), q1 25 (.load true 3 (.tmp 9)) 24 true, q1 26 (.call 92 [.tmp 25]) 24 true, q0 27 (.pick (.tmp 24) (.tmp 26) kF), q0 10 (.mv (.tmp 27))]
def s118_3 : List CI := [q0 28 (.faddr 1 (.tmp 8)), q0 29 (.load false 1 (.tmp 28)), q0 30 (.faddr 1 (.tmp 9)), q0 31 (.load false 1 (.tmp 30)), q0 32 (.call 96 [.tmp 29, .tmp 31]), q0 11 (.mv (.tmp 32))]
def s118_4 : List CI := [q0 33 (.build [.int .i64 0, .slice none 0 0, .string ⟨#[]⟩] [(0, 1, ki 1)]), q0 12 (.alloc 47 (.agg #[.int .i64 0, .slice none 0 0, .string ⟨#[]⟩])), .mk none (.store 3 (.tmp 12) (.tmp 33)) none]
def s118_5 : List CI := [q0 34 (.faddr 0 (.tmp 8)), q0 35 (.load false 1 (.tmp 34)), q0 36 (.faddr 0 (.tmp 9)), q0 37 (.load false 1 (.tmp 36)), q0 38 (.max2 (.tmp 35) (.tmp 37)), q0 39 (.faddr 1 (.tmp 8)), q0 40 (.load false 1 (.tmp 39)), q0 41 (.build [.int .i64 0, .slice none 0 0, .string ⟨#[]⟩] [(0, 1, .tmp 38), (1, 1, .tmp 40)]), q0 13 (.alloc 47 (.agg #[.int .i64 0, .slice none 0 0, .string ⟨#[]⟩])), .mk none (.store 3 (.tmp 13) (.tmp 41)) none]
def s118_6 : List CI := [q0 42 (.faddr 1 (.tmp 4)), q0 43 (.load false 1 (.tmp 42))]
def s118_7 : List CI := [q0 45 (.bin .eql (.tmp 43) (ks ⟨#[97, 110, 100]⟩)), q0 44 (.mv (.tmp 45))]
def s118_8 : List CI := [q0 46 (.bin .eql (.tmp 43) (ks ⟨#[111, 114]⟩)), q0 44 (.mv (.tmp 46))]
def s118_9 : List CI := [q0 47 (.faddr 0 (.tmp 8)), q0 48 (.load false 1 (.tmp 47)), q0 49 (.bin .eql (.tmp 48) (ki 1)), q0 50 (.mv (.tmp 49)), q1 51 (.faddr 0 (.tmp 9)) 50 true, q1 52 (.load false 1 (.tmp 51)) 50 true, q1 53 (.bin .eql (.tmp 52) (ki 1)) 50 true, q0 54 (.pick (.tmp 50) (.tmp 53) kF)]
def s118_10 : List CI := [q0 55 (.load true 3 (.tmp 12)), .mk none (.store 3 (.tmp 6) (.tmp 55)) none, q0 7 (.mv (ki 0))]
def s118_11 : List CI := [q0 56 (.call 57 [ki 5]), q0 57 (.extract (.tmp 56) 0), q0 58 (.extract (.tmp 56) 1), .mk none (.store 3 (.tmp 6) (.tmp 57)) none, q0 7 (.mv (.tmp 58))]
def s118_12 : List CI := [q0 60 (.bin .eql (.tmp 43) (ks ⟨#[61, 61]⟩)), q0 59 (.mv (.tmp 60))]
def s118_13 : List CI := [q0 61 (.bin .eql (.tmp 43) (ks ⟨#[33, 61]⟩)), q0 59 (.mv (.tmp 61))]
def s118_14 : List CI := [q0 62 (.bin .eql (.tmp 43) (ks ⟨#[60]⟩)), q0 59 (.mv (.tmp 62))]
def s118_15 : List CI := [q0 63 (.bin .eql (.tmp 43) (ks ⟨#[60, 61]⟩)), q0 59 (.mv (.tmp 63))]
def s118_16 : List CI := [q0 64 (.faddr 0 (.tmp 8)), q0 65 (.load false 1 (.tmp 64)), q0 66 (.faddr 0 (.tmp 9)), q0 67 (.load false 1 (.tmp 66)), q0 68 (.bin .eql (.tmp 65) (.tmp 67)), q0 69 (.mv (.tmp 68)), q1 70 (.faddr 2 (.tmp 8)) 69 true, q1 71 (.load false 1 (.tmp 70)) 69 true, q1 72 (.faddr 2 (.tmp 9)) 69 true, q1 73 (.load false 1 (.tmp 72)) 69 true, q1 74 (.bin .eql (.tmp 71) (.tmp 73)) 69 true, q0 75 (.pick (.tmp 69) (.tmp 74) kF), q0 76 (.mv (.tmp 75)), q1 77 (.mv (.tmp 11)) 76 true, q0 78 (.pick (.tmp 76) (.tmp 77) kF), q0 14 (.mv (.tmp 78))]
def s118_17 : List CI := [q0 79 (.faddr 1 (.tmp 4)), q0 80 (.load false 1 (.tmp 79)), q0 81 (.bin .eql (.tmp 80) (ks ⟨#[60]⟩)), q0 82 (.mv (.tmp 81)), q1 83 (.faddr 1 (.tmp 4)) 82 false, q1 84 (.load false 1 (.tmp 83)) 82 false, q1 85 (.bin .eql (.tmp 84) (ks ⟨#[60, 61]⟩)) 82 false, q0 86 (.pick (.tmp 82) kT (.tmp 85))]
def s118_18 : List CI := [q0 87 (.faddr 0 (.tmp 8)), q0 88 (.load false 1 (.tmp 87)), q0 89 (.bin .eql (.tmp 88) (ki 4)), q0 90 (.mv (.tmp 89)), q1 91 (.faddr 0 (.tmp 9)) 90 true, q1 92 (.load false 1 (.tmp 91)) 90 true, q1 93 (.bin .eql (.tmp 92) (ki 4)) 90 true, q0 94 (.pick (.tmp 90) (.tmp 93) kF), q0 14 (.mv (.tmp 94))]
def s118_19 : List CI := [q0 96 (.mv (.tmp 10)), q0 97 (.mv (.tmp 96)), q1 98 (.mv (.tmp 11)) 97 true, q1 99 (.un .not (.tmp 98)) 97 true, q0 100 (.pick (.tmp 97) (.tmp 99) kF), q0 95 (.mv (.tmp 100))]
def s118_20 : List CI := [q0 101 (.call 57 [ki 70]), q0 102 (.extract (.tmp 101) 0), q0 103 (.extract (.tmp 101) 1), .mk none (.store 3 (.tmp 6) (.tmp 102)) none, q0 7 (.mv (.tmp 103))]
def s118_21 : List CI := [q0 105 (.mv (.tmp 10)), q0 106 (.mv (.tmp 105)), q1 107 (.mv (.tmp 14)) 106 false, q0 108 (.pick (.tmp 106) kT (.tmp 107)), q0 104 (.mv (.tmp 108))]
def s118_22 : List CI := [q0 109 (.load true 3 (.tmp 12)), .mk none (.store 3 (.tmp 6) (.tmp 109)) none, q0 7 (.mv (ki 0))]
def s118_23 : List CI := [q0 110 (.call 57 [ki 5]), q0 111 (.extract (.tmp 110) 0), q0 112 (.extract (.tmp 110) 1), .mk none (.store 3 (.tmp 6) (.tmp 111)) none, q0 7 (.mv (.tmp 112))]
def s118_24 : List CI := [q0 113 (.mv (.tmp 10)), q0 114 (.un .not (.tmp 113))]
def s118_25 : List CI := [q0 115 (.call 57 [ki 5]), q0 116 (.extract (.tmp 115) 0), q0 117 (.extract (.tmp 115) 1), .mk none (.store 3 (.tmp 6) (.tmp 116)) none, q0 7 (.mv (.tmp 117))]
def s118_26 : List CI := [q0 15 (.mv (ki 0))]
def s118_27 : List CI := [q0 118 (.faddr 1 (.tmp 4)), q0 119 (.load false 1 (.tmp 118))]
def s118_28 : List CI := [q0 121 (.bin .eql (.tmp 119) (ks ⟨#[42]⟩)), q0 120 (.mv (.tmp 121))]
def s118_29 : List CI := [q0 123 (.faddr 1 (.tmp 8)), q0 124 (.load false 1 (.tmp 123)), q0 125 (.faddr 1 (.tmp 9)), q0 126 (.load false 1 (.tmp 125)), q0 127 (.call 148 [.tmp 124, .tmp 126]), q0 122 (.mv (.tmp 127)), q0 128 (.extract (.tmp 122) 0), q0 129 (.extract (.tmp 122) 1), q0 130 (.faddr 1 (.tmp 13)), .mk none (.store 1 (.tmp 130) (.tmp 128)) none, q0 15 (.mv (.tmp 129))]
def s118_30 : List CI := [q0 132 (.bin .eql (.tmp 119) (ks ⟨#[47]⟩)), q0 131 (.mv (.tmp 132))]
def s118_31 : List CI := [q0 133 (.faddr 0 (.tmp 13)), .mk none (.store 1 (.tmp 133) (ki 3)) none]
def s118_32 : List CI := [q0 135 (.faddr 1 (.tmp 8)), q0 136 (.load false 1 (.tmp 135)), q0 137 (.faddr 1 (.tmp 9)), q0 138 (.load false 1 (.tmp 137)), q0 139 (.call 149 [.tmp 136, .tmp 138]), q0 134 (.mv (.tmp 139)), q0 140 (.extract (.tmp 134) 0), q0 141 (.extract (.tmp 134) 1), q0 142 (.faddr 1 (.tmp 13)), .mk none (.store 1 (.tmp 142) (.tmp 140)) none, q0 15 (.mv (.tmp 141))]
def s118_33 : List CI := [q0 143 (.mv (.tmp 15)), q0 144 (.bin .neq (.tmp 143) (ki 0)), q0 145 (.mv (.tmp 144)), q1 146 (.faddr 1 (.tmp 4)) 145 false, q1 147 (.load false 1 (.tmp 146)) 145 false, q1 148 (.bin .eql (.tmp 147) (ks ⟨#[43]⟩)) 145 false, q1 149 (.mv (.tmp 148)) 145 false, q1 150 (.faddr 1 (.tmp 4)) 149 false, q1 151 (.load false 1 (.tmp 150)) 149 false, q1 152 (.bin .eql (.tmp 151) (ks ⟨#[45]⟩)) 149 false, q1 153 (.pick (.tmp 149) kT (.tmp 152)) 145 false, q1 154 (.mv (.tmp 153)) 145 false, q1 155 (.mv (.tmp 11)) 154 true, q1 156 (.un .not (.tmp 155)) 154 true, q1 157 (.pick (.tmp 154) (.tmp 156) kF) 145 false, q0 158 (.pick (.tmp 145) kT (.tmp 157))]
def s118_34 : List CI := [q0 159 (.call 57 [ki 70]), q0 160 (.extract (.tmp 159) 0), q0 161 (.extract (.tmp 159) 1), .mk none (.store 3 (.tmp 6) (.tmp 160)) none, q0 7 (.mv (.tmp 161))]
def s118_35 : List CI := [q0 162 (.load true 3 (.tmp 13)), .mk none (.store 3 (.tmp 6) (.tmp 162)) none, q0 7 (.mv (ki 0))]
def a118 : AC := (.seq (.reg s118_0) (.keep [2, 4, 6] (.seq (.mreg [8, 9] s118_1) (.keep [4, 6, 8, 9] (.seq (.reg s118_2) (.keep [4, 6, 8, 9, 10] (.seq (.reg s118_3) (.keep [4, 6, 8, 9, 10, 11] (.seq (.reg s118_4) (.keep [4, 6, 8, 9, 10, 11, 12] (.seq (.reg s118_5) (.keep [4, 6, 8, 9, 10, 11, 12, 13] (.seq (.seq (.reg s118_6) (.keep [4, 6, 8, 9, 10, 11, 12, 13, 43] (.block 0 (.seq (.seq (.reg s118_7) (.keep [4, 6, 8, 9, 10, 11, 12, 13, 43, 44] (.cond (.tmp 44) .skip (.reg s118_8)))) (.keep [4, 6, 8, 9, 10, 11, 12, 13, 43, 44] (.cond (.tmp 44) (.seq (.seq (.reg s118_9) (.keep [6, 12, 54] (.cond (.tmp 54) (.seq (.reg s118_10) .ret) .skip))) (.keep [6] (.seq (.reg s118_11) .ret))) (.seq (.seq (.reg s118_12) (.keep [4, 6, 8, 9, 10, 11, 12, 13, 43, 59] (.cond (.tmp 59) .skip (.seq (.reg s118_13) (.keep [4, 6, 8, 9, 10, 11, 12, 13, 43, 59] (.cond (.tmp 59) .skip (.seq (.reg s118_14) (.keep [4, 6, 8, 9, 10, 11, 12, 13, 43, 59] (.cond (.tmp 59) .skip (.reg s118_15)))))))))) (.keep [4, 6, 8, 9, 10, 11, 12, 13, 59] (.cond (.tmp 59) (.seq (.reg s118_16) (.keep [4, 6, 8, 9, 10, 11, 12, 14] (.seq (.seq (.reg s118_17) (.keep [6, 8, 9, 10, 11, 12, 14, 86] (.cond (.tmp 86) (.reg s118_18) .skip))) (.keep [6, 10, 11, 12, 14] (.seq (.block 1 (.seq (.reg s118_19) (.keep [6, 10, 12, 14, 95] (.cond (.tmp 95) (.seq (.reg s118_20) .ret) (.seq (.reg s118_21) (.keep [6, 12, 104] (.cond (.tmp 104) (.seq (.reg s118_22) .ret) .skip))))))) (.keep [6] (.seq (.reg s118_23) .ret))))))) .skip))))))))) (.keep [4, 6, 8, 9, 10, 11, 13] (.seq (.seq (.reg s118_24) (.keep [4, 6, 8, 9, 11, 13, 114] (.cond (.tmp 114) (.seq (.reg s118_25) .ret) .skip))) (.keep [4, 6, 8, 9, 11, 13] (.seq (.reg s118_26) (.keep [4, 6, 8, 9, 11, 13, 15] (.seq (.seq (.reg s118_27) (.keep [4, 6, 8, 9, 11, 13, 15, 119] (.block 2 (.seq (.reg s118_28) (.keep [4, 6, 8, 9, 11, 13, 15, 119, 120] (.cond (.tmp 120) (.reg s118_29) (.seq (.reg s118_30) (.keep [4, 6, 8, 9, 11, 13, 15, 131] (.cond (.tmp 131) (.seq (.reg s118_31) (.keep [4, 6, 8, 9, 11, 13] (.reg s118_32))) .skip))))))))) (.keep [4, 6, 11, 13, 15] (.seq (.seq (.reg s118_33) (.keep [6, 13, 158] (.cond (.tmp 158) (.seq (.reg s118_34) .ret) .skip))) (.keep [6, 13] (.seq (.reg s118_35) .ret)))))))))))))))))))))))
def c118 : FC := ⟨163, a118.erase, [.cell 6 true 3, .tmp 7]⟩
theorem comp118 : compF Tryz.prog Tryz.f118 = some c118 := by kernel_rfl
theorem era118 : c118.code = a118.erase := rfl
def s119_0 : List CI := [q0 3 (.box 92 (.tmp 0)), q0 4 (.box 37 (.tmp 1)), q0 6 (.alloc 47 (.agg #[.int .i64 0, .slice none 0 0, .string ⟨#[]⟩])), q0 7 (.mv (ki 0))]
def s119_1 : List CI := [q0 8 (.mv (.tmp 2)), q0 9 (.iaddr 3 (.tmp 8) (ki 0)), q0 10 (.faddr 0 (.tmp 9)), q0 11 (.load false 1 (.tmp 10)), q0 12 (.bin .neq (.tmp 11) (ki 1))]
def s119_2 : List CI := [q0 13 (.call 57 [ki 5]), q0 14 (.extract (.tmp 13) 0), q0 15 (.extract (.tmp 13) 1), .mk none (.store 3 (.tmp 6) (.tmp 14)) none, q0 7 (.mv (.tmp 15))]
def s119_3 : List CD := [.mk 0 (q0 16 (.mv (.tmp 2))) [], .mk 1 (q0 17 (.iaddr 3 (.tmp 16) (ki 1))) [], .mk 2 (q0 18 (.load true 3 (.tmp 17))) [], .mk 3 (q0 19 (.mv (.tmp 2))) [], .mk 4 (q0 20 (.iaddr 3 (.tmp 19) (ki 2))) [], .mk 5 (q0 21 (.load true 3 (.tmp 20))) [], .mk 6 (q0 22 (.call 66 [.tmp 18, .tmp 21])) [], .mk 7 (q0 23 (.extract (.tmp 22) 0)) [], .mk 8 (q0 24 (.extract (.tmp 22) 1)) [], .mk 9 (.mk none (.store 3 (.tmp 6) (.tmp 23)) none) [6], .mk 10 (q0 7 (.mv (.tmp 24))) []]
def a119 : AC := (.seq (.reg s119_0) (.keep [2, 6] (.seq (.seq (.reg s119_1) (.keep [2, 6, 12] (.cond (.tmp 12) (.seq (.reg s119_2) .ret) .skip))) (.keep [2, 6] (.seq (.mreg [] s119_3) .ret)))))
def c119 : FC := ⟨25, a119.erase, [.cell 6 true 3, .tmp 7]⟩
theorem comp119 : compF Tryz.prog Tryz.f119 = some c119 := by kernel_rfl
theorem era119 : c119.code = a119.erase := rfl
def s120_0 : List CI := [q0 3 (.box 92 (.tmp 0)), q0 4 (.box 37 (.tmp 1)), q0 6 (.alloc 47 (.agg #[.int .i64 0, .slice none 0 0, .string ⟨#[]⟩])), q0 7 (.mv (ki 0))]
def s120_1 : List CD := [.mk 0 (q0 8 (.mv (.tmp 2))) [], .mk 1 (q0 9 (.iaddr 3 (.tmp 8) (ki 0))) [], .mk 2 (q0 10 (.load true 3 (.tmp 9))) [], .mk 3 (q0 11 (.mv (.tmp 2))) [], .mk 4 (q0 12 (.iaddr 3 (.tmp 11) (ki 1))) [], .mk 5 (q0 13 (.load true 3 (.tmp 12))) [], .mk 6 (q0 14 (.call 66 [.tmp 10, .tmp 13])) [], .mk 7 (q0 15 (.extract (.tmp 14) 0)) [], .mk 8 (q0 16 (.extract (.tmp 14) 1)) [], .mk 9 (.mk none (.store 3 (.tmp 6) (.tmp 15)) none) [6], .mk 10 (q0 7 (.mv (.tmp 16))) []]
def a120 : AC := (.seq (.reg s120_0) (.keep [2, 6] (.seq (.mreg [] s120_1) .ret)))
def c120 : FC := ⟨17, a120.erase, [.cell 6 true 3, .tmp 7]⟩
theorem comp120 : compF Tryz.prog Tryz.f120 = some c120 := by kernel_rfl
theorem era120 : c120.code = a120.erase := rfl
def s122_0 : List CI := [q0 2 (.mv kF)]
def s122_1 : List CI := [q0 5 (.mv (.tmp 0)), q0 6 (.len true (.tmp 5)), q0 7 (.bin .eql (.tmp 6) (ki 0)), q0 8 (.mv (.tmp 7)), q1 9 (.mv (.tmp 0)) 8 false, q1 10 (.len true (.tmp 9)) 8 false, q1 11 (.bin .gtr (.tmp 10) (ki 24)) 8 false, q0 12 (.pick (.tmp 8) kT (.tmp 11)), q0 13 (.mv (.tmp 12)), q1 14 (.mv (.tmp 0)) 13 false, q1 15 (.idxs (.tmp 14) (ki 0)) 13 false, q1 16 (.bin .lss (.tmp 15) (.const (.int .u8 97))) 13 false, q0 17 (.pick (.tmp 13) kT (.tmp 16)), q0 18 (.mv (.tmp 17)), q1 19 (.mv (.tmp 0)) 18 false, q1 20 (.idxs (.tmp 19) (ki 0)) 18 false, q1 21 (.bin .gtr (.tmp 20) (.const (.int .u8 122))) 18 false, q0 22 (.pick (.tmp 18) kT (.tmp 21))]
def s122_2 : List CI := [q0 2 (.mv kF)]
def s122_3 : List CI := [q0 23 (.mv (.tmp 0)), q0 24 (.len true (.tmp 23)), q0 25 (.mv (ki 0))]
def s122_4 : List CI := [q0 26 (.bin .lss (.tmp 25) (.tmp 24))]
def s122_5 : List CI := [q0 27 (.mv (.tmp 25)), q0 3 (.mv (.tmp 27))]
def s122_6 : List CI := [q0 28 (.mv (.tmp 0)), q0 29 (.mv (.tmp 3)), q0 30 (.idxs (.tmp 28) (.tmp 29)), q0 4 (.mv (.tmp 30))]
def s122_7 : List CI := [q0 31 (.mv (.tmp 4)), q0 32 (.bin .lss (.tmp 31) (.const (.int .u8 97))), q0 33 (.mv (.tmp 32)), q1 34 (.mv (.tmp 4)) 33 false, q1 35 (.bin .gtr (.tmp 34) (.const (.int .u8 122))) 33 false, q0 36 (.pick (.tmp 33) kT (.tmp 35)), q0 37 (.mv (.tmp 36)), q1 38 (.mv (.tmp 4)) 37 true, q1 39 (.bin .lss (.tmp 38) (.const (.int .u8 48))) 37 true, q1 40 (.mv (.tmp 39)) 37 true, q1 41 (.mv (.tmp 4)) 40 false, q1 42 (.bin .gtr (.tmp 41) (.const (.int .u8 57))) 40 false, q1 43 (.pick (.tmp 40) kT (.tmp 42)) 37 true, q0 44 (.pick (.tmp 37) (.tmp 43) kF), q0 45 (.mv (.tmp 44)), q1 46 (.mv (.tmp 4)) 45 true, q1 47 (.bin .neq (.tmp 46) (.const (.int .u8 95))) 45 true, q0 48 (.pick (.tmp 45) (.tmp 47) kF)]
def s122_8 : List CI := [q0 2 (.mv kF)]
def s122_9 : List CI := [q0 49 (.bin .add (.tmp 25) (ki 1)), q0 25 (.mv (.tmp 49))]
def s122_10 : List CI := [q0 2 (.mv kT)]
def a122 : AC := (.seq (.reg s122_0) (.keep [0] (.seq (.seq (.reg s122_1) (.keep [0, 22] (.cond (.tmp 22) (.seq (.reg s122_2) .ret) .skip))) (.keep [0] (.seq (.seq (.reg s122_3) (.keep [0, 24, 25] (.block 0 (.loop (.keep [0, 24, 25] (.seq (.reg s122_4) (.keep [0, 24, 25, 26] (.seq (.cond (.tmp 26) .skip (.exit 0)) (.keep [0, 24, 25] (.seq (.block 1 (.seq (.reg s122_5) (.keep [0, 3, 24, 25] (.seq (.reg s122_6) (.keep [0, 4, 24, 25] (.seq (.reg s122_7) (.keep [0, 24, 25, 48] (.cond (.tmp 48) (.seq (.reg s122_8) .ret) .skip)))))))) (.keep [0, 24, 25] (.reg s122_9)))))))))))) (.keep [] (.seq (.reg s122_10) .ret)))))))
def c122 : FC := ⟨50, a122.erase, [.tmp 2]⟩
theorem comp122 : compF Tryz.prog Tryz.f122 = some c122 := by kernel_rfl
theorem era122 : c122.code = a122.erase := rfl
def s123_0 : List CI := [q0 4 (.mv kF)]
def s123_1 : List CI := [q0 5 (.mv (.tmp 0)), q0 6 (.mv (.tmp 1)), q0 7 (.bin .gtr (.tmp 5) (.tmp 6)), q0 8 (.mv (.tmp 7)), q1 9 (.mv (.tmp 0)) 8 false, q1 10 (.mv (.tmp 1)) 8 false, q1 11 (.un .neg (.tmp 10)) 8 false, q1 12 (.bin .lss (.tmp 9) (.tmp 11)) 8 false, q0 13 (.pick (.tmp 8) kT (.tmp 12)), q0 4 (.mv (.tmp 13))]
def a123 : AC := (.seq (.reg s123_0) (.keep [0, 1] (.seq (.reg s123_1) .ret)))
def c123 : FC := ⟨14, a123.erase, [.tmp 4]⟩
theorem comp123 : compF Tryz.prog Tryz.f123 = some c123 := by kernel_rfl
theorem era123 : c123.code = a123.erase := rfl
def s124_0 : List CI := [q0 4 (.mv (ki 0))]
def s124_1 : List CI := [q0 6 (.mv (.tmp 0)), q0 7 (.len false (.tmp 6)), q0 8 (.mv (ki 0))]
def s124_2 : List CI := [q0 9 (.bin .lss (.tmp 8) (.tmp 7))]
def s124_3 : List CI := [q0 10 (.mv (.tmp 8)), q0 5 (.mv (.tmp 10))]
def s124_4 : List CI := [q0 11 (.mv (.tmp 1)), q0 12 (.mv (.tmp 0)), q0 13 (.mv (.tmp 5)), q0 14 (.iaddr 2 (.tmp 12) (.tmp 13)), q0 15 (.load true 2 (.tmp 14)), q0 16 (.callv (.tmp 11) [.tmp 15])]
def s124_5 : List CI := [q0 17 (.mv (.tmp 5)), q0 4 (.mv (.tmp 17))]
def s124_6 : List CI := [q0 18 (.bin .add (.tmp 8) (ki 1)), q0 8 (.mv (.tmp 18))]
def s124_7 : List CI := [q0 4 (.mv (.const (.int .i64 (-1))))]
def a124 : AC := (.seq (.reg s124_0) (.keep [0, 1] (.seq (.seq (.reg s124_1) (.keep [0, 1, 7, 8] (.block 0 (.loop (.keep [0, 1, 7, 8] (.seq (.reg s124_2) (.keep [0, 1, 7, 8, 9] (.seq (.cond (.tmp 9) .skip (.exit 0)) (.keep [0, 1, 7, 8] (.seq (.block 1 (.seq (.reg s124_3) (.keep [0, 1, 5, 7, 8] (.seq (.reg s124_4) (.keep [0, 1, 5, 7, 8, 16] (.cond (.tmp 16) (.seq (.reg s124_5) .ret) .skip)))))) (.keep [0, 1, 7, 8] (.reg s124_6)))))))))))) (.keep [] (.seq (.reg s124_7) .ret)))))
def c124 : FC := ⟨19, a124.erase, [.tmp 4]⟩
theorem comp124 : compF Tryz.prog Tryz.f124 = some c124 := by kernel_rfl
theorem era124 : c124.code = a124.erase := rfl
def s125_0 : List CI := [q0 4 (.mv kF)]
def s125_1 : List CI := [q0 6 (.mv (.tmp 0)), q0 7 (.len false (.tmp 6)), q0 8 (.mv (.tmp 1)), q0 9 (.len false (.tmp 8)), q0 10 (.bin .neq (.tmp 7) (.tmp 9))]
def s125_2 : List CI := [q0 4 (.mv kF)]
def s125_3 : List CI := [q0 11 (.mv (.tmp 0)), q0 12 (.len false (.tmp 11)), q0 13 (.mv (ki 0))]
def s125_4 : List CI := [q0 14 (.bin .lss (.tmp 13) (.tmp 12))]
def s125_5 : List CI := [q0 15 (.mv (.tmp 13)), q0 5 (.mv (.tmp 15))]
def s125_6 : List CI := [q0 16 (.mv (.tmp 0)), q0 17 (.mv (.tmp 5)), q0 18 (.iaddr 2 (.tmp 16) (.tmp 17)), q0 19 (.load true 2 (.tmp 18)), q0 20 (.mv (.tmp 1)), q0 21 (.mv (.tmp 5)), q0 22 (.iaddr 2 (.tmp 20) (.tmp 21)), q0 23 (.load true 2 (.tmp 22)), q0 24 (.eqs true [.str, .int] (.tmp 19) (.tmp 23))]
def s125_7 : List CI := [q0 4 (.mv kF)]
def s125_8 : List CI := [q0 25 (.bin .add (.tmp 13) (ki 1)), q0 13 (.mv (.tmp 25))]
def s125_9 : List CI := [q0 4 (.mv kT)]
def a125 : AC := (.seq (.reg s125_0) (.keep [0, 1] (.seq (.seq (.reg s125_1) (.keep [0, 1, 10] (.cond (.tmp 10) (.seq (.reg s125_2) .ret) .skip))) (.keep [0, 1] (.seq (.seq (.reg s125_3) (.keep [0, 1, 12, 13] (.block 0 (.loop (.keep [0, 1, 12, 13] (.seq (.reg s125_4) (.keep [0, 1, 12, 13, 14] (.seq (.cond (.tmp 14) .skip (.exit 0)) (.keep [0, 1, 12, 13] (.seq (.block 1 (.seq (.reg s125_5) (.keep [0, 1, 5, 12, 13] (.seq (.dreg s125_6) (.keep [0, 1, 12, 13, 24] (.cond (.tmp 24) (.seq (.reg s125_7) .ret) .skip)))))) (.keep [0, 1, 12, 13] (.reg s125_8)))))))))))) (.keep [] (.seq (.reg s125_9) .ret)))))))
def c125 : FC := ⟨26, a125.erase, [.tmp 4]⟩
theorem comp125 : compF Tryz.prog Tryz.f125 = some c125 := by kernel_rfl
theorem era125 : c125.code = a125.erase := rfl
def s146_0 : List CI := [q0 4 (.mv (ki 0))]
def s146_1 : List CI := [q0 6 (.mv (.tmp 0)), q0 7 (.len false (.tmp 6)), q0 8 (.mv (ki 0))]
def s146_2 : List CI := [q0 9 (.bin .lss (.tmp 8) (.tmp 7))]
def s146_3 : List CI := [q0 10 (.mv (.tmp 8)), q0 5 (.mv (.tmp 10))]
def s146_4 : List CI := [q0 11 (.mv (.tmp 1)), q0 12 (.mv (.tmp 0)), q0 13 (.mv (.tmp 5)), q0 14 (.iaddr 1 (.tmp 12) (.tmp 13)), q0 15 (.load false 1 (.tmp 14)), q0 16 (.bin .eql (.tmp 11) (.tmp 15))]
def s146_5 : List CI := [q0 17 (.mv (.tmp 5)), q0 4 (.mv (.tmp 17))]
def s146_6 : List CI := [q0 18 (.bin .add (.tmp 8) (ki 1)), q0 8 (.mv (.tmp 18))]
def s146_7 : List CI := [q0 4 (.mv (.const (.int .i64 (-1))))]
def a146 : AC := (.seq (.reg s146_0) (.keep [0, 1] (.seq (.seq (.reg s146_1) (.keep [0, 1, 7, 8] (.block 0 (.loop (.keep [0, 1, 7, 8] (.seq (.reg s146_2) (.keep [0, 1, 7, 8, 9] (.seq (.cond (.tmp 9) .skip (.exit 0)) (.keep [0, 1, 7, 8] (.seq (.block 1 (.seq (.reg s146_3) (.keep [0, 1, 5, 7, 8] (.seq (.reg s146_4) (.keep [0, 1, 5, 7, 8, 16] (.cond (.tmp 16) (.seq (.reg s146_5) .ret) .skip)))))) (.keep [0, 1, 7, 8] (.reg s146_6)))))))))))) (.keep [] (.seq (.reg s146_7) .ret)))))
def c146 : FC := ⟨19, a146.erase, [.tmp 4]⟩
theorem comp146 : compF Tryz.prog Tryz.f146 = some c146 := by kernel_rfl
theorem era146 : c146.code = a146.erase := rfl
def s147_0 : List CI := [q0 3 (.box 92 (.tmp 0)), q0 4 (.box 9 (.tmp 1)), q0 6 (.alloc 47 (.agg #[.int .i64 0, .slice none 0 0, .string ⟨#[]⟩])), q0 7 (.mv (ki 0))]
def s147_1 : List CI := [q0 9 (.faddr 0 (.tmp 3)), q0 10 (.faddr 1 (.tmp 9)), q0 11 (.load false 1 (.tmp 10)), q0 12 (.mkfn (Fn.func 166) [] [.tmp 4]), q0 13 (.call 80 [.tmp 11, .tmp 12]), q0 8 (.mv (.tmp 13))]
def s147_2 : List CI := [q0 15 (.mv (.tmp 8)), q0 16 (.bin .lss (.tmp 15) (ki 0)), q0 14 (.mv (.tmp 16))]
def s147_3 : List CI := [q0 17 (.call 57 [ki 4]), q0 18 (.extract (.tmp 17) 0), q0 19 (.extract (.tmp 17) 1), .mk none (.store 3 (.tmp 6) (.tmp 18)) none, q0 7 (.mv (.tmp 19))]
def s147_4 : List CI := [q0 21 (.faddr 0 (.tmp 3)), q0 22 (.faddr 1 (.tmp 21)), q0 23 (.load false 1 (.tmp 22)), q0 24 (.mv (.tmp 8)), q0 25 (.iaddr 18 (.tmp 23) (.tmp 24)), q0 26 (.faddr 1 (.tmp 25)), q0 27 (.load false 1 (.tmp 26)), q0 28 (.mv (.tmp 2)), q0 29 (.bin .neq (.tmp 27) (.tmp 28)), q0 20 (.mv (.tmp 29))]
def s147_5 : List CI := [q0 30 (.call 57 [ki 5]), q0 31 (.extract (.tmp 30) 0), q0 32 (.extract (.tmp 30) 1), .mk none (.store 3 (.tmp 6) (.tmp 31)) none, q0 7 (.mv (.tmp 32))]
def s147_6 : List CI := [q0 33 (.faddr 0 (.tmp 3)), q0 34 (.faddr 1 (.tmp 33)), q0 35 (.load false 1 (.tmp 34)), q0 36 (.mv (.tmp 8)), q0 37 (.iaddr 18 (.tmp 35) (.tmp 36)), q0 38 (.faddr 2 (.tmp 37)), q0 39 (.load true 3 (.tmp 38)), .mk none (.store 3 (.tmp 6) (.tmp 39)) none, q0 7 (.mv (ki 0))]
def a147 : AC := (.seq (.reg s147_0) (.keep [2, 3, 4, 6] (.seq (.reg s147_1) (.keep [2, 3, 6, 8] (.seq (.block 0 (.seq (.reg s147_2) (.keep [2, 3, 6, 8, 14] (.cond (.tmp 14) (.seq (.reg s147_3) .ret) (.seq (.reg s147_4) (.keep [3, 6, 8, 20] (.cond (.tmp 20) (.seq (.reg s147_5) .ret) .skip))))))) (.keep [3, 6, 8] (.seq (.reg s147_6) .ret)))))))
def c147 : FC := ⟨40, a147.erase, [.cell 6 true 3, .tmp 7]⟩
theorem comp147 : compF Tryz.prog Tryz.f147 = some c147 := by kernel_rfl
theorem era147 : c147.code = a147.erase := rfl
def s148_0 : List CI := [q0 4 (.mv (.const (.slice none 0 0))), q0 5 (.mv (ki 0))]
def s148_1 : List CI := [q0 6 (.mv (.tmp 0)), q0 7 (.mv (.tmp 1)), q0 8 (.call 167 [.tmp 6, .tmp 7, ki 1]), q0 9 (.extract (.tmp 8) 0), q0 10 (.extract (.tmp 8) 1), q0 4 (.mv (.tmp 9)), q0 5 (.mv (.tmp 10))]
def a148 : AC := (.seq (.reg s148_0) (.keep [0, 1] (.seq (.reg s148_1) .ret)))
def c148 : FC := ⟨11, a148.erase, [.tmp 4, .tmp 5]⟩
theorem comp148 : compF Tryz.prog Tryz.f148 = some c148 := by kernel_rfl
theorem era148 : c148.code = a148.erase := rfl
def s149_0 : List CI := [q0 4 (.mv (.const (.slice none 0 0))), q0 5 (.mv (ki 0))]
def s149_1 : List CI := [q0 6 (.mv (.tmp 0)), q0 7 (.mv (.tmp 1)), q0 8 (.call 167 [.tmp 6, .tmp 7, .const (.int .i64 (-1))]), q0 9 (.extract (.tmp 8) 0), q0 10 (.extract (.tmp 8) 1), q0 4 (.mv (.tmp 9)), q0 5 (.mv (.tmp 10))]
def a149 : AC := (.seq (.reg s149_0) (.keep [0, 1] (.seq (.reg s149_1) .ret)))
def c149 : FC := ⟨11, a149.erase, [.tmp 4, .tmp 5]⟩
theorem comp149 : compF Tryz.prog Tryz.f149 = some c149 := by kernel_rfl
theorem era149 : c149.code = a149.erase := rfl
def s166_0 : List CI := [q0 2 (.box 49 (.tmp 0)), q0 3 (.mv kF)]
def s166_1 : List CI := [q0 4 (.faddr 0 (.tmp 2)), q0 5 (.load false 1 (.tmp 4)), q0 6 (.load false 1 (.tmp 1)), q0 7 (.bin .eql (.tmp 5) (.tmp 6)), q0 3 (.mv (.tmp 7))]
def a166 : AC := (.seq (.reg s166_0) (.keep [1, 2] (.seq (.reg s166_1) .ret)))
def c166 : FC := ⟨8, a166.erase, [.tmp 3]⟩
theorem comp166 : compF Tryz.prog Tryz.f166 = some c166 := by kernel_rfl
theorem era166 : c166.code = a166.erase := rfl
def s167_0 : List CI := [q0 6 (.mv (.const (.slice none 0 0))), q0 7 (.mv (ki 0))]
def s167_1 : List CI := [q0 13 (.mv (.tmp 0)), q0 14 (.call 93 [.tmp 13]), q0 8 (.mv (.tmp 14))]
def s167_2 : List CI := [q0 15 (.mv (.tmp 8)), q0 16 (.bin .neq (.tmp 15) (ki 0))]
def s167_3 : List CI := [q0 17 (.mv (.tmp 8)), q0 6 (.mv (.const (.slice none 0 0))), q0 7 (.mv (.tmp 17))]
def s167_4 : List CI := [q0 18 (.mv (.tmp 1)), q0 19 (.call 93 [.tmp 18]), q0 9 (.mv (.tmp 19))]
def s167_5 : List CI := [q0 20 (.mv (.tmp 9)), q0 21 (.bin .neq (.tmp 20) (ki 0))]
def s167_6 : List CI := [q0 22 (.mv (.tmp 9)), q0 6 (.mv (.const (.slice none 0 0))), q0 7 (.mv (.tmp 22))]
def s167_7 : List CI := [q0 23 (.mv (.tmp 0)), q0 24 (.call 176 [.tmp 23]), q0 10 (.mv (.tmp 24))]
def s167_8 : List CI := [q0 25 (.mv (.tmp 1)), q0 26 (.len false (.tmp 25)), q0 27 (.mv (ki 0))]
def s167_9 : List CI := [q0 28 (.bin .lss (.tmp 27) (.tmp 26))]
def s167_10 : List CI := [q0 29 (.iaddr 2 (.tmp 25) (.tmp 27)), q0 30 (.load true 2 (.tmp 29)), q0 12 (.alloc 124 (.agg #[.string ⟨#[]⟩, .int .i64 0])), .mk none (.store 2 (.tmp 12) (.tmp 30)) none]
def s167_11 : List CI := [q0 31 (.mv (.tmp 10)), q0 32 (.faddr 0 (.tmp 12)), q0 33 (.load false 1 (.tmp 32)), q0 34 (.mv (.tmp 2)), q0 35 (.faddr 1 (.tmp 12)), q0 36 (.load false 1 (.tmp 35)), q0 37 (.bin .mul (.tmp 34) (.tmp 36)), q0 38 (.build [.string ⟨#[]⟩, .int .i64 0] [(0, 1, .tmp 33), (1, 1, .tmp 37)]), q0 39 (.mksl 124 2 [.tmp 38]), q0 40 (.append 124 2 24 [.string ⟨#[]⟩, .int .i64 0] (.tmp 31) (.tmp 39)), q0 10 (.mv (.tmp 40))]
def s167_12 : List CI := [q0 41 (.bin .add (.tmp 27) (ki 1)), q0 27 (.mv (.tmp 41))]
def s167_13 : List CI := [q0 42 (.mv (.tmp 10)), q0 43 (.call 177 [.tmp 42]), q0 44 (.extract (.tmp 43) 0), q0 45 (.extract (.tmp 43) 1), q0 6 (.mv (.tmp 44)), q0 7 (.mv (.tmp 45))]
def a167 : AC := (.seq (.reg s167_0) (.keep [0, 1, 2] (.seq (.seq (.reg s167_1) (.keep [0, 1, 2, 8] (.seq (.reg s167_2) (.keep [0, 1, 2, 8, 16] (.cond (.tmp 16) (.seq (.reg s167_3) .ret) .skip))))) (.keep [0, 1, 2] (.seq (.seq (.reg s167_4) (.keep [0, 1, 2, 9] (.seq (.reg s167_5) (.keep [0, 1, 2, 9, 21] (.cond (.tmp 21) (.seq (.reg s167_6) .ret) .skip))))) (.keep [0, 1, 2] (.seq (.reg s167_7) (.keep [1, 2, 10] (.seq (.seq (.reg s167_8) (.keep [2, 10, 25, 26, 27] (.block 0 (.loop (.keep [2, 10, 25, 26, 27] (.seq (.reg s167_9) (.keep [2, 10, 25, 26, 27, 28] (.seq (.cond (.tmp 28) .skip (.exit 0)) (.keep [2, 10, 25, 26, 27] (.seq (.block 1 (.seq (.reg s167_10) (.keep [2, 10, 12, 25, 26, 27] (.reg s167_11)))) (.keep [2, 10, 25, 26, 27] (.reg s167_12)))))))))))) (.keep [10] (.seq (.reg s167_13) .ret)))))))))))
def c167 : FC := ⟨46, a167.erase, [.tmp 6, .tmp 7]⟩
theorem comp167 : compF Tryz.prog Tryz.f167 = some c167 := by kernel_rfl
theorem era167 : c167.code = a167.erase := rfl
def s177_0 : List CI := [q0 2 (.mv (.const (.slice none 0 0))), q0 3 (.mv (ki 0))]
def s177_1 : List CI := [q0 11 (.exts (.makeMap 186 none) 186 [] []), q0 4 (.mv (.tmp 11))]
def s177_2 : List CI := [q0 12 (.mv (.tmp 0)), q0 13 (.len false (.tmp 12)), q0 14 (.mv (ki 0))]
def s177_3 : List CI := [q0 15 (.bin .lss (.tmp 14) (.tmp 13))]
def s177_4 : List CI := [q0 16 (.iaddr 2 (.tmp 12) (.tmp 14)), q0 17 (.load true 2 (.tmp 16)), q0 6 (.alloc 124 (.agg #[.string ⟨#[]⟩, .int .i64 0])), .mk none (.store 2 (.tmp 6) (.tmp 17)) none]
def s177_5 : List CI := [q0 18 (.faddr 0 (.tmp 6)), q0 19 (.load false 1 (.tmp 18)), q0 20 (.call 122 [.tmp 19]), q0 21 (.un .not (.tmp 20))]
def s177_6 : List CI := [q0 2 (.mv (.const (.slice none 0 0))), q0 3 (.mv (ki 1))]
def s177_7 : List CI := [q0 22 (.mv (.tmp 4)), q0 23 (.faddr 0 (.tmp 6)), q0 24 (.load false 1 (.tmp 23)), q0 25 (.mv (.tmp 4)), q0 26 (.faddr 0 (.tmp 6)), q0 27 (.load false 1 (.tmp 26)), q0 28 (.extq (.lookup 186 (.tmp 25) (.tmp 27) false) 188 [.mp 9 188, .str] [.tmp 25, .tmp 27]), q0 29 (.faddr 1 (.tmp 6)), q0 30 (.load false 1 (.tmp 29)), q0 31 (.call 189 [.tmp 30]), q0 32 (.call 188 [.tmp 28, .tmp 31])]
def s177_8 : List CI := [.mk none (.exts (.mapUpdate 186 (.tmp 22) (.tmp 24) (.tmp 32)) 0 [.mp 9 188, .str] [.tmp 22, .tmp 24, .tmp 32]) none]
def s177_9 : List CI := [q0 33 (.bin .add (.tmp 14) (ki 1)), q0 14 (.mv (.tmp 33))]
def s177_10 : List CI := [q0 34 (.mv (.tmp 4)), q0 35 (.call 190 [.tmp 34]), q0 36 (.len false (.tmp 35)), q0 37 (.mv (ki 0))]
def s177_11 : List CI := [q0 38 (.bin .lss (.tmp 37) (.tmp 36))]
def s177_12 : List CI := [q0 39 (.iaddr 1 (.tmp 35) (.tmp 37)), q0 40 (.load false 1 (.tmp 39)), q0 8 (.mv (.tmp 40))]
def s177_13 : List CI := [q0 42 (.mv (.tmp 4)), q0 43 (.mv (.tmp 8)), q0 44 (.extq (.lookup 186 (.tmp 42) (.tmp 43) false) 188 [.mp 9 188, .str] [.tmp 42, .tmp 43]), q0 45 (.call 191 [.tmp 44, ki 1]), q0 41 (.mv (.tmp 45)), q0 46 (.extract (.tmp 41) 0), q0 47 (.extract (.tmp 41) 1), q0 9 (.mv (.tmp 46)), q0 10 (.mv (.tmp 47))]
def s177_14 : List CI := [q0 48 (.mv (.tmp 10)), q0 49 (.un .not (.tmp 48)), q0 50 (.mv (.tmp 49)), q1 51 (.mv (.tmp 9)) 50 false, q1 52 (.call 123 [.tmp 51, ki 8]) 50 false, q0 53 (.pick (.tmp 50) kT (.tmp 52))]
def s177_15 : List CI := [q0 2 (.mv (.const (.slice none 0 0))), q0 3 (.mv (ki 70))]
def s177_16 : List CI := [q0 54 (.mv (.tmp 9)), q0 55 (.bin .neq (.tmp 54) (ki 0))]
def s177_17 : List CI := [q0 56 (.mv (.tmp 2)), q0 57 (.mv (.tmp 8)), q0 58 (.mv (.tmp 9)), q0 59 (.build [.string ⟨#[]⟩, .int .i64 0] [(0, 1, .tmp 57), (1, 1, .tmp 58)]), q0 60 (.mksl 124 2 [.tmp 59]), q0 61 (.append 124 2 24 [.string ⟨#[]⟩, .int .i64 0] (.tmp 56) (.tmp 60)), q0 2 (.mv (.tmp 61))]
def s177_18 : List CI := [q0 62 (.bin .add (.tmp 37) (ki 1)), q0 37 (.mv (.tmp 62))]
def s177_19 : List CI := [q0 63 (.mv (.tmp 2)), q0 64 (.len false (.tmp 63)), q0 65 (.bin .gtr (.tmp 64) (ki 4))]
def s177_20 : List CI := [q0 2 (.mv (.const (.slice none 0 0))), q0 3 (.mv (ki 2))]
def s177_21 : List CI := [q0 66 (.mv (.tmp 2)), q0 2 (.mv (.tmp 66)), q0 3 (.mv (ki 0))]
def a177 : AC := (.seq (.reg s177_0) (.keep [0, 2] (.seq (.reg s177_1) (.keep [0, 2, 4] (.seq (.seq (.reg s177_2) (.keep [2, 4, 12, 13, 14] (.block 0 (.loop (.keep [2, 4, 12, 13, 14] (.seq (.reg s177_3) (.keep [2, 4, 12, 13, 14, 15] (.seq (.cond (.tmp 15) .skip (.exit 0)) (.keep [2, 4, 12, 13, 14] (.seq (.block 1 (.seq (.reg s177_4) (.keep [2, 4, 6, 12, 13, 14] (.seq (.seq (.reg s177_5) (.keep [2, 4, 6, 12, 13, 14, 21] (.cond (.tmp 21) (.seq (.reg s177_6) .ret) .skip))) (.keep [2, 4, 6, 12, 13, 14] (.seq (.dreg s177_7) (.keep [2, 4, 12, 13, 14, 22, 24, 32] (.reg s177_8)))))))) (.keep [2, 4, 12, 13, 14] (.reg s177_9)))))))))))) (.keep [2, 4] (.seq (.seq (.reg s177_10) (.keep [2, 4, 35, 36, 37] (.block 2 (.loop (.keep [2, 4, 35, 36, 37] (.seq (.reg s177_11) (.keep [2, 4, 35, 36, 37, 38] (.seq (.cond (.tmp 38) .skip (.exit 2)) (.keep [2, 4, 35, 36, 37] (.seq (.block 3 (.seq (.reg s177_12) (.keep [2, 4, 8, 35, 36, 37] (.seq (.reg s177_13) (.keep [2, 4, 8, 9, 10, 35, 36, 37] (.seq (.seq (.reg s177_14) (.keep [2, 4, 8, 9, 35, 36, 37, 53] (.cond (.tmp 53) (.seq (.reg s177_15) .ret) .skip))) (.keep [2, 4, 8, 9, 35, 36, 37] (.seq (.reg s177_16) (.keep [2, 4, 8, 9, 35, 36, 37, 55] (.cond (.tmp 55) (.reg s177_17) .skip)))))))))) (.keep [2, 4, 35, 36, 37] (.reg s177_18)))))))))))) (.keep [2] (.seq (.seq (.reg s177_19) (.keep [2, 65] (.cond (.tmp 65) (.seq (.reg s177_20) .ret) .skip))) (.keep [2] (.seq (.reg s177_21) .ret)))))))))))
def c177 : FC := ⟨67, a177.erase, [.tmp 2, .tmp 3]⟩
theorem comp177 : compF Tryz.prog Tryz.f177 = some c177 := by kernel_rfl
theorem era177 : c177.code = a177.erase := rfl
def s189_0 : List CI := [q0 2 (.alloc 188 (.agg #[.int .i64 0, .int .u64 0]))]
def s189_1 : List CI := [q0 3 (.mv (.tmp 0)), q0 4 (.bin .shr (.tmp 3) (.const (.int .u64 63))), q0 5 (.mv (.tmp 0)), q0 6 (.cvint .u64 (.tmp 5)), q0 7 (.build [.int .i64 0, .int .u64 0] [(0, 1, .tmp 4), (1, 1, .tmp 6)]), .mk none (.store 2 (.tmp 2) (.tmp 7)) none]
def a189 : AC := (.seq (.reg s189_0) (.keep [0, 2] (.seq (.reg s189_1) .ret)))
def c189 : FC := ⟨8, a189.erase, [.cell 2 true 2]⟩
theorem comp189 : compF Tryz.prog Tryz.f189 = some c189 := by kernel_rfl
theorem era189 : c189.code = a189.erase := rfl
def s191_0 : List CI := [q0 2 (.box 188 (.tmp 0)), q0 4 (.mv (ki 0)), q0 5 (.mv kF)]
def s191_1 : List CI := [q0 10 (.mv (.tmp 1)), q0 11 (.bin .eql (.tmp 10) (ki 0))]
def s191_2 : List CI := [q0 4 (.mv (ki 0)), q0 5 (.mv kF)]
def s191_3 : List CI := [q0 12 (.load true 2 (.tmp 2)), q0 13 (.call 198 [.tmp 12]), q0 14 (.mv (.tmp 1)), q0 15 (.call 189 [.tmp 14]), q0 16 (.call 198 [.tmp 15]), q0 17 (.extq (.index 201 (.tmp 16) (ki 0)) 159 [] [.tmp 16, ki 0]), q0 6 (.alloc 201 (.agg #[.int .u64 0, .int .u64 0])), .mk none (.store 2 (.tmp 6) (.tmp 13)) none, q0 7 (.mv (.tmp 17))]
def s191_4 : List CI := [q0 18 (.iaddrA 2 1 (.tmp 6) (ki 1)), q0 19 (.load false 1 (.tmp 18)), q0 20 (.mv (.tmp 7)), q0 21 (.bin .geq (.tmp 19) (.tmp 20))]
def s191_5 : List CI := [q0 4 (.mv (ki 0)), q0 5 (.mv kF)]
def s191_6 : List CI := [q0 23 (.iaddrA 2 1 (.tmp 6) (ki 1)), q0 24 (.load false 1 (.tmp 23)), q0 25 (.iaddrA 2 1 (.tmp 6) (ki 0)), q0 26 (.load false 1 (.tmp 25)), q0 27 (.mv (.tmp 7)), q0 28 (.call 199 [.tmp 24, .tmp 26, .tmp 27]), q0 22 (.mv (.tmp 28)), q0 29 (.extract (.tmp 22) 0), q0 30 (.extract (.tmp 22) 1), q0 8 (.mv (.tmp 29)), q0 9 (.mv (.tmp 30))]
def s191_7 : List CI := [q0 31 (.mv (.tmp 9)), q0 32 (.mv (.tmp 7)), q0 33 (.mv (.tmp 9)), q0 34 (.bin .sub (.tmp 32) (.tmp 33)), q0 35 (.bin .gtr (.tmp 31) (.tmp 34)), q0 36 (.mv (.tmp 35)), q1 37 (.mv (.tmp 9)) 36 false, q1 38 (.mv (.tmp 7)) 36 false, q1 39 (.mv (.tmp 9)) 36 false, q1 40 (.bin .sub (.tmp 38) (.tmp 39)) 36 false, q1 41 (.bin .eql (.tmp 37) (.tmp 40)) 36 false, q1 42 (.mv (.tmp 41)) 36 false, q1 43 (.mv (.tmp 8)) 42 true, q1 44 (.bin .rem (.tmp 43) (.const (.int .u64 2))) 42 true, q1 45 (.bin .eql (.tmp 44) (.const (.int .u64 1))) 42 true, q1 46 (.pick (.tmp 42) (.tmp 45) kF) 36 false, q0 47 (.pick (.tmp 36) kT (.tmp 46))]
def s191_8 : List CI := [q0 48 (.mv (.tmp 8)), q0 49 (.bin .eql (.tmp 48) (.const (.int .u64 18446744073709551615)))]
def s191_9 : List CI := [q0 4 (.mv (ki 0)), q0 5 (.mv kF)]
def s191_10 : List CI := [q0 50 (.mv (.tmp 8)), q0 51 (.bin .add (.tmp 50) (.const (.int .u64 1))), q0 8 (.mv (.tmp 51))]
def s191_11 : List CI := [q0 52 (.mv (.tmp 8)), q0 53 (.bin .gtr (.tmp 52) (.const (.int .u64 1152921504606846976)))]
def s191_12 : List CI := [q0 4 (.mv (ki 0)), q0 5 (.mv kF)]
def s191_13 : List CI := [q0 54 (.faddr 0 (.tmp 2)), q0 55 (.load false 1 (.tmp 54)), q0 56 (.bin .lss (.tmp 55) (ki 0)), q0 57 (.mv (.tmp 1)), q0 58 (.bin .lss (.tmp 57) (ki 0)), q0 59 (.eqb true .bool (.tmp 56) (.tmp 58))]
def s191_14 : List CI := [q0 60 (.mv (.tmp 8)), q0 61 (.cvint .i64 (.tmp 60)), q0 62 (.un .neg (.tmp 61)), q0 4 (.mv (.tmp 62)), q0 5 (.mv kT)]
def s191_15 : List CI := [q0 63 (.mv (.tmp 8)), q0 64 (.cvint .i64 (.tmp 63)), q0 4 (.mv (.tmp 64)), q0 5 (.mv kT)]
def a191 : AC := (.seq (.reg s191_0) (.keep [1, 2] (.seq (.seq (.reg s191_1) (.keep [1, 2, 11] (.cond (.tmp 11) (.seq (.reg s191_2) .ret) .skip))) (.keep [1, 2] (.seq (.reg s191_3) (.keep [1, 2, 6, 7] (.seq (.seq (.reg s191_4) (.keep [1, 2, 6, 7, 21] (.cond (.tmp 21) (.seq (.reg s191_5) .ret) .skip))) (.keep [1, 2, 6, 7] (.seq (.reg s191_6) (.keep [1, 2, 7, 8, 9] (.seq (.seq (.reg s191_7) (.keep [1, 2, 8, 47] (.cond (.tmp 47) (.seq (.seq (.reg s191_8) (.keep [1, 2, 8, 49] (.cond (.tmp 49) (.seq (.reg s191_9) .ret) .skip))) (.keep [1, 2, 8] (.reg s191_10))) .skip))) (.keep [1, 2, 8] (.seq (.seq (.reg s191_11) (.keep [1, 2, 8, 53] (.cond (.tmp 53) (.seq (.reg s191_12) .ret) .skip))) (.keep [1, 2, 8] (.seq (.seq (.reg s191_13) (.keep [8, 59] (.cond (.tmp 59) (.seq (.reg s191_14) .ret) .skip))) (.keep [8] (.seq (.reg s191_15) .ret)))))))))))))))))
def c191 : FC := ⟨65, a191.erase, [.tmp 4, .tmp 5]⟩
theorem comp191 : compF Tryz.prog Tryz.f191 = some c191 := by kernel_rfl
theorem era191 : c191.code = a191.erase := rfl
end Go.Proofs.YtekngilbecjkhaaGreatDoor
