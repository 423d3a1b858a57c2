
/- The compiled code of functions, printed by a program of mine. -/
import Derived.Test.YtklncofkcfjkeaaGreatDoorGi
import Derived.Test.YtklncofkcfjkeaaGreatDoorRows
set_option linter.unusedVariables false
namespace Go.Proofs.YtklncofkcfjkeaaGreatDoor
open Go.Sx
def s7_0 : List CI := [q0 2 (.box 29 (.tmp 0)), q0 4 (.mv (ki 0))]
def s7_1 : List CI := [q0 7 (.mv (.tmp 1)), q0 8 (.bin .lss (.tmp 7) (ki 1)), q0 9 (.mv (.tmp 8)), q1 10 (.faddr 1 (.tmp 2)) 9 false, q1 11 (.load false 1 (.tmp 10)) 9 false, q1 12 (.len true (.tmp 11)) 9 false, q1 13 (.faddr 2 (.tmp 2)) 9 false, q1 14 (.load false 1 (.tmp 13)) 9 false, q1 15 (.len true (.tmp 14)) 9 false, q1 16 (.bin .add (.tmp 12) (.tmp 15)) 9 false, q1 17 (.faddr 3 (.tmp 2)) 9 false, q1 18 (.load false 1 (.tmp 17)) 9 false, q1 19 (.len true (.tmp 18)) 9 false, q1 20 (.bin .add (.tmp 16) (.tmp 19)) 9 false, q1 21 (.faddr 4 (.tmp 2)) 9 false, q1 22 (.faddr 2 (.tmp 21)) 9 false, q1 23 (.load false 1 (.tmp 22)) 9 false, q1 24 (.len true (.tmp 23)) 9 false, q1 25 (.bin .add (.tmp 20) (.tmp 24)) 9 false, q1 26 (.bin .gtr (.tmp 25) (ki 300)) 9 false, q0 27 (.pick (.tmp 9) kT (.tmp 26)), q0 28 (.mv (.tmp 27)), q1 29 (.faddr 7 (.tmp 2)) 28 false, q1 30 (.load false 1 (.tmp 29)) 28 false, q1 31 (.len false (.tmp 30)) 28 false, q1 32 (.bin .gtr (.tmp 31) (ki 10)) 28 false, q0 33 (.pick (.tmp 28) kT (.tmp 32)), q0 34 (.mv (.tmp 33)), q1 35 (.faddr 11 (.tmp 2)) 34 false, q1 36 (.load false 1 (.tmp 35)) 34 false, q1 37 (.len false (.tmp 36)) 34 false, q1 38 (.bin .gtr (.tmp 37) (ki 10)) 34 false, q0 39 (.pick (.tmp 34) kT (.tmp 38))]
def s7_2 : List CI := [q0 4 (.mv (.const (.int .i64 (-1))))]
def s7_3 : List CI := [q0 5 (.mv (ki 0))]
def s7_4 : List CI := [q0 40 (.mv (.tmp 5)), q0 41 (.faddr 7 (.tmp 2)), q0 42 (.load false 1 (.tmp 41)), q0 43 (.len false (.tmp 42)), q0 44 (.bin .lss (.tmp 40) (.tmp 43))]
def s7_5 : List CI := [q0 47 (.faddr 7 (.tmp 2)), q0 48 (.load false 1 (.tmp 47)), q0 49 (.mv (.tmp 5)), q0 50 (.iaddr 2 (.tmp 48) (.tmp 49)), q0 51 (.faddr 0 (.tmp 50)), q0 52 (.load false 1 (.tmp 51)), q0 53 (.len true (.tmp 52)), q0 54 (.bin .gtr (.tmp 53) (ki 100))]
def s7_6 : List CI := [q0 4 (.mv (.const (.int .i64 (-1))))]
def s7_7 : List CI := [q0 45 (.mv (.tmp 5)), q0 46 (.bin .add (.tmp 45) (ki 1)), q0 5 (.mv (.tmp 46))]
def s7_8 : List CI := [q0 55 (.mv (.tmp 1)), q0 56 (.bin .sub (.tmp 55) (ki 1)), q0 1 (.mv (.tmp 56))]
def s7_9 : List CI := [q0 6 (.mv (ki 0))]
def s7_10 : List CI := [q0 57 (.mv (.tmp 6)), q0 58 (.faddr 11 (.tmp 2)), q0 59 (.load false 1 (.tmp 58)), q0 60 (.len false (.tmp 59)), q0 61 (.bin .lss (.tmp 57) (.tmp 60)), q0 62 (.mv (.tmp 61)), q1 63 (.mv (.tmp 1)) 62 true, q1 64 (.bin .geq (.tmp 63) (ki 0)) 62 true, q0 65 (.pick (.tmp 62) (.tmp 64) kF)]
def s7_11 : List CI := [q0 68 (.faddr 11 (.tmp 2)), q0 69 (.load false 1 (.tmp 68)), q0 70 (.mv (.tmp 6)), q0 71 (.iaddr 12 (.tmp 69) (.tmp 70)), q0 72 (.load true 12 (.tmp 71)), q0 73 (.mv (.tmp 1)), q0 74 (.call 7 [.tmp 72, .tmp 73]), q0 1 (.mv (.tmp 74))]
def s7_12 : List CI := [q0 66 (.mv (.tmp 6)), q0 67 (.bin .add (.tmp 66) (ki 1)), q0 6 (.mv (.tmp 67))]
def s7_13 : List CI := [q0 75 (.mv (.tmp 1)), q0 4 (.mv (.tmp 75))]
def a7 : AC := (.seq (.reg s7_0) (.keep [1, 2] (.seq (.seq (.reg s7_1) (.keep [1, 2, 39] (.cond (.tmp 39) (.seq (.reg s7_2) .ret) .skip))) (.keep [1, 2] (.seq (.seq (.reg s7_3) (.keep [1, 2, 5] (.block 0 (.loop (.keep [1, 2, 5] (.seq (.seq (.reg s7_4) (.keep [1, 2, 5, 44] (.cond (.tmp 44) .skip (.exit 0)))) (.keep [1, 2, 5] (.seq (.block 1 (.seq (.reg s7_5) (.keep [1, 2, 5, 54] (.cond (.tmp 54) (.seq (.reg s7_6) .ret) .skip)))) (.keep [1, 2, 5] (.reg s7_7)))))))))) (.keep [1, 2] (.seq (.reg s7_8) (.keep [1, 2] (.seq (.seq (.reg s7_9) (.keep [1, 2, 6] (.block 2 (.loop (.keep [1, 2, 6] (.seq (.seq (.reg s7_10) (.keep [1, 2, 6, 65] (.cond (.tmp 65) .skip (.exit 2)))) (.keep [1, 2, 6] (.seq (.block 3 (.reg s7_11)) (.keep [1, 2, 6] (.reg s7_12)))))))))) (.keep [1] (.seq (.reg s7_13) .ret)))))))))))
def c7 : FC := ⟨76, a7.erase, [.tmp 4]⟩
theorem comp7 : compF Tryz.prog Tryz.f7 = some c7 := by kernel_rfl
theorem era7 : c7.code = a7.erase := rfl
def s8_0 : List CI := [q0 1 (.box 29 (.tmp 0)), q0 2 (.mv (ki 0))]
def s8_1 : List CI := [q0 3 (.load true 12 (.tmp 1)), q0 4 (.call 28 [.tmp 3]), q0 5 (.bin .gtr (.tmp 4) (ki 64)), q0 6 (.mv (.tmp 5)), q1 7 (.load true 12 (.tmp 1)) 6 false, q1 8 (.call 29 [.tmp 7]) 6 false, q1 9 (.bin .gtr (.tmp 8) (ki 12)) 6 false, q0 10 (.pick (.tmp 6) kT (.tmp 9))]
def s8_2 : List CI := [q0 2 (.mv (ki 2))]
def s8_3 : List CI := [q0 11 (.load true 12 (.tmp 1)), q0 12 (.call 30 [.tmp 11, kF]), q0 13 (.un .not (.tmp 12))]
def s8_4 : List CI := [q0 2 (.mv (ki 3))]
def s8_5 : List CI := [q0 2 (.mv (ki 0))]
def a8 : AC := (.seq (.reg s8_0) (.keep [1] (.seq (.seq (.reg s8_1) (.keep [1, 10] (.cond (.tmp 10) (.seq (.reg s8_2) .ret) .skip))) (.keep [1] (.seq (.seq (.reg s8_3) (.keep [13] (.cond (.tmp 13) (.seq (.reg s8_4) .ret) .skip))) (.keep [] (.seq (.reg s8_5) .ret)))))))
def c8 : FC := ⟨14, a8.erase, [.tmp 2]⟩
theorem comp8 : compF Tryz.prog Tryz.f8 = some c8 := by kernel_rfl
theorem era8 : c8.code = a8.erase := rfl
def s10_0 : List CI := [q0 2 (.box 29 (.tmp 0)), q0 3 (.box 29 (.tmp 1)), q0 4 (.mv kF)]
def s10_1 : List CI := [q0 6 (.load true 12 (.tmp 2)), q0 7 (.load true 12 (.tmp 3)), q0 8 (.call 33 [.tmp 6, .tmp 7]), q0 9 (.un .not (.tmp 8)), q0 10 (.mv (.tmp 9)), q1 11 (.faddr 11 (.tmp 2)) 10 false, q1 12 (.load false 1 (.tmp 11)) 10 false, q1 13 (.len false (.tmp 12)) 10 false, q1 14 (.faddr 11 (.tmp 3)) 10 false, q1 15 (.load false 1 (.tmp 14)) 10 false, q1 16 (.len false (.tmp 15)) 10 false, q1 17 (.bin .neq (.tmp 13) (.tmp 16)) 10 false, q0 18 (.pick (.tmp 10) kT (.tmp 17))]
def s10_2 : List CI := [q0 4 (.mv kF)]
def s10_3 : List CI := [q0 5 (.mv (ki 0))]
def s10_4 : List CI := [q0 19 (.mv (.tmp 5)), q0 20 (.faddr 11 (.tmp 2)), q0 21 (.load false 1 (.tmp 20)), q0 22 (.len false (.tmp 21)), q0 23 (.bin .lss (.tmp 19) (.tmp 22))]
def s10_5 : List CI := [q0 26 (.faddr 11 (.tmp 2)), q0 27 (.load false 1 (.tmp 26)), q0 28 (.mv (.tmp 5)), q0 29 (.iaddr 12 (.tmp 27) (.tmp 28)), q0 30 (.load true 12 (.tmp 29)), q0 31 (.faddr 11 (.tmp 3)), q0 32 (.load false 1 (.tmp 31)), q0 33 (.mv (.tmp 5)), q0 34 (.iaddr 12 (.tmp 32) (.tmp 33)), q0 35 (.load true 12 (.tmp 34)), q0 36 (.call 10 [.tmp 30, .tmp 35]), q0 37 (.un .not (.tmp 36))]
def s10_6 : List CI := [q0 4 (.mv kF)]
def s10_7 : List CI := [q0 24 (.mv (.tmp 5)), q0 25 (.bin .add (.tmp 24) (ki 1)), q0 5 (.mv (.tmp 25))]
def s10_8 : List CI := [q0 4 (.mv kT)]
def a10 : AC := (.seq (.reg s10_0) (.keep [2, 3] (.seq (.seq (.reg s10_1) (.keep [2, 3, 18] (.cond (.tmp 18) (.seq (.reg s10_2) .ret) .skip))) (.keep [2, 3] (.seq (.seq (.reg s10_3) (.keep [2, 3, 5] (.block 0 (.loop (.keep [2, 3, 5] (.seq (.seq (.reg s10_4) (.keep [2, 3, 5, 23] (.cond (.tmp 23) .skip (.exit 0)))) (.keep [2, 3, 5] (.seq (.block 1 (.seq (.dreg s10_5) (.keep [2, 3, 5, 37] (.cond (.tmp 37) (.seq (.reg s10_6) .ret) .skip)))) (.keep [2, 3, 5] (.reg s10_7)))))))))) (.keep [] (.seq (.reg s10_8) .ret)))))))
def c10 : FC := ⟨38, a10.erase, [.tmp 4]⟩
theorem comp10 : compF Tryz.prog Tryz.f10 = some c10 := by kernel_rfl
theorem era10 : c10.code = a10.erase := rfl
def s11_0 : List CI := [q0 1 (.box 38 (.tmp 0)), q0 2 (.mv kF)]
def s11_1 : List CI := [q0 3 (.faddr 2 (.tmp 1)), q0 4 (.load false 1 (.tmp 3)), q0 5 (.faddr 1 (.tmp 1)), q0 6 (.load false 1 (.tmp 5)), q0 7 (.build [.int .i64 0, .string ⟨#[]⟩, .string ⟨#[]⟩, .string ⟨#[]⟩, .int .i64 0, .int .i64 0, .string ⟨#[]⟩, .slice none 0 0, .int .i64 0, .int .i64 0, .int .i64 0, .slice none 0 0] [(2, 1, .tmp 4), (7, 1, .tmp 6)]), q0 8 (.call 7 [.tmp 7, ki 1]), q0 9 (.bin .geq (.tmp 8) (ki 0)), q0 2 (.mv (.tmp 9))]
def a11 : AC := (.seq (.reg s11_0) (.keep [1] (.seq (.reg s11_1) .ret)))
def c11 : FC := ⟨10, a11.erase, [.tmp 2]⟩
theorem comp11 : compF Tryz.prog Tryz.f11 = some c11 := by kernel_rfl
theorem era11 : c11.code = a11.erase := rfl
def s26_0 : List CI := [q0 0 (.alloc 29 (.agg #[.int .i64 0, .string ⟨#[]⟩, .string ⟨#[]⟩, .string ⟨#[]⟩, .int .i64 0, .int .i64 0, .string ⟨#[]⟩, .slice none 0 0, .int .i64 0, .int .i64 0, .int .i64 0, .slice none 0 0]))]
def s26_1 : List CI := [q0 1 (.build [.int .i64 0, .int .i64 0, .string ⟨#[]⟩] [(0, 1, ki 1), (1, 1, ki 1)]), q0 2 (.build [.int .i64 0, .string ⟨#[]⟩, .string ⟨#[]⟩, .string ⟨#[]⟩, .int .i64 0, .int .i64 0, .string ⟨#[]⟩, .slice none 0 0, .int .i64 0, .int .i64 0, .int .i64 0, .slice none 0 0] [(0, 1, ki 1), (4, 3, .tmp 1)]), .mk none (.store 12 (.tmp 0) (.tmp 2)) none]
def a26 : AC := (.seq (.reg s26_0) (.keep [0] (.seq (.reg s26_1) .ret)))
def c26 : FC := ⟨3, a26.erase, [.cell 0 true 12]⟩
theorem comp26 : compF Tryz.prog Tryz.f26 = some c26 := by kernel_rfl
theorem era26 : c26.code = a26.erase := rfl
def s28_0 : List CI := [q0 1 (.box 29 (.tmp 0)), q0 2 (.mv (ki 0))]
def s28_1 : List CI := [q0 3 (.mv (ki 1))]
def s28_2 : List CI := [q0 4 (.mv (ki 0))]
def s28_3 : List CI := [q0 5 (.mv (.tmp 4)), q0 6 (.faddr 11 (.tmp 1)), q0 7 (.load false 1 (.tmp 6)), q0 8 (.len false (.tmp 7)), q0 9 (.bin .lss (.tmp 5) (.tmp 8))]
def s28_4 : List CI := [q0 12 (.mv (.tmp 3)), q0 13 (.faddr 11 (.tmp 1)), q0 14 (.load false 1 (.tmp 13)), q0 15 (.mv (.tmp 4)), q0 16 (.iaddr 12 (.tmp 14) (.tmp 15)), q0 17 (.load true 12 (.tmp 16)), q0 18 (.call 28 [.tmp 17]), q0 19 (.bin .add (.tmp 12) (.tmp 18)), q0 3 (.mv (.tmp 19))]
def s28_5 : List CI := [q0 10 (.mv (.tmp 4)), q0 11 (.bin .add (.tmp 10) (ki 1)), q0 4 (.mv (.tmp 11))]
def s28_6 : List CI := [q0 20 (.mv (.tmp 3)), q0 2 (.mv (.tmp 20))]
def a28 : AC := (.seq (.reg s28_0) (.keep [1] (.seq (.reg s28_1) (.keep [1, 3] (.seq (.seq (.reg s28_2) (.keep [1, 3, 4] (.block 0 (.loop (.keep [1, 3, 4] (.seq (.seq (.reg s28_3) (.keep [1, 3, 4, 9] (.cond (.tmp 9) .skip (.exit 0)))) (.keep [1, 3, 4] (.seq (.block 1 (.reg s28_4)) (.keep [1, 3, 4] (.reg s28_5)))))))))) (.keep [3] (.seq (.reg s28_6) .ret)))))))
def c28 : FC := ⟨21, a28.erase, [.tmp 2]⟩
theorem comp28 : compF Tryz.prog Tryz.f28 = some c28 := by kernel_rfl
theorem era28 : c28.code = a28.erase := rfl
def s29_0 : List CI := [q0 1 (.box 29 (.tmp 0)), q0 2 (.mv (ki 0))]
def s29_1 : List CI := [q0 3 (.mv (ki 0))]
def s29_2 : List CI := [q0 4 (.mv (ki 0))]
def s29_3 : List CI := [q0 5 (.mv (.tmp 4)), q0 6 (.faddr 11 (.tmp 1)), q0 7 (.load false 1 (.tmp 6)), q0 8 (.len false (.tmp 7)), q0 9 (.bin .lss (.tmp 5) (.tmp 8))]
def s29_4 : List CI := [q0 12 (.mv (.tmp 3)), q0 13 (.faddr 11 (.tmp 1)), q0 14 (.load false 1 (.tmp 13)), q0 15 (.mv (.tmp 4)), q0 16 (.iaddr 12 (.tmp 14) (.tmp 15)), q0 17 (.load true 12 (.tmp 16)), q0 18 (.call 29 [.tmp 17]), q0 19 (.max2 (.tmp 12) (.tmp 18)), q0 3 (.mv (.tmp 19))]
def s29_5 : List CI := [q0 10 (.mv (.tmp 4)), q0 11 (.bin .add (.tmp 10) (ki 1)), q0 4 (.mv (.tmp 11))]
def s29_6 : List CI := [q0 20 (.mv (.tmp 3)), q0 21 (.bin .add (.tmp 20) (ki 1)), q0 2 (.mv (.tmp 21))]
def a29 : AC := (.seq (.reg s29_0) (.keep [1] (.seq (.reg s29_1) (.keep [1, 3] (.seq (.seq (.reg s29_2) (.keep [1, 3, 4] (.block 0 (.loop (.keep [1, 3, 4] (.seq (.seq (.reg s29_3) (.keep [1, 3, 4, 9] (.cond (.tmp 9) .skip (.exit 0)))) (.keep [1, 3, 4] (.seq (.block 1 (.reg s29_4)) (.keep [1, 3, 4] (.reg s29_5)))))))))) (.keep [3] (.seq (.reg s29_6) .ret)))))))
def c29 : FC := ⟨22, a29.erase, [.tmp 2]⟩
theorem comp29 : compF Tryz.prog Tryz.f29 = some c29 := by kernel_rfl
theorem era29 : c29.code = a29.erase := rfl
def s30_0 : List CI := [q0 2 (.box 29 (.tmp 0)), q0 4 (.mv kF)]
def s30_1 : List CI := [q0 9 (.load true 12 (.tmp 2)), q0 10 (.mv (.tmp 1)), q0 11 (.call 52 [.tmp 9, .tmp 10]), q0 8 (.mv (.tmp 11)), q0 12 (.extract (.tmp 8) 0), q0 13 (.extract (.tmp 8) 1), q0 5 (.mv (.tmp 12)), q0 6 (.mv (.tmp 13))]
def s30_2 : List CI := [q0 14 (.mv (.tmp 6)), q0 15 (.un .not (.tmp 14)), q0 16 (.mv (.tmp 15)), q1 17 (.faddr 11 (.tmp 2)) 16 false, q1 18 (.load false 1 (.tmp 17)) 16 false, q1 19 (.len false (.tmp 18)) 16 false, q1 20 (.mv (.tmp 5)) 16 false, q1 21 (.bin .neq (.tmp 19) (.tmp 20)) 16 false, q0 22 (.pick (.tmp 16) kT (.tmp 21))]
def s30_3 : List CI := [q0 4 (.mv kF)]
def s30_4 : List CI := [q0 7 (.mv (ki 0))]
def s30_5 : List CI := [q0 23 (.mv (.tmp 7)), q0 24 (.mv (.tmp 5)), q0 25 (.bin .lss (.tmp 23) (.tmp 24))]
def s30_6 : List CI := [q0 28 (.faddr 11 (.tmp 2)), q0 29 (.load false 1 (.tmp 28)), q0 30 (.mv (.tmp 7)), q0 31 (.iaddr 12 (.tmp 29) (.tmp 30)), q0 32 (.load true 12 (.tmp 31)), q0 33 (.mv (.tmp 1)), q0 34 (.mv (.tmp 33)), q1 35 (.faddr 0 (.tmp 2)) 34 false, q1 36 (.load false 1 (.tmp 35)) 34 false, q1 37 (.bin .eql (.tmp 36) (ki 5)) 34 false, q0 38 (.pick (.tmp 34) kT (.tmp 37)), q0 39 (.call 30 [.tmp 32, .tmp 38]), q0 40 (.un .not (.tmp 39))]
def s30_7 : List CI := [q0 4 (.mv kF)]
def s30_8 : List CI := [q0 26 (.mv (.tmp 7)), q0 27 (.bin .add (.tmp 26) (ki 1)), q0 7 (.mv (.tmp 27))]
def s30_9 : List CI := [q0 41 (.faddr 0 (.tmp 2)), q0 42 (.load false 1 (.tmp 41)), q0 43 (.bin .neq (.tmp 42) (ki 5)), q0 44 (.mv (.tmp 43)), q1 45 (.faddr 1 (.tmp 2)) 44 false, q1 46 (.load false 1 (.tmp 45)) 44 false, q1 47 (.bin .neq (.tmp 46) (ks ⟨#[99, 111, 117, 110, 116]⟩)) 44 false, q0 48 (.pick (.tmp 44) kT (.tmp 47)), q0 49 (.mv (.tmp 48)), q1 50 (.faddr 11 (.tmp 2)) 49 false, q1 51 (.load false 1 (.tmp 50)) 49 false, q1 52 (.iaddr 12 (.tmp 51) (ki 0)) 49 false, q1 53 (.load true 12 (.tmp 52)) 49 false, q1 54 (.call 26 []) 49 false, q1 55 (.call 10 [.tmp 53, .tmp 54]) 49 false, q0 56 (.pick (.tmp 49) kT (.tmp 55)), q0 4 (.mv (.tmp 56))]
def a30 : AC := (.seq (.reg s30_0) (.keep [1, 2] (.seq (.reg s30_1) (.keep [1, 2, 5, 6] (.seq (.seq (.reg s30_2) (.keep [1, 2, 5, 22] (.cond (.tmp 22) (.seq (.reg s30_3) .ret) .skip))) (.keep [1, 2, 5] (.seq (.seq (.reg s30_4) (.keep [1, 2, 5, 7] (.block 0 (.loop (.keep [1, 2, 5, 7] (.seq (.seq (.reg s30_5) (.keep [1, 2, 5, 7, 25] (.cond (.tmp 25) .skip (.exit 0)))) (.keep [1, 2, 5, 7] (.seq (.block 1 (.seq (.dreg s30_6) (.keep [1, 2, 5, 7, 40] (.cond (.tmp 40) (.seq (.reg s30_7) .ret) .skip)))) (.keep [1, 2, 5, 7] (.reg s30_8)))))))))) (.keep [2] (.seq (.dreg s30_9) .ret)))))))))
def c30 : FC := ⟨57, a30.erase, [.tmp 4]⟩
theorem comp30 : compF Tryz.prog Tryz.f30 = some c30 := by kernel_rfl
theorem era30 : c30.code = a30.erase := rfl
def s31_0 : List CI := [q0 1 (.box 29 (.tmp 0)), q0 2 (.mv (ki 0))]
def s31_1 : List CI := [q0 3 (.load true 12 (.tmp 1)), q0 4 (.call 53 [.tmp 3]), q0 5 (.bin .gtr (.tmp 4) (ki 64)), q0 6 (.mv (.tmp 5)), q1 7 (.load true 12 (.tmp 1)) 6 false, q1 8 (.call 54 [.tmp 7]) 6 false, q1 9 (.bin .gtr (.tmp 8) (ki 12)) 6 false, q0 10 (.pick (.tmp 6) kT (.tmp 9))]
def s31_2 : List CI := [q0 2 (.mv (ki 2))]
def s31_3 : List CI := [q0 11 (.load true 12 (.tmp 1)), q0 12 (.call 55 [.tmp 11, kF]), q0 13 (.un .not (.tmp 12))]
def s31_4 : List CI := [q0 2 (.mv (ki 3))]
def s31_5 : List CI := [q0 2 (.mv (ki 0))]
def a31 : AC := (.seq (.reg s31_0) (.keep [1] (.seq (.seq (.reg s31_1) (.keep [1, 10] (.cond (.tmp 10) (.seq (.reg s31_2) .ret) .skip))) (.keep [1] (.seq (.seq (.reg s31_3) (.keep [13] (.cond (.tmp 13) (.seq (.reg s31_4) .ret) .skip))) (.keep [] (.seq (.reg s31_5) .ret)))))))
def c31 : FC := ⟨14, a31.erase, [.tmp 2]⟩
theorem comp31 : compF Tryz.prog Tryz.f31 = some c31 := by kernel_rfl
theorem era31 : c31.code = a31.erase := rfl
def s33_0 : List CI := [q0 2 (.box 29 (.tmp 0)), q0 3 (.box 29 (.tmp 1)), q0 4 (.mv kF)]
def s33_1 : List CI := [q0 5 (.faddr 0 (.tmp 2)), q0 6 (.load false 1 (.tmp 5)), q0 7 (.faddr 0 (.tmp 3)), q0 8 (.load false 1 (.tmp 7)), q0 9 (.bin .eql (.tmp 6) (.tmp 8)), q0 10 (.mv (.tmp 9)), q1 11 (.faddr 1 (.tmp 2)) 10 true, q1 12 (.load false 1 (.tmp 11)) 10 true, q1 13 (.faddr 1 (.tmp 3)) 10 true, q1 14 (.load false 1 (.tmp 13)) 10 true, q1 15 (.bin .eql (.tmp 12) (.tmp 14)) 10 true, q0 16 (.pick (.tmp 10) (.tmp 15) kF), q0 17 (.mv (.tmp 16)), q1 18 (.faddr 2 (.tmp 2)) 17 true, q1 19 (.load false 1 (.tmp 18)) 17 true, q1 20 (.faddr 2 (.tmp 3)) 17 true, q1 21 (.load false 1 (.tmp 20)) 17 true, q1 22 (.bin .eql (.tmp 19) (.tmp 21)) 17 true, q0 23 (.pick (.tmp 17) (.tmp 22) kF), q0 24 (.mv (.tmp 23)), q1 25 (.faddr 3 (.tmp 2)) 24 true, q1 26 (.load false 1 (.tmp 25)) 24 true, q1 27 (.faddr 3 (.tmp 3)) 24 true, q1 28 (.load false 1 (.tmp 27)) 24 true, q1 29 (.bin .eql (.tmp 26) (.tmp 28)) 24 true, q0 30 (.pick (.tmp 24) (.tmp 29) kF), q0 31 (.mv (.tmp 30)), q1 32 (.faddr 4 (.tmp 2)) 31 true, q1 33 (.load true 3 (.tmp 32)) 31 true, q1 34 (.faddr 4 (.tmp 3)) 31 true, q1 35 (.load true 3 (.tmp 34)) 31 true, q1 36 (.eqs false [.int, .int, .str] (.tmp 33) (.tmp 35)) 31 true, q0 37 (.pick (.tmp 31) (.tmp 36) kF), q0 38 (.mv (.tmp 37)), q1 39 (.faddr 7 (.tmp 2)) 38 true, q1 40 (.load false 1 (.tmp 39)) 38 true, q1 41 (.faddr 7 (.tmp 3)) 38 true, q1 42 (.load false 1 (.tmp 41)) 38 true, q1 43 (.call 64 [.tmp 40, .tmp 42]) 38 true, q0 44 (.pick (.tmp 38) (.tmp 43) kF), q0 45 (.mv (.tmp 44)), q1 46 (.faddr 8 (.tmp 2)) 45 true, q1 47 (.load false 1 (.tmp 46)) 45 true, q1 48 (.faddr 8 (.tmp 3)) 45 true, q1 49 (.load false 1 (.tmp 48)) 45 true, q1 50 (.bin .eql (.tmp 47) (.tmp 49)) 45 true, q0 51 (.pick (.tmp 45) (.tmp 50) kF), q0 52 (.mv (.tmp 51)), q1 53 (.faddr 9 (.tmp 2)) 52 true, q1 54 (.load true 2 (.tmp 53)) 52 true, q1 55 (.faddr 9 (.tmp 3)) 52 true, q1 56 (.load true 2 (.tmp 55)) 52 true, q1 57 (.eqs false [.int, .int] (.tmp 54) (.tmp 56)) 52 true, q0 58 (.pick (.tmp 52) (.tmp 57) kF), q0 4 (.mv (.tmp 58))]
def a33 : AC := (.seq (.reg s33_0) (.keep [2, 3] (.seq (.reg s33_1) .ret)))
def c33 : FC := ⟨59, a33.erase, [.tmp 4]⟩
theorem comp33 : compF Tryz.prog Tryz.f33 = some c33 := by kernel_rfl
theorem era33 : c33.code = a33.erase := rfl
def s35_0 : List CI := [q0 1 (.box 38 (.tmp 0)), q0 2 (.mv (ki 0))]
def s35_1 : List CI := [q0 3 (.faddr 0 (.tmp 1)), q0 4 (.load false 1 (.tmp 3)), q0 5 (.bin .lss (.tmp 4) (ki 1)), q0 6 (.mv (.tmp 5)), q1 7 (.faddr 0 (.tmp 1)) 6 false, q1 8 (.load false 1 (.tmp 7)) 6 false, q1 9 (.bin .gtr (.tmp 8) (ki 5)) 6 false, q0 10 (.pick (.tmp 6) kT (.tmp 9)), q0 11 (.mv (.tmp 10)), q1 12 (.faddr 1 (.tmp 1)) 11 false, q1 13 (.load false 1 (.tmp 12)) 11 false, q1 14 (.len false (.tmp 13)) 11 false, q1 15 (.bin .gtr (.tmp 14) (ki 0)) 11 false, q1 16 (.mv (.tmp 15)) 11 false, q1 17 (.load true 3 (.tmp 1)) 16 true, q1 18 (.call 70 [.tmp 17]) 16 true, q1 19 (.un .not (.tmp 18)) 16 true, q1 20 (.pick (.tmp 16) (.tmp 19) kF) 11 false, q0 21 (.pick (.tmp 11) kT (.tmp 20))]
def s35_2 : List CI := [q0 2 (.mv (ki 3))]
def s35_3 : List CI := [q0 22 (.faddr 0 (.tmp 1)), q0 23 (.load false 1 (.tmp 22)), q0 24 (.bin .eql (.tmp 23) (ki 5)), q0 25 (.faddr 2 (.tmp 1)), q0 26 (.load false 1 (.tmp 25)), q0 27 (.bin .neq (.tmp 26) (ks ⟨#[]⟩)), q0 28 (.eqb true .bool (.tmp 24) (.tmp 27)), q0 29 (.mv (.tmp 28)), q1 30 (.faddr 2 (.tmp 1)) 29 false, q1 31 (.load false 1 (.tmp 30)) 29 false, q1 32 (.bin .neq (.tmp 31) (ks ⟨#[]⟩)) 29 false, q1 33 (.mv (.tmp 32)) 29 false, q1 34 (.faddr 2 (.tmp 1)) 33 true, q1 35 (.load false 1 (.tmp 34)) 33 true, q1 36 (.call 47 [.tmp 35]) 33 true, q1 37 (.un .not (.tmp 36)) 33 true, q1 38 (.pick (.tmp 33) (.tmp 37) kF) 29 false, q0 39 (.pick (.tmp 29) kT (.tmp 38))]
def s35_4 : List CI := [q0 2 (.mv (ki 3))]
def s35_5 : List CI := [q0 40 (.faddr 1 (.tmp 1)), q0 41 (.load false 1 (.tmp 40)), q0 42 (.call 71 [.tmp 41]), q0 43 (.bin .neq (.tmp 42) (ki 0)), q0 44 (.mv (.tmp 43)), q1 45 (.faddr 1 (.tmp 1)) 44 false, q1 46 (.load false 1 (.tmp 45)) 44 false, q1 47 (.call 72 [.tmp 46, .func 73]) 44 false, q0 48 (.pick (.tmp 44) kT (.tmp 47))]
def s35_6 : List CI := [q0 2 (.mv (ki 70))]
def s35_7 : List CI := [q0 2 (.mv (ki 0))]
def a35 : AC := (.seq (.reg s35_0) (.keep [1] (.seq (.seq (.reg s35_1) (.keep [1, 21] (.cond (.tmp 21) (.seq (.reg s35_2) .ret) .skip))) (.keep [1] (.seq (.seq (.reg s35_3) (.keep [1, 39] (.cond (.tmp 39) (.seq (.reg s35_4) .ret) .skip))) (.keep [1] (.seq (.seq (.reg s35_5) (.keep [48] (.cond (.tmp 48) (.seq (.reg s35_6) .ret) .skip))) (.keep [] (.seq (.reg s35_7) .ret)))))))))
def c35 : FC := ⟨49, a35.erase, [.tmp 2]⟩
theorem comp35 : compF Tryz.prog Tryz.f35 = some c35 := by kernel_rfl
theorem era35 : c35.code = a35.erase := rfl
def s37_0 : List CI := [q0 1 (.box 38 (.tmp 0)), q0 2 (.mv (ki 0))]
def s37_1 : List CI := [q0 4 (.faddr 0 (.tmp 1)), q0 5 (.load false 1 (.tmp 4)), q0 6 (.bin .lss (.tmp 5) (ki 1)), q0 7 (.mv (.tmp 6)), q1 8 (.faddr 0 (.tmp 1)) 7 false, q1 9 (.load false 1 (.tmp 8)) 7 false, q1 10 (.bin .gtr (.tmp 9) (ki 5)) 7 false, q0 11 (.pick (.tmp 7) kT (.tmp 10))]
def s37_2 : List CI := [q0 2 (.mv (ki 3))]
def s37_3 : List CI := [q0 12 (.faddr 0 (.tmp 1)), q0 13 (.load false 1 (.tmp 12)), q0 14 (.bin .eql (.tmp 13) (ki 5)), q0 15 (.mv (.tmp 14)), q1 16 (.faddr 2 (.tmp 1)) 15 true, q1 17 (.load false 1 (.tmp 16)) 15 true, q1 18 (.call 48 [.tmp 17]) 15 true, q1 19 (.un .not (.tmp 18)) 15 true, q0 20 (.pick (.tmp 15) (.tmp 19) kF), q0 21 (.mv (.tmp 20)), q1 22 (.faddr 0 (.tmp 1)) 21 false, q1 23 (.load false 1 (.tmp 22)) 21 false, q1 24 (.bin .neq (.tmp 23) (ki 5)) 21 false, q1 25 (.mv (.tmp 24)) 21 false, q1 26 (.faddr 2 (.tmp 1)) 25 true, q1 27 (.load false 1 (.tmp 26)) 25 true, q1 28 (.bin .neq (.tmp 27) (ks ⟨#[]⟩)) 25 true, q1 29 (.pick (.tmp 25) (.tmp 28) kF) 21 false, q0 30 (.pick (.tmp 21) kT (.tmp 29)), q0 31 (.mv (.tmp 30)), q1 32 (.load true 3 (.tmp 1)) 31 false, q1 33 (.call 75 [.tmp 32]) 31 false, q1 34 (.un .not (.tmp 33)) 31 false, q1 35 (.mv (.tmp 34)) 31 false, q1 36 (.faddr 1 (.tmp 1)) 35 true, q1 37 (.load false 1 (.tmp 36)) 35 true, q1 38 (.len false (.tmp 37)) 35 true, q1 39 (.bin .gtr (.tmp 38) (ki 0)) 35 true, q1 40 (.pick (.tmp 35) (.tmp 39) kF) 31 false, q0 41 (.pick (.tmp 31) kT (.tmp 40))]
def s37_4 : List CI := [q0 2 (.mv (ki 3))]
def s37_5 : List CI := [q0 42 (.faddr 1 (.tmp 1)), q0 43 (.load false 1 (.tmp 42)), q0 44 (.call 76 [.tmp 43]), q0 45 (.bin .neq (.tmp 44) (ki 0))]
def s37_6 : List CI := [q0 2 (.mv (ki 70))]
def s37_7 : List CI := [q0 3 (.mv (ki 0))]
def s37_8 : List CI := [q0 46 (.mv (.tmp 3)), q0 47 (.faddr 1 (.tmp 1)), q0 48 (.load false 1 (.tmp 47)), q0 49 (.len false (.tmp 48)), q0 50 (.bin .lss (.tmp 46) (.tmp 49))]
def s37_9 : List CI := [q0 53 (.faddr 1 (.tmp 1)), q0 54 (.load false 1 (.tmp 53)), q0 55 (.mv (.tmp 3)), q0 56 (.iaddr 2 (.tmp 54) (.tmp 55)), q0 57 (.faddr 0 (.tmp 56)), q0 58 (.load false 1 (.tmp 57)), q0 59 (.call 48 [.tmp 58]), q0 60 (.un .not (.tmp 59))]
def s37_10 : List CI := [q0 2 (.mv (ki 70))]
def s37_11 : List CI := [q0 51 (.mv (.tmp 3)), q0 52 (.bin .add (.tmp 51) (ki 1)), q0 3 (.mv (.tmp 52))]
def s37_12 : List CI := [q0 2 (.mv (ki 0))]
def a37 : AC := (.seq (.reg s37_0) (.keep [1] (.seq (.seq (.reg s37_1) (.keep [1, 11] (.cond (.tmp 11) (.seq (.reg s37_2) .ret) .skip))) (.keep [1] (.seq (.seq (.reg s37_3) (.keep [1, 41] (.cond (.tmp 41) (.seq (.reg s37_4) .ret) .skip))) (.keep [1] (.seq (.seq (.reg s37_5) (.keep [1, 45] (.cond (.tmp 45) (.seq (.reg s37_6) .ret) .skip))) (.keep [1] (.seq (.seq (.reg s37_7) (.keep [1, 3] (.block 0 (.loop (.keep [1, 3] (.seq (.seq (.reg s37_8) (.keep [1, 3, 50] (.cond (.tmp 50) .skip (.exit 0)))) (.keep [1, 3] (.seq (.block 1 (.seq (.reg s37_9) (.keep [1, 3, 60] (.cond (.tmp 60) (.seq (.reg s37_10) .ret) .skip)))) (.keep [1, 3] (.reg s37_11)))))))))) (.keep [] (.seq (.reg s37_12) .ret)))))))))))
def c37 : FC := ⟨61, a37.erase, [.tmp 2]⟩
theorem comp37 : compF Tryz.prog Tryz.f37 = some c37 := by kernel_rfl
theorem era37 : c37.code = a37.erase := rfl
def s47_0 : List CI := [q0 2 (.mv kF)]
def s47_1 : List CI := [q0 5 (.mv (.tmp 0)), q0 6 (.bin .eql (.tmp 5) (ks ⟨#[]⟩)), q0 7 (.mv (.tmp 6)), q1 8 (.mv (.tmp 0)) 7 false, q1 9 (.len true (.tmp 8)) 7 false, q1 10 (.bin .gtr (.tmp 9) (ki 24)) 7 false, q0 11 (.pick (.tmp 7) kT (.tmp 10)), q0 12 (.mv (.tmp 11)), q1 13 (.mv (.tmp 0)) 12 false, q1 14 (.call 82 [.tmp 13]) 12 false, q0 15 (.pick (.tmp 12) kT (.tmp 14))]
def s47_2 : List CI := [q0 2 (.mv kF)]
def s47_3 : List CI := [q0 16 (.mv (.tmp 0)), q0 17 (.len true (.tmp 16)), q0 18 (.mv (ki 0))]
def s47_4 : List CI := [q0 19 (.bin .lss (.tmp 18) (.tmp 17))]
def s47_5 : List CI := [q0 20 (.mv (.tmp 18)), q0 3 (.mv (.tmp 20))]
def s47_6 : List CI := [q0 21 (.mv (.tmp 0)), q0 22 (.mv (.tmp 3)), q0 23 (.idxs (.tmp 21) (.tmp 22)), q0 4 (.mv (.tmp 23))]
def s47_7 : List CI := [q0 25 (.mv (.tmp 4)), q0 26 (.bin .geq (.tmp 25) (.const (.int .u8 97))), q0 27 (.mv (.tmp 26)), q1 28 (.mv (.tmp 4)) 27 true, q1 29 (.bin .leq (.tmp 28) (.const (.int .u8 122))) 27 true, q0 30 (.pick (.tmp 27) (.tmp 29) kF), q0 24 (.mv (.tmp 30))]
def s47_8 : List CI := [q0 32 (.mv (.tmp 3)), q0 33 (.bin .gtr (.tmp 32) (ki 0)), q0 34 (.mv (.tmp 33)), q1 35 (.mv (.tmp 4)) 34 true, q1 36 (.bin .geq (.tmp 35) (.const (.int .u8 48))) 34 true, q1 37 (.mv (.tmp 36)) 34 true, q1 38 (.mv (.tmp 4)) 37 true, q1 39 (.bin .leq (.tmp 38) (.const (.int .u8 57))) 37 true, q1 40 (.pick (.tmp 37) (.tmp 39) kF) 34 true, q1 41 (.mv (.tmp 40)) 34 true, q1 42 (.mv (.tmp 4)) 41 false, q1 43 (.bin .eql (.tmp 42) (.const (.int .u8 95))) 41 false, q1 44 (.pick (.tmp 41) kT (.tmp 43)) 34 true, q0 45 (.pick (.tmp 34) (.tmp 44) kF), q0 31 (.mv (.tmp 45))]
def s47_9 : List CI := [q0 2 (.mv kF)]
def s47_10 : List CI := [q0 46 (.bin .add (.tmp 18) (ki 1)), q0 18 (.mv (.tmp 46))]
def s47_11 : List CI := [q0 2 (.mv kT)]
def a47 : AC := (.seq (.reg s47_0) (.keep [0] (.seq (.seq (.reg s47_1) (.keep [0, 15] (.cond (.tmp 15) (.seq (.reg s47_2) .ret) .skip))) (.keep [0] (.seq (.seq (.reg s47_3) (.keep [0, 17, 18] (.block 0 (.loop (.keep [0, 17, 18] (.seq (.reg s47_4) (.keep [0, 17, 18, 19] (.seq (.cond (.tmp 19) .skip (.exit 0)) (.keep [0, 17, 18] (.seq (.block 1 (.seq (.reg s47_5) (.keep [0, 3, 17, 18] (.seq (.reg s47_6) (.keep [0, 3, 4, 17, 18] (.block 2 (.seq (.reg s47_7) (.keep [0, 3, 4, 17, 18, 24] (.cond (.tmp 24) .skip (.seq (.reg s47_8) (.keep [0, 17, 18, 31] (.cond (.tmp 31) .skip (.seq (.reg s47_9) .ret))))))))))))) (.keep [0, 17, 18] (.reg s47_10)))))))))))) (.keep [] (.seq (.reg s47_11) .ret)))))))
def c47 : FC := ⟨47, a47.erase, [.tmp 2]⟩
theorem comp47 : compF Tryz.prog Tryz.f47 = some c47 := by kernel_rfl
theorem era47 : c47.code = a47.erase := rfl
def s48_0 : List CI := [q0 2 (.mv kF)]
def s48_1 : List CI := [q0 3 (.mv (.tmp 0)), q0 4 (.bin .neq (.tmp 3) (ks ⟨#[]⟩)), q0 5 (.mv (.tmp 4)), q1 6 (.mv (.tmp 0)) 5 true, q1 7 (.len true (.tmp 6)) 5 true, q1 8 (.bin .leq (.tmp 7) (ki 24)) 5 true, q0 9 (.pick (.tmp 5) (.tmp 8) kF), q0 10 (.mv (.tmp 9)), q1 11 (.mv (.tmp 0)) 10 true, q1 12 (.extq (.convert 9 81 (.tmp 11)) 81 [.str, .other, .sl 5, .int .u8] [.tmp 11]) 10 true, q1 13 (.call 83 [.tmp 12, ki 0]) 10 true, q1 14 (.mv (.tmp 0)) 10 true, q1 15 (.len true (.tmp 14)) 10 true, q1 16 (.bin .eql (.tmp 13) (.tmp 15)) 10 true, q0 17 (.pick (.tmp 10) (.tmp 16) kF), q0 18 (.mv (.tmp 17)), q1 19 (.mv (.tmp 0)) 18 true, q1 20 (.call 84 [.tmp 19]) 18 true, q1 21 (.un .not (.tmp 20)) 18 true, q0 22 (.pick (.tmp 18) (.tmp 21) kF), q0 2 (.mv (.tmp 22))]
def a48 : AC := (.seq (.reg s48_0) (.keep [0] (.seq (.reg s48_1) .ret)))
def c48 : FC := ⟨23, a48.erase, [.tmp 2]⟩
theorem comp48 : compF Tryz.prog Tryz.f48 = some c48 := by kernel_rfl
theorem era48 : c48.code = a48.erase := rfl
def s52_0 : List CI := [q0 2 (.box 29 (.tmp 0)), q0 4 (.mv (ki 0)), q0 5 (.mv kF)]
def s52_1 : List CI := [q0 8 (.faddr 2 (.tmp 2)), q0 9 (.load false 1 (.tmp 8)), q0 10 (.call 48 [.tmp 9]), q0 11 (.mv (.tmp 10)), q1 12 (.load true 12 (.tmp 2)) 11 true, q1 13 (.faddr 0 (.tmp 2)) 11 true, q1 14 (.load false 1 (.tmp 13)) 11 true, q1 15 (.faddr 2 (.tmp 2)) 11 true, q1 16 (.load false 1 (.tmp 15)) 11 true, q1 17 (.build [.int .i64 0, .string ⟨#[]⟩, .string ⟨#[]⟩, .string ⟨#[]⟩, .int .i64 0, .int .i64 0, .string ⟨#[]⟩, .slice none 0 0, .int .i64 0, .int .i64 0, .int .i64 0, .slice none 0 0] [(0, 1, .tmp 14), (2, 1, .tmp 16)]) 11 true, q1 18 (.call 33 [.tmp 12, .tmp 17]) 11 true, q0 19 (.pick (.tmp 11) (.tmp 18) kF), q0 6 (.mv (.tmp 19))]
def s52_2 : List CI := [q0 20 (.load true 12 (.tmp 2)), q0 21 (.faddr 0 (.tmp 2)), q0 22 (.load false 1 (.tmp 21)), q0 23 (.faddr 1 (.tmp 2)), q0 24 (.load false 1 (.tmp 23)), q0 25 (.build [.int .i64 0, .string ⟨#[]⟩, .string ⟨#[]⟩, .string ⟨#[]⟩, .int .i64 0, .int .i64 0, .string ⟨#[]⟩, .slice none 0 0, .int .i64 0, .int .i64 0, .int .i64 0, .slice none 0 0] [(0, 1, .tmp 22), (1, 1, .tmp 24)]), q0 26 (.call 33 [.tmp 20, .tmp 25]), q0 7 (.mv (.tmp 26))]
def s52_3 : List CI := [q0 27 (.faddr 0 (.tmp 2)), q0 28 (.load false 1 (.tmp 27))]
def s52_4 : List CI := [q0 30 (.bin .eql (.tmp 28) (ki 1)), q0 29 (.mv (.tmp 30))]
def s52_5 : List CI := [q0 31 (.load true 12 (.tmp 2)), q0 32 (.call 86 [.tmp 31]), q0 4 (.mv (ki 0)), q0 5 (.mv (.tmp 32))]
def s52_6 : List CI := [q0 34 (.bin .eql (.tmp 28) (ki 2)), q0 33 (.mv (.tmp 34))]
def s52_7 : List CI := [q0 35 (.mv (.tmp 1)), q0 36 (.mv (.tmp 35)), q1 37 (.mv (.tmp 6)) 36 true, q0 38 (.pick (.tmp 36) (.tmp 37) kF), q0 4 (.mv (ki 0)), q0 5 (.mv (.tmp 38))]
def s52_8 : List CI := [q0 40 (.bin .eql (.tmp 28) (ki 3)), q0 39 (.mv (.tmp 40))]
def s52_9 : List CI := [q0 41 (.mv (.tmp 1)), q0 42 (.un .not (.tmp 41)), q0 43 (.mv (.tmp 42)), q1 44 (.mv (.tmp 6)) 43 true, q0 45 (.pick (.tmp 43) (.tmp 44) kF), q0 4 (.mv (ki 0)), q0 5 (.mv (.tmp 45))]
def s52_10 : List CI := [q0 47 (.bin .eql (.tmp 28) (ki 4)), q0 46 (.mv (.tmp 47))]
def s52_11 : List CI := [q0 48 (.mv (.tmp 1)), q0 49 (.un .not (.tmp 48)), q0 50 (.mv (.tmp 49)), q1 51 (.mv (.tmp 6)) 50 true, q0 52 (.pick (.tmp 50) (.tmp 51) kF), q0 4 (.mv (ki 1)), q0 5 (.mv (.tmp 52))]
def s52_12 : List CI := [q0 54 (.bin .eql (.tmp 28) (ki 5)), q0 53 (.mv (.tmp 54))]
def s52_13 : List CI := [q0 55 (.mv (.tmp 1)), q0 56 (.un .not (.tmp 55)), q0 57 (.mv (.tmp 56)), q1 58 (.load true 12 (.tmp 2)) 57 true, q1 59 (.call 87 [.tmp 58]) 57 true, q0 60 (.pick (.tmp 57) (.tmp 59) kF), q0 4 (.mv (ki 2)), q0 5 (.mv (.tmp 60))]
def s52_14 : List CI := [q0 62 (.bin .eql (.tmp 28) (ki 6)), q0 61 (.mv (.tmp 62))]
def s52_15 : List CI := [q0 63 (.mv (.tmp 7)), q0 64 (.mv (.tmp 63)), q1 65 (.faddr 1 (.tmp 2)) 64 true, q1 66 (.load false 1 (.tmp 65)) 64 true, q1 67 (.mksl 9 1 [ks ⟨#[45]⟩, ks ⟨#[110, 111, 116]⟩, ks ⟨#[110, 117, 108, 108]⟩]) 64 true, q1 68 (.call 88 [.tmp 66, .tmp 67]) 64 true, q0 69 (.pick (.tmp 64) (.tmp 68) kF), q0 4 (.mv (ki 1)), q0 5 (.mv (.tmp 69))]
def s52_16 : List CI := [q0 71 (.bin .eql (.tmp 28) (ki 7)), q0 70 (.mv (.tmp 71))]
def s52_17 : List CI := [q0 72 (.mv (.tmp 7)), q0 73 (.mv (.tmp 72)), q1 74 (.faddr 1 (.tmp 2)) 73 true, q1 75 (.load false 1 (.tmp 74)) 73 true, q1 76 (.call 89 []) 73 true, q1 77 (.call 88 [.tmp 75, .tmp 76]) 73 true, q0 78 (.pick (.tmp 73) (.tmp 77) kF), q0 4 (.mv (ki 2)), q0 5 (.mv (.tmp 78))]
def s52_18 : List CI := [q0 80 (.bin .eql (.tmp 28) (ki 8)), q0 79 (.mv (.tmp 80))]
def s52_19 : List CI := [q0 81 (.mv (.tmp 7)), q0 82 (.mv (.tmp 81)), q1 83 (.faddr 1 (.tmp 2)) 82 true, q1 84 (.load false 1 (.tmp 83)) 82 true, q1 85 (.bin .eql (.tmp 84) (ks ⟨#[]⟩)) 82 true, q0 86 (.pick (.tmp 82) (.tmp 85) kF), q0 4 (.mv (ki 3)), q0 5 (.mv (.tmp 86))]
def s52_20 : List CI := [q0 88 (.bin .eql (.tmp 28) (ki 9)), q0 87 (.mv (.tmp 88))]
def s52_21 : List CI := [q0 89 (.mv (.tmp 7)), q0 90 (.mv (.tmp 89)), q1 91 (.faddr 1 (.tmp 2)) 90 true, q1 92 (.load false 1 (.tmp 91)) 90 true, q1 93 (.bin .eql (.tmp 92) (ks ⟨#[]⟩)) 90 true, q0 94 (.pick (.tmp 90) (.tmp 93) kF), q0 4 (.mv (ki 2)), q0 5 (.mv (.tmp 94))]
def s52_22 : List CI := [q0 4 (.mv (ki 0)), q0 5 (.mv kF)]
def a52 : AC := (.seq (.reg s52_0) (.keep [1, 2] (.seq (.reg s52_1) (.keep [1, 2, 6] (.seq (.reg s52_2) (.keep [1, 2, 6, 7] (.seq (.seq (.reg s52_3) (.keep [1, 2, 6, 7, 28] (.block 0 (.seq (.reg s52_4) (.keep [1, 2, 6, 7, 28, 29] (.cond (.tmp 29) (.seq (.reg s52_5) .ret) (.seq (.reg s52_6) (.keep [1, 2, 6, 7, 28, 33] (.cond (.tmp 33) (.seq (.reg s52_7) .ret) (.seq (.reg s52_8) (.keep [1, 2, 6, 7, 28, 39] (.cond (.tmp 39) (.seq (.reg s52_9) .ret) (.seq (.reg s52_10) (.keep [1, 2, 6, 7, 28, 46] (.cond (.tmp 46) (.seq (.reg s52_11) .ret) (.seq (.reg s52_12) (.keep [1, 2, 7, 28, 53] (.cond (.tmp 53) (.seq (.reg s52_13) .ret) (.seq (.reg s52_14) (.keep [2, 7, 28, 61] (.cond (.tmp 61) (.seq (.reg s52_15) .ret) (.seq (.reg s52_16) (.keep [2, 7, 28, 70] (.cond (.tmp 70) (.seq (.dreg s52_17) .ret) (.seq (.reg s52_18) (.keep [2, 7, 28, 79] (.cond (.tmp 79) (.seq (.dreg s52_19) .ret) (.seq (.reg s52_20) (.keep [2, 7, 87] (.cond (.tmp 87) (.seq (.dreg s52_21) .ret) .skip)))))))))))))))))))))))))))))) (.keep [] (.seq (.reg s52_22) .ret)))))))))
def c52 : FC := ⟨95, a52.erase, [.tmp 4, .tmp 5]⟩
theorem comp52 : compF Tryz.prog Tryz.f52 = some c52 := by kernel_rfl
theorem era52 : c52.code = a52.erase := rfl
def s53_0 : List CI := [q0 1 (.box 29 (.tmp 0)), q0 2 (.mv (ki 0))]
def s53_1 : List CI := [q0 2 (.mv (ki 1))]
def s53_2 : List CI := [q0 5 (.faddr 11 (.tmp 1)), q0 6 (.load false 1 (.tmp 5)), q0 7 (.len false (.tmp 6)), q0 8 (.mv (ki 0))]
def s53_3 : List CI := [q0 9 (.bin .lss (.tmp 8) (.tmp 7))]
def s53_4 : List CI := [q0 10 (.iaddr 12 (.tmp 6) (.tmp 8)), q0 11 (.load true 12 (.tmp 10)), q0 4 (.alloc 29 (.agg #[.int .i64 0, .string ⟨#[]⟩, .string ⟨#[]⟩, .string ⟨#[]⟩, .int .i64 0, .int .i64 0, .string ⟨#[]⟩, .slice none 0 0, .int .i64 0, .int .i64 0, .int .i64 0, .slice none 0 0])), .mk none (.store 12 (.tmp 4) (.tmp 11)) none]
def s53_5 : List CI := [q0 12 (.mv (.tmp 2)), q0 13 (.load true 12 (.tmp 4)), q0 14 (.call 53 [.tmp 13]), q0 15 (.bin .add (.tmp 12) (.tmp 14)), q0 2 (.mv (.tmp 15))]
def s53_6 : List CI := [q0 16 (.bin .add (.tmp 8) (ki 1)), q0 8 (.mv (.tmp 16))]
def s53_7 : List CI := [q0 17 (.mv (.tmp 2)), q0 2 (.mv (.tmp 17))]
def a53 : AC := (.seq (.reg s53_0) (.keep [1] (.seq (.reg s53_1) (.keep [1, 2] (.seq (.seq (.reg s53_2) (.keep [2, 6, 7, 8] (.block 0 (.loop (.keep [2, 6, 7, 8] (.seq (.reg s53_3) (.keep [2, 6, 7, 8, 9] (.seq (.cond (.tmp 9) .skip (.exit 0)) (.keep [2, 6, 7, 8] (.seq (.block 1 (.seq (.reg s53_4) (.keep [2, 4, 6, 7, 8] (.reg s53_5)))) (.keep [2, 6, 7, 8] (.reg s53_6)))))))))))) (.keep [2] (.seq (.reg s53_7) .ret)))))))
def c53 : FC := ⟨18, a53.erase, [.tmp 2]⟩
theorem comp53 : compF Tryz.prog Tryz.f53 = some c53 := by kernel_rfl
theorem era53 : c53.code = a53.erase := rfl
def s54_0 : List CI := [q0 1 (.box 29 (.tmp 0)), q0 2 (.mv (ki 0))]
def s54_1 : List CI := [q0 5 (.faddr 11 (.tmp 1)), q0 6 (.load false 1 (.tmp 5)), q0 7 (.len false (.tmp 6)), q0 8 (.mv (ki 0))]
def s54_2 : List CI := [q0 9 (.bin .lss (.tmp 8) (.tmp 7))]
def s54_3 : List CI := [q0 10 (.iaddr 12 (.tmp 6) (.tmp 8)), q0 11 (.load true 12 (.tmp 10)), q0 4 (.alloc 29 (.agg #[.int .i64 0, .string ⟨#[]⟩, .string ⟨#[]⟩, .string ⟨#[]⟩, .int .i64 0, .int .i64 0, .string ⟨#[]⟩, .slice none 0 0, .int .i64 0, .int .i64 0, .int .i64 0, .slice none 0 0])), .mk none (.store 12 (.tmp 4) (.tmp 11)) none]
def s54_4 : List CI := [q0 12 (.mv (.tmp 2)), q0 13 (.load true 12 (.tmp 4)), q0 14 (.call 54 [.tmp 13]), q0 15 (.max2 (.tmp 12) (.tmp 14)), q0 2 (.mv (.tmp 15))]
def s54_5 : List CI := [q0 16 (.bin .add (.tmp 8) (ki 1)), q0 8 (.mv (.tmp 16))]
def s54_6 : List CI := [q0 17 (.mv (.tmp 2)), q0 18 (.bin .add (.tmp 17) (ki 1)), q0 2 (.mv (.tmp 18))]
def a54 : AC := (.seq (.reg s54_0) (.keep [1, 2] (.seq (.seq (.reg s54_1) (.keep [2, 6, 7, 8] (.block 0 (.loop (.keep [2, 6, 7, 8] (.seq (.reg s54_2) (.keep [2, 6, 7, 8, 9] (.seq (.cond (.tmp 9) .skip (.exit 0)) (.keep [2, 6, 7, 8] (.seq (.block 1 (.seq (.reg s54_3) (.keep [2, 4, 6, 7, 8] (.reg s54_4)))) (.keep [2, 6, 7, 8] (.reg s54_5)))))))))))) (.keep [2] (.seq (.reg s54_6) .ret)))))
def c54 : FC := ⟨19, a54.erase, [.tmp 2]⟩
theorem comp54 : compF Tryz.prog Tryz.f54 = some c54 := by kernel_rfl
theorem era54 : c54.code = a54.erase := rfl
def s55_0 : List CI := [q0 2 (.box 29 (.tmp 0)), q0 4 (.mv kF)]
def s55_1 : List CI := [q0 12 (.faddr 0 (.tmp 2)), q0 13 (.load false 1 (.tmp 12)), q0 14 (.build [.int .i64 0, .string ⟨#[]⟩, .string ⟨#[]⟩, .string ⟨#[]⟩, .int .i64 0, .int .i64 0, .string ⟨#[]⟩, .slice none 0 0, .int .i64 0, .int .i64 0, .int .i64 0, .slice none 0 0] [(0, 1, .tmp 13)]), q0 5 (.alloc 29 (.agg #[.int .i64 0, .string ⟨#[]⟩, .string ⟨#[]⟩, .string ⟨#[]⟩, .int .i64 0, .int .i64 0, .string ⟨#[]⟩, .slice none 0 0, .int .i64 0, .int .i64 0, .int .i64 0, .slice none 0 0])), .mk none (.store 12 (.tmp 5) (.tmp 14)) none]
def s55_2 : List CI := [q0 6 (.mv (ki 0))]
def s55_3 : List CI := [q0 15 (.faddr 0 (.tmp 2)), q0 16 (.load false 1 (.tmp 15))]
def s55_4 : List CI := [q0 18 (.bin .eql (.tmp 16) (ki 1)), q0 17 (.mv (.tmp 18))]
def s55_5 : List CD := [.mk 0 (q0 19 (.faddr 4 (.tmp 2))) [], .mk 1 (q0 20 (.load true 3 (.tmp 19))) [], .mk 2 (q0 21 (.faddr 7 (.tmp 2))) [], .mk 3 (q0 22 (.load false 1 (.tmp 21))) [5], .mk 4 (q0 23 (.faddr 2 (.tmp 2))) [], .mk 5 (q0 24 (.load false 1 (.tmp 23))) [5, 5], .mk 6 (q0 25 (.faddr 4 (.tmp 5))) [], .mk 7 (.mk none (.store 3 (.tmp 25) (.tmp 20)) none) [5], .mk 8 (q0 26 (.faddr 7 (.tmp 5))) [], .mk 9 (.mk none (.store 1 (.tmp 26) (.tmp 22)) none) [5], .mk 10 (q0 27 (.faddr 2 (.tmp 5))) [], .mk 11 (.mk none (.store 1 (.tmp 27) (.tmp 24)) none) [5]]
def s55_6 : List CI := [q0 28 (.faddr 4 (.tmp 2)), q0 29 (.load true 3 (.tmp 28)), q0 30 (.call 90 [.tmp 29]), q0 31 (.bin .neq (.tmp 30) (ki 0)), q0 32 (.mv (.tmp 31)), q1 33 (.faddr 4 (.tmp 2)) 32 false, q1 34 (.faddr 1 (.tmp 33)) 32 false, q1 35 (.load false 1 (.tmp 34)) 32 false, q1 36 (.bin .lss (.tmp 35) (ki 0)) 32 false, q0 37 (.pick (.tmp 32) kT (.tmp 36)), q0 38 (.mv (.tmp 37)), q1 39 (.faddr 4 (.tmp 2)) 38 false, q1 40 (.faddr 0 (.tmp 39)) 38 false, q1 41 (.load false 1 (.tmp 40)) 38 false, q1 42 (.faddr 7 (.tmp 2)) 38 false, q1 43 (.load false 1 (.tmp 42)) 38 false, q1 44 (.faddr 2 (.tmp 2)) 38 false, q1 45 (.load false 1 (.tmp 44)) 38 false, q1 46 (.build [.int .i64 0, .slice none 0 0, .string ⟨#[]⟩] [(0, 1, .tmp 41), (1, 1, .tmp 43), (2, 1, .tmp 45)]) 38 false, q1 47 (.call 35 [.tmp 46]) 38 false, q1 48 (.bin .neq (.tmp 47) (ki 0)) 38 false, q0 49 (.pick (.tmp 38) kT (.tmp 48))]
def s55_7 : List CI := [q0 4 (.mv kF)]
def s55_8 : List CI := [q0 51 (.bin .eql (.tmp 16) (ki 2)), q0 50 (.mv (.tmp 51))]
def s55_9 : List CI := [q0 52 (.bin .eql (.tmp 16) (ki 3)), q0 50 (.mv (.tmp 52))]
def s55_10 : List CI := [q0 53 (.bin .eql (.tmp 16) (ki 4)), q0 50 (.mv (.tmp 53))]
def s55_11 : List CI := [q0 54 (.faddr 2 (.tmp 2)), q0 55 (.load false 1 (.tmp 54)), q0 56 (.faddr 2 (.tmp 5)), .mk none (.store 1 (.tmp 56) (.tmp 55)) none]
def s55_12 : List CI := [q0 57 (.mv (.tmp 1)), q0 58 (.faddr 0 (.tmp 2)), q0 59 (.load false 1 (.tmp 58)), q0 60 (.bin .eql (.tmp 59) (ki 2)), q0 61 (.eqb true .bool (.tmp 57) (.tmp 60)), q0 62 (.mv (.tmp 61)), q1 63 (.faddr 2 (.tmp 2)) 62 false, q1 64 (.load false 1 (.tmp 63)) 62 false, q1 65 (.call 47 [.tmp 64]) 62 false, q1 66 (.un .not (.tmp 65)) 62 false, q0 67 (.pick (.tmp 62) kT (.tmp 66))]
def s55_13 : List CI := [q0 4 (.mv kF)]
def s55_14 : List CI := [q0 68 (.faddr 0 (.tmp 2)), q0 69 (.load false 1 (.tmp 68)), q0 70 (.bin .eql (.tmp 69) (ki 4))]
def s55_15 : List CI := [q0 6 (.mv (ki 1))]
def s55_16 : List CI := [q0 72 (.bin .eql (.tmp 16) (ki 5)), q0 71 (.mv (.tmp 72))]
def s55_17 : List CD := [.mk 0 (q0 73 (.faddr 1 (.tmp 2))) [], .mk 1 (q0 74 (.load false 1 (.tmp 73))) [], .mk 2 (q0 75 (.faddr 3 (.tmp 2))) [], .mk 3 (q0 76 (.load false 1 (.tmp 75))) [5], .mk 4 (q0 77 (.faddr 8 (.tmp 2))) [], .mk 5 (q0 78 (.load false 1 (.tmp 77))) [5, 5], .mk 6 (q0 79 (.faddr 9 (.tmp 2))) [], .mk 7 (q0 80 (.load true 2 (.tmp 79))) [5, 5, 5], .mk 8 (q0 81 (.faddr 1 (.tmp 5))) [], .mk 9 (.mk none (.store 1 (.tmp 81) (.tmp 74)) none) [5], .mk 10 (q0 82 (.faddr 3 (.tmp 5))) [], .mk 11 (.mk none (.store 1 (.tmp 82) (.tmp 76)) none) [5], .mk 12 (q0 83 (.faddr 8 (.tmp 5))) [], .mk 13 (.mk none (.store 1 (.tmp 83) (.tmp 78)) none) [5], .mk 14 (q0 84 (.faddr 9 (.tmp 5))) [], .mk 15 (.mk none (.store 2 (.tmp 84) (.tmp 80)) none) [5]]
def s55_18 : List CI := [q0 6 (.mv (ki 2))]
def s55_19 : List CI := [q0 7 (.mv (ki 0)), q0 8 (.mv (ki 0))]
def s55_20 : List CI := [q0 85 (.faddr 1 (.tmp 2)), q0 86 (.load false 1 (.tmp 85))]
def s55_21 : List CI := [q0 88 (.bin .eql (.tmp 86) (ks ⟨#[113, 117, 97, 110, 116, 105, 108, 101]⟩)), q0 87 (.mv (.tmp 88))]
def s55_22 : List CI := [q0 7 (.mv (ki 1)), q0 8 (.mv (ki 1000))]
def s55_23 : List CI := [q0 90 (.bin .eql (.tmp 86) (ks ⟨#[100, 101, 99, 97, 121]⟩)), q0 89 (.mv (.tmp 90))]
def s55_24 : List CI := [q0 7 (.mv (ki 1)), q0 8 (.mv (ki 1073741824))]
def s55_25 : List CI := [q0 91 (.mv (.tmp 1)), q0 92 (.mv (.tmp 91)), q1 93 (.load false 1 (.global 0)) 92 false, q1 94 (.faddr 1 (.tmp 2)) 92 false, q1 95 (.load false 1 (.tmp 94)) 92 false, q1 96 (.call 91 [.tmp 93, .tmp 95]) 92 false, q1 97 (.un .not (.tmp 96)) 92 false, q0 98 (.pick (.tmp 92) kT (.tmp 97)), q0 99 (.mv (.tmp 98)), q1 100 (.faddr 3 (.tmp 2)) 99 false, q1 101 (.load false 1 (.tmp 100)) 99 false, q1 102 (.call 47 [.tmp 101]) 99 false, q1 103 (.un .not (.tmp 102)) 99 false, q0 104 (.pick (.tmp 99) kT (.tmp 103)), q0 105 (.mv (.tmp 104)), q1 106 (.faddr 8 (.tmp 2)) 105 false, q1 107 (.load false 1 (.tmp 106)) 105 false, q1 108 (.mv (.tmp 7)) 105 false, q1 109 (.bin .lss (.tmp 107) (.tmp 108)) 105 false, q0 110 (.pick (.tmp 105) kT (.tmp 109)), q0 111 (.mv (.tmp 110)), q1 112 (.faddr 8 (.tmp 2)) 111 false, q1 113 (.load false 1 (.tmp 112)) 111 false, q1 114 (.mv (.tmp 8)) 111 false, q1 115 (.bin .gtr (.tmp 113) (.tmp 114)) 111 false, q0 116 (.pick (.tmp 111) kT (.tmp 115))]
def s55_26 : List CI := [q0 4 (.mv kF)]
def s55_27 : List CI := [q0 117 (.faddr 9 (.tmp 2)), q0 118 (.faddr 0 (.tmp 117)), q0 119 (.load false 1 (.tmp 118)), q0 120 (.bin .lss (.tmp 119) (ki 1)), q0 121 (.mv (.tmp 120)), q1 122 (.faddr 9 (.tmp 2)) 121 false, q1 123 (.faddr 0 (.tmp 122)) 121 false, q1 124 (.load false 1 (.tmp 123)) 121 false, q1 125 (.bin .gtr (.tmp 124) (ki 4)) 121 false, q0 126 (.pick (.tmp 121) kT (.tmp 125)), q0 127 (.mv (.tmp 126)), q1 128 (.faddr 9 (.tmp 2)) 127 false, q1 129 (.faddr 0 (.tmp 128)) 127 false, q1 130 (.load false 1 (.tmp 129)) 127 false, q1 131 (.bin .eql (.tmp 130) (ki 1)) 127 false, q1 132 (.faddr 9 (.tmp 2)) 127 false, q1 133 (.faddr 1 (.tmp 132)) 127 false, q1 134 (.load false 1 (.tmp 133)) 127 false, q1 135 (.bin .eql (.tmp 134) (ki 0)) 127 false, q1 136 (.eqb true .bool (.tmp 131) (.tmp 135)) 127 false, q0 137 (.pick (.tmp 127) kT (.tmp 136)), q0 138 (.mv (.tmp 137)), q1 139 (.faddr 9 (.tmp 2)) 138 false, q1 140 (.faddr 1 (.tmp 139)) 138 false, q1 141 (.load false 1 (.tmp 140)) 138 false, q1 142 (.bin .lss (.tmp 141) (ki 0)) 138 false, q0 143 (.pick (.tmp 138) kT (.tmp 142)), q0 144 (.mv (.tmp 143)), q1 145 (.faddr 9 (.tmp 2)) 144 false, q1 146 (.faddr 1 (.tmp 145)) 144 false, q1 147 (.load false 1 (.tmp 146)) 144 false, q1 148 (.bin .gtr (.tmp 147) (ki 1099511627776)) 144 false, q0 149 (.pick (.tmp 144) kT (.tmp 148))]
def s55_28 : List CI := [q0 4 (.mv kF)]
def s55_29 : List CI := [q0 1 (.mv kT)]
def s55_30 : List CI := [q0 151 (.bin .eql (.tmp 16) (ki 6)), q0 150 (.mv (.tmp 151))]
def s55_31 : List CI := [q0 152 (.faddr 1 (.tmp 2)), q0 153 (.load false 1 (.tmp 152)), q0 154 (.faddr 1 (.tmp 5)), .mk none (.store 1 (.tmp 154) (.tmp 153)) none, q0 6 (.mv (ki 1))]
def s55_32 : List CI := [q0 155 (.load false 1 (.global 1)), q0 156 (.faddr 1 (.tmp 2)), q0 157 (.load false 1 (.tmp 156)), q0 158 (.call 91 [.tmp 155, .tmp 157]), q0 159 (.un .not (.tmp 158))]
def s55_33 : List CI := [q0 4 (.mv kF)]
def s55_34 : List CI := [q0 161 (.bin .eql (.tmp 16) (ki 7)), q0 160 (.mv (.tmp 161))]
def s55_35 : List CI := [q0 162 (.faddr 1 (.tmp 2)), q0 163 (.load false 1 (.tmp 162)), q0 164 (.faddr 1 (.tmp 5)), .mk none (.store 1 (.tmp 164) (.tmp 163)) none, q0 6 (.mv (ki 2))]
def s55_36 : List CI := [q0 165 (.load false 1 (.global 2)), q0 166 (.faddr 1 (.tmp 2)), q0 167 (.load false 1 (.tmp 166)), q0 168 (.call 91 [.tmp 165, .tmp 167]), q0 169 (.un .not (.tmp 168))]
def s55_37 : List CI := [q0 4 (.mv kF)]
def s55_38 : List CI := [q0 171 (.bin .eql (.tmp 16) (ki 8)), q0 170 (.mv (.tmp 171))]
def s55_39 : List CI := [q0 6 (.mv (ki 3))]
def s55_40 : List CI := [q0 173 (.bin .eql (.tmp 16) (ki 9)), q0 172 (.mv (.tmp 173))]
def s55_41 : List CI := [q0 6 (.mv (ki 2))]
def s55_42 : List CI := [q0 4 (.mv kF)]
def s55_43 : List CI := [q0 174 (.load true 12 (.tmp 2)), q0 175 (.load true 12 (.tmp 5)), q0 176 (.call 92 [.tmp 174, .tmp 175]), q0 177 (.un .not (.tmp 176)), q0 178 (.mv (.tmp 177)), q1 179 (.faddr 11 (.tmp 2)) 178 false, q1 180 (.load false 1 (.tmp 179)) 178 false, q1 181 (.len false (.tmp 180)) 178 false, q1 182 (.mv (.tmp 6)) 178 false, q1 183 (.bin .neq (.tmp 181) (.tmp 182)) 178 false, q0 184 (.pick (.tmp 178) kT (.tmp 183))]
def s55_44 : List CI := [q0 4 (.mv kF)]
def s55_45 : List CI := [q0 185 (.faddr 11 (.tmp 2)), q0 186 (.load false 1 (.tmp 185)), q0 187 (.len false (.tmp 186)), q0 188 (.mv (ki 0))]
def s55_46 : List CI := [q0 189 (.bin .lss (.tmp 188) (.tmp 187))]
def s55_47 : List CI := [q0 190 (.iaddr 12 (.tmp 186) (.tmp 188)), q0 191 (.load true 12 (.tmp 190)), q0 10 (.alloc 29 (.agg #[.int .i64 0, .string ⟨#[]⟩, .string ⟨#[]⟩, .string ⟨#[]⟩, .int .i64 0, .int .i64 0, .string ⟨#[]⟩, .slice none 0 0, .int .i64 0, .int .i64 0, .int .i64 0, .slice none 0 0])), .mk none (.store 12 (.tmp 10) (.tmp 191)) none]
def s55_48 : List CI := [q0 192 (.load true 12 (.tmp 10)), q0 193 (.mv (.tmp 1)), q0 194 (.call 55 [.tmp 192, .tmp 193]), q0 195 (.un .not (.tmp 194))]
def s55_49 : List CI := [q0 4 (.mv kF)]
def s55_50 : List CI := [q0 196 (.bin .add (.tmp 188) (ki 1)), q0 188 (.mv (.tmp 196))]
def s55_51 : List CI := [q0 197 (.faddr 1 (.tmp 2)), q0 198 (.load false 1 (.tmp 197)), q0 199 (.bin .eql (.tmp 198) (ks ⟨#[99, 111, 117, 110, 116]⟩)), q0 200 (.mv (.tmp 199)), q1 201 (.faddr 0 (.tmp 2)) 200 true, q1 202 (.load false 1 (.tmp 201)) 200 true, q1 203 (.bin .eql (.tmp 202) (ki 5)) 200 true, q0 204 (.pick (.tmp 200) (.tmp 203) kF)]
def s55_52 : List CI := [q0 205 (.faddr 11 (.tmp 2)), q0 206 (.load false 1 (.tmp 205)), q0 207 (.iaddr 12 (.tmp 206) (ki 0)), q0 208 (.load true 12 (.tmp 207)), q0 11 (.alloc 29 (.agg #[.int .i64 0, .string ⟨#[]⟩, .string ⟨#[]⟩, .string ⟨#[]⟩, .int .i64 0, .int .i64 0, .string ⟨#[]⟩, .slice none 0 0, .int .i64 0, .int .i64 0, .int .i64 0, .slice none 0 0])), .mk none (.store 12 (.tmp 11) (.tmp 208)) none]
def s55_53 : List CI := [q0 209 (.load true 12 (.tmp 11)), q0 210 (.build [.int .i64 0, .int .i64 0, .string ⟨#[]⟩] [(0, 1, ki 1), (1, 1, ki 1)]), q0 211 (.build [.int .i64 0, .string ⟨#[]⟩, .string ⟨#[]⟩, .string ⟨#[]⟩, .int .i64 0, .int .i64 0, .string ⟨#[]⟩, .slice none 0 0, .int .i64 0, .int .i64 0, .int .i64 0, .slice none 0 0] [(0, 1, ki 1), (4, 3, .tmp 210)]), q0 212 (.call 92 [.tmp 209, .tmp 211]), q0 4 (.mv (.tmp 212))]
def s55_54 : List CI := [q0 4 (.mv kT)]
def a55 : AC := (.seq (.reg s55_0) (.keep [1, 2] (.seq (.reg s55_1) (.keep [1, 2, 5] (.seq (.reg s55_2) (.keep [1, 2, 5, 6] (.seq (.seq (.reg s55_3) (.keep [1, 2, 5, 6, 16] (.block 0 (.seq (.reg s55_4) (.keep [1, 2, 5, 6, 16, 17] (.cond (.tmp 17) (.seq (.mreg [] s55_5) (.keep [1, 2, 5, 6] (.seq (.reg s55_6) (.keep [1, 2, 5, 6, 49] (.cond (.tmp 49) (.seq (.reg s55_7) .ret) .skip))))) (.seq (.seq (.reg s55_8) (.keep [1, 2, 5, 6, 16, 50] (.cond (.tmp 50) .skip (.seq (.reg s55_9) (.keep [1, 2, 5, 6, 16, 50] (.cond (.tmp 50) .skip (.reg s55_10))))))) (.keep [1, 2, 5, 6, 16, 50] (.cond (.tmp 50) (.seq (.reg s55_11) (.keep [1, 2, 5, 6] (.seq (.seq (.reg s55_12) (.keep [1, 2, 5, 6, 67] (.cond (.tmp 67) (.seq (.reg s55_13) .ret) .skip))) (.keep [1, 2, 5, 6] (.seq (.reg s55_14) (.keep [1, 2, 5, 6, 70] (.cond (.tmp 70) (.reg s55_15) .skip))))))) (.seq (.reg s55_16) (.keep [1, 2, 5, 16, 71] (.cond (.tmp 71) (.seq (.mreg [] s55_17) (.keep [1, 2, 5] (.seq (.reg s55_18) (.keep [1, 2, 5, 6] (.seq (.reg s55_19) (.keep [1, 2, 5, 6, 7, 8] (.seq (.seq (.reg s55_20) (.keep [1, 2, 5, 6, 7, 8, 86] (.block 1 (.seq (.reg s55_21) (.keep [1, 2, 5, 6, 7, 8, 86, 87] (.cond (.tmp 87) (.reg s55_22) (.seq (.reg s55_23) (.keep [1, 2, 5, 6, 7, 8, 89] (.cond (.tmp 89) (.reg s55_24) .skip))))))))) (.keep [1, 2, 5, 6, 7, 8] (.seq (.seq (.reg s55_25) (.keep [2, 5, 6, 116] (.cond (.tmp 116) (.seq (.reg s55_26) .ret) .skip))) (.keep [2, 5, 6] (.seq (.seq (.reg s55_27) (.keep [2, 5, 6, 149] (.cond (.tmp 149) (.seq (.reg s55_28) .ret) .skip))) (.keep [2, 5, 6] (.reg s55_29))))))))))))) (.seq (.reg s55_30) (.keep [1, 2, 5, 16, 150] (.cond (.tmp 150) (.seq (.reg s55_31) (.keep [1, 2, 5, 6] (.seq (.reg s55_32) (.keep [1, 2, 5, 6, 159] (.cond (.tmp 159) (.seq (.reg s55_33) .ret) .skip))))) (.seq (.reg s55_34) (.keep [1, 2, 5, 16, 160] (.cond (.tmp 160) (.seq (.reg s55_35) (.keep [1, 2, 5, 6] (.seq (.reg s55_36) (.keep [1, 2, 5, 6, 169] (.cond (.tmp 169) (.seq (.reg s55_37) .ret) .skip))))) (.seq (.reg s55_38) (.keep [1, 2, 5, 16, 170] (.cond (.tmp 170) (.reg s55_39) (.seq (.reg s55_40) (.keep [1, 2, 5, 172] (.cond (.tmp 172) (.reg s55_41) (.seq (.reg s55_42) .ret))))))))))))))))))))))))) (.keep [1, 2, 5, 6] (.seq (.seq (.reg s55_43) (.keep [1, 2, 184] (.cond (.tmp 184) (.seq (.reg s55_44) .ret) .skip))) (.keep [1, 2] (.seq (.seq (.reg s55_45) (.keep [1, 2, 186, 187, 188] (.block 2 (.loop (.keep [1, 2, 186, 187, 188] (.seq (.reg s55_46) (.keep [1, 2, 186, 187, 188, 189] (.seq (.cond (.tmp 189) .skip (.exit 2)) (.keep [1, 2, 186, 187, 188] (.seq (.block 3 (.seq (.reg s55_47) (.keep [1, 2, 10, 186, 187, 188] (.seq (.reg s55_48) (.keep [1, 2, 186, 187, 188, 195] (.cond (.tmp 195) (.seq (.reg s55_49) .ret) .skip)))))) (.keep [1, 2, 186, 187, 188] (.reg s55_50)))))))))))) (.keep [2] (.seq (.seq (.reg s55_51) (.keep [2, 204] (.cond (.tmp 204) (.seq (.reg s55_52) (.keep [11] (.seq (.reg s55_53) .ret))) .skip))) (.keep [] (.seq (.reg s55_54) .ret)))))))))))))))
def c55 : FC := ⟨213, a55.erase, [.tmp 4]⟩
theorem comp55 : compF Tryz.prog Tryz.f55 = some c55 := by kernel_rfl
theorem era55 : c55.code = a55.erase := rfl
def s64_0 : List CI := [q0 4 (.mv kF)]
def s64_1 : List CI := [q0 6 (.mv (.tmp 0)), q0 7 (.len false (.tmp 6)), q0 8 (.mv (.tmp 1)), q0 9 (.len false (.tmp 8)), q0 10 (.bin .neq (.tmp 7) (.tmp 9))]
def s64_2 : List CI := [q0 4 (.mv kF)]
def s64_3 : List CI := [q0 5 (.mv (ki 0))]
def s64_4 : List CI := [q0 11 (.mv (.tmp 5)), q0 12 (.mv (.tmp 0)), q0 13 (.len false (.tmp 12)), q0 14 (.bin .lss (.tmp 11) (.tmp 13))]
def s64_5 : List CI := [q0 17 (.mv (.tmp 0)), q0 18 (.mv (.tmp 5)), q0 19 (.iaddr 2 (.tmp 17) (.tmp 18)), q0 20 (.load true 2 (.tmp 19)), q0 21 (.mv (.tmp 1)), q0 22 (.mv (.tmp 5)), q0 23 (.iaddr 2 (.tmp 21) (.tmp 22)), q0 24 (.load true 2 (.tmp 23)), q0 25 (.eqs true [.str, .int] (.tmp 20) (.tmp 24))]
def s64_6 : List CI := [q0 4 (.mv kF)]
def s64_7 : List CI := [q0 15 (.mv (.tmp 5)), q0 16 (.bin .add (.tmp 15) (ki 1)), q0 5 (.mv (.tmp 16))]
def s64_8 : List CI := [q0 4 (.mv kT)]
def a64 : AC := (.seq (.reg s64_0) (.keep [0, 1] (.seq (.seq (.reg s64_1) (.keep [0, 1, 10] (.cond (.tmp 10) (.seq (.reg s64_2) .ret) .skip))) (.keep [0, 1] (.seq (.seq (.reg s64_3) (.keep [0, 1, 5] (.block 0 (.loop (.keep [0, 1, 5] (.seq (.seq (.reg s64_4) (.keep [0, 1, 5, 14] (.cond (.tmp 14) .skip (.exit 0)))) (.keep [0, 1, 5] (.seq (.block 1 (.seq (.dreg s64_5) (.keep [0, 1, 5, 25] (.cond (.tmp 25) (.seq (.reg s64_6) .ret) .skip)))) (.keep [0, 1, 5] (.reg s64_7)))))))))) (.keep [] (.seq (.reg s64_8) .ret)))))))
def c64 : FC := ⟨26, a64.erase, [.tmp 4]⟩
theorem comp64 : compF Tryz.prog Tryz.f64 = some c64 := by kernel_rfl
theorem era64 : c64.code = a64.erase := rfl
def s70_0 : List CI := [q0 1 (.box 38 (.tmp 0)), q0 2 (.mv kF)]
def s70_1 : List CI := [q0 3 (.faddr 0 (.tmp 1)), q0 4 (.load false 1 (.tmp 3)), q0 5 (.bin .eql (.tmp 4) (ki 2)), q0 6 (.mv (.tmp 5)), q1 7 (.faddr 0 (.tmp 1)) 6 false, q1 8 (.load false 1 (.tmp 7)) 6 false, q1 9 (.bin .eql (.tmp 8) (ki 3)) 6 false, q0 10 (.pick (.tmp 6) kT (.tmp 9)), q0 2 (.mv (.tmp 10))]
def a70 : AC := (.seq (.reg s70_0) (.keep [1] (.seq (.reg s70_1) .ret)))
def c70 : FC := ⟨11, a70.erase, [.tmp 2]⟩
theorem comp70 : compF Tryz.prog Tryz.f70 = some c70 := by kernel_rfl
theorem era70 : c70.code = a70.erase := rfl
def s71_0 : List CI := [q0 2 (.mv (ki 0))]
def s71_1 : List CI := [q0 5 (.mv (.tmp 0)), q0 6 (.len false (.tmp 5)), q0 7 (.bin .gtr (.tmp 6) (ki 4))]
def s71_2 : List CI := [q0 2 (.mv (ki 2))]
def s71_3 : List CI := [q0 8 (.mv (.tmp 0)), q0 9 (.len false (.tmp 8)), q0 10 (.mv (ki 0))]
def s71_4 : List CI := [q0 11 (.bin .lss (.tmp 10) (.tmp 9))]
def s71_5 : List CI := [q0 12 (.mv (.tmp 10)), q0 13 (.iaddr 2 (.tmp 8) (.tmp 10)), q0 14 (.load true 2 (.tmp 13)), q0 4 (.alloc 57 (.agg #[.string ⟨#[]⟩, .int .i64 0])), q0 3 (.mv (.tmp 12)), .mk none (.store 2 (.tmp 4) (.tmp 14)) none]
def s71_6 : List CI := [q0 16 (.faddr 0 (.tmp 4)), q0 17 (.load false 1 (.tmp 16)), q0 18 (.call 100 [.tmp 17]), q0 19 (.un .not (.tmp 18)), q0 15 (.mv (.tmp 19))]
def s71_7 : List CI := [q0 2 (.mv (ki 1))]
def s71_8 : List CI := [q0 21 (.faddr 1 (.tmp 4)), q0 22 (.load false 1 (.tmp 21)), q0 23 (.bin .eql (.tmp 22) (ki 0)), q0 24 (.mv (.tmp 23)), q1 25 (.faddr 1 (.tmp 4)) 24 false, q1 26 (.load false 1 (.tmp 25)) 24 false, q1 27 (.call 101 [.tmp 26, ki 8]) 24 false, q0 28 (.pick (.tmp 24) kT (.tmp 27)), q0 20 (.mv (.tmp 28))]
def s71_9 : List CI := [q0 2 (.mv (ki 70))]
def s71_10 : List CI := [q0 30 (.mv (.tmp 3)), q0 31 (.bin .gtr (.tmp 30) (ki 0)), q0 32 (.mv (.tmp 31)), q1 33 (.faddr 0 (.tmp 4)) 32 true, q1 34 (.load false 1 (.tmp 33)) 32 true, q1 35 (.mv (.tmp 0)) 32 true, q1 36 (.mv (.tmp 3)) 32 true, q1 37 (.bin .sub (.tmp 36) (ki 1)) 32 true, q1 38 (.iaddr 2 (.tmp 35) (.tmp 37)) 32 true, q1 39 (.faddr 0 (.tmp 38)) 32 true, q1 40 (.load false 1 (.tmp 39)) 32 true, q1 41 (.bin .leq (.tmp 34) (.tmp 40)) 32 true, q0 42 (.pick (.tmp 32) (.tmp 41) kF), q0 29 (.mv (.tmp 42))]
def s71_11 : List CI := [q0 2 (.mv (ki 3))]
def s71_12 : List CI := [q0 43 (.bin .add (.tmp 10) (ki 1)), q0 10 (.mv (.tmp 43))]
def s71_13 : List CI := [q0 2 (.mv (ki 0))]
def a71 : AC := (.seq (.reg s71_0) (.keep [0] (.seq (.seq (.reg s71_1) (.keep [0, 7] (.cond (.tmp 7) (.seq (.reg s71_2) .ret) .skip))) (.keep [0] (.seq (.seq (.reg s71_3) (.keep [0, 8, 9, 10] (.block 0 (.loop (.keep [0, 8, 9, 10] (.seq (.reg s71_4) (.keep [0, 8, 9, 10, 11] (.seq (.cond (.tmp 11) .skip (.exit 0)) (.keep [0, 8, 9, 10] (.seq (.block 1 (.seq (.reg s71_5) (.keep [0, 3, 4, 8, 9, 10] (.block 2 (.seq (.reg s71_6) (.keep [0, 3, 4, 8, 9, 10, 15] (.cond (.tmp 15) (.seq (.reg s71_7) .ret) (.seq (.reg s71_8) (.keep [0, 3, 4, 8, 9, 10, 20] (.cond (.tmp 20) (.seq (.reg s71_9) .ret) (.seq (.dreg s71_10) (.keep [0, 8, 9, 10, 29] (.cond (.tmp 29) (.seq (.reg s71_11) .ret) .skip))))))))))))) (.keep [0, 8, 9, 10] (.reg s71_12)))))))))))) (.keep [] (.seq (.reg s71_13) .ret)))))))
def c71 : FC := ⟨44, a71.erase, [.tmp 2]⟩
theorem comp71 : compF Tryz.prog Tryz.f71 = some c71 := by kernel_rfl
theorem era71 : c71.code = a71.erase := rfl
def s72_0 : List CI := [q0 4 (.mv kF)]
def s72_1 : List CI := [q0 5 (.mv (.tmp 0)), q0 6 (.mv (.tmp 1)), q0 7 (.call 102 [.tmp 5, .tmp 6]), q0 8 (.bin .geq (.tmp 7) (ki 0)), q0 4 (.mv (.tmp 8))]
def a72 : AC := (.seq (.reg s72_0) (.keep [0, 1] (.seq (.reg s72_1) .ret)))
def c72 : FC := ⟨9, a72.erase, [.tmp 4]⟩
theorem comp72 : compF Tryz.prog Tryz.f72 = some c72 := by kernel_rfl
theorem era72 : c72.code = a72.erase := rfl
def s73_0 : List CI := [q0 1 (.box 57 (.tmp 0)), q0 2 (.mv kF)]
def s73_1 : List CI := [q0 3 (.faddr 0 (.tmp 1)), q0 4 (.load false 1 (.tmp 3)), q0 5 (.call 47 [.tmp 4]), q0 6 (.un .not (.tmp 5)), q0 2 (.mv (.tmp 6))]
def a73 : AC := (.seq (.reg s73_0) (.keep [1] (.seq (.reg s73_1) .ret)))
def c73 : FC := ⟨7, a73.erase, [.tmp 2]⟩
theorem comp73 : compF Tryz.prog Tryz.f73 = some c73 := by kernel_rfl
theorem era73 : c73.code = a73.erase := rfl
def s75_0 : List CI := [q0 1 (.box 38 (.tmp 0)), q0 2 (.mv kF)]
def s75_1 : List CI := [q0 3 (.faddr 0 (.tmp 1)), q0 4 (.load false 1 (.tmp 3)), q0 5 (.bin .eql (.tmp 4) (ki 2)), q0 6 (.mv (.tmp 5)), q1 7 (.faddr 0 (.tmp 1)) 6 false, q1 8 (.load false 1 (.tmp 7)) 6 false, q1 9 (.bin .eql (.tmp 8) (ki 3)) 6 false, q0 10 (.pick (.tmp 6) kT (.tmp 9)), q0 2 (.mv (.tmp 10))]
def a75 : AC := (.seq (.reg s75_0) (.keep [1] (.seq (.reg s75_1) .ret)))
def c75 : FC := ⟨11, a75.erase, [.tmp 2]⟩
theorem comp75 : compF Tryz.prog Tryz.f75 = some c75 := by kernel_rfl
theorem era75 : c75.code = a75.erase := rfl
def s76_0 : List CI := [q0 2 (.mv (ki 0))]
def s76_1 : List CI := [q0 5 (.mv (.tmp 0)), q0 6 (.len false (.tmp 5)), q0 7 (.bin .gtr (.tmp 6) (ki 4))]
def s76_2 : List CI := [q0 2 (.mv (ki 2))]
def s76_3 : List CI := [q0 3 (.mv (ki 0))]
def s76_4 : List CI := [q0 8 (.mv (.tmp 3)), q0 9 (.mv (.tmp 0)), q0 10 (.len false (.tmp 9)), q0 11 (.bin .lss (.tmp 8) (.tmp 10))]
def s76_5 : List CI := [q0 14 (.mv (.tmp 0)), q0 15 (.mv (.tmp 3)), q0 16 (.iaddr 2 (.tmp 14) (.tmp 15)), q0 17 (.faddr 0 (.tmp 16)), q0 18 (.load false 1 (.tmp 17)), q0 19 (.call 104 [.tmp 18]), q0 4 (.mv (.tmp 19))]
def s76_6 : List CI := [q0 20 (.mv (.tmp 4)), q0 21 (.un .not (.tmp 20))]
def s76_7 : List CI := [q0 2 (.mv (ki 1))]
def s76_8 : List CI := [q0 22 (.mv (.tmp 0)), q0 23 (.mv (.tmp 3)), q0 24 (.iaddr 2 (.tmp 22) (.tmp 23)), q0 25 (.faddr 1 (.tmp 24)), q0 26 (.load false 1 (.tmp 25)), q0 27 (.bin .eql (.tmp 26) (ki 0)), q0 28 (.mv (.tmp 27)), q1 29 (.mv (.tmp 0)) 28 false, q1 30 (.mv (.tmp 3)) 28 false, q1 31 (.iaddr 2 (.tmp 29) (.tmp 30)) 28 false, q1 32 (.faddr 1 (.tmp 31)) 28 false, q1 33 (.load false 1 (.tmp 32)) 28 false, q1 34 (.call 105 [.tmp 33]) 28 false, q0 35 (.pick (.tmp 28) kT (.tmp 34))]
def s76_9 : List CI := [q0 2 (.mv (ki 70))]
def s76_10 : List CI := [q0 36 (.mv (.tmp 3)), q0 37 (.bin .gtr (.tmp 36) (ki 0)), q0 38 (.mv (.tmp 37)), q1 39 (.mv (.tmp 0)) 38 true, q1 40 (.mv (.tmp 3)) 38 true, q1 41 (.iaddr 2 (.tmp 39) (.tmp 40)) 38 true, q1 42 (.faddr 0 (.tmp 41)) 38 true, q1 43 (.load false 1 (.tmp 42)) 38 true, q1 44 (.mv (.tmp 0)) 38 true, q1 45 (.mv (.tmp 3)) 38 true, q1 46 (.bin .sub (.tmp 45) (ki 1)) 38 true, q1 47 (.iaddr 2 (.tmp 44) (.tmp 46)) 38 true, q1 48 (.faddr 0 (.tmp 47)) 38 true, q1 49 (.load false 1 (.tmp 48)) 38 true, q1 50 (.bin .leq (.tmp 43) (.tmp 49)) 38 true, q0 51 (.pick (.tmp 38) (.tmp 50) kF)]
def s76_11 : List CI := [q0 2 (.mv (ki 3))]
def s76_12 : List CI := [q0 12 (.mv (.tmp 3)), q0 13 (.bin .add (.tmp 12) (ki 1)), q0 3 (.mv (.tmp 13))]
def s76_13 : List CI := [q0 2 (.mv (ki 0))]
def a76 : AC := (.seq (.reg s76_0) (.keep [0] (.seq (.seq (.reg s76_1) (.keep [0, 7] (.cond (.tmp 7) (.seq (.reg s76_2) .ret) .skip))) (.keep [0] (.seq (.seq (.reg s76_3) (.keep [0, 3] (.block 0 (.loop (.keep [0, 3] (.seq (.seq (.reg s76_4) (.keep [0, 3, 11] (.cond (.tmp 11) .skip (.exit 0)))) (.keep [0, 3] (.seq (.block 1 (.seq (.reg s76_5) (.keep [0, 3, 4] (.seq (.seq (.reg s76_6) (.keep [0, 3, 21] (.cond (.tmp 21) (.seq (.reg s76_7) .ret) .skip))) (.keep [0, 3] (.seq (.seq (.reg s76_8) (.keep [0, 3, 35] (.cond (.tmp 35) (.seq (.reg s76_9) .ret) .skip))) (.keep [0, 3] (.seq (.dreg s76_10) (.keep [0, 3, 51] (.cond (.tmp 51) (.seq (.reg s76_11) .ret) .skip)))))))))) (.keep [0, 3] (.reg s76_12)))))))))) (.keep [] (.seq (.reg s76_13) .ret)))))))
def c76 : FC := ⟨52, a76.erase, [.tmp 2]⟩
theorem comp76 : compF Tryz.prog Tryz.f76 = some c76 := by kernel_rfl
theorem era76 : c76.code = a76.erase := rfl
def s82_0 : List CI := [q0 2 (.mv kF)]
def s82_1 : List CI := [q0 3 (.mv (.tmp 0)), q0 4 (.bin .neq (.tmp 3) (ks ⟨#[]⟩)), q0 5 (.mv (.tmp 4)), q1 6 (.mv (.tmp 0)) 5 true, q1 7 (.call 110 [.tmp 6, ks ⟨#[32]⟩]) 5 true, q1 8 (.un .not (.tmp 7)) 5 true, q0 9 (.pick (.tmp 5) (.tmp 8) kF), q0 10 (.mv (.tmp 9)), q1 11 (.mv (.tmp 0)) 10 true, q1 12 (.bin .add (ks ⟨#[32]⟩) (.tmp 11)) 10 true, q1 13 (.bin .add (.tmp 12) (ks ⟨#[32]⟩)) 10 true, q1 14 (.call 110 [.const (.string (ByteArray.mk (List.toArray (List.append (List.append [32, 116, 97, 98, 108, 101, 32, 102, 101, 97, 116, 117, 114, 101, 32, 111, 102, 32, 107, 101, 101, 112, 32, 98, 111, 111, 108, 32, 116, 101, 120, 116, 32, 107, 101, 121, 32, 105, 110, 116, 32, 100, 101, 99, 32, 105] [102, 32, 116, 104, 101, 110, 32, 101, 108, 115, 101, 32, 100, 101, 102, 97, 117, 108, 116, 32, 111, 114, 32, 97, 110, 100, 32, 110, 111, 116, 32, 116, 114, 117, 101, 32, 102, 97, 108, 115, 101, 32, 110, 117, 108, 108, 32]) (List.append [99, 111, 117, 110, 116, 32, 115, 117, 109, 32, 109, 101, 97, 110, 32, 109, 105, 110, 32, 109, 97, 120, 32, 102, 105, 114, 115, 116, 32, 108, 97, 115, 116, 32, 100, 105, 115, 116, 105, 110, 99, 116, 32, 113, 117, 97] [110, 116, 105, 108, 101, 32, 100, 101, 99, 97, 121, 32, 97, 108, 108, 32, 115, 108, 105, 100, 105, 110, 103, 32, 116, 117, 109, 98, 108, 105, 110, 103, 32, 115, 101, 115, 115, 105, 111, 110, 32, 119, 104, 101, 114, 101, 32]))))), .tmp 13]) 10 true, q0 15 (.pick (.tmp 10) (.tmp 14) kF), q0 2 (.mv (.tmp 15))]
def a82 : AC := (.seq (.reg s82_0) (.keep [0] (.seq (.reg s82_1) .ret)))
def c82 : FC := ⟨16, a82.erase, [.tmp 2]⟩
theorem comp82 : compF Tryz.prog Tryz.f82 = some c82 := by kernel_rfl
theorem era82 : c82.code = a82.erase := rfl
def s83_0 : List CI := [q0 4 (.mv (ki 0))]
def s83_1 : List CI := [q0 6 (.mv (.tmp 0)), q0 7 (.mv (.tmp 1)), q0 8 (.iaddr 1 (.tmp 6) (.tmp 7)), q0 9 (.load false 1 (.tmp 8)), q0 10 (.call 111 [.tmp 9]), q0 11 (.un .not (.tmp 10))]
def s83_2 : List CI := [q0 4 (.mv (ki 0))]
def s83_3 : List CI := [q0 5 (.mv (ki 1))]
def s83_4 : List CI := [q0 12 (.mv (.tmp 1)), q0 13 (.mv (.tmp 5)), q0 14 (.bin .add (.tmp 12) (.tmp 13)), q0 15 (.mv (.tmp 0)), q0 16 (.len false (.tmp 15)), q0 17 (.bin .lss (.tmp 14) (.tmp 16)), q0 18 (.mv (.tmp 17)), q1 19 (.mv (.tmp 0)) 18 true, q1 20 (.mv (.tmp 1)) 18 true, q1 21 (.mv (.tmp 5)) 18 true, q1 22 (.bin .add (.tmp 20) (.tmp 21)) 18 true, q1 23 (.iaddr 1 (.tmp 19) (.tmp 22)) 18 true, q1 24 (.load false 1 (.tmp 23)) 18 true, q1 25 (.call 111 [.tmp 24]) 18 true, q1 26 (.mv (.tmp 25)) 18 true, q1 27 (.mv (.tmp 0)) 26 false, q1 28 (.mv (.tmp 1)) 26 false, q1 29 (.mv (.tmp 5)) 26 false, q1 30 (.bin .add (.tmp 28) (.tmp 29)) 26 false, q1 31 (.iaddr 1 (.tmp 27) (.tmp 30)) 26 false, q1 32 (.load false 1 (.tmp 31)) 26 false, q1 33 (.call 112 [.tmp 32]) 26 false, q1 34 (.pick (.tmp 26) kT (.tmp 33)) 18 true, q1 35 (.mv (.tmp 34)) 18 true, q1 36 (.mv (.tmp 0)) 35 false, q1 37 (.mv (.tmp 1)) 35 false, q1 38 (.mv (.tmp 5)) 35 false, q1 39 (.bin .add (.tmp 37) (.tmp 38)) 35 false, q1 40 (.iaddr 1 (.tmp 36) (.tmp 39)) 35 false, q1 41 (.load false 1 (.tmp 40)) 35 false, q1 42 (.bin .eql (.tmp 41) (.const (.int .u8 95))) 35 false, q1 43 (.pick (.tmp 35) kT (.tmp 42)) 18 true, q0 44 (.pick (.tmp 18) (.tmp 43) kF)]
def s83_5 : List CI := [q0 45 (.mv (.tmp 5)), q0 46 (.bin .add (.tmp 45) (ki 1)), q0 5 (.mv (.tmp 46))]
def s83_6 : List CI := [q0 47 (.mv (.tmp 5)), q0 4 (.mv (.tmp 47))]
def a83 : AC := (.seq (.reg s83_0) (.keep [0, 1] (.seq (.seq (.reg s83_1) (.keep [0, 1, 11] (.cond (.tmp 11) (.seq (.reg s83_2) .ret) .skip))) (.keep [0, 1] (.seq (.reg s83_3) (.keep [0, 1, 5] (.seq (.block 0 (.loop (.keep [0, 1, 5] (.seq (.seq (.reg s83_4) (.keep [0, 1, 5, 44] (.cond (.tmp 44) .skip (.exit 0)))) (.keep [0, 1, 5] (.block 1 (.reg s83_5))))))) (.keep [5] (.seq (.reg s83_6) .ret)))))))))
def c83 : FC := ⟨48, a83.erase, [.tmp 4]⟩
theorem comp83 : compF Tryz.prog Tryz.f83 = some c83 := by kernel_rfl
theorem era83 : c83.code = a83.erase := rfl
def s84_0 : List CI := [q0 2 (.mv kF)]
def s84_1 : List CI := [q0 3 (.mv (.tmp 0))]
def s84_2 : List CI := [q0 5 (.bin .eql (.tmp 3) (ks ⟨#[116, 97, 98, 108, 101]⟩)), q0 4 (.mv (.tmp 5))]
def s84_3 : List CI := [q0 6 (.bin .eql (.tmp 3) (ks ⟨#[102, 101, 97, 116, 117, 114, 101]⟩)), q0 4 (.mv (.tmp 6))]
def s84_4 : List CI := [q0 7 (.bin .eql (.tmp 3) (ks ⟨#[111, 102]⟩)), q0 4 (.mv (.tmp 7))]
def s84_5 : List CI := [q0 8 (.bin .eql (.tmp 3) (ks ⟨#[107, 101, 101, 112]⟩)), q0 4 (.mv (.tmp 8))]
def s84_6 : List CI := [q0 9 (.bin .eql (.tmp 3) (ks ⟨#[98, 111, 111, 108]⟩)), q0 4 (.mv (.tmp 9))]
def s84_7 : List CI := [q0 10 (.bin .eql (.tmp 3) (ks ⟨#[116, 101, 120, 116]⟩)), q0 4 (.mv (.tmp 10))]
def s84_8 : List CI := [q0 11 (.bin .eql (.tmp 3) (ks ⟨#[107, 101, 121]⟩)), q0 4 (.mv (.tmp 11))]
def s84_9 : List CI := [q0 12 (.bin .eql (.tmp 3) (ks ⟨#[105, 110, 116]⟩)), q0 4 (.mv (.tmp 12))]
def s84_10 : List CI := [q0 13 (.bin .eql (.tmp 3) (ks ⟨#[100, 101, 99]⟩)), q0 4 (.mv (.tmp 13))]
def s84_11 : List CI := [q0 14 (.bin .eql (.tmp 3) (ks ⟨#[105, 102]⟩)), q0 4 (.mv (.tmp 14))]
def s84_12 : List CI := [q0 15 (.bin .eql (.tmp 3) (ks ⟨#[116, 104, 101, 110]⟩)), q0 4 (.mv (.tmp 15))]
def s84_13 : List CI := [q0 16 (.bin .eql (.tmp 3) (ks ⟨#[101, 108, 115, 101]⟩)), q0 4 (.mv (.tmp 16))]
def s84_14 : List CI := [q0 17 (.bin .eql (.tmp 3) (ks ⟨#[100, 101, 102, 97, 117, 108, 116]⟩)), q0 4 (.mv (.tmp 17))]
def s84_15 : List CI := [q0 18 (.bin .eql (.tmp 3) (ks ⟨#[111, 114]⟩)), q0 4 (.mv (.tmp 18))]
def s84_16 : List CI := [q0 19 (.bin .eql (.tmp 3) (ks ⟨#[97, 110, 100]⟩)), q0 4 (.mv (.tmp 19))]
def s84_17 : List CI := [q0 20 (.bin .eql (.tmp 3) (ks ⟨#[110, 111, 116]⟩)), q0 4 (.mv (.tmp 20))]
def s84_18 : List CI := [q0 21 (.bin .eql (.tmp 3) (ks ⟨#[116, 114, 117, 101]⟩)), q0 4 (.mv (.tmp 21))]
def s84_19 : List CI := [q0 22 (.bin .eql (.tmp 3) (ks ⟨#[102, 97, 108, 115, 101]⟩)), q0 4 (.mv (.tmp 22))]
def s84_20 : List CI := [q0 23 (.bin .eql (.tmp 3) (ks ⟨#[110, 117, 108, 108]⟩)), q0 4 (.mv (.tmp 23))]
def s84_21 : List CI := [q0 2 (.mv kT)]
def s84_22 : List CI := [q0 25 (.bin .eql (.tmp 3) (ks ⟨#[99, 111, 117, 110, 116]⟩)), q0 24 (.mv (.tmp 25))]
def s84_23 : List CI := [q0 26 (.bin .eql (.tmp 3) (ks ⟨#[115, 117, 109]⟩)), q0 24 (.mv (.tmp 26))]
def s84_24 : List CI := [q0 27 (.bin .eql (.tmp 3) (ks ⟨#[109, 101, 97, 110]⟩)), q0 24 (.mv (.tmp 27))]
def s84_25 : List CI := [q0 28 (.bin .eql (.tmp 3) (ks ⟨#[109, 105, 110]⟩)), q0 24 (.mv (.tmp 28))]
def s84_26 : List CI := [q0 29 (.bin .eql (.tmp 3) (ks ⟨#[109, 97, 120]⟩)), q0 24 (.mv (.tmp 29))]
def s84_27 : List CI := [q0 30 (.bin .eql (.tmp 3) (ks ⟨#[102, 105, 114, 115, 116]⟩)), q0 24 (.mv (.tmp 30))]
def s84_28 : List CI := [q0 31 (.bin .eql (.tmp 3) (ks ⟨#[108, 97, 115, 116]⟩)), q0 24 (.mv (.tmp 31))]
def s84_29 : List CI := [q0 32 (.bin .eql (.tmp 3) (ks ⟨#[100, 105, 115, 116, 105, 110, 99, 116]⟩)), q0 24 (.mv (.tmp 32))]
def s84_30 : List CI := [q0 33 (.bin .eql (.tmp 3) (ks ⟨#[113, 117, 97, 110, 116, 105, 108, 101]⟩)), q0 24 (.mv (.tmp 33))]
def s84_31 : List CI := [q0 34 (.bin .eql (.tmp 3) (ks ⟨#[100, 101, 99, 97, 121]⟩)), q0 24 (.mv (.tmp 34))]
def s84_32 : List CI := [q0 35 (.bin .eql (.tmp 3) (ks ⟨#[97, 108, 108]⟩)), q0 24 (.mv (.tmp 35))]
def s84_33 : List CI := [q0 36 (.bin .eql (.tmp 3) (ks ⟨#[115, 108, 105, 100, 105, 110, 103]⟩)), q0 24 (.mv (.tmp 36))]
def s84_34 : List CI := [q0 37 (.bin .eql (.tmp 3) (ks ⟨#[116, 117, 109, 98, 108, 105, 110, 103]⟩)), q0 24 (.mv (.tmp 37))]
def s84_35 : List CI := [q0 38 (.bin .eql (.tmp 3) (ks ⟨#[115, 101, 115, 115, 105, 111, 110]⟩)), q0 24 (.mv (.tmp 38))]
def s84_36 : List CI := [q0 39 (.bin .eql (.tmp 3) (ks ⟨#[119, 104, 101, 114, 101]⟩)), q0 24 (.mv (.tmp 39))]
def s84_37 : List CI := [q0 2 (.mv kT)]
def s84_38 : List CI := [q0 2 (.mv kF)]
def a84 : AC := (.seq (.reg s84_0) (.keep [0] (.seq (.seq (.reg s84_1) (.keep [3] (.block 0 (.seq (.seq (.reg s84_2) (.keep [3, 4] (.cond (.tmp 4) .skip (.seq (.reg s84_3) (.keep [3, 4] (.cond (.tmp 4) .skip (.seq (.reg s84_4) (.keep [3, 4] (.cond (.tmp 4) .skip (.seq (.reg s84_5) (.keep [3, 4] (.cond (.tmp 4) .skip (.seq (.reg s84_6) (.keep [3, 4] (.cond (.tmp 4) .skip (.seq (.reg s84_7) (.keep [3, 4] (.cond (.tmp 4) .skip (.seq (.reg s84_8) (.keep [3, 4] (.cond (.tmp 4) .skip (.seq (.reg s84_9) (.keep [3, 4] (.cond (.tmp 4) .skip (.seq (.reg s84_10) (.keep [3, 4] (.cond (.tmp 4) .skip (.seq (.reg s84_11) (.keep [3, 4] (.cond (.tmp 4) .skip (.seq (.reg s84_12) (.keep [3, 4] (.cond (.tmp 4) .skip (.seq (.reg s84_13) (.keep [3, 4] (.cond (.tmp 4) .skip (.seq (.reg s84_14) (.keep [3, 4] (.cond (.tmp 4) .skip (.seq (.reg s84_15) (.keep [3, 4] (.cond (.tmp 4) .skip (.seq (.reg s84_16) (.keep [3, 4] (.cond (.tmp 4) .skip (.seq (.reg s84_17) (.keep [3, 4] (.cond (.tmp 4) .skip (.seq (.reg s84_18) (.keep [3, 4] (.cond (.tmp 4) .skip (.seq (.reg s84_19) (.keep [3, 4] (.cond (.tmp 4) .skip (.reg s84_20))))))))))))))))))))))))))))))))))))))))))))))))))))))) (.keep [3, 4] (.cond (.tmp 4) (.seq (.reg s84_21) .ret) (.seq (.seq (.reg s84_22) (.keep [3, 24] (.cond (.tmp 24) .skip (.seq (.reg s84_23) (.keep [3, 24] (.cond (.tmp 24) .skip (.seq (.reg s84_24) (.keep [3, 24] (.cond (.tmp 24) .skip (.seq (.reg s84_25) (.keep [3, 24] (.cond (.tmp 24) .skip (.seq (.reg s84_26) (.keep [3, 24] (.cond (.tmp 24) .skip (.seq (.reg s84_27) (.keep [3, 24] (.cond (.tmp 24) .skip (.seq (.reg s84_28) (.keep [3, 24] (.cond (.tmp 24) .skip (.seq (.reg s84_29) (.keep [3, 24] (.cond (.tmp 24) .skip (.seq (.reg s84_30) (.keep [3, 24] (.cond (.tmp 24) .skip (.seq (.reg s84_31) (.keep [3, 24] (.cond (.tmp 24) .skip (.seq (.reg s84_32) (.keep [3, 24] (.cond (.tmp 24) .skip (.seq (.reg s84_33) (.keep [3, 24] (.cond (.tmp 24) .skip (.seq (.reg s84_34) (.keep [3, 24] (.cond (.tmp 24) .skip (.seq (.reg s84_35) (.keep [3, 24] (.cond (.tmp 24) .skip (.reg s84_36))))))))))))))))))))))))))))))))))))))))))) (.keep [24] (.cond (.tmp 24) (.seq (.reg s84_37) .ret) .skip))))))))) (.keep [] (.seq (.reg s84_38) .ret)))))
def c84 : FC := ⟨40, a84.erase, [.tmp 2]⟩
theorem comp84 : compF Tryz.prog Tryz.f84 = some c84 := by kernel_rfl
theorem era84 : c84.code = a84.erase := rfl
def s86_0 : List CI := [q0 1 (.box 29 (.tmp 0)), q0 2 (.mv kF)]
def s86_1 : List CI := [q0 4 (.faddr 4 (.tmp 1)), q0 5 (.load true 3 (.tmp 4)), q0 6 (.call 114 [.tmp 5]), q0 7 (.bin .neq (.tmp 6) (ki 0)), q0 8 (.mv (.tmp 7)), q1 9 (.faddr 4 (.tmp 1)) 8 false, q1 10 (.faddr 1 (.tmp 9)) 8 false, q1 11 (.load false 1 (.tmp 10)) 8 false, q1 12 (.bin .lss (.tmp 11) (ki 0)) 8 false, q0 13 (.pick (.tmp 8) kT (.tmp 12))]
def s86_2 : List CI := [q0 2 (.mv kF)]
def s86_3 : List CI := [q0 14 (.faddr 4 (.tmp 1)), q0 15 (.faddr 0 (.tmp 14)), q0 16 (.load false 1 (.tmp 15)), q0 17 (.faddr 7 (.tmp 1)), q0 18 (.load false 1 (.tmp 17)), q0 19 (.faddr 2 (.tmp 1)), q0 20 (.load false 1 (.tmp 19)), q0 21 (.build [.int .i64 0, .slice none 0 0, .string ⟨#[]⟩] [(0, 1, .tmp 16), (1, 1, .tmp 18), (2, 1, .tmp 20)]), q0 3 (.alloc 38 (.agg #[.int .i64 0, .slice none 0 0, .string ⟨#[]⟩])), .mk none (.store 3 (.tmp 3) (.tmp 21)) none]
def s86_4 : List CI := [q0 22 (.load true 3 (.tmp 3)), q0 23 (.call 37 [.tmp 22]), q0 24 (.bin .eql (.tmp 23) (ki 0)), q0 25 (.mv (.tmp 24)), q1 26 (.load true 12 (.tmp 1)) 25 true, q1 27 (.faddr 4 (.tmp 1)) 25 true, q1 28 (.load true 3 (.tmp 27)) 25 true, q1 29 (.faddr 7 (.tmp 1)) 25 true, q1 30 (.load false 1 (.tmp 29)) 25 true, q1 31 (.faddr 2 (.tmp 1)) 25 true, q1 32 (.load false 1 (.tmp 31)) 25 true, q1 33 (.build [.int .i64 0, .string ⟨#[]⟩, .string ⟨#[]⟩, .string ⟨#[]⟩, .int .i64 0, .int .i64 0, .string ⟨#[]⟩, .slice none 0 0, .int .i64 0, .int .i64 0, .int .i64 0, .slice none 0 0] [(0, 1, ki 1), (4, 3, .tmp 28), (7, 1, .tmp 30), (2, 1, .tmp 32)]) 25 true, q1 34 (.call 33 [.tmp 26, .tmp 33]) 25 true, q0 35 (.pick (.tmp 25) (.tmp 34) kF), q0 2 (.mv (.tmp 35))]
def a86 : AC := (.seq (.reg s86_0) (.keep [1] (.seq (.seq (.reg s86_1) (.keep [1, 13] (.cond (.tmp 13) (.seq (.reg s86_2) .ret) .skip))) (.keep [1] (.seq (.reg s86_3) (.keep [1, 3] (.seq (.reg s86_4) .ret)))))))
def c86 : FC := ⟨36, a86.erase, [.tmp 2]⟩
theorem comp86 : compF Tryz.prog Tryz.f86 = some c86 := by kernel_rfl
theorem era86 : c86.code = a86.erase := rfl
def s87_0 : List CI := [q0 1 (.box 29 (.tmp 0)), q0 2 (.mv kF)]
def s87_1 : List CI := [q0 3 (.mv (ki 0))]
def s87_2 : List CI := [q0 4 (.faddr 1 (.tmp 1)), q0 5 (.load false 1 (.tmp 4)), q0 6 (.bin .eql (.tmp 5) (ks ⟨#[113, 117, 97, 110, 116, 105, 108, 101]⟩))]
def s87_3 : List CI := [q0 3 (.mv (ki 1000))]
def s87_4 : List CI := [q0 7 (.faddr 1 (.tmp 1)), q0 8 (.load false 1 (.tmp 7)), q0 9 (.bin .eql (.tmp 8) (ks ⟨#[100, 101, 99, 97, 121]⟩))]
def s87_5 : List CI := [q0 3 (.mv (ki 1073741824))]
def s87_6 : List CI := [q0 10 (.faddr 1 (.tmp 1)), q0 11 (.load false 1 (.tmp 10)), q0 12 (.call 115 []), q0 13 (.call 88 [.tmp 11, .tmp 12]), q0 14 (.un .not (.tmp 13)), q0 15 (.mv (.tmp 14)), q1 16 (.faddr 3 (.tmp 1)) 15 false, q1 17 (.load false 1 (.tmp 16)) 15 false, q1 18 (.call 48 [.tmp 17]) 15 false, q1 19 (.un .not (.tmp 18)) 15 false, q0 20 (.pick (.tmp 15) kT (.tmp 19)), q0 21 (.mv (.tmp 20)), q1 22 (.faddr 9 (.tmp 1)) 21 false, q1 23 (.load true 2 (.tmp 22)) 21 false, q1 24 (.call 116 [.tmp 23]) 21 false, q1 25 (.un .not (.tmp 24)) 21 false, q0 26 (.pick (.tmp 21) kT (.tmp 25)), q0 27 (.mv (.tmp 26)), q1 28 (.faddr 8 (.tmp 1)) 27 false, q1 29 (.load false 1 (.tmp 28)) 27 false, q1 30 (.mv (.tmp 3)) 27 false, q1 31 (.bin .gtr (.tmp 29) (.tmp 30)) 27 false, q0 32 (.pick (.tmp 27) kT (.tmp 31)), q0 33 (.mv (.tmp 32)), q1 34 (.faddr 8 (.tmp 1)) 33 false, q1 35 (.load false 1 (.tmp 34)) 33 false, q1 36 (.mv (.tmp 3)) 33 false, q1 37 (.min2 (.tmp 36) (ki 1)) 33 false, q1 38 (.bin .lss (.tmp 35) (.tmp 37)) 33 false, q0 39 (.pick (.tmp 33) kT (.tmp 38))]
def s87_7 : List CI := [q0 2 (.mv kF)]
def s87_8 : List CI := [q0 40 (.load true 12 (.tmp 1)), q0 41 (.faddr 1 (.tmp 1)), q0 42 (.load false 1 (.tmp 41)), q0 43 (.faddr 3 (.tmp 1)), q0 44 (.load false 1 (.tmp 43)), q0 45 (.faddr 8 (.tmp 1)), q0 46 (.load false 1 (.tmp 45)), q0 47 (.faddr 9 (.tmp 1)), q0 48 (.load true 2 (.tmp 47)), q0 49 (.build [.int .i64 0, .string ⟨#[]⟩, .string ⟨#[]⟩, .string ⟨#[]⟩, .int .i64 0, .int .i64 0, .string ⟨#[]⟩, .slice none 0 0, .int .i64 0, .int .i64 0, .int .i64 0, .slice none 0 0] [(0, 1, ki 5), (1, 1, .tmp 42), (3, 1, .tmp 44), (8, 1, .tmp 46), (9, 2, .tmp 48)]), q0 50 (.call 33 [.tmp 40, .tmp 49]), q0 2 (.mv (.tmp 50))]
def a87 : AC := (.seq (.reg s87_0) (.keep [1] (.seq (.reg s87_1) (.keep [1, 3] (.seq (.seq (.reg s87_2) (.keep [1, 3, 6] (.cond (.tmp 6) (.reg s87_3) .skip))) (.keep [1, 3] (.seq (.seq (.reg s87_4) (.keep [1, 3, 9] (.cond (.tmp 9) (.reg s87_5) .skip))) (.keep [1, 3] (.seq (.seq (.dreg s87_6) (.keep [1, 39] (.cond (.tmp 39) (.seq (.reg s87_7) .ret) .skip))) (.keep [1] (.seq (.reg s87_8) .ret)))))))))))
def c87 : FC := ⟨51, a87.erase, [.tmp 2]⟩
theorem comp87 : compF Tryz.prog Tryz.f87 = some c87 := by kernel_rfl
theorem era87 : c87.code = a87.erase := rfl
def s88_0 : List CI := [q0 4 (.mv kF)]
def s88_1 : List CI := [q0 5 (.mv (ki 0))]
def s88_2 : List CI := [q0 6 (.mv (.tmp 5)), q0 7 (.mv (.tmp 1)), q0 8 (.len false (.tmp 7)), q0 9 (.bin .lss (.tmp 6) (.tmp 8))]
def s88_3 : List CI := [q0 12 (.mv (.tmp 1)), q0 13 (.mv (.tmp 5)), q0 14 (.iaddr 1 (.tmp 12) (.tmp 13)), q0 15 (.load false 1 (.tmp 14)), q0 16 (.mv (.tmp 0)), q0 17 (.bin .eql (.tmp 15) (.tmp 16))]
def s88_4 : List CI := [q0 4 (.mv kT)]
def s88_5 : List CI := [q0 10 (.mv (.tmp 5)), q0 11 (.bin .add (.tmp 10) (ki 1)), q0 5 (.mv (.tmp 11))]
def s88_6 : List CI := [q0 4 (.mv kF)]
def a88 : AC := (.seq (.reg s88_0) (.keep [0, 1] (.seq (.seq (.reg s88_1) (.keep [0, 1, 5] (.block 0 (.loop (.keep [0, 1, 5] (.seq (.seq (.reg s88_2) (.keep [0, 1, 5, 9] (.cond (.tmp 9) .skip (.exit 0)))) (.keep [0, 1, 5] (.seq (.block 1 (.seq (.reg s88_3) (.keep [0, 1, 5, 17] (.cond (.tmp 17) (.seq (.reg s88_4) .ret) .skip)))) (.keep [0, 1, 5] (.reg s88_5)))))))))) (.keep [] (.seq (.reg s88_6) .ret)))))
def c88 : FC := ⟨18, a88.erase, [.tmp 4]⟩
theorem comp88 : compF Tryz.prog Tryz.f88 = some c88 := by kernel_rfl
theorem era88 : c88.code = a88.erase := rfl
def s89_0 : List CI := [q0 0 (.mv (.const (.slice none 0 0)))]
def s89_1 : List CI := [q0 1 (.mksl 9 1 [ks ⟨#[43]⟩, ks ⟨#[45]⟩, ks ⟨#[42]⟩, ks ⟨#[47]⟩, ks ⟨#[61, 61]⟩, ks ⟨#[33, 61]⟩, ks ⟨#[60]⟩, ks ⟨#[60, 61]⟩, ks ⟨#[97, 110, 100]⟩, ks ⟨#[111, 114]⟩]), q0 0 (.mv (.tmp 1))]
def a89 : AC := (.seq (.reg s89_0) (.keep [] (.seq (.reg s89_1) .ret)))
def c89 : FC := ⟨2, a89.erase, [.tmp 0]⟩
theorem comp89 : compF Tryz.prog Tryz.f89 = some c89 := by kernel_rfl
theorem era89 : c89.code = a89.erase := rfl
def s90_0 : List CI := [q0 1 (.box 23 (.tmp 0)), q0 2 (.mv (ki 0))]
def s90_1 : List CI := [q0 9 (.faddr 0 (.tmp 1)), q0 10 (.load false 1 (.tmp 9)), q0 11 (.bin .eql (.tmp 10) (ki 2)), q0 12 (.mv (.tmp 11)), q1 13 (.faddr 0 (.tmp 1)) 12 false, q1 14 (.load false 1 (.tmp 13)) 12 false, q1 15 (.bin .eql (.tmp 14) (ki 3)) 12 false, q0 16 (.pick (.tmp 12) kT (.tmp 15)), q0 3 (.mv (.tmp 16))]
def s90_2 : List CI := [q0 17 (.faddr 0 (.tmp 1)), q0 18 (.load false 1 (.tmp 17)), q0 19 (.bin .eql (.tmp 18) (ki 4)), q0 20 (.mv (.tmp 19)), q1 21 (.faddr 0 (.tmp 1)) 20 false, q1 22 (.load false 1 (.tmp 21)) 20 false, q1 23 (.bin .eql (.tmp 22) (ki 5)) 20 false, q0 24 (.pick (.tmp 20) kT (.tmp 23)), q0 4 (.mv (.tmp 24))]
def s90_3 : List CI := [q0 26 (.faddr 0 (.tmp 1)), q0 27 (.load false 1 (.tmp 26)), q0 28 (.bin .lss (.tmp 27) (ki 0)), q0 29 (.mv (.tmp 28)), q1 30 (.faddr 0 (.tmp 1)) 29 false, q1 31 (.load false 1 (.tmp 30)) 29 false, q1 32 (.bin .gtr (.tmp 31) (ki 5)) 29 false, q0 33 (.pick (.tmp 29) kT (.tmp 32)), q0 25 (.mv (.tmp 33))]
def s90_4 : List CI := [q0 34 (.mv (.tmp 4)), q0 35 (.un .not (.tmp 34)), q0 36 (.mv (.tmp 35)), q1 37 (.faddr 2 (.tmp 1)) 36 true, q1 38 (.load false 1 (.tmp 37)) 36 true, q1 39 (.bin .neq (.tmp 38) (ks ⟨#[]⟩)) 36 true, q0 40 (.pick (.tmp 36) (.tmp 39) kF), q0 25 (.mv (.tmp 40))]
def s90_5 : List CI := [q0 2 (.mv (ki 1))]
def s90_6 : List CI := [q0 42 (.mv (.tmp 3)), q0 43 (.un .not (.tmp 42)), q0 44 (.mv (.tmp 43)), q1 45 (.faddr 1 (.tmp 1)) 44 true, q1 46 (.load false 1 (.tmp 45)) 44 true, q1 47 (.bin .neq (.tmp 46) (ki 0)) 44 true, q0 48 (.pick (.tmp 44) (.tmp 47) kF), q0 49 (.mv (.tmp 48)), q1 50 (.faddr 0 (.tmp 1)) 49 true, q1 51 (.load false 1 (.tmp 50)) 49 true, q1 52 (.bin .neq (.tmp 51) (ki 1)) 49 true, q1 53 (.mv (.tmp 52)) 49 true, q1 54 (.faddr 1 (.tmp 1)) 53 false, q1 55 (.load false 1 (.tmp 54)) 53 false, q1 56 (.bin .neq (.tmp 55) (ki 1)) 53 false, q1 57 (.pick (.tmp 53) kT (.tmp 56)) 49 true, q0 58 (.pick (.tmp 49) (.tmp 57) kF), q0 41 (.mv (.tmp 58))]
def s90_7 : List CI := [q0 2 (.mv (ki 1))]
def s90_8 : List CI := [q0 60 (.faddr 1 (.tmp 1)), q0 61 (.load false 1 (.tmp 60)), q0 62 (.bin .lss (.tmp 61) (.const (.int .i64 (-1152921504606846976)))), q0 63 (.mv (.tmp 62)), q1 64 (.faddr 1 (.tmp 1)) 63 false, q1 65 (.load false 1 (.tmp 64)) 63 false, q1 66 (.bin .gtr (.tmp 65) (ki 1152921504606846976)) 63 false, q0 67 (.pick (.tmp 63) kT (.tmp 66)), q0 59 (.mv (.tmp 67))]
def s90_9 : List CI := [q0 2 (.mv (ki 2))]
def s90_10 : List CI := [q0 68 (.mv (.tmp 4)), q0 69 (.un .not (.tmp 68))]
def s90_11 : List CI := [q0 2 (.mv (ki 0))]
def s90_12 : List CI := [q0 5 (.mv (ki 64)), q0 6 (.mv (.const (.int .u8 32)))]
def s90_13 : List CI := [q0 70 (.faddr 0 (.tmp 1)), q0 71 (.load false 1 (.tmp 70)), q0 72 (.bin .eql (.tmp 71) (ki 5))]
def s90_14 : List CI := [q0 5 (.mv (ki 32)), q0 6 (.mv (.const (.int .u8 33)))]
def s90_15 : List CI := [q0 73 (.faddr 2 (.tmp 1)), q0 74 (.load false 1 (.tmp 73)), q0 75 (.len true (.tmp 74)), q0 76 (.mv (.tmp 5)), q0 77 (.bin .gtr (.tmp 75) (.tmp 76))]
def s90_16 : List CI := [q0 2 (.mv (ki 2))]
def s90_17 : List CI := [q0 78 (.faddr 0 (.tmp 1)), q0 79 (.load false 1 (.tmp 78)), q0 80 (.bin .eql (.tmp 79) (ki 5)), q0 81 (.mv (.tmp 80)), q1 82 (.faddr 2 (.tmp 1)) 81 true, q1 83 (.load false 1 (.tmp 82)) 81 true, q1 84 (.bin .eql (.tmp 83) (ks ⟨#[]⟩)) 81 true, q0 85 (.pick (.tmp 81) (.tmp 84) kF)]
def s90_18 : List CI := [q0 2 (.mv (ki 3))]
def s90_19 : List CI := [q0 86 (.faddr 2 (.tmp 1)), q0 87 (.load false 1 (.tmp 86)), q0 88 (.len true (.tmp 87)), q0 89 (.mv (ki 0))]
def s90_20 : List CI := [q0 90 (.bin .lss (.tmp 89) (.tmp 88))]
def s90_21 : List CI := [q0 91 (.mv (.tmp 89)), q0 7 (.mv (.tmp 91))]
def s90_22 : List CI := [q0 92 (.faddr 2 (.tmp 1)), q0 93 (.load false 1 (.tmp 92)), q0 94 (.mv (.tmp 7)), q0 95 (.idxs (.tmp 93) (.tmp 94)), q0 8 (.mv (.tmp 95))]
def s90_23 : List CI := [q0 96 (.mv (.tmp 8)), q0 97 (.mv (.tmp 6)), q0 98 (.bin .lss (.tmp 96) (.tmp 97)), q0 99 (.mv (.tmp 98)), q1 100 (.mv (.tmp 8)) 99 false, q1 101 (.bin .gtr (.tmp 100) (.const (.int .u8 126))) 99 false, q0 102 (.pick (.tmp 99) kT (.tmp 101)), q0 103 (.mv (.tmp 102)), q1 104 (.mv (.tmp 8)) 103 false, q1 105 (.bin .eql (.tmp 104) (.const (.int .u8 34))) 103 false, q0 106 (.pick (.tmp 103) kT (.tmp 105)), q0 107 (.mv (.tmp 106)), q1 108 (.mv (.tmp 8)) 107 false, q1 109 (.bin .eql (.tmp 108) (.const (.int .u8 92))) 107 false, q0 110 (.pick (.tmp 107) kT (.tmp 109))]
def s90_24 : List CI := [q0 2 (.mv (ki 3))]
def s90_25 : List CI := [q0 111 (.bin .add (.tmp 89) (ki 1)), q0 89 (.mv (.tmp 111))]
def s90_26 : List CI := [q0 2 (.mv (ki 0))]
def a90 : AC := (.seq (.reg s90_0) (.keep [1] (.seq (.reg s90_1) (.keep [1, 3] (.seq (.reg s90_2) (.keep [1, 3, 4] (.seq (.block 0 (.seq (.seq (.reg s90_3) (.keep [1, 3, 4, 25] (.cond (.tmp 25) .skip (.reg s90_4)))) (.keep [1, 3, 4, 25] (.cond (.tmp 25) (.seq (.reg s90_5) .ret) (.seq (.reg s90_6) (.keep [1, 4, 41] (.cond (.tmp 41) (.seq (.reg s90_7) .ret) (.seq (.reg s90_8) (.keep [1, 4, 59] (.cond (.tmp 59) (.seq (.reg s90_9) .ret) .skip)))))))))) (.keep [1, 4] (.seq (.seq (.reg s90_10) (.keep [1, 69] (.cond (.tmp 69) (.seq (.reg s90_11) .ret) .skip))) (.keep [1] (.seq (.reg s90_12) (.keep [1, 5, 6] (.seq (.seq (.reg s90_13) (.keep [1, 5, 6, 72] (.cond (.tmp 72) (.reg s90_14) .skip))) (.keep [1, 5, 6] (.seq (.seq (.reg s90_15) (.keep [1, 6, 77] (.cond (.tmp 77) (.seq (.reg s90_16) .ret) .skip))) (.keep [1, 6] (.seq (.seq (.reg s90_17) (.keep [1, 6, 85] (.cond (.tmp 85) (.seq (.reg s90_18) .ret) .skip))) (.keep [1, 6] (.seq (.seq (.reg s90_19) (.keep [1, 6, 88, 89] (.block 1 (.loop (.keep [1, 6, 88, 89] (.seq (.reg s90_20) (.keep [1, 6, 88, 89, 90] (.seq (.cond (.tmp 90) .skip (.exit 1)) (.keep [1, 6, 88, 89] (.seq (.block 2 (.seq (.reg s90_21) (.keep [1, 6, 7, 88, 89] (.seq (.reg s90_22) (.keep [1, 6, 8, 88, 89] (.seq (.reg s90_23) (.keep [1, 6, 88, 89, 110] (.cond (.tmp 110) (.seq (.reg s90_24) .ret) .skip)))))))) (.keep [1, 6, 88, 89] (.reg s90_25)))))))))))) (.keep [] (.seq (.reg s90_26) .ret)))))))))))))))))))))
def c90 : FC := ⟨112, a90.erase, [.tmp 2]⟩
theorem comp90 : compF Tryz.prog Tryz.f90 = some c90 := by kernel_rfl
theorem era90 : c90.code = a90.erase := rfl
def s91_0 : List CI := [q0 4 (.mv kF)]
def s91_1 : List CI := [q0 5 (.mv (.tmp 0)), q0 6 (.mv (.tmp 1)), q0 7 (.call 117 [.tmp 5, .tmp 6]), q0 8 (.bin .geq (.tmp 7) (ki 0)), q0 4 (.mv (.tmp 8))]
def a91 : AC := (.seq (.reg s91_0) (.keep [0, 1] (.seq (.reg s91_1) .ret)))
def c91 : FC := ⟨9, a91.erase, [.tmp 4]⟩
theorem comp91 : compF Tryz.prog Tryz.f91 = some c91 := by kernel_rfl
theorem era91 : c91.code = a91.erase := rfl
def s92_0 : List CI := [q0 2 (.box 29 (.tmp 0)), q0 3 (.box 29 (.tmp 1)), q0 4 (.mv kF)]
def s92_1 : List CI := [q0 5 (.faddr 0 (.tmp 2)), q0 6 (.load false 1 (.tmp 5)), q0 7 (.faddr 0 (.tmp 3)), q0 8 (.load false 1 (.tmp 7)), q0 9 (.bin .eql (.tmp 6) (.tmp 8)), q0 10 (.mv (.tmp 9)), q1 11 (.faddr 1 (.tmp 2)) 10 true, q1 12 (.load false 1 (.tmp 11)) 10 true, q1 13 (.faddr 1 (.tmp 3)) 10 true, q1 14 (.load false 1 (.tmp 13)) 10 true, q1 15 (.bin .eql (.tmp 12) (.tmp 14)) 10 true, q0 16 (.pick (.tmp 10) (.tmp 15) kF), q0 17 (.mv (.tmp 16)), q1 18 (.faddr 2 (.tmp 2)) 17 true, q1 19 (.load false 1 (.tmp 18)) 17 true, q1 20 (.faddr 2 (.tmp 3)) 17 true, q1 21 (.load false 1 (.tmp 20)) 17 true, q1 22 (.bin .eql (.tmp 19) (.tmp 21)) 17 true, q0 23 (.pick (.tmp 17) (.tmp 22) kF), q0 24 (.mv (.tmp 23)), q1 25 (.faddr 3 (.tmp 2)) 24 true, q1 26 (.load false 1 (.tmp 25)) 24 true, q1 27 (.faddr 3 (.tmp 3)) 24 true, q1 28 (.load false 1 (.tmp 27)) 24 true, q1 29 (.bin .eql (.tmp 26) (.tmp 28)) 24 true, q0 30 (.pick (.tmp 24) (.tmp 29) kF), q0 31 (.mv (.tmp 30)), q1 32 (.faddr 4 (.tmp 2)) 31 true, q1 33 (.load true 3 (.tmp 32)) 31 true, q1 34 (.faddr 4 (.tmp 3)) 31 true, q1 35 (.load true 3 (.tmp 34)) 31 true, q1 36 (.eqs false [.int, .int, .str] (.tmp 33) (.tmp 35)) 31 true, q0 37 (.pick (.tmp 31) (.tmp 36) kF), q0 38 (.mv (.tmp 37)), q1 39 (.faddr 7 (.tmp 2)) 38 true, q1 40 (.load false 1 (.tmp 39)) 38 true, q1 41 (.faddr 7 (.tmp 3)) 38 true, q1 42 (.load false 1 (.tmp 41)) 38 true, q1 43 (.call 118 [.tmp 40, .tmp 42]) 38 true, q0 44 (.pick (.tmp 38) (.tmp 43) kF), q0 45 (.mv (.tmp 44)), q1 46 (.faddr 8 (.tmp 2)) 45 true, q1 47 (.load false 1 (.tmp 46)) 45 true, q1 48 (.faddr 8 (.tmp 3)) 45 true, q1 49 (.load false 1 (.tmp 48)) 45 true, q1 50 (.bin .eql (.tmp 47) (.tmp 49)) 45 true, q0 51 (.pick (.tmp 45) (.tmp 50) kF), q0 52 (.mv (.tmp 51)), q1 53 (.faddr 9 (.tmp 2)) 52 true, q1 54 (.load true 2 (.tmp 53)) 52 true, q1 55 (.faddr 9 (.tmp 3)) 52 true, q1 56 (.load true 2 (.tmp 55)) 52 true, q1 57 (.eqs false [.int, .int] (.tmp 54) (.tmp 56)) 52 true, q0 58 (.pick (.tmp 52) (.tmp 57) kF), q0 4 (.mv (.tmp 58))]
def a92 : AC := (.seq (.reg s92_0) (.keep [2, 3] (.seq (.reg s92_1) .ret)))
def c92 : FC := ⟨59, a92.erase, [.tmp 4]⟩
theorem comp92 : compF Tryz.prog Tryz.f92 = some c92 := by kernel_rfl
theorem era92 : c92.code = a92.erase := rfl
def s100_0 : List CI := [q0 2 (.mv kF)]
def s100_1 : List CI := [q0 5 (.mv (.tmp 0)), q0 6 (.len true (.tmp 5)), q0 7 (.bin .eql (.tmp 6) (ki 0)), q0 8 (.mv (.tmp 7)), q1 9 (.mv (.tmp 0)) 8 false, q1 10 (.len true (.tmp 9)) 8 false, q1 11 (.bin .gtr (.tmp 10) (ki 24)) 8 false, q0 12 (.pick (.tmp 8) kT (.tmp 11)), q0 13 (.mv (.tmp 12)), q1 14 (.mv (.tmp 0)) 13 false, q1 15 (.idxs (.tmp 14) (ki 0)) 13 false, q1 16 (.bin .lss (.tmp 15) (.const (.int .u8 97))) 13 false, q0 17 (.pick (.tmp 13) kT (.tmp 16)), q0 18 (.mv (.tmp 17)), q1 19 (.mv (.tmp 0)) 18 false, q1 20 (.idxs (.tmp 19) (ki 0)) 18 false, q1 21 (.bin .gtr (.tmp 20) (.const (.int .u8 122))) 18 false, q0 22 (.pick (.tmp 18) kT (.tmp 21))]
def s100_2 : List CI := [q0 2 (.mv kF)]
def s100_3 : List CI := [q0 23 (.mv (.tmp 0)), q0 24 (.len true (.tmp 23)), q0 25 (.mv (ki 0))]
def s100_4 : List CI := [q0 26 (.bin .lss (.tmp 25) (.tmp 24))]
def s100_5 : List CI := [q0 27 (.mv (.tmp 25)), q0 3 (.mv (.tmp 27))]
def s100_6 : List CI := [q0 28 (.mv (.tmp 0)), q0 29 (.mv (.tmp 3)), q0 30 (.idxs (.tmp 28) (.tmp 29)), q0 4 (.mv (.tmp 30))]
def s100_7 : List CI := [q0 31 (.mv (.tmp 4)), q0 32 (.bin .lss (.tmp 31) (.const (.int .u8 97))), q0 33 (.mv (.tmp 32)), q1 34 (.mv (.tmp 4)) 33 false, q1 35 (.bin .gtr (.tmp 34) (.const (.int .u8 122))) 33 false, q0 36 (.pick (.tmp 33) kT (.tmp 35)), q0 37 (.mv (.tmp 36)), q1 38 (.mv (.tmp 4)) 37 true, q1 39 (.bin .lss (.tmp 38) (.const (.int .u8 48))) 37 true, q1 40 (.mv (.tmp 39)) 37 true, q1 41 (.mv (.tmp 4)) 40 false, q1 42 (.bin .gtr (.tmp 41) (.const (.int .u8 57))) 40 false, q1 43 (.pick (.tmp 40) kT (.tmp 42)) 37 true, q0 44 (.pick (.tmp 37) (.tmp 43) kF), q0 45 (.mv (.tmp 44)), q1 46 (.mv (.tmp 4)) 45 true, q1 47 (.bin .neq (.tmp 46) (.const (.int .u8 95))) 45 true, q0 48 (.pick (.tmp 45) (.tmp 47) kF)]
def s100_8 : List CI := [q0 2 (.mv kF)]
def s100_9 : List CI := [q0 49 (.bin .add (.tmp 25) (ki 1)), q0 25 (.mv (.tmp 49))]
def s100_10 : List CI := [q0 2 (.mv kT)]
def a100 : AC := (.seq (.reg s100_0) (.keep [0] (.seq (.seq (.reg s100_1) (.keep [0, 22] (.cond (.tmp 22) (.seq (.reg s100_2) .ret) .skip))) (.keep [0] (.seq (.seq (.reg s100_3) (.keep [0, 24, 25] (.block 0 (.loop (.keep [0, 24, 25] (.seq (.reg s100_4) (.keep [0, 24, 25, 26] (.seq (.cond (.tmp 26) .skip (.exit 0)) (.keep [0, 24, 25] (.seq (.block 1 (.seq (.reg s100_5) (.keep [0, 3, 24, 25] (.seq (.reg s100_6) (.keep [0, 4, 24, 25] (.seq (.reg s100_7) (.keep [0, 24, 25, 48] (.cond (.tmp 48) (.seq (.reg s100_8) .ret) .skip)))))))) (.keep [0, 24, 25] (.reg s100_9)))))))))))) (.keep [] (.seq (.reg s100_10) .ret)))))))
def c100 : FC := ⟨50, a100.erase, [.tmp 2]⟩
theorem comp100 : compF Tryz.prog Tryz.f100 = some c100 := by kernel_rfl
theorem era100 : c100.code = a100.erase := rfl
def s101_0 : List CI := [q0 4 (.mv kF)]
def s101_1 : List CI := [q0 5 (.mv (.tmp 0)), q0 6 (.mv (.tmp 1)), q0 7 (.bin .gtr (.tmp 5) (.tmp 6)), q0 8 (.mv (.tmp 7)), q1 9 (.mv (.tmp 0)) 8 false, q1 10 (.mv (.tmp 1)) 8 false, q1 11 (.un .neg (.tmp 10)) 8 false, q1 12 (.bin .lss (.tmp 9) (.tmp 11)) 8 false, q0 13 (.pick (.tmp 8) kT (.tmp 12)), q0 4 (.mv (.tmp 13))]
def a101 : AC := (.seq (.reg s101_0) (.keep [0, 1] (.seq (.reg s101_1) .ret)))
def c101 : FC := ⟨14, a101.erase, [.tmp 4]⟩
theorem comp101 : compF Tryz.prog Tryz.f101 = some c101 := by kernel_rfl
theorem era101 : c101.code = a101.erase := rfl
def s102_0 : List CI := [q0 4 (.mv (ki 0))]
def s102_1 : List CI := [q0 6 (.mv (.tmp 0)), q0 7 (.len false (.tmp 6)), q0 8 (.mv (ki 0))]
def s102_2 : List CI := [q0 9 (.bin .lss (.tmp 8) (.tmp 7))]
def s102_3 : List CI := [q0 10 (.mv (.tmp 8)), q0 5 (.mv (.tmp 10))]
def s102_4 : List CI := [q0 11 (.mv (.tmp 1)), q0 12 (.mv (.tmp 0)), q0 13 (.mv (.tmp 5)), q0 14 (.iaddr 2 (.tmp 12) (.tmp 13)), q0 15 (.load true 2 (.tmp 14)), q0 16 (.callv (.tmp 11) [.tmp 15])]
def s102_5 : List CI := [q0 17 (.mv (.tmp 5)), q0 4 (.mv (.tmp 17))]
def s102_6 : List CI := [q0 18 (.bin .add (.tmp 8) (ki 1)), q0 8 (.mv (.tmp 18))]
def s102_7 : List CI := [q0 4 (.mv (.const (.int .i64 (-1))))]
def a102 : AC := (.seq (.reg s102_0) (.keep [0, 1] (.seq (.seq (.reg s102_1) (.keep [0, 1, 7, 8] (.block 0 (.loop (.keep [0, 1, 7, 8] (.seq (.reg s102_2) (.keep [0, 1, 7, 8, 9] (.seq (.cond (.tmp 9) .skip (.exit 0)) (.keep [0, 1, 7, 8] (.seq (.block 1 (.seq (.reg s102_3) (.keep [0, 1, 5, 7, 8] (.seq (.reg s102_4) (.keep [0, 1, 5, 7, 8, 16] (.cond (.tmp 16) (.seq (.reg s102_5) .ret) .skip)))))) (.keep [0, 1, 7, 8] (.reg s102_6)))))))))))) (.keep [] (.seq (.reg s102_7) .ret)))))
def c102 : FC := ⟨19, a102.erase, [.tmp 4]⟩
theorem comp102 : compF Tryz.prog Tryz.f102 = some c102 := by kernel_rfl
theorem era102 : c102.code = a102.erase := rfl
def s104_0 : List CI := [q0 2 (.mv kF)]
def s104_1 : List CI := [q0 6 (.mv (.tmp 0)), q0 7 (.len true (.tmp 6)), q0 8 (.bin .lss (.tmp 7) (ki 1)), q0 9 (.mv (.tmp 8)), q1 10 (.mv (.tmp 0)) 9 false, q1 11 (.len true (.tmp 10)) 9 false, q1 12 (.bin .gtr (.tmp 11) (ki 24)) 9 false, q0 13 (.pick (.tmp 9) kT (.tmp 12)), q0 14 (.mv (.tmp 13)), q1 15 (.mv (.tmp 0)) 14 false, q1 16 (.idxs (.tmp 15) (ki 0)) 14 false, q1 17 (.bin .lss (.tmp 16) (.const (.int .u8 97))) 14 false, q0 18 (.pick (.tmp 14) kT (.tmp 17)), q0 19 (.mv (.tmp 18)), q1 20 (.mv (.tmp 0)) 19 false, q1 21 (.idxs (.tmp 20) (ki 0)) 19 false, q1 22 (.bin .gtr (.tmp 21) (.const (.int .u8 122))) 19 false, q0 23 (.pick (.tmp 19) kT (.tmp 22))]
def s104_2 : List CI := [q0 2 (.mv kF)]
def s104_3 : List CI := [q0 3 (.mv (ki 0))]
def s104_4 : List CI := [q0 24 (.mv (.tmp 3)), q0 25 (.mv (.tmp 0)), q0 26 (.len true (.tmp 25)), q0 27 (.bin .lss (.tmp 24) (.tmp 26))]
def s104_5 : List CI := [q0 30 (.mv (.tmp 0)), q0 31 (.mv (.tmp 3)), q0 32 (.idxs (.tmp 30) (.tmp 31)), q0 33 (.bin .geq (.tmp 32) (.const (.int .u8 97))), q0 34 (.mv (.tmp 33)), q1 35 (.mv (.tmp 0)) 34 true, q1 36 (.mv (.tmp 3)) 34 true, q1 37 (.idxs (.tmp 35) (.tmp 36)) 34 true, q1 38 (.bin .leq (.tmp 37) (.const (.int .u8 122))) 34 true, q0 39 (.pick (.tmp 34) (.tmp 38) kF), q0 4 (.mv (.tmp 39))]
def s104_6 : List CI := [q0 40 (.mv (.tmp 0)), q0 41 (.mv (.tmp 3)), q0 42 (.idxs (.tmp 40) (.tmp 41)), q0 43 (.bin .geq (.tmp 42) (.const (.int .u8 48))), q0 44 (.mv (.tmp 43)), q1 45 (.mv (.tmp 0)) 44 true, q1 46 (.mv (.tmp 3)) 44 true, q1 47 (.idxs (.tmp 45) (.tmp 46)) 44 true, q1 48 (.bin .leq (.tmp 47) (.const (.int .u8 57))) 44 true, q0 49 (.pick (.tmp 44) (.tmp 48) kF), q0 5 (.mv (.tmp 49))]
def s104_7 : List CI := [q0 50 (.mv (.tmp 4)), q0 51 (.un .not (.tmp 50)), q0 52 (.mv (.tmp 51)), q1 53 (.mv (.tmp 5)) 52 true, q1 54 (.un .not (.tmp 53)) 52 true, q0 55 (.pick (.tmp 52) (.tmp 54) kF), q0 56 (.mv (.tmp 55)), q1 57 (.mv (.tmp 0)) 56 true, q1 58 (.mv (.tmp 3)) 56 true, q1 59 (.idxs (.tmp 57) (.tmp 58)) 56 true, q1 60 (.bin .neq (.tmp 59) (.const (.int .u8 95))) 56 true, q0 61 (.pick (.tmp 56) (.tmp 60) kF)]
def s104_8 : List CI := [q0 2 (.mv kF)]
def s104_9 : List CI := [q0 28 (.mv (.tmp 3)), q0 29 (.bin .add (.tmp 28) (ki 1)), q0 3 (.mv (.tmp 29))]
def s104_10 : List CI := [q0 2 (.mv kT)]
def a104 : AC := (.seq (.reg s104_0) (.keep [0] (.seq (.seq (.reg s104_1) (.keep [0, 23] (.cond (.tmp 23) (.seq (.reg s104_2) .ret) .skip))) (.keep [0] (.seq (.seq (.reg s104_3) (.keep [0, 3] (.block 0 (.loop (.keep [0, 3] (.seq (.seq (.reg s104_4) (.keep [0, 3, 27] (.cond (.tmp 27) .skip (.exit 0)))) (.keep [0, 3] (.seq (.block 1 (.seq (.reg s104_5) (.keep [0, 3, 4] (.seq (.reg s104_6) (.keep [0, 3, 4, 5] (.seq (.reg s104_7) (.keep [0, 3, 61] (.cond (.tmp 61) (.seq (.reg s104_8) .ret) .skip)))))))) (.keep [0, 3] (.reg s104_9)))))))))) (.keep [] (.seq (.reg s104_10) .ret)))))))
def c104 : FC := ⟨62, a104.erase, [.tmp 2]⟩
theorem comp104 : compF Tryz.prog Tryz.f104 = some c104 := by kernel_rfl
theorem era104 : c104.code = a104.erase := rfl
def s105_0 : List CI := [q0 2 (.mv kF)]
def s105_1 : List CI := [q0 3 (.mv (.tmp 0)), q0 4 (.bin .gtr (.tmp 3) (ki 8)), q0 5 (.mv (.tmp 4)), q1 6 (.mv (.tmp 0)) 5 false, q1 7 (.bin .lss (.tmp 6) (.const (.int .i64 (-8)))) 5 false, q0 8 (.pick (.tmp 5) kT (.tmp 7)), q0 2 (.mv (.tmp 8))]
def a105 : AC := (.seq (.reg s105_0) (.keep [0] (.seq (.reg s105_1) .ret)))
def c105 : FC := ⟨9, a105.erase, [.tmp 2]⟩
theorem comp105 : compF Tryz.prog Tryz.f105 = some c105 := by kernel_rfl
theorem era105 : c105.code = a105.erase := rfl
def s111_0 : List CI := [q0 2 (.mv kF)]
def s111_1 : List CI := [q0 3 (.mv (.tmp 0)), q0 4 (.bin .geq (.tmp 3) (.const (.int .u8 97))), q0 5 (.mv (.tmp 4)), q1 6 (.mv (.tmp 0)) 5 true, q1 7 (.bin .leq (.tmp 6) (.const (.int .u8 122))) 5 true, q0 8 (.pick (.tmp 5) (.tmp 7) kF), q0 2 (.mv (.tmp 8))]
def a111 : AC := (.seq (.reg s111_0) (.keep [0] (.seq (.reg s111_1) .ret)))
def c111 : FC := ⟨9, a111.erase, [.tmp 2]⟩
theorem comp111 : compF Tryz.prog Tryz.f111 = some c111 := by kernel_rfl
theorem era111 : c111.code = a111.erase := rfl
def s112_0 : List CI := [q0 2 (.mv kF)]
def s112_1 : List CI := [q0 3 (.mv (.tmp 0)), q0 4 (.bin .geq (.tmp 3) (.const (.int .u8 48))), q0 5 (.mv (.tmp 4)), q1 6 (.mv (.tmp 0)) 5 true, q1 7 (.bin .leq (.tmp 6) (.const (.int .u8 57))) 5 true, q0 8 (.pick (.tmp 5) (.tmp 7) kF), q0 2 (.mv (.tmp 8))]
def a112 : AC := (.seq (.reg s112_0) (.keep [0] (.seq (.reg s112_1) .ret)))
def c112 : FC := ⟨9, a112.erase, [.tmp 2]⟩
theorem comp112 : compF Tryz.prog Tryz.f112 = some c112 := by kernel_rfl
theorem era112 : c112.code = a112.erase := rfl
def s114_0 : List CI := [q0 1 (.box 23 (.tmp 0)), q0 2 (.mv (ki 0))]
def s114_1 : List CI := [q0 3 (.load true 3 (.tmp 1)), q0 4 (.call 135 [.tmp 3]), q0 5 (.un .not (.tmp 4))]
def s114_2 : List CI := [q0 2 (.mv (ki 1))]
def s114_3 : List CI := [q0 6 (.faddr 1 (.tmp 1)), q0 7 (.load false 1 (.tmp 6)), q0 8 (.call 136 [.tmp 7]), q0 9 (.un .not (.tmp 8)), q0 10 (.mv (.tmp 9)), q1 11 (.faddr 0 (.tmp 1)) 10 false, q1 12 (.load false 1 (.tmp 11)) 10 false, q1 13 (.bin .eql (.tmp 12) (ki 4)) 10 false, q1 14 (.mv (.tmp 13)) 10 false, q1 15 (.faddr 2 (.tmp 1)) 14 true, q1 16 (.load false 1 (.tmp 15)) 14 true, q1 17 (.len true (.tmp 16)) 14 true, q1 18 (.bin .gtr (.tmp 17) (ki 64)) 14 true, q1 19 (.pick (.tmp 14) (.tmp 18) kF) 10 false, q0 20 (.pick (.tmp 10) kT (.tmp 19)), q0 21 (.mv (.tmp 20)), q1 22 (.faddr 0 (.tmp 1)) 21 false, q1 23 (.load false 1 (.tmp 22)) 21 false, q1 24 (.bin .eql (.tmp 23) (ki 5)) 21 false, q1 25 (.mv (.tmp 24)) 21 false, q1 26 (.faddr 2 (.tmp 1)) 25 true, q1 27 (.load false 1 (.tmp 26)) 25 true, q1 28 (.len true (.tmp 27)) 25 true, q1 29 (.bin .gtr (.tmp 28) (ki 32)) 25 true, q1 30 (.pick (.tmp 25) (.tmp 29) kF) 21 false, q0 31 (.pick (.tmp 21) kT (.tmp 30))]
def s114_4 : List CI := [q0 2 (.mv (ki 2))]
def s114_5 : List CI := [q0 32 (.faddr 0 (.tmp 1)), q0 33 (.load false 1 (.tmp 32)), q0 34 (.bin .eql (.tmp 33) (ki 4)), q0 35 (.mv (.tmp 34)), q1 36 (.faddr 2 (.tmp 1)) 35 true, q1 37 (.load false 1 (.tmp 36)) 35 true, q1 38 (.call 137 [.tmp 37]) 35 true, q1 39 (.un .not (.tmp 38)) 35 true, q0 40 (.pick (.tmp 35) (.tmp 39) kF), q0 41 (.mv (.tmp 40)), q1 42 (.faddr 0 (.tmp 1)) 41 false, q1 43 (.load false 1 (.tmp 42)) 41 false, q1 44 (.bin .eql (.tmp 43) (ki 5)) 41 false, q1 45 (.mv (.tmp 44)) 41 false, q1 46 (.faddr 2 (.tmp 1)) 45 true, q1 47 (.load false 1 (.tmp 46)) 45 true, q1 48 (.call 138 [.tmp 47]) 45 true, q1 49 (.un .not (.tmp 48)) 45 true, q1 50 (.pick (.tmp 45) (.tmp 49) kF) 41 false, q0 51 (.pick (.tmp 41) kT (.tmp 50))]
def s114_6 : List CI := [q0 2 (.mv (ki 3))]
def s114_7 : List CI := [q0 2 (.mv (ki 0))]
def a114 : AC := (.seq (.reg s114_0) (.keep [1] (.seq (.seq (.reg s114_1) (.keep [1, 5] (.cond (.tmp 5) (.seq (.reg s114_2) .ret) .skip))) (.keep [1] (.seq (.seq (.reg s114_3) (.keep [1, 31] (.cond (.tmp 31) (.seq (.reg s114_4) .ret) .skip))) (.keep [1] (.seq (.seq (.reg s114_5) (.keep [51] (.cond (.tmp 51) (.seq (.reg s114_6) .ret) .skip))) (.keep [] (.seq (.reg s114_7) .ret)))))))))
def c114 : FC := ⟨52, a114.erase, [.tmp 2]⟩
theorem comp114 : compF Tryz.prog Tryz.f114 = some c114 := by kernel_rfl
theorem era114 : c114.code = a114.erase := rfl
def s115_0 : List CI := [q0 0 (.mv (.const (.slice none 0 0)))]
def s115_1 : List CI := [q0 1 (.mksl 9 1 [ks ⟨#[99, 111, 117, 110, 116]⟩, ks ⟨#[115, 117, 109]⟩, ks ⟨#[109, 101, 97, 110]⟩, ks ⟨#[109, 105, 110]⟩, ks ⟨#[109, 97, 120]⟩, ks ⟨#[102, 105, 114, 115, 116]⟩, ks ⟨#[108, 97, 115, 116]⟩, ks ⟨#[100, 105, 115, 116, 105, 110, 99, 116]⟩, ks ⟨#[113, 117, 97, 110, 116, 105, 108, 101]⟩, ks ⟨#[100, 101, 99, 97, 121]⟩]), q0 0 (.mv (.tmp 1))]
def a115 : AC := (.seq (.reg s115_0) (.keep [] (.seq (.reg s115_1) .ret)))
def c115 : FC := ⟨2, a115.erase, [.tmp 0]⟩
theorem comp115 : compF Tryz.prog Tryz.f115 = some c115 := by kernel_rfl
theorem era115 : c115.code = a115.erase := rfl
def s116_0 : List CI := [q0 1 (.box 26 (.tmp 0)), q0 2 (.mv kF)]
def s116_1 : List CI := [q0 3 (.faddr 0 (.tmp 1)), q0 4 (.load false 1 (.tmp 3)), q0 5 (.bin .eql (.tmp 4) (ki 1))]
def s116_2 : List CI := [q0 6 (.faddr 1 (.tmp 1)), q0 7 (.load false 1 (.tmp 6)), q0 8 (.bin .eql (.tmp 7) (ki 0)), q0 2 (.mv (.tmp 8))]
def s116_3 : List CI := [q0 9 (.faddr 0 (.tmp 1)), q0 10 (.load false 1 (.tmp 9)), q0 11 (.bin .gtr (.tmp 10) (ki 1)), q0 12 (.mv (.tmp 11)), q1 13 (.faddr 0 (.tmp 1)) 12 true, q1 14 (.load false 1 (.tmp 13)) 12 true, q1 15 (.bin .leq (.tmp 14) (ki 4)) 12 true, q0 16 (.pick (.tmp 12) (.tmp 15) kF), q0 17 (.mv (.tmp 16)), q1 18 (.faddr 1 (.tmp 1)) 17 true, q1 19 (.load false 1 (.tmp 18)) 17 true, q1 20 (.bin .geq (.tmp 19) (ki 1)) 17 true, q0 21 (.pick (.tmp 17) (.tmp 20) kF), q0 22 (.mv (.tmp 21)), q1 23 (.faddr 1 (.tmp 1)) 22 true, q1 24 (.load false 1 (.tmp 23)) 22 true, q1 25 (.bin .leq (.tmp 24) (ki 1099511627776)) 22 true, q0 26 (.pick (.tmp 22) (.tmp 25) kF), q0 2 (.mv (.tmp 26))]
def a116 : AC := (.seq (.reg s116_0) (.keep [1] (.seq (.seq (.reg s116_1) (.keep [1, 5] (.cond (.tmp 5) (.seq (.reg s116_2) .ret) .skip))) (.keep [1] (.seq (.reg s116_3) .ret)))))
def c116 : FC := ⟨27, a116.erase, [.tmp 2]⟩
theorem comp116 : compF Tryz.prog Tryz.f116 = some c116 := by kernel_rfl
theorem era116 : c116.code = a116.erase := rfl
def s117_0 : List CI := [q0 4 (.mv (ki 0))]
def s117_1 : List CI := [q0 6 (.mv (.tmp 0)), q0 7 (.len false (.tmp 6)), q0 8 (.mv (ki 0))]
def s117_2 : List CI := [q0 9 (.bin .lss (.tmp 8) (.tmp 7))]
def s117_3 : List CI := [q0 10 (.mv (.tmp 8)), q0 5 (.mv (.tmp 10))]
def s117_4 : List CI := [q0 11 (.mv (.tmp 1)), q0 12 (.mv (.tmp 0)), q0 13 (.mv (.tmp 5)), q0 14 (.iaddr 1 (.tmp 12) (.tmp 13)), q0 15 (.load false 1 (.tmp 14)), q0 16 (.bin .eql (.tmp 11) (.tmp 15))]
def s117_5 : List CI := [q0 17 (.mv (.tmp 5)), q0 4 (.mv (.tmp 17))]
def s117_6 : List CI := [q0 18 (.bin .add (.tmp 8) (ki 1)), q0 8 (.mv (.tmp 18))]
def s117_7 : List CI := [q0 4 (.mv (.const (.int .i64 (-1))))]
def a117 : AC := (.seq (.reg s117_0) (.keep [0, 1] (.seq (.seq (.reg s117_1) (.keep [0, 1, 7, 8] (.block 0 (.loop (.keep [0, 1, 7, 8] (.seq (.reg s117_2) (.keep [0, 1, 7, 8, 9] (.seq (.cond (.tmp 9) .skip (.exit 0)) (.keep [0, 1, 7, 8] (.seq (.block 1 (.seq (.reg s117_3) (.keep [0, 1, 5, 7, 8] (.seq (.reg s117_4) (.keep [0, 1, 5, 7, 8, 16] (.cond (.tmp 16) (.seq (.reg s117_5) .ret) .skip)))))) (.keep [0, 1, 7, 8] (.reg s117_6)))))))))))) (.keep [] (.seq (.reg s117_7) .ret)))))
def c117 : FC := ⟨19, a117.erase, [.tmp 4]⟩
theorem comp117 : compF Tryz.prog Tryz.f117 = some c117 := by kernel_rfl
theorem era117 : c117.code = a117.erase := rfl
def s118_0 : List CI := [q0 4 (.mv kF)]
def s118_1 : List CI := [q0 6 (.mv (.tmp 0)), q0 7 (.len false (.tmp 6)), q0 8 (.mv (.tmp 1)), q0 9 (.len false (.tmp 8)), q0 10 (.bin .neq (.tmp 7) (.tmp 9))]
def s118_2 : List CI := [q0 4 (.mv kF)]
def s118_3 : List CI := [q0 11 (.mv (.tmp 0)), q0 12 (.len false (.tmp 11)), q0 13 (.mv (ki 0))]
def s118_4 : List CI := [q0 14 (.bin .lss (.tmp 13) (.tmp 12))]
def s118_5 : List CI := [q0 15 (.mv (.tmp 13)), q0 5 (.mv (.tmp 15))]
def s118_6 : List CI := [q0 16 (.mv (.tmp 0)), q0 17 (.mv (.tmp 5)), q0 18 (.iaddr 2 (.tmp 16) (.tmp 17)), q0 19 (.load true 2 (.tmp 18)), q0 20 (.mv (.tmp 1)), q0 21 (.mv (.tmp 5)), q0 22 (.iaddr 2 (.tmp 20) (.tmp 21)), q0 23 (.load true 2 (.tmp 22)), q0 24 (.eqs true [.str, .int] (.tmp 19) (.tmp 23))]
def s118_7 : List CI := [q0 4 (.mv kF)]
def s118_8 : List CI := [q0 25 (.bin .add (.tmp 13) (ki 1)), q0 13 (.mv (.tmp 25))]
def s118_9 : List CI := [q0 4 (.mv kT)]
def a118 : AC := (.seq (.reg s118_0) (.keep [0, 1] (.seq (.seq (.reg s118_1) (.keep [0, 1, 10] (.cond (.tmp 10) (.seq (.reg s118_2) .ret) .skip))) (.keep [0, 1] (.seq (.seq (.reg s118_3) (.keep [0, 1, 12, 13] (.block 0 (.loop (.keep [0, 1, 12, 13] (.seq (.reg s118_4) (.keep [0, 1, 12, 13, 14] (.seq (.cond (.tmp 14) .skip (.exit 0)) (.keep [0, 1, 12, 13] (.seq (.block 1 (.seq (.reg s118_5) (.keep [0, 1, 5, 12, 13] (.seq (.dreg s118_6) (.keep [0, 1, 12, 13, 24] (.cond (.tmp 24) (.seq (.reg s118_7) .ret) .skip)))))) (.keep [0, 1, 12, 13] (.reg s118_8)))))))))))) (.keep [] (.seq (.reg s118_9) .ret)))))))
def c118 : FC := ⟨26, a118.erase, [.tmp 4]⟩
theorem comp118 : compF Tryz.prog Tryz.f118 = some c118 := by kernel_rfl
theorem era118 : c118.code = a118.erase := rfl
def s125_0 : List CI := [q0 1 (.box 23 (.tmp 0)), q0 2 (.mv kF)]
def s125_1 : List CI := [q0 3 (.load true 3 (.tmp 1)), q0 4 (.call 114 [.tmp 3]), q0 5 (.bin .eql (.tmp 4) (ki 0)), q0 2 (.mv (.tmp 5))]
def a125 : AC := (.seq (.reg s125_0) (.keep [1] (.seq (.reg s125_1) .ret)))
def c125 : FC := ⟨6, a125.erase, [.tmp 2]⟩
theorem comp125 : compF Tryz.prog Tryz.f125 = some c125 := by kernel_rfl
theorem era125 : c125.code = a125.erase := rfl
def s135_0 : List CI := [q0 1 (.box 23 (.tmp 0)), q0 2 (.mv kF)]
def s135_1 : List CI := [q0 3 (.faddr 0 (.tmp 1)), q0 4 (.load false 1 (.tmp 3))]
def s135_2 : List CI := [q0 6 (.bin .eql (.tmp 4) (ki 0)), q0 5 (.mv (.tmp 6))]
def s135_3 : List CI := [q0 7 (.faddr 1 (.tmp 1)), q0 8 (.load false 1 (.tmp 7)), q0 9 (.bin .eql (.tmp 8) (ki 0)), q0 10 (.mv (.tmp 9)), q1 11 (.faddr 2 (.tmp 1)) 10 true, q1 12 (.load false 1 (.tmp 11)) 10 true, q1 13 (.bin .eql (.tmp 12) (ks ⟨#[]⟩)) 10 true, q0 14 (.pick (.tmp 10) (.tmp 13) kF), q0 2 (.mv (.tmp 14))]
def s135_4 : List CI := [q0 16 (.bin .eql (.tmp 4) (ki 1)), q0 15 (.mv (.tmp 16))]
def s135_5 : List CI := [q0 17 (.faddr 1 (.tmp 1)), q0 18 (.load false 1 (.tmp 17)), q0 19 (.bin .eql (.tmp 18) (ki 0)), q0 20 (.mv (.tmp 19)), q1 21 (.faddr 1 (.tmp 1)) 20 false, q1 22 (.load false 1 (.tmp 21)) 20 false, q1 23 (.bin .eql (.tmp 22) (ki 1)) 20 false, q0 24 (.pick (.tmp 20) kT (.tmp 23)), q0 25 (.mv (.tmp 24)), q1 26 (.faddr 2 (.tmp 1)) 25 true, q1 27 (.load false 1 (.tmp 26)) 25 true, q1 28 (.bin .eql (.tmp 27) (ks ⟨#[]⟩)) 25 true, q0 29 (.pick (.tmp 25) (.tmp 28) kF), q0 2 (.mv (.tmp 29))]
def s135_6 : List CI := [q0 31 (.bin .eql (.tmp 4) (ki 2)), q0 30 (.mv (.tmp 31))]
def s135_7 : List CI := [q0 32 (.bin .eql (.tmp 4) (ki 3)), q0 30 (.mv (.tmp 32))]
def s135_8 : List CI := [q0 33 (.faddr 2 (.tmp 1)), q0 34 (.load false 1 (.tmp 33)), q0 35 (.bin .eql (.tmp 34) (ks ⟨#[]⟩)), q0 2 (.mv (.tmp 35))]
def s135_9 : List CI := [q0 37 (.bin .eql (.tmp 4) (ki 4)), q0 36 (.mv (.tmp 37))]
def s135_10 : List CI := [q0 38 (.bin .eql (.tmp 4) (ki 5)), q0 36 (.mv (.tmp 38))]
def s135_11 : List CI := [q0 39 (.faddr 1 (.tmp 1)), q0 40 (.load false 1 (.tmp 39)), q0 41 (.bin .eql (.tmp 40) (ki 0)), q0 2 (.mv (.tmp 41))]
def s135_12 : List CI := [q0 2 (.mv kF)]
def a135 : AC := (.seq (.reg s135_0) (.keep [1] (.seq (.seq (.reg s135_1) (.keep [1, 4] (.block 0 (.seq (.reg s135_2) (.keep [1, 4, 5] (.cond (.tmp 5) (.seq (.reg s135_3) .ret) (.seq (.reg s135_4) (.keep [1, 4, 15] (.cond (.tmp 15) (.seq (.reg s135_5) .ret) (.seq (.seq (.reg s135_6) (.keep [1, 4, 30] (.cond (.tmp 30) .skip (.reg s135_7)))) (.keep [1, 4, 30] (.cond (.tmp 30) (.seq (.reg s135_8) .ret) (.seq (.seq (.reg s135_9) (.keep [1, 4, 36] (.cond (.tmp 36) .skip (.reg s135_10)))) (.keep [1, 36] (.cond (.tmp 36) (.seq (.reg s135_11) .ret) .skip))))))))))))))) (.keep [] (.seq (.reg s135_12) .ret)))))
def c135 : FC := ⟨42, a135.erase, [.tmp 2]⟩
theorem comp135 : compF Tryz.prog Tryz.f135 = some c135 := by kernel_rfl
theorem era135 : c135.code = a135.erase := rfl
def s136_0 : List CI := [q0 2 (.mv kF)]
def s136_1 : List CI := [q0 3 (.mv (.tmp 0)), q0 4 (.bin .geq (.tmp 3) (.const (.int .i64 (-1152921504606846976)))), q0 5 (.mv (.tmp 4)), q1 6 (.mv (.tmp 0)) 5 true, q1 7 (.bin .leq (.tmp 6) (ki 1152921504606846976)) 5 true, q0 8 (.pick (.tmp 5) (.tmp 7) kF), q0 2 (.mv (.tmp 8))]
def a136 : AC := (.seq (.reg s136_0) (.keep [0] (.seq (.reg s136_1) .ret)))
def c136 : FC := ⟨9, a136.erase, [.tmp 2]⟩
theorem comp136 : compF Tryz.prog Tryz.f136 = some c136 := by kernel_rfl
theorem era136 : c136.code = a136.erase := rfl
def s137_0 : List CI := [q0 2 (.mv kF)]
def s137_1 : List CI := [q0 3 (.mv (.tmp 0)), q0 4 (.len true (.tmp 3)), q0 5 (.bin .leq (.tmp 4) (ki 64)), q0 6 (.mv (.tmp 5)), q1 7 (.mv (.tmp 0)) 6 true, q1 8 (.call 147 [.tmp 7, .const (.int .u8 32)]) 6 true, q0 9 (.pick (.tmp 6) (.tmp 8) kF), q0 2 (.mv (.tmp 9))]
def a137 : AC := (.seq (.reg s137_0) (.keep [0] (.seq (.reg s137_1) .ret)))
def c137 : FC := ⟨10, a137.erase, [.tmp 2]⟩
theorem comp137 : compF Tryz.prog Tryz.f137 = some c137 := by kernel_rfl
theorem era137 : c137.code = a137.erase := rfl
def s138_0 : List CI := [q0 2 (.mv kF)]
def s138_1 : List CI := [q0 3 (.mv (.tmp 0)), q0 4 (.bin .neq (.tmp 3) (ks ⟨#[]⟩)), q0 5 (.mv (.tmp 4)), q1 6 (.mv (.tmp 0)) 5 true, q1 7 (.len true (.tmp 6)) 5 true, q1 8 (.bin .leq (.tmp 7) (ki 32)) 5 true, q0 9 (.pick (.tmp 5) (.tmp 8) kF), q0 10 (.mv (.tmp 9)), q1 11 (.mv (.tmp 0)) 10 true, q1 12 (.call 147 [.tmp 11, .const (.int .u8 33)]) 10 true, q0 13 (.pick (.tmp 10) (.tmp 12) kF), q0 2 (.mv (.tmp 13))]
def a138 : AC := (.seq (.reg s138_0) (.keep [0] (.seq (.reg s138_1) .ret)))
def c138 : FC := ⟨14, a138.erase, [.tmp 2]⟩
theorem comp138 : compF Tryz.prog Tryz.f138 = some c138 := by kernel_rfl
theorem era138 : c138.code = a138.erase := rfl
def s147_0 : List CI := [q0 4 (.mv kF)]
def s147_1 : List CI := [q0 5 (.mv (ki 0))]
def s147_2 : List CI := [q0 6 (.mv (.tmp 5)), q0 7 (.mv (.tmp 0)), q0 8 (.len true (.tmp 7)), q0 9 (.bin .lss (.tmp 6) (.tmp 8))]
def s147_3 : List CI := [q0 12 (.mv (.tmp 0)), q0 13 (.mv (.tmp 5)), q0 14 (.idxs (.tmp 12) (.tmp 13)), q0 15 (.mv (.tmp 1)), q0 16 (.bin .lss (.tmp 14) (.tmp 15)), q0 17 (.mv (.tmp 16)), q1 18 (.mv (.tmp 0)) 17 false, q1 19 (.mv (.tmp 5)) 17 false, q1 20 (.idxs (.tmp 18) (.tmp 19)) 17 false, q1 21 (.bin .gtr (.tmp 20) (.const (.int .u8 126))) 17 false, q0 22 (.pick (.tmp 17) kT (.tmp 21)), q0 23 (.mv (.tmp 22)), q1 24 (.mv (.tmp 0)) 23 false, q1 25 (.mv (.tmp 5)) 23 false, q1 26 (.idxs (.tmp 24) (.tmp 25)) 23 false, q1 27 (.bin .eql (.tmp 26) (.const (.int .u8 34))) 23 false, q0 28 (.pick (.tmp 23) kT (.tmp 27)), q0 29 (.mv (.tmp 28)), q1 30 (.mv (.tmp 0)) 29 false, q1 31 (.mv (.tmp 5)) 29 false, q1 32 (.idxs (.tmp 30) (.tmp 31)) 29 false, q1 33 (.bin .eql (.tmp 32) (.const (.int .u8 92))) 29 false, q0 34 (.pick (.tmp 29) kT (.tmp 33))]
def s147_4 : List CI := [q0 4 (.mv kF)]
def s147_5 : List CI := [q0 10 (.mv (.tmp 5)), q0 11 (.bin .add (.tmp 10) (ki 1)), q0 5 (.mv (.tmp 11))]
def s147_6 : List CI := [q0 4 (.mv kT)]
def a147 : AC := (.seq (.reg s147_0) (.keep [0, 1] (.seq (.seq (.reg s147_1) (.keep [0, 1, 5] (.block 0 (.loop (.keep [0, 1, 5] (.seq (.seq (.reg s147_2) (.keep [0, 1, 5, 9] (.cond (.tmp 9) .skip (.exit 0)))) (.keep [0, 1, 5] (.seq (.block 1 (.seq (.reg s147_3) (.keep [0, 1, 5, 34] (.cond (.tmp 34) (.seq (.reg s147_4) .ret) .skip)))) (.keep [0, 1, 5] (.reg s147_5)))))))))) (.keep [] (.seq (.reg s147_6) .ret)))))
def c147 : FC := ⟨35, a147.erase, [.tmp 4]⟩
theorem comp147 : compF Tryz.prog Tryz.f147 = some c147 := by kernel_rfl
theorem era147 : c147.code = a147.erase := rfl
end Go.Proofs.YtklncofkcfjkeaaGreatDoor
