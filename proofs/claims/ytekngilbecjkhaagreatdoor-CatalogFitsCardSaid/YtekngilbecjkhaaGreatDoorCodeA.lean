
/- The compiled code of functions, printed by a program of mine. -/
import Derived.Test.YtekngilbecjkhaaGreatDoorGi
import Derived.Test.YtekngilbecjkhaaGreatDoorRows
set_option linter.unusedVariables false
namespace Go.Proofs.YtekngilbecjkhaaGreatDoor
open Go.Sx
def s3_0 : List CI := [q0 1 (.box 25 (.tmp 0)), q0 2 (.mv kF)]
def s3_1 : List CI := [q0 3 (.load true 4 (.tmp 1)), q0 4 (.call 10 [.tmp 3]), q0 5 (.un .not (.tmp 4)), q0 6 (.mv (.tmp 5)), q1 7 (.load true 4 (.tmp 1)) 6 false, q1 8 (.call 11 [.tmp 7]) 6 false, q1 9 (.load true 4 (.tmp 1)) 6 false, q1 10 (.call 12 [.tmp 9]) 6 false, q1 11 (.bin .eql (.tmp 8) (.tmp 10)) 6 false, q1 12 (.mv (.tmp 11)) 6 false, q1 13 (.call 13 []) 12 true, q1 14 (.pick (.tmp 12) (.tmp 13) kF) 6 false, q0 15 (.pick (.tmp 6) kT (.tmp 14)), q0 2 (.mv (.tmp 15))]
def a3 : AC := (.seq (.reg s3_0) (.keep [1] (.seq (.dreg s3_1) .ret)))
def c3 : FC := ⟨16, a3.erase, [.tmp 2]⟩
def s4_0 : List CI := [q0 2 (.box 25 (.tmp 0)), q0 3 (.box 37 (.tmp 1)), q0 4 (.mv kF)]
def s4_1 : List CI := [q0 9 (.load true 4 (.tmp 2)), q0 10 (.call 10 [.tmp 9]), q0 11 (.un .not (.tmp 10)), q0 12 (.mv (.tmp 11)), q1 13 (.load true 12 (.tmp 3)) 12 false, q1 14 (.call 14 [.tmp 13, ki 500]) 12 false, q1 15 (.bin .gtr (.tmp 14) (ki 500)) 12 false, q0 16 (.pick (.tmp 12) kT (.tmp 15))]
def s4_2 : List CI := [q0 4 (.mv kT)]
def s4_3 : List CI := [q0 18 (.load true 4 (.tmp 2)), q0 19 (.load true 12 (.tmp 3)), q0 20 (.call 15 [.tmp 18, .tmp 19]), q0 17 (.mv (.tmp 20)), q0 21 (.extract (.tmp 17) 0), q0 22 (.extract (.tmp 17) 1), q0 5 (.mv (.tmp 21)), q0 6 (.mv (.tmp 22))]
def s4_4 : List CI := [q0 24 (.load true 4 (.tmp 2)), q0 25 (.load true 12 (.tmp 3)), q0 26 (.call 16 [.tmp 24, .tmp 25]), q0 23 (.mv (.tmp 26)), q0 27 (.extract (.tmp 23) 0), q0 28 (.extract (.tmp 23) 1), q0 7 (.mv (.tmp 27)), q0 8 (.mv (.tmp 28))]
def s4_5 : List CI := [q0 29 (.mv (.tmp 5)), q0 30 (.mv (.tmp 7)), q0 31 (.call 17 [.tmp 29, .tmp 30]), q0 32 (.mv (.tmp 31)), q1 33 (.mv (.tmp 6)) 32 true, q1 34 (.mv (.tmp 8)) 32 true, q1 35 (.call 17 [.tmp 33, .tmp 34]) 32 true, q0 36 (.pick (.tmp 32) (.tmp 35) kF), q0 37 (.mv (.tmp 36)), q1 38 (.call 13 []) 37 true, q0 39 (.pick (.tmp 37) (.tmp 38) kF), q0 4 (.mv (.tmp 39))]
def a4 : AC := (.seq (.reg s4_0) (.keep [2, 3] (.seq (.seq (.reg s4_1) (.keep [2, 3, 16] (.cond (.tmp 16) (.seq (.reg s4_2) .ret) .skip))) (.keep [2, 3] (.seq (.reg s4_3) (.keep [2, 3, 5, 6] (.seq (.reg s4_4) (.keep [5, 6, 7, 8] (.seq (.reg s4_5) .ret)))))))))
def s5_0 : List CI := [q0 1 (.box 25 (.tmp 0)), q0 2 (.mv kF)]
def s5_1 : List CI := [q0 3 (.load true 4 (.tmp 1)), q0 4 (.call 10 [.tmp 3]), q0 5 (.un .not (.tmp 4)), q0 6 (.mv (.tmp 5)), q1 7 (.load true 4 (.tmp 1)) 6 false, q1 8 (.call 18 [.tmp 7]) 6 false, q1 9 (.load true 4 (.tmp 1)) 6 false, q1 10 (.call 19 [.tmp 9]) 6 false, q1 11 (.call 17 [.tmp 8, .tmp 10]) 6 false, q1 12 (.mv (.tmp 11)) 6 false, q1 13 (.load true 4 (.tmp 1)) 12 true, q1 14 (.call 20 [.tmp 13]) 12 true, q1 15 (.load true 4 (.tmp 1)) 12 true, q1 16 (.call 21 [.tmp 15]) 12 true, q1 17 (.call 17 [.tmp 14, .tmp 16]) 12 true, q1 18 (.pick (.tmp 12) (.tmp 17) kF) 6 false, q1 19 (.mv (.tmp 18)) 6 false, q1 20 (.call 13 []) 19 true, q1 21 (.pick (.tmp 19) (.tmp 20) kF) 6 false, q0 22 (.pick (.tmp 6) kT (.tmp 21)), q0 2 (.mv (.tmp 22))]
def a5 : AC := (.seq (.reg s5_0) (.keep [1] (.seq (.dreg s5_1) .ret)))
def s6_0 : List CI := [q0 2 (.box 25 (.tmp 0)), q0 3 (.box 37 (.tmp 1)), q0 4 (.mv kF)]
def s6_1 : List CI := [q0 21 (.load true 4 (.tmp 2)), q0 22 (.call 10 [.tmp 21]), q0 23 (.un .not (.tmp 22)), q0 24 (.mv (.tmp 23)), q1 25 (.load true 12 (.tmp 3)) 24 false, q1 26 (.call 14 [.tmp 25, ki 500]) 24 false, q1 27 (.bin .gtr (.tmp 26) (ki 500)) 24 false, q0 28 (.pick (.tmp 24) kT (.tmp 27))]
def s6_2 : List CI := [q0 4 (.mv kT)]
def s6_3 : List CI := [q0 30 (.load true 4 (.tmp 2)), q0 31 (.load true 12 (.tmp 3)), q0 32 (.call 15 [.tmp 30, .tmp 31]), q0 29 (.mv (.tmp 32)), q0 33 (.extract (.tmp 29) 0), q0 34 (.extract (.tmp 29) 1), q0 5 (.mv (.tmp 33)), q0 6 (.mv (.tmp 34))]
def s6_4 : List CI := [q0 36 (.load true 12 (.tmp 3)), q0 37 (.call 22 [.tmp 36, .const (.slice none 0 0), .const (.slice none 0 0)]), q0 35 (.mv (.tmp 37)), q0 38 (.extract (.tmp 35) 0), q0 39 (.extract (.tmp 35) 1), q0 7 (.mv (.tmp 38)), q0 8 (.mv (.tmp 39))]
def s6_5 : List CI := [q0 40 (.mv (.tmp 7)), q0 41 (.mv (.tmp 5)), q0 42 (.call 23 [.tmp 40, .tmp 41]), q0 43 (.un .not (.tmp 42)), q0 44 (.mv (.tmp 43)), q1 45 (.mv (.tmp 8)) 44 false, q1 46 (.mv (.tmp 6)) 44 false, q1 47 (.call 23 [.tmp 45, .tmp 46]) 44 false, q1 48 (.un .not (.tmp 47)) 44 false, q0 49 (.pick (.tmp 44) kT (.tmp 48)), q0 50 (.mv (.tmp 49)), q1 51 (.mv (.tmp 7)) 50 false, q1 52 (.len false (.tmp 51)) 50 false, q1 53 (.bin .eql (.tmp 52) (ki 0)) 50 false, q1 54 (.mv (.tmp 53)) 50 false, q1 55 (.mv (.tmp 5)) 54 true, q1 56 (.len false (.tmp 55)) 54 true, q1 57 (.bin .neq (.tmp 56) (ki 0)) 54 true, q1 58 (.mv (.tmp 57)) 54 true, q1 59 (.mv (.tmp 6)) 58 false, q1 60 (.len false (.tmp 59)) 58 false, q1 61 (.mv (.tmp 8)) 58 false, q1 62 (.len false (.tmp 61)) 58 false, q1 63 (.bin .neq (.tmp 60) (.tmp 62)) 58 false, q1 64 (.pick (.tmp 58) kT (.tmp 63)) 54 true, q1 65 (.pick (.tmp 54) (.tmp 64) kF) 50 false, q0 66 (.pick (.tmp 50) kT (.tmp 65))]
def s6_6 : List CI := [q0 4 (.mv kF)]
def s6_7 : List CI := [q0 9 (.mv (ki 0))]
def s6_8 : List CI := [q0 67 (.mv (.tmp 9)), q0 68 (.mv (.tmp 5)), q0 69 (.len false (.tmp 68)), q0 70 (.bin .lss (.tmp 67) (.tmp 69))]
def s6_9 : List CD := [.mk 0 (q0 74 (.load true 4 (.tmp 2))) [], .mk 1 (q0 75 (.mv (.tmp 5))) [], .mk 2 (q0 76 (.mv (.tmp 9))) [], .mk 3 (q0 77 (.iaddr 1 (.tmp 75) (.tmp 76))) [], .mk 4 (q0 78 (.load false 1 (.tmp 77))) [], .mk 5 (q0 79 (.call 24 [.tmp 74, .tmp 78])) [], .mk 6 (q0 73 (.mv (.tmp 79))) [], .mk 7 (q0 80 (.extract (.tmp 73) 0)) [], .mk 8 (q0 81 (.extract (.tmp 73) 1)) [], .mk 9 (q0 10 (.alloc 49 (.agg #[.string ⟨#[]⟩, .string ⟨#[]⟩, .int .i64 0, .slice none 0 0, .string ⟨#[]⟩, .int .i64 0, .string ⟨#[]⟩, .string ⟨#[]⟩, .string ⟨#[]⟩, .int .i64 0, .int .i64 0, .string ⟨#[]⟩, .slice none 0 0, .int .i64 0, .int .i64 0, .int .i64 0, .slice none 0 0, .int .i64 0]))) [], .mk 10 (.mk none (.store 18 (.tmp 10) (.tmp 80)) none) [10], .mk 11 (q0 11 (.mv (.tmp 81))) []]
def s6_10 : List CI := [q0 82 (.mv (.tmp 11)), q0 83 (.un .not (.tmp 82))]
def s6_11 : List CI := [q0 85 (.load true 4 (.tmp 2)), q0 86 (.faddr 5 (.tmp 10)), q0 87 (.load true 12 (.tmp 86)), q0 88 (.call 15 [.tmp 85, .tmp 87]), q0 84 (.mv (.tmp 88)), q0 89 (.extract (.tmp 84) 0), q0 90 (.extract (.tmp 84) 1), q0 12 (.mv (.tmp 89)), q0 13 (.mv (.tmp 90))]
def s6_12 : List CI := [q0 91 (.mv (.tmp 12)), q0 92 (.mv (.tmp 5)), q0 93 (.call 23 [.tmp 91, .tmp 92]), q0 94 (.un .not (.tmp 93)), q0 95 (.mv (.tmp 94)), q1 96 (.mv (.tmp 13)) 95 false, q1 97 (.mv (.tmp 6)) 95 false, q1 98 (.call 23 [.tmp 96, .tmp 97]) 95 false, q1 99 (.un .not (.tmp 98)) 95 false, q0 100 (.pick (.tmp 95) kT (.tmp 99))]
def s6_13 : List CI := [q0 4 (.mv kF)]
def s6_14 : List CI := [q0 71 (.mv (.tmp 9)), q0 72 (.bin .add (.tmp 71) (ki 1)), q0 9 (.mv (.tmp 72))]
def s6_15 : List CI := [q0 14 (.mv (ki 0))]
def s6_16 : List CI := [q0 101 (.mv (.tmp 14)), q0 102 (.mv (.tmp 5)), q0 103 (.len false (.tmp 102)), q0 104 (.bin .lss (.tmp 101) (.tmp 103))]
def s6_17 : List CI := [q0 107 (.mv (.tmp 7)), q0 108 (.mv (.tmp 5)), q0 109 (.mv (.tmp 14)), q0 110 (.iaddr 1 (.tmp 108) (.tmp 109)), q0 111 (.load false 1 (.tmp 110)), q0 112 (.call 25 [.tmp 107, .tmp 111]), q0 15 (.mv (.tmp 112))]
def s6_18 : List CI := [q0 16 (.mv (ki 0))]
def s6_19 : List CI := [q0 113 (.mv (.tmp 16)), q0 114 (.mv (.tmp 5)), q0 115 (.len false (.tmp 114)), q0 116 (.bin .lss (.tmp 113) (.tmp 115)), q0 117 (.mv (.tmp 116)), q1 118 (.mv (.tmp 15)) 117 true, q1 119 (.un .not (.tmp 118)) 117 true, q0 120 (.pick (.tmp 117) (.tmp 119) kF)]
def s6_20 : List CD := [.mk 0 (q0 124 (.load true 4 (.tmp 2))) [], .mk 1 (q0 125 (.mv (.tmp 5))) [], .mk 2 (q0 126 (.mv (.tmp 16))) [], .mk 3 (q0 127 (.iaddr 1 (.tmp 125) (.tmp 126))) [], .mk 4 (q0 128 (.load false 1 (.tmp 127))) [], .mk 5 (q0 129 (.call 24 [.tmp 124, .tmp 128])) [], .mk 6 (q0 123 (.mv (.tmp 129))) [], .mk 7 (q0 130 (.extract (.tmp 123) 0)) [], .mk 8 (q0 131 (.extract (.tmp 123) 1)) [], .mk 9 (q0 17 (.alloc 49 (.agg #[.string ⟨#[]⟩, .string ⟨#[]⟩, .int .i64 0, .slice none 0 0, .string ⟨#[]⟩, .int .i64 0, .string ⟨#[]⟩, .string ⟨#[]⟩, .string ⟨#[]⟩, .int .i64 0, .int .i64 0, .string ⟨#[]⟩, .slice none 0 0, .int .i64 0, .int .i64 0, .int .i64 0, .slice none 0 0, .int .i64 0]))) [], .mk 10 (.mk none (.store 18 (.tmp 17) (.tmp 130)) none) [17], .mk 11 (q0 18 (.mv (.tmp 131))) []]
def s6_21 : List CI := [q0 133 (.faddr 5 (.tmp 17)), q0 134 (.load true 12 (.tmp 133)), q0 135 (.call 22 [.tmp 134, .const (.slice none 0 0), .const (.slice none 0 0)]), q0 132 (.mv (.tmp 135)), q0 136 (.extract (.tmp 132) 0), q0 137 (.extract (.tmp 132) 1), q0 19 (.mv (.tmp 136)), q0 20 (.mv (.tmp 137))]
def s6_22 : List CI := [q0 138 (.mv (.tmp 18)), q0 139 (.mv (.tmp 138)), q1 140 (.mv (.tmp 19)) 139 true, q1 141 (.mv (.tmp 5)) 139 true, q1 142 (.mv (.tmp 14)) 139 true, q1 143 (.iaddr 1 (.tmp 141) (.tmp 142)) 139 true, q1 144 (.load false 1 (.tmp 143)) 139 true, q1 145 (.call 25 [.tmp 140, .tmp 144]) 139 true, q0 146 (.pick (.tmp 139) (.tmp 145) kF), q0 15 (.mv (.tmp 146))]
def s6_23 : List CI := [q0 121 (.mv (.tmp 16)), q0 122 (.bin .add (.tmp 121) (ki 1)), q0 16 (.mv (.tmp 122))]
def s6_24 : List CI := [q0 147 (.mv (.tmp 15)), q0 148 (.un .not (.tmp 147))]
def s6_25 : List CI := [q0 4 (.mv kF)]
def s6_26 : List CI := [q0 105 (.mv (.tmp 14)), q0 106 (.bin .add (.tmp 105) (ki 1)), q0 14 (.mv (.tmp 106))]
def s6_27 : List CI := [q0 149 (.call 13 []), q0 4 (.mv (.tmp 149))]
def a6 : AC := (.seq (.reg s6_0) (.keep [2, 3] (.seq (.seq (.reg s6_1) (.keep [2, 3, 28] (.cond (.tmp 28) (.seq (.reg s6_2) .ret) .skip))) (.keep [2, 3] (.seq (.reg s6_3) (.keep [2, 3, 5, 6] (.seq (.reg s6_4) (.keep [2, 5, 6, 7, 8] (.seq (.seq (.reg s6_5) (.keep [2, 5, 6, 7, 66] (.cond (.tmp 66) (.seq (.reg s6_6) .ret) .skip))) (.keep [2, 5, 6, 7] (.seq (.seq (.reg s6_7) (.keep [2, 5, 6, 7, 9] (.block 0 (.loop (.keep [2, 5, 6, 7, 9] (.seq (.seq (.reg s6_8) (.keep [2, 5, 6, 7, 9, 70] (.cond (.tmp 70) .skip (.exit 0)))) (.keep [2, 5, 6, 7, 9] (.seq (.block 1 (.seq (.mreg [10] s6_9) (.keep [2, 5, 6, 7, 9, 10, 11] (.seq (.seq (.reg s6_10) (.keep [2, 5, 6, 7, 9, 10, 83] (.cond (.tmp 83) (.exit 1) .skip))) (.keep [2, 5, 6, 7, 9, 10] (.seq (.reg s6_11) (.keep [2, 5, 6, 7, 9, 12, 13] (.seq (.reg s6_12) (.keep [2, 5, 6, 7, 9, 100] (.cond (.tmp 100) (.seq (.reg s6_13) .ret) .skip)))))))))) (.keep [2, 5, 6, 7, 9] (.reg s6_14)))))))))) (.keep [2, 5, 7] (.seq (.seq (.reg s6_15) (.keep [2, 5, 7, 14] (.block 2 (.loop (.keep [2, 5, 7, 14] (.seq (.seq (.reg s6_16) (.keep [2, 5, 7, 14, 104] (.cond (.tmp 104) .skip (.exit 2)))) (.keep [2, 5, 7, 14] (.seq (.block 3 (.seq (.reg s6_17) (.keep [2, 5, 7, 14, 15] (.seq (.seq (.reg s6_18) (.keep [2, 5, 7, 14, 15, 16] (.block 4 (.loop (.keep [2, 5, 7, 14, 15, 16] (.seq (.seq (.reg s6_19) (.keep [2, 5, 7, 14, 15, 16, 120] (.cond (.tmp 120) .skip (.exit 4)))) (.keep [2, 5, 7, 14, 16] (.seq (.block 5 (.seq (.mreg [17] s6_20) (.keep [2, 5, 7, 14, 16, 17, 18] (.seq (.reg s6_21) (.keep [2, 5, 7, 14, 16, 18, 19] (.reg s6_22)))))) (.keep [2, 5, 7, 14, 15, 16] (.reg s6_23)))))))))) (.keep [2, 5, 7, 14, 15] (.seq (.reg s6_24) (.keep [2, 5, 7, 14, 148] (.cond (.tmp 148) (.seq (.reg s6_25) .ret) .skip)))))))) (.keep [2, 5, 7, 14] (.reg s6_26)))))))))) (.keep [] (.seq (.reg s6_27) .ret)))))))))))))))
def s7_0 : List CI := [q0 1 (.box 25 (.tmp 0)), q0 2 (.mv kF)]
def s7_1 : List CI := [q0 19 (.load true 4 (.tmp 1)), q0 20 (.call 10 [.tmp 19]), q0 21 (.un .not (.tmp 20))]
def s7_2 : List CI := [q0 2 (.mv kT)]
def s7_3 : List CI := [q0 22 (.load true 4 (.tmp 1)), q0 23 (.call 20 [.tmp 22]), q0 3 (.mv (.tmp 23))]
def s7_4 : List CI := [q0 4 (.mv (.const (.slice none 0 0)))]
def s7_5 : List CI := [q0 5 (.mv (ki 0))]
def s7_6 : List CI := [q0 24 (.mv (.tmp 5)), q0 25 (.mv (.tmp 3)), q0 26 (.len false (.tmp 25)), q0 27 (.bin .lss (.tmp 24) (.tmp 26))]
def s7_7 : List CD := [.mk 0 (q0 31 (.load true 4 (.tmp 1))) [], .mk 1 (q0 32 (.mv (.tmp 3))) [], .mk 2 (q0 33 (.mv (.tmp 5))) [], .mk 3 (q0 34 (.iaddr 1 (.tmp 32) (.tmp 33))) [], .mk 4 (q0 35 (.load false 1 (.tmp 34))) [], .mk 5 (q0 36 (.call 24 [.tmp 31, .tmp 35])) [], .mk 6 (q0 30 (.mv (.tmp 36))) [], .mk 7 (q0 37 (.extract (.tmp 30) 0)) [], .mk 8 (q0 38 (.extract (.tmp 30) 1)) [], .mk 9 (q0 6 (.alloc 49 (.agg #[.string ⟨#[]⟩, .string ⟨#[]⟩, .int .i64 0, .slice none 0 0, .string ⟨#[]⟩, .int .i64 0, .string ⟨#[]⟩, .string ⟨#[]⟩, .string ⟨#[]⟩, .int .i64 0, .int .i64 0, .string ⟨#[]⟩, .slice none 0 0, .int .i64 0, .int .i64 0, .int .i64 0, .slice none 0 0, .int .i64 0]))) [], .mk 10 (.mk none (.store 18 (.tmp 6) (.tmp 37)) none) [6], .mk 11 (q0 7 (.mv (.tmp 38))) []]
def s7_8 : List CI := [q0 40 (.load true 4 (.tmp 1)), q0 41 (.faddr 5 (.tmp 6)), q0 42 (.load true 12 (.tmp 41)), q0 43 (.call 15 [.tmp 40, .tmp 42]), q0 39 (.mv (.tmp 43)), q0 44 (.extract (.tmp 39) 0), q0 45 (.extract (.tmp 39) 1), q0 8 (.mv (.tmp 44)), q0 9 (.mv (.tmp 45))]
def s7_9 : List CI := [q0 46 (.mv (.tmp 7)), q0 47 (.un .not (.tmp 46)), q0 48 (.mv (.tmp 47)), q1 49 (.mv (.tmp 4)) 48 false, q1 50 (.mv (.tmp 3)) 48 false, q1 51 (.mv (.tmp 5)) 48 false, q1 52 (.iaddr 1 (.tmp 50) (.tmp 51)) 48 false, q1 53 (.load false 1 (.tmp 52)) 48 false, q1 54 (.call 25 [.tmp 49, .tmp 53]) 48 false, q0 55 (.pick (.tmp 48) kT (.tmp 54)), q0 56 (.mv (.tmp 55)), q1 57 (.mv (.tmp 8)) 56 false, q1 58 (.mv (.tmp 3)) 56 false, q1 59 (.mv (.tmp 5)) 56 false, q1 60 (.iaddr 1 (.tmp 58) (.tmp 59)) 56 false, q1 61 (.load false 1 (.tmp 60)) 56 false, q1 62 (.call 25 [.tmp 57, .tmp 61]) 56 false, q0 63 (.pick (.tmp 56) kT (.tmp 62))]
def s7_10 : List CI := [q0 2 (.mv kF)]
def s7_11 : List CI := [q0 10 (.mv (ki 0))]
def s7_12 : List CI := [q0 64 (.mv (.tmp 10)), q0 65 (.mv (.tmp 8)), q0 66 (.len false (.tmp 65)), q0 67 (.bin .lss (.tmp 64) (.tmp 66))]
def s7_13 : List CD := [.mk 0 (q0 71 (.load true 4 (.tmp 1))) [], .mk 1 (q0 72 (.mv (.tmp 8))) [], .mk 2 (q0 73 (.mv (.tmp 10))) [], .mk 3 (q0 74 (.iaddr 1 (.tmp 72) (.tmp 73))) [], .mk 4 (q0 75 (.load false 1 (.tmp 74))) [], .mk 5 (q0 76 (.call 24 [.tmp 71, .tmp 75])) [], .mk 6 (q0 70 (.mv (.tmp 76))) [], .mk 7 (q0 77 (.extract (.tmp 70) 0)) [], .mk 8 (q0 78 (.extract (.tmp 70) 1)) [], .mk 9 (q0 11 (.alloc 49 (.agg #[.string ⟨#[]⟩, .string ⟨#[]⟩, .int .i64 0, .slice none 0 0, .string ⟨#[]⟩, .int .i64 0, .string ⟨#[]⟩, .string ⟨#[]⟩, .string ⟨#[]⟩, .int .i64 0, .int .i64 0, .string ⟨#[]⟩, .slice none 0 0, .int .i64 0, .int .i64 0, .int .i64 0, .slice none 0 0, .int .i64 0]))) [], .mk 10 (.mk none (.store 18 (.tmp 11) (.tmp 77)) none) [11], .mk 11 (q0 12 (.mv (.tmp 78))) []]
def s7_14 : List CI := [q0 79 (.mv (.tmp 12)), q0 80 (.mv (.tmp 79)), q1 81 (.mv (.tmp 4)) 80 true, q1 82 (.mv (.tmp 8)) 80 true, q1 83 (.mv (.tmp 10)) 80 true, q1 84 (.iaddr 1 (.tmp 82) (.tmp 83)) 80 true, q1 85 (.load false 1 (.tmp 84)) 80 true, q1 86 (.call 25 [.tmp 81, .tmp 85]) 80 true, q1 87 (.un .not (.tmp 86)) 80 true, q0 88 (.pick (.tmp 80) (.tmp 87) kF)]
def s7_15 : List CI := [q0 2 (.mv kF)]
def s7_16 : List CI := [q0 68 (.mv (.tmp 10)), q0 69 (.bin .add (.tmp 68) (ki 1)), q0 10 (.mv (.tmp 69))]
def s7_17 : List CI := [q0 89 (.mv (.tmp 4)), q0 90 (.mv (.tmp 3)), q0 91 (.mv (.tmp 5)), q0 92 (.iaddr 1 (.tmp 90) (.tmp 91)), q0 93 (.load false 1 (.tmp 92)), q0 94 (.mksl 9 1 [.tmp 93]), q0 95 (.append 9 1 16 [.string ⟨#[]⟩] (.tmp 89) (.tmp 94)), q0 4 (.mv (.tmp 95))]
def s7_18 : List CI := [q0 28 (.mv (.tmp 5)), q0 29 (.bin .add (.tmp 28) (ki 1)), q0 5 (.mv (.tmp 29))]
def s7_19 : List CI := [q0 96 (.load true 4 (.tmp 1)), q0 97 (.call 18 [.tmp 96]), q0 13 (.mv (.tmp 97))]
def s7_20 : List CI := [q0 98 (.mv (.tmp 3)), q0 99 (.len false (.tmp 98)), q0 100 (.load true 4 (.tmp 1)), q0 101 (.call 26 [.tmp 100]), q0 102 (.len false (.tmp 101)), q0 103 (.bin .eql (.tmp 99) (.tmp 102)), q0 104 (.mv (.tmp 13)), q0 105 (.len false (.tmp 104)), q0 106 (.bin .eql (.tmp 105) (ki 0)), q0 107 (.eqb true .bool (.tmp 103) (.tmp 106))]
def s7_21 : List CI := [q0 2 (.mv kF)]
def s7_22 : List CI := [q0 14 (.mv (ki 0))]
def s7_23 : List CI := [q0 108 (.mv (.tmp 14)), q0 109 (.mv (.tmp 13)), q0 110 (.len false (.tmp 109)), q0 111 (.bin .lss (.tmp 108) (.tmp 110))]
def s7_24 : List CD := [.mk 0 (q0 115 (.load true 4 (.tmp 1))) [], .mk 1 (q0 116 (.mv (.tmp 13))) [], .mk 2 (q0 117 (.mv (.tmp 14))) [], .mk 3 (q0 118 (.iaddr 1 (.tmp 116) (.tmp 117))) [], .mk 4 (q0 119 (.load false 1 (.tmp 118))) [], .mk 5 (q0 120 (.call 24 [.tmp 115, .tmp 119])) [], .mk 6 (q0 114 (.mv (.tmp 120))) [], .mk 7 (q0 121 (.extract (.tmp 114) 0)) [], .mk 8 (q0 122 (.extract (.tmp 114) 1)) [], .mk 9 (q0 15 (.alloc 49 (.agg #[.string ⟨#[]⟩, .string ⟨#[]⟩, .int .i64 0, .slice none 0 0, .string ⟨#[]⟩, .int .i64 0, .string ⟨#[]⟩, .string ⟨#[]⟩, .string ⟨#[]⟩, .int .i64 0, .int .i64 0, .string ⟨#[]⟩, .slice none 0 0, .int .i64 0, .int .i64 0, .int .i64 0, .slice none 0 0, .int .i64 0]))) [], .mk 10 (.mk none (.store 18 (.tmp 15) (.tmp 121)) none) [15], .mk 11 (q0 16 (.mv (.tmp 122))) []]
def s7_25 : List CI := [q0 124 (.faddr 5 (.tmp 15)), q0 125 (.load true 12 (.tmp 124)), q0 126 (.call 22 [.tmp 125, .const (.slice none 0 0), .const (.slice none 0 0)]), q0 123 (.mv (.tmp 126)), q0 127 (.extract (.tmp 123) 0), q0 128 (.extract (.tmp 123) 1), q0 17 (.mv (.tmp 127)), q0 18 (.mv (.tmp 128))]
def s7_26 : List CI := [q0 129 (.mv (.tmp 16)), q0 130 (.un .not (.tmp 129)), q0 131 (.mv (.tmp 130)), q1 132 (.mv (.tmp 17)) 131 false, q1 133 (.mv (.tmp 13)) 131 false, q1 134 (.mv (.tmp 14)) 131 false, q1 135 (.bin .add (.tmp 134) (ki 1)) 131 false, q1 136 (.mv (.tmp 13)) 131 false, q1 137 (.len false (.tmp 136)) 131 false, q1 138 (.bin .rem (.tmp 135) (.tmp 137)) 131 false, q1 139 (.iaddr 1 (.tmp 133) (.tmp 138)) 131 false, q1 140 (.load false 1 (.tmp 139)) 131 false, q1 141 (.call 25 [.tmp 132, .tmp 140]) 131 false, q1 142 (.un .not (.tmp 141)) 131 false, q0 143 (.pick (.tmp 131) kT (.tmp 142)), q0 144 (.mv (.tmp 143)), q1 145 (.mv (.tmp 14)) 144 false, q1 146 (.bin .gtr (.tmp 145) (ki 0)) 144 false, q1 147 (.mv (.tmp 146)) 144 false, q1 148 (.mv (.tmp 13)) 147 true, q1 149 (.mv (.tmp 14)) 147 true, q1 150 (.iaddr 1 (.tmp 148) (.tmp 149)) 147 true, q1 151 (.load false 1 (.tmp 150)) 147 true, q1 152 (.mv (.tmp 13)) 147 true, q1 153 (.iaddr 1 (.tmp 152) (ki 0)) 147 true, q1 154 (.load false 1 (.tmp 153)) 147 true, q1 155 (.bin .leq (.tmp 151) (.tmp 154)) 147 true, q1 156 (.pick (.tmp 147) (.tmp 155) kF) 144 false, q0 157 (.pick (.tmp 144) kT (.tmp 156))]
def s7_27 : List CI := [q0 2 (.mv kF)]
def s7_28 : List CI := [q0 112 (.mv (.tmp 14)), q0 113 (.bin .add (.tmp 112) (ki 1)), q0 14 (.mv (.tmp 113))]
def s7_29 : List CI := [q0 158 (.call 13 []), q0 2 (.mv (.tmp 158))]
def a7 : AC := (.seq (.reg s7_0) (.keep [1] (.seq (.seq (.reg s7_1) (.keep [1, 21] (.cond (.tmp 21) (.seq (.reg s7_2) .ret) .skip))) (.keep [1] (.seq (.reg s7_3) (.keep [1, 3] (.seq (.reg s7_4) (.keep [1, 3, 4] (.seq (.seq (.reg s7_5) (.keep [1, 3, 4, 5] (.block 0 (.loop (.keep [1, 3, 4, 5] (.seq (.seq (.reg s7_6) (.keep [1, 3, 4, 5, 27] (.cond (.tmp 27) .skip (.exit 0)))) (.keep [1, 3, 4, 5] (.seq (.block 1 (.seq (.mreg [6] s7_7) (.keep [1, 3, 4, 5, 6, 7] (.seq (.reg s7_8) (.keep [1, 3, 4, 5, 7, 8] (.seq (.seq (.reg s7_9) (.keep [1, 3, 4, 5, 8, 63] (.cond (.tmp 63) (.seq (.reg s7_10) .ret) .skip))) (.keep [1, 3, 4, 5, 8] (.seq (.seq (.reg s7_11) (.keep [1, 3, 4, 5, 8, 10] (.block 2 (.loop (.keep [1, 3, 4, 5, 8, 10] (.seq (.seq (.reg s7_12) (.keep [1, 3, 4, 5, 8, 10, 67] (.cond (.tmp 67) .skip (.exit 2)))) (.keep [1, 3, 4, 5, 8, 10] (.seq (.block 3 (.seq (.mreg [11] s7_13) (.keep [1, 3, 4, 5, 8, 10, 12] (.seq (.reg s7_14) (.keep [1, 3, 4, 5, 8, 10, 88] (.cond (.tmp 88) (.seq (.reg s7_15) .ret) .skip)))))) (.keep [1, 3, 4, 5, 8, 10] (.reg s7_16)))))))))) (.keep [1, 3, 4, 5] (.reg s7_17)))))))))) (.keep [1, 3, 4, 5] (.reg s7_18)))))))))) (.keep [1, 3] (.seq (.reg s7_19) (.keep [1, 3, 13] (.seq (.seq (.reg s7_20) (.keep [1, 13, 107] (.cond (.tmp 107) (.seq (.reg s7_21) .ret) .skip))) (.keep [1, 13] (.seq (.seq (.reg s7_22) (.keep [1, 13, 14] (.block 4 (.loop (.keep [1, 13, 14] (.seq (.seq (.reg s7_23) (.keep [1, 13, 14, 111] (.cond (.tmp 111) .skip (.exit 4)))) (.keep [1, 13, 14] (.seq (.block 5 (.seq (.mreg [15] s7_24) (.keep [1, 13, 14, 15, 16] (.seq (.reg s7_25) (.keep [1, 13, 14, 16, 17] (.seq (.dreg s7_26) (.keep [1, 13, 14, 157] (.cond (.tmp 157) (.seq (.reg s7_27) .ret) .skip)))))))) (.keep [1, 13, 14] (.reg s7_28)))))))))) (.keep [] (.seq (.reg s7_29) .ret)))))))))))))))))
def c7 : FC := ⟨159, a7.erase, [.tmp 2]⟩
def s8_0 : List CI := [q0 1 (.box 25 (.tmp 0)), q0 2 (.mv kF)]
def s8_1 : List CI := [q0 12 (.load true 4 (.tmp 1)), q0 13 (.call 10 [.tmp 12]), q0 14 (.un .not (.tmp 13)), q0 15 (.mv (.tmp 14)), q1 16 (.load true 4 (.tmp 1)) 15 false, q1 17 (.call 11 [.tmp 16]) 15 false, q1 18 (.bin .neq (.tmp 17) (ki 0)) 15 false, q0 19 (.pick (.tmp 15) kT (.tmp 18))]
def s8_2 : List CI := [q0 20 (.call 13 []), q0 2 (.mv (.tmp 20))]
def s8_3 : List CI := [q0 21 (.load true 4 (.tmp 1)), q0 22 (.call 20 [.tmp 21]), q0 23 (.len false (.tmp 22)), q0 24 (.faddr 1 (.tmp 1)), q0 25 (.load false 1 (.tmp 24)), q0 26 (.len false (.tmp 25)), q0 27 (.bin .neq (.tmp 23) (.tmp 26))]
def s8_4 : List CI := [q0 2 (.mv kF)]
def s8_5 : List CI := [q0 3 (.mv (ki 0))]
def s8_6 : List CI := [q0 28 (.mv (.tmp 3)), q0 29 (.faddr 1 (.tmp 1)), q0 30 (.load false 1 (.tmp 29)), q0 31 (.len false (.tmp 30)), q0 32 (.bin .lss (.tmp 28) (.tmp 31))]
def s8_7 : List CI := [q0 35 (.faddr 1 (.tmp 1)), q0 36 (.load false 1 (.tmp 35)), q0 37 (.mv (.tmp 3)), q0 38 (.iaddr 18 (.tmp 36) (.tmp 37)), q0 39 (.load true 18 (.tmp 38)), q0 4 (.alloc 49 (.agg #[.string ⟨#[]⟩, .string ⟨#[]⟩, .int .i64 0, .slice none 0 0, .string ⟨#[]⟩, .int .i64 0, .string ⟨#[]⟩, .string ⟨#[]⟩, .string ⟨#[]⟩, .int .i64 0, .int .i64 0, .string ⟨#[]⟩, .slice none 0 0, .int .i64 0, .int .i64 0, .int .i64 0, .slice none 0 0, .int .i64 0])), .mk none (.store 18 (.tmp 4) (.tmp 39)) none]
def s8_8 : List CI := [q0 41 (.load true 4 (.tmp 1)), q0 42 (.faddr 1 (.tmp 4)), q0 43 (.load false 1 (.tmp 42)), q0 44 (.faddr 5 (.tmp 4)), q0 45 (.load true 12 (.tmp 44)), q0 46 (.call 27 [.tmp 41, .tmp 43, .tmp 45]), q0 40 (.mv (.tmp 46)), q0 47 (.extract (.tmp 40) 0), q0 48 (.extract (.tmp 40) 1), q0 5 (.alloc 47 (.agg #[.int .i64 0, .slice none 0 0, .string ⟨#[]⟩])), .mk none (.store 3 (.tmp 5) (.tmp 47)) none, q0 6 (.mv (.tmp 48))]
def s8_9 : List CI := [q0 50 (.load true 4 (.tmp 1)), q0 51 (.faddr 5 (.tmp 4)), q0 52 (.load true 12 (.tmp 51)), q0 53 (.call 15 [.tmp 50, .tmp 52]), q0 49 (.mv (.tmp 53)), q0 54 (.extract (.tmp 49) 0), q0 55 (.extract (.tmp 49) 1), q0 7 (.mv (.tmp 54)), q0 8 (.mv (.tmp 55))]
def s8_10 : List CI := [q0 56 (.mv (.tmp 6)), q0 57 (.bin .neq (.tmp 56) (ki 0)), q0 58 (.mv (.tmp 57)), q1 59 (.load true 3 (.tmp 5)) 58 false, q1 60 (.faddr 2 (.tmp 4)) 58 false, q1 61 (.load true 3 (.tmp 60)) 58 false, q1 62 (.call 28 [.tmp 59, .tmp 61]) 58 false, q1 63 (.un .not (.tmp 62)) 58 false, q0 64 (.pick (.tmp 58) kT (.tmp 63))]
def s8_11 : List CI := [q0 2 (.mv kF)]
def s8_12 : List CI := [q0 9 (.mv (ki 0))]
def s8_13 : List CI := [q0 65 (.mv (.tmp 9)), q0 66 (.mv (.tmp 8)), q0 67 (.len false (.tmp 66)), q0 68 (.bin .lss (.tmp 65) (.tmp 67))]
def s8_14 : List CD := [.mk 0 (q0 72 (.load true 4 (.tmp 1))) [], .mk 1 (q0 73 (.mv (.tmp 8))) [], .mk 2 (q0 74 (.mv (.tmp 9))) [], .mk 3 (q0 75 (.iaddr 1 (.tmp 73) (.tmp 74))) [], .mk 4 (q0 76 (.load false 1 (.tmp 75))) [], .mk 5 (q0 77 (.call 29 [.tmp 72, .tmp 76])) [], .mk 6 (q0 71 (.mv (.tmp 77))) [], .mk 7 (q0 78 (.extract (.tmp 71) 0)) [], .mk 8 (q0 79 (.extract (.tmp 71) 1)) [], .mk 9 (q0 10 (.alloc 58 (.agg #[.string ⟨#[]⟩, .string ⟨#[]⟩, .slice none 0 0, .int .i64 0]))) [], .mk 10 (.mk none (.store 4 (.tmp 10) (.tmp 78)) none) [10], .mk 11 (q0 11 (.mv (.tmp 79))) []]
def s8_15 : List CI := [q0 80 (.mv (.tmp 11)), q0 81 (.un .not (.tmp 80))]
def s8_16 : List CI := [q0 2 (.mv kF)]
def s8_17 : List CI := [q0 69 (.mv (.tmp 9)), q0 70 (.bin .add (.tmp 69) (ki 1)), q0 9 (.mv (.tmp 70))]
def s8_18 : List CI := [q0 33 (.mv (.tmp 3)), q0 34 (.bin .add (.tmp 33) (ki 1)), q0 3 (.mv (.tmp 34))]
def s8_19 : List CI := [q0 82 (.call 13 []), q0 2 (.mv (.tmp 82))]
def a8 : AC := (.seq (.reg s8_0) (.keep [1] (.seq (.seq (.reg s8_1) (.keep [1, 19] (.cond (.tmp 19) (.seq (.reg s8_2) .ret) .skip))) (.keep [1] (.seq (.seq (.dreg s8_3) (.keep [1, 27] (.cond (.tmp 27) (.seq (.reg s8_4) .ret) .skip))) (.keep [1] (.seq (.seq (.reg s8_5) (.keep [1, 3] (.block 0 (.loop (.keep [1, 3] (.seq (.seq (.reg s8_6) (.keep [1, 3, 32] (.cond (.tmp 32) .skip (.exit 0)))) (.keep [1, 3] (.seq (.block 1 (.seq (.reg s8_7) (.keep [1, 3, 4] (.seq (.reg s8_8) (.keep [1, 3, 4, 5, 6] (.seq (.reg s8_9) (.keep [1, 3, 4, 5, 6, 8] (.seq (.seq (.reg s8_10) (.keep [1, 3, 8, 64] (.cond (.tmp 64) (.seq (.reg s8_11) .ret) .skip))) (.keep [1, 3, 8] (.seq (.reg s8_12) (.keep [1, 3, 8, 9] (.block 2 (.loop (.keep [1, 3, 8, 9] (.seq (.seq (.reg s8_13) (.keep [1, 3, 8, 9, 68] (.cond (.tmp 68) .skip (.exit 2)))) (.keep [1, 3, 8, 9] (.seq (.block 3 (.seq (.mreg [10] s8_14) (.keep [1, 3, 8, 9, 11] (.seq (.reg s8_15) (.keep [1, 3, 8, 9, 81] (.cond (.tmp 81) (.seq (.reg s8_16) .ret) .skip)))))) (.keep [1, 3, 8, 9] (.reg s8_17))))))))))))))))))) (.keep [1, 3] (.reg s8_18)))))))))) (.keep [] (.seq (.reg s8_19) .ret)))))))))
def c8 : FC := ⟨83, a8.erase, [.tmp 2]⟩
theorem comp8 : compF Tryz.prog Tryz.f8 = some c8 := by kernel_rfl
theorem era8 : c8.code = a8.erase := rfl
def s9_0 : List CI := [q0 2 (.box 25 (.tmp 0)), q0 4 (.mv kF)]
def s9_1 : List CI := [q0 17 (.load true 4 (.tmp 2)), q0 18 (.call 10 [.tmp 17]), q0 19 (.un .not (.tmp 18))]
def s9_2 : List CI := [q0 4 (.mv kT)]
def s9_3 : List CI := [q0 21 (.load true 4 (.tmp 2)), q0 22 (.mv (.tmp 1)), q0 23 (.call 29 [.tmp 21, .tmp 22]), q0 20 (.mv (.tmp 23)), q0 24 (.extract (.tmp 20) 0), q0 25 (.extract (.tmp 20) 1), q0 5 (.alloc 58 (.agg #[.string ⟨#[]⟩, .string ⟨#[]⟩, .slice none 0 0, .int .i64 0])), .mk none (.store 4 (.tmp 5) (.tmp 24)) none, q0 6 (.mv (.tmp 25))]
def s9_4 : List CI := [q0 27 (.load true 4 (.tmp 2)), q0 28 (.mv (.tmp 1)), q0 29 (.call 30 [.tmp 27, .tmp 28]), q0 26 (.mv (.tmp 29)), q0 30 (.extract (.tmp 26) 0), q0 31 (.extract (.tmp 26) 1), q0 7 (.alloc 58 (.agg #[.string ⟨#[]⟩, .string ⟨#[]⟩, .slice none 0 0, .int .i64 0])), .mk none (.store 4 (.tmp 7) (.tmp 30)) none, q0 8 (.mv (.tmp 31))]
def s9_5 : List CI := [q0 33 (.load true 4 (.tmp 2)), q0 34 (.mv (.tmp 1)), q0 35 (.call 24 [.tmp 33, .tmp 34]), q0 32 (.mv (.tmp 35)), q0 36 (.extract (.tmp 32) 0), q0 37 (.extract (.tmp 32) 1), q0 9 (.alloc 49 (.agg #[.string ⟨#[]⟩, .string ⟨#[]⟩, .int .i64 0, .slice none 0 0, .string ⟨#[]⟩, .int .i64 0, .string ⟨#[]⟩, .string ⟨#[]⟩, .string ⟨#[]⟩, .int .i64 0, .int .i64 0, .string ⟨#[]⟩, .slice none 0 0, .int .i64 0, .int .i64 0, .int .i64 0, .slice none 0 0, .int .i64 0])), .mk none (.store 18 (.tmp 9) (.tmp 36)) none, q0 10 (.mv (.tmp 37))]
def s9_6 : List CI := [q0 39 (.load true 4 (.tmp 2)), q0 40 (.mv (.tmp 1)), q0 41 (.call 31 [.tmp 39, .tmp 40]), q0 38 (.mv (.tmp 41)), q0 42 (.extract (.tmp 38) 0), q0 43 (.extract (.tmp 38) 1), q0 11 (.alloc 49 (.agg #[.string ⟨#[]⟩, .string ⟨#[]⟩, .int .i64 0, .slice none 0 0, .string ⟨#[]⟩, .int .i64 0, .string ⟨#[]⟩, .string ⟨#[]⟩, .string ⟨#[]⟩, .int .i64 0, .int .i64 0, .string ⟨#[]⟩, .slice none 0 0, .int .i64 0, .int .i64 0, .int .i64 0, .slice none 0 0, .int .i64 0])), .mk none (.store 18 (.tmp 11) (.tmp 42)) none, q0 12 (.mv (.tmp 43))]
def s9_7 : List CI := [q0 45 (.load true 4 (.tmp 2)), q0 46 (.mv (.tmp 1)), q0 47 (.call 32 [.tmp 45, .tmp 46]), q0 44 (.mv (.tmp 47)), q0 48 (.extract (.tmp 44) 0), q0 49 (.extract (.tmp 44) 1), q0 13 (.alloc 49 (.agg #[.string ⟨#[]⟩, .string ⟨#[]⟩, .int .i64 0, .slice none 0 0, .string ⟨#[]⟩, .int .i64 0, .string ⟨#[]⟩, .string ⟨#[]⟩, .string ⟨#[]⟩, .int .i64 0, .int .i64 0, .string ⟨#[]⟩, .slice none 0 0, .int .i64 0, .int .i64 0, .int .i64 0, .slice none 0 0, .int .i64 0])), .mk none (.store 18 (.tmp 13) (.tmp 48)) none, q0 14 (.mv (.tmp 49))]
def s9_8 : List CI := [q0 51 (.load true 4 (.tmp 2)), q0 52 (.mv (.tmp 1)), q0 53 (.call 33 [.tmp 51, .tmp 52]), q0 50 (.mv (.tmp 53)), q0 54 (.extract (.tmp 50) 0), q0 55 (.extract (.tmp 50) 1), q0 15 (.alloc 49 (.agg #[.string ⟨#[]⟩, .string ⟨#[]⟩, .int .i64 0, .slice none 0 0, .string ⟨#[]⟩, .int .i64 0, .string ⟨#[]⟩, .string ⟨#[]⟩, .string ⟨#[]⟩, .int .i64 0, .int .i64 0, .string ⟨#[]⟩, .slice none 0 0, .int .i64 0, .int .i64 0, .int .i64 0, .slice none 0 0, .int .i64 0])), .mk none (.store 18 (.tmp 15) (.tmp 54)) none, q0 16 (.mv (.tmp 55))]
def s9_9 : List CI := [q0 56 (.mv (.tmp 6)), q0 57 (.mv (.tmp 8)), q0 58 (.eqb false .bool (.tmp 56) (.tmp 57)), q0 59 (.mv (.tmp 58)), q1 60 (.mv (.tmp 10)) 59 true, q1 61 (.mv (.tmp 12)) 59 true, q1 62 (.eqb false .bool (.tmp 60) (.tmp 61)) 59 true, q0 63 (.pick (.tmp 59) (.tmp 62) kF), q0 64 (.mv (.tmp 63)), q1 65 (.mv (.tmp 14)) 64 true, q1 66 (.mv (.tmp 16)) 64 true, q1 67 (.eqb false .bool (.tmp 65) (.tmp 66)) 64 true, q0 68 (.pick (.tmp 64) (.tmp 67) kF), q0 69 (.mv (.tmp 68)), q1 70 (.load true 4 (.tmp 5)) 69 true, q1 71 (.load true 4 (.tmp 7)) 69 true, q1 72 (.call 34 [.tmp 70, .tmp 71]) 69 true, q0 73 (.pick (.tmp 69) (.tmp 72) kF), q0 74 (.mv (.tmp 73)), q1 75 (.load true 18 (.tmp 9)) 74 true, q1 76 (.load true 18 (.tmp 11)) 74 true, q1 77 (.call 35 [.tmp 75, .tmp 76]) 74 true, q0 78 (.pick (.tmp 74) (.tmp 77) kF), q0 79 (.mv (.tmp 78)), q1 80 (.load true 18 (.tmp 13)) 79 true, q1 81 (.load true 18 (.tmp 15)) 79 true, q1 82 (.call 35 [.tmp 80, .tmp 81]) 79 true, q0 83 (.pick (.tmp 79) (.tmp 82) kF), q0 84 (.mv (.tmp 83)), q1 85 (.call 13 []) 84 true, q0 86 (.pick (.tmp 84) (.tmp 85) kF), q0 4 (.mv (.tmp 86))]
def a9 : AC := (.seq (.reg s9_0) (.keep [1, 2] (.seq (.seq (.reg s9_1) (.keep [1, 2, 19] (.cond (.tmp 19) (.seq (.reg s9_2) .ret) .skip))) (.keep [1, 2] (.seq (.reg s9_3) (.keep [1, 2, 5, 6] (.seq (.reg s9_4) (.keep [1, 2, 5, 6, 7, 8] (.seq (.reg s9_5) (.keep [1, 2, 5, 6, 7, 8, 9, 10] (.seq (.reg s9_6) (.keep [1, 2, 5, 6, 7, 8, 9, 10, 11, 12] (.seq (.reg s9_7) (.keep [1, 2, 5, 6, 7, 8, 9, 10, 11, 12, 13, 14] (.seq (.reg s9_8) (.keep [5, 6, 7, 8, 9, 10, 11, 12, 13, 14, 15, 16] (.seq (.reg s9_9) .ret)))))))))))))))))
def s10_0 : List CI := [q0 1 (.box 25 (.tmp 0)), q0 2 (.mv kF)]
def s10_1 : List CI := [q0 6 (.faddr 0 (.tmp 1)), q0 7 (.load false 1 (.tmp 6)), q0 8 (.len false (.tmp 7)), q0 9 (.bin .gtr (.tmp 8) (ki 40)), q0 10 (.mv (.tmp 9)), q1 11 (.faddr 1 (.tmp 1)) 10 false, q1 12 (.load false 1 (.tmp 11)) 10 false, q1 13 (.len false (.tmp 12)) 10 false, q1 14 (.bin .gtr (.tmp 13) (ki 40)) 10 false, q0 15 (.pick (.tmp 10) kT (.tmp 14)), q0 16 (.mv (.tmp 15)), q1 17 (.faddr 2 (.tmp 1)) 16 false, q1 18 (.load false 1 (.tmp 17)) 16 false, q1 19 (.len false (.tmp 18)) 16 false, q1 20 (.bin .gtr (.tmp 19) (ki 40)) 16 false, q0 21 (.pick (.tmp 16) kT (.tmp 20)), q0 22 (.mv (.tmp 21)), q1 23 (.faddr 3 (.tmp 1)) 22 false, q1 24 (.load false 1 (.tmp 23)) 22 false, q1 25 (.len false (.tmp 24)) 22 false, q1 26 (.bin .gtr (.tmp 25) (ki 40)) 22 false, q0 27 (.pick (.tmp 22) kT (.tmp 26))]
def s10_2 : List CI := [q0 2 (.mv kF)]
def s10_3 : List CI := [q0 3 (.mv (ki 0))]
def s10_4 : List CD := [.mk 0 (q0 28 (.mksl 49 18 [])) [], .mk 1 (q0 29 (.faddr 1 (.tmp 1))) [], .mk 2 (q0 30 (.load false 1 (.tmp 29))) [], .mk 4 (q0 32 (.faddr 2 (.tmp 1))) [], .mk 5 (q0 33 (.load false 1 (.tmp 32))) [], .mk 7 (q0 35 (.faddr 3 (.tmp 1))) [], .mk 8 (q0 36 (.load false 1 (.tmp 35))) [], .mk 3 (q0 31 (.append 49 18 248 [.string ⟨#[]⟩, .string ⟨#[]⟩, .int .i64 0, .slice none 0 0, .string ⟨#[]⟩, .int .i64 0, .string ⟨#[]⟩, .string ⟨#[]⟩, .string ⟨#[]⟩, .int .i64 0, .int .i64 0, .string ⟨#[]⟩, .slice none 0 0, .int .i64 0, .int .i64 0, .int .i64 0, .slice none 0 0, .int .i64 0] (.tmp 28) (.tmp 30))) [], .mk 6 (q0 34 (.append 49 18 248 [.string ⟨#[]⟩, .string ⟨#[]⟩, .int .i64 0, .slice none 0 0, .string ⟨#[]⟩, .int .i64 0, .string ⟨#[]⟩, .string ⟨#[]⟩, .string ⟨#[]⟩, .int .i64 0, .int .i64 0, .string ⟨#[]⟩, .slice none 0 0, .int .i64 0, .int .i64 0, .int .i64 0, .slice none 0 0, .int .i64 0] (.tmp 31) (.tmp 33))) [], .mk 9 (q0 37 (.append 49 18 248 [.string ⟨#[]⟩, .string ⟨#[]⟩, .int .i64 0, .slice none 0 0, .string ⟨#[]⟩, .int .i64 0, .string ⟨#[]⟩, .string ⟨#[]⟩, .string ⟨#[]⟩, .int .i64 0, .int .i64 0, .string ⟨#[]⟩, .slice none 0 0, .int .i64 0, .int .i64 0, .int .i64 0, .slice none 0 0, .int .i64 0] (.tmp 34) (.tmp 36))) [], .mk 10 (q0 4 (.mv (.tmp 37))) []]
def s10_5 : List CI := [q0 5 (.mv (ki 0))]
def s10_6 : List CI := [q0 38 (.mv (.tmp 5)), q0 39 (.mv (.tmp 4)), q0 40 (.len false (.tmp 39)), q0 41 (.bin .lss (.tmp 38) (.tmp 40)), q0 42 (.mv (.tmp 41)), q1 43 (.mv (.tmp 3)) 42 true, q1 44 (.bin .leq (.tmp 43) (ki 2000)) 42 true, q0 45 (.pick (.tmp 42) (.tmp 44) kF)]
def s10_7 : List CI := [q0 48 (.mv (.tmp 3)), q0 49 (.mv (.tmp 4)), q0 50 (.mv (.tmp 5)), q0 51 (.iaddr 18 (.tmp 49) (.tmp 50)), q0 52 (.faddr 5 (.tmp 51)), q0 53 (.load true 12 (.tmp 52)), q0 54 (.mv (.tmp 3)), q0 55 (.bin .sub (ki 2000) (.tmp 54)), q0 56 (.call 14 [.tmp 53, .tmp 55]), q0 57 (.bin .add (.tmp 48) (.tmp 56)), q0 3 (.mv (.tmp 57))]
def s10_8 : List CI := [q0 46 (.mv (.tmp 5)), q0 47 (.bin .add (.tmp 46) (ki 1)), q0 5 (.mv (.tmp 47))]
def s10_9 : List CI := [q0 58 (.mv (.tmp 3)), q0 59 (.bin .leq (.tmp 58) (ki 2000)), q0 2 (.mv (.tmp 59))]
def a10 : AC := (.seq (.reg s10_0) (.keep [1] (.seq (.seq (.reg s10_1) (.keep [1, 27] (.cond (.tmp 27) (.seq (.reg s10_2) .ret) .skip))) (.keep [1] (.seq (.reg s10_3) (.keep [1, 3] (.seq (.mreg [31, 34, 37] s10_4) (.keep [3, 4] (.seq (.seq (.reg s10_5) (.keep [3, 4, 5] (.block 0 (.loop (.keep [3, 4, 5] (.seq (.seq (.reg s10_6) (.keep [3, 4, 5, 45] (.cond (.tmp 45) .skip (.exit 0)))) (.keep [3, 4, 5] (.seq (.block 1 (.reg s10_7)) (.keep [3, 4, 5] (.reg s10_8)))))))))) (.keep [3] (.seq (.reg s10_9) .ret)))))))))))
def c10 : FC := ⟨60, a10.erase, [.tmp 2]⟩
theorem comp10 : compF Tryz.prog Tryz.f10 = some c10 := by kernel_rfl
theorem era10 : c10.code = a10.erase := rfl
def s11_0 : List CI := [q0 1 (.box 25 (.tmp 0)), q0 2 (.mv (ki 0))]
def s11_1 : List CI := [q0 10 (.faddr 0 (.tmp 1)), q0 11 (.load false 1 (.tmp 10)), q0 12 (.len false (.tmp 11)), q0 13 (.bin .gtr (.tmp 12) (ki 16)), q0 14 (.mv (.tmp 13)), q1 15 (.faddr 1 (.tmp 1)) 14 false, q1 16 (.load false 1 (.tmp 15)) 14 false, q1 17 (.len false (.tmp 16)) 14 false, q1 18 (.bin .gtr (.tmp 17) (ki 32)) 14 false, q0 19 (.pick (.tmp 14) kT (.tmp 18)), q0 20 (.mv (.tmp 19)), q1 21 (.faddr 2 (.tmp 1)) 20 false, q1 22 (.load false 1 (.tmp 21)) 20 false, q1 23 (.len false (.tmp 22)) 20 false, q1 24 (.bin .gtr (.tmp 23) (ki 32)) 20 false, q0 25 (.pick (.tmp 20) kT (.tmp 24)), q0 26 (.mv (.tmp 25)), q1 27 (.faddr 3 (.tmp 1)) 26 false, q1 28 (.load false 1 (.tmp 27)) 26 false, q1 29 (.len false (.tmp 28)) 26 false, q1 30 (.bin .gtr (.tmp 29) (ki 32)) 26 false, q0 31 (.pick (.tmp 26) kT (.tmp 30))]
def s11_2 : List CI := [q0 2 (.mv (ki 2))]
def s11_3 : List CI := [q0 32 (.faddr 0 (.tmp 1)), q0 33 (.load false 1 (.tmp 32)), q0 34 (.len false (.tmp 33)), q0 35 (.mv (ki 0))]
def s11_4 : List CI := [q0 36 (.bin .lss (.tmp 35) (.tmp 34))]
def s11_5 : List CI := [q0 37 (.mv (.tmp 35)), q0 38 (.iaddr 4 (.tmp 33) (.tmp 35)), q0 39 (.load true 4 (.tmp 38)), q0 4 (.alloc 58 (.agg #[.string ⟨#[]⟩, .string ⟨#[]⟩, .slice none 0 0, .int .i64 0])), q0 3 (.mv (.tmp 37)), .mk none (.store 4 (.tmp 4) (.tmp 39)) none]
def s11_6 : List CI := [q0 40 (.load true 4 (.tmp 4)), q0 41 (.call 36 [.tmp 40]), q0 5 (.mv (.tmp 41))]
def s11_7 : List CI := [q0 42 (.mv (.tmp 5)), q0 43 (.bin .neq (.tmp 42) (ki 0))]
def s11_8 : List CI := [q0 44 (.mv (.tmp 5)), q0 2 (.mv (.tmp 44))]
def s11_9 : List CI := [q0 45 (.mv (.tmp 3)), q0 46 (.bin .gtr (.tmp 45) (ki 0)), q0 47 (.mv (.tmp 46)), q1 48 (.faddr 0 (.tmp 4)) 47 true, q1 49 (.load false 1 (.tmp 48)) 47 true, q1 50 (.faddr 0 (.tmp 1)) 47 true, q1 51 (.load false 1 (.tmp 50)) 47 true, q1 52 (.mv (.tmp 3)) 47 true, q1 53 (.bin .sub (.tmp 52) (ki 1)) 47 true, q1 54 (.iaddr 4 (.tmp 51) (.tmp 53)) 47 true, q1 55 (.faddr 0 (.tmp 54)) 47 true, q1 56 (.load false 1 (.tmp 55)) 47 true, q1 57 (.bin .leq (.tmp 49) (.tmp 56)) 47 true, q0 58 (.pick (.tmp 47) (.tmp 57) kF)]
def s11_10 : List CI := [q0 2 (.mv (ki 1))]
def s11_11 : List CI := [q0 59 (.bin .add (.tmp 35) (ki 1)), q0 35 (.mv (.tmp 59))]
def s11_12 : List CI := [q0 60 (.load true 4 (.tmp 1)), q0 61 (.call 37 [.tmp 60]), q0 6 (.mv (.tmp 61))]
def s11_13 : List CI := [q0 62 (.mv (.tmp 6)), q0 63 (.bin .neq (.tmp 62) (ki 0))]
def s11_14 : List CI := [q0 64 (.mv (.tmp 6)), q0 2 (.mv (.tmp 64))]
def s11_15 : List CI := [q0 65 (.faddr 1 (.tmp 1)), q0 66 (.load false 1 (.tmp 65)), q0 67 (.len false (.tmp 66)), q0 68 (.mv (ki 0))]
def s11_16 : List CI := [q0 69 (.bin .lss (.tmp 68) (.tmp 67))]
def s11_17 : List CI := [q0 70 (.iaddr 18 (.tmp 66) (.tmp 68)), q0 71 (.load true 18 (.tmp 70)), q0 8 (.alloc 49 (.agg #[.string ⟨#[]⟩, .string ⟨#[]⟩, .int .i64 0, .slice none 0 0, .string ⟨#[]⟩, .int .i64 0, .string ⟨#[]⟩, .string ⟨#[]⟩, .string ⟨#[]⟩, .int .i64 0, .int .i64 0, .string ⟨#[]⟩, .slice none 0 0, .int .i64 0, .int .i64 0, .int .i64 0, .slice none 0 0, .int .i64 0])), .mk none (.store 18 (.tmp 8) (.tmp 71)) none]
def s11_18 : List CI := [q0 72 (.load true 4 (.tmp 1)), q0 73 (.load true 18 (.tmp 8)), q0 74 (.call 38 [.tmp 72, .tmp 73]), q0 9 (.mv (.tmp 74))]
def s11_19 : List CI := [q0 75 (.mv (.tmp 9)), q0 76 (.bin .neq (.tmp 75) (ki 0))]
def s11_20 : List CI := [q0 77 (.mv (.tmp 9)), q0 2 (.mv (.tmp 77))]
def s11_21 : List CI := [q0 78 (.bin .add (.tmp 68) (ki 1)), q0 68 (.mv (.tmp 78))]
def s11_22 : List CI := [q0 79 (.load true 4 (.tmp 1)), q0 80 (.call 18 [.tmp 79]), q0 81 (.len false (.tmp 80)), q0 82 (.bin .gtr (.tmp 81) (ki 0))]
def s11_23 : List CI := [q0 2 (.mv (ki 120))]
def s11_24 : List CI := [q0 2 (.mv (ki 0))]
def a11 : AC := (.seq (.reg s11_0) (.keep [1] (.seq (.seq (.reg s11_1) (.keep [1, 31] (.cond (.tmp 31) (.seq (.reg s11_2) .ret) .skip))) (.keep [1] (.seq (.seq (.reg s11_3) (.keep [1, 33, 34, 35] (.block 0 (.loop (.keep [1, 33, 34, 35] (.seq (.reg s11_4) (.keep [1, 33, 34, 35, 36] (.seq (.cond (.tmp 36) .skip (.exit 0)) (.keep [1, 33, 34, 35] (.seq (.block 1 (.seq (.reg s11_5) (.keep [1, 3, 4, 33, 34, 35] (.seq (.seq (.reg s11_6) (.keep [1, 3, 4, 5, 33, 34, 35] (.seq (.reg s11_7) (.keep [1, 3, 4, 5, 33, 34, 35, 43] (.cond (.tmp 43) (.seq (.reg s11_8) .ret) .skip))))) (.keep [1, 3, 4, 33, 34, 35] (.seq (.dreg s11_9) (.keep [1, 33, 34, 35, 58] (.cond (.tmp 58) (.seq (.reg s11_10) .ret) .skip)))))))) (.keep [1, 33, 34, 35] (.reg s11_11)))))))))))) (.keep [1] (.seq (.seq (.reg s11_12) (.keep [1, 6] (.seq (.reg s11_13) (.keep [1, 6, 63] (.cond (.tmp 63) (.seq (.reg s11_14) .ret) .skip))))) (.keep [1] (.seq (.seq (.reg s11_15) (.keep [1, 66, 67, 68] (.block 2 (.loop (.keep [1, 66, 67, 68] (.seq (.reg s11_16) (.keep [1, 66, 67, 68, 69] (.seq (.cond (.tmp 69) .skip (.exit 2)) (.keep [1, 66, 67, 68] (.seq (.block 3 (.seq (.reg s11_17) (.keep [1, 8, 66, 67, 68] (.seq (.reg s11_18) (.keep [1, 9, 66, 67, 68] (.seq (.reg s11_19) (.keep [1, 9, 66, 67, 68, 76] (.cond (.tmp 76) (.seq (.reg s11_20) .ret) .skip)))))))) (.keep [1, 66, 67, 68] (.reg s11_21)))))))))))) (.keep [1] (.seq (.seq (.reg s11_22) (.keep [82] (.cond (.tmp 82) (.seq (.reg s11_23) .ret) .skip))) (.keep [] (.seq (.reg s11_24) .ret)))))))))))))
def c11 : FC := ⟨83, a11.erase, [.tmp 2]⟩
theorem comp11 : compF Tryz.prog Tryz.f11 = some c11 := by kernel_rfl
theorem era11 : c11.code = a11.erase := rfl
def s13_0 : List CI := [q0 0 (.mv kF)]
def s13_1 : List CI := [q0 9 (.build [.int .i64 0, .int .i64 0, .string ⟨#[]⟩] [(0, 1, ki 1), (1, 1, ki 1)]), q0 10 (.build [.int .i64 0, .string ⟨#[]⟩, .string ⟨#[]⟩, .string ⟨#[]⟩, .int .i64 0, .int .i64 0, .string ⟨#[]⟩, .slice none 0 0, .int .i64 0, .int .i64 0, .int .i64 0, .slice none 0 0] [(0, 1, ki 1), (4, 3, .tmp 9)]), q0 1 (.alloc 37 (.agg #[.int .i64 0, .string ⟨#[]⟩, .string ⟨#[]⟩, .string ⟨#[]⟩, .int .i64 0, .int .i64 0, .string ⟨#[]⟩, .slice none 0 0, .int .i64 0, .int .i64 0, .int .i64 0, .slice none 0 0])), .mk none (.store 12 (.tmp 1) (.tmp 10)) none]
def s13_2 : List CI := [q0 11 (.build [.int .i64 0, .int .i64 0, .string ⟨#[]⟩] [(0, 1, ki 2)]), q0 12 (.build [.int .i64 0, .string ⟨#[]⟩, .string ⟨#[]⟩, .string ⟨#[]⟩, .int .i64 0, .int .i64 0, .string ⟨#[]⟩, .slice none 0 0, .int .i64 0, .int .i64 0, .int .i64 0, .slice none 0 0] [(0, 1, ki 1), (4, 3, .tmp 11)]), q0 2 (.alloc 37 (.agg #[.int .i64 0, .string ⟨#[]⟩, .string ⟨#[]⟩, .string ⟨#[]⟩, .int .i64 0, .int .i64 0, .string ⟨#[]⟩, .slice none 0 0, .int .i64 0, .int .i64 0, .int .i64 0, .slice none 0 0])), .mk none (.store 12 (.tmp 2) (.tmp 12)) none]
def s13_3 : List CI := [q0 13 (.build [.int .i64 0, .int .i64 0] [(0, 1, ki 1)]), q0 14 (.load true 12 (.tmp 1)), q0 15 (.load true 12 (.tmp 1)), q0 16 (.mksl 37 12 [.tmp 14, .tmp 15]), q0 17 (.build [.int .i64 0, .string ⟨#[]⟩, .string ⟨#[]⟩, .string ⟨#[]⟩, .int .i64 0, .int .i64 0, .string ⟨#[]⟩, .slice none 0 0, .int .i64 0, .int .i64 0, .int .i64 0, .slice none 0 0] [(0, 1, ki 5), (1, 1, ks ⟨#[99, 111, 117, 110, 116]⟩), (3, 1, ks ⟨#[99, 108, 105, 99, 107, 115]⟩), (9, 2, .tmp 13), (11, 1, .tmp 16)]), q0 3 (.alloc 37 (.agg #[.int .i64 0, .string ⟨#[]⟩, .string ⟨#[]⟩, .string ⟨#[]⟩, .int .i64 0, .int .i64 0, .string ⟨#[]⟩, .slice none 0 0, .int .i64 0, .int .i64 0, .int .i64 0, .slice none 0 0])), .mk none (.store 12 (.tmp 3) (.tmp 17)) none]
def s13_4 : List CI := [q0 18 (.build [.string ⟨#[]⟩, .string ⟨#[]⟩, .slice none 0 0, .int .i64 0] [(0, 1, ks ⟨#[99, 108, 105, 99, 107, 115]⟩), (1, 1, ks ⟨#[117, 115, 101, 114]⟩)]), q0 19 (.mksl 58 4 [.tmp 18]), q0 20 (.build [.slice none 0 0, .slice none 0 0, .slice none 0 0, .slice none 0 0] [(0, 1, .tmp 19)]), q0 4 (.alloc 25 (.agg #[.slice none 0 0, .slice none 0 0, .slice none 0 0, .slice none 0 0])), .mk none (.store 4 (.tmp 4) (.tmp 20)) none]
def s13_5 : List CD := [.mk 0 (q0 21 (.load true 12 (.tmp 3))) [], .mk 1 (q0 22 (.call 43 [ks ⟨#[97]⟩, .tmp 21])) [], .mk 2 (q0 23 (.call 44 [ks ⟨#[97]⟩])) [], .mk 3 (q0 24 (.call 44 [ks ⟨#[99]⟩])) [], .mk 4 (q0 25 (.mksl 37 12 [.tmp 23, .tmp 24])) [], .mk 5 (q0 26 (.build [.int .i64 0, .string ⟨#[]⟩, .string ⟨#[]⟩, .string ⟨#[]⟩, .int .i64 0, .int .i64 0, .string ⟨#[]⟩, .slice none 0 0, .int .i64 0, .int .i64 0, .int .i64 0, .slice none 0 0] [(0, 1, ki 7), (1, 1, ks ⟨#[43]⟩), (11, 1, .tmp 25)])) [], .mk 6 (q0 27 (.call 43 [ks ⟨#[98]⟩, .tmp 26])) [], .mk 7 (q0 28 (.call 44 [ks ⟨#[97]⟩])) [], .mk 8 (q0 29 (.load true 12 (.tmp 2))) [], .mk 9 (q0 30 (.mksl 37 12 [.tmp 28, .tmp 29])) [], .mk 10 (q0 31 (.build [.int .i64 0, .string ⟨#[]⟩, .string ⟨#[]⟩, .string ⟨#[]⟩, .int .i64 0, .int .i64 0, .string ⟨#[]⟩, .slice none 0 0, .int .i64 0, .int .i64 0, .int .i64 0, .slice none 0 0] [(0, 1, ki 9), (11, 1, .tmp 30)])) [], .mk 11 (q0 32 (.call 43 [ks ⟨#[99]⟩, .tmp 31])) [], .mk 12 (q0 33 (.mksl 49 18 [.tmp 22, .tmp 27, .tmp 32])) [], .mk 13 (q0 34 (.faddr 1 (.tmp 4))) [], .mk 14 (.mk none (.store 1 (.tmp 34) (.tmp 33)) none) [4]]
def s13_6 : List CD := [.mk 0 (q0 35 (.faddr 1 (.tmp 4))) [], .mk 1 (q0 36 (.load false 1 (.tmp 35))) [], .mk 2 (q0 37 (.call 44 [ks ⟨#[107]⟩])) [], .mk 3 (q0 38 (.mksl 37 12 [.tmp 37])) [], .mk 4 (q0 39 (.build [.int .i64 0, .string ⟨#[]⟩, .string ⟨#[]⟩, .string ⟨#[]⟩, .int .i64 0, .int .i64 0, .string ⟨#[]⟩, .slice none 0 0, .int .i64 0, .int .i64 0, .int .i64 0, .slice none 0 0] [(0, 1, ki 4), (2, 1, ks ⟨#[101]⟩), (11, 1, .tmp 38)])) [], .mk 5 (q0 40 (.call 43 [ks ⟨#[100]⟩, .tmp 39])) [], .mk 6 (q0 41 (.mksl 49 18 [.tmp 40])) [], .mk 7 (q0 42 (.append 49 18 248 [.string ⟨#[]⟩, .string ⟨#[]⟩, .int .i64 0, .slice none 0 0, .string ⟨#[]⟩, .int .i64 0, .string ⟨#[]⟩, .string ⟨#[]⟩, .string ⟨#[]⟩, .int .i64 0, .int .i64 0, .string ⟨#[]⟩, .slice none 0 0, .int .i64 0, .int .i64 0, .int .i64 0, .slice none 0 0, .int .i64 0] (.tmp 36) (.tmp 41))) [], .mk 8 (q0 43 (.faddr 1 (.tmp 4))) [], .mk 9 (.mk none (.store 1 (.tmp 43) (.tmp 42)) none) [4]]
def s13_7 : List CI := [q0 45 (.load true 4 (.tmp 4)), q0 46 (.faddr 1 (.tmp 4)), q0 47 (.load false 1 (.tmp 46)), q0 48 (.iaddr 18 (.tmp 47) (ki 1)), q0 49 (.faddr 5 (.tmp 48)), q0 50 (.load true 12 (.tmp 49)), q0 51 (.call 15 [.tmp 45, .tmp 50]), q0 44 (.mv (.tmp 51)), q0 52 (.extract (.tmp 44) 0), q0 53 (.extract (.tmp 44) 1), q0 5 (.mv (.tmp 52)), q0 6 (.mv (.tmp 53))]
def s13_8 : List CI := [q0 55 (.load true 4 (.tmp 4)), q0 56 (.faddr 1 (.tmp 4)), q0 57 (.load false 1 (.tmp 56)), q0 58 (.iaddr 18 (.tmp 57) (ki 3)), q0 59 (.faddr 5 (.tmp 58)), q0 60 (.load true 12 (.tmp 59)), q0 61 (.call 15 [.tmp 55, .tmp 60]), q0 54 (.mv (.tmp 61)), q0 62 (.extract (.tmp 54) 0), q0 63 (.extract (.tmp 54) 1), q0 7 (.mv (.tmp 62)), q0 8 (.mv (.tmp 63))]
def s13_9 : List CI := [q0 64 (.mv (.tmp 5)), q0 65 (.mksl 9 1 [ks ⟨#[97]⟩, ks ⟨#[99]⟩]), q0 66 (.call 17 [.tmp 64, .tmp 65]), q0 67 (.un .not (.tmp 66)), q0 68 (.mv (.tmp 67)), q1 69 (.mv (.tmp 6)) 68 false, q1 70 (.mksl 9 1 [ks ⟨#[99, 108, 105, 99, 107, 115]⟩]) 68 false, q1 71 (.call 17 [.tmp 69, .tmp 70]) 68 false, q1 72 (.un .not (.tmp 71)) 68 false, q0 73 (.pick (.tmp 68) kT (.tmp 72)), q0 74 (.mv (.tmp 73)), q1 75 (.mv (.tmp 7)) 74 false, q1 76 (.mksl 9 1 [ks ⟨#[101]⟩, ks ⟨#[107]⟩]) 74 false, q1 77 (.call 17 [.tmp 75, .tmp 76]) 74 false, q1 78 (.un .not (.tmp 77)) 74 false, q0 79 (.pick (.tmp 74) kT (.tmp 78)), q0 80 (.mv (.tmp 79)), q1 81 (.mv (.tmp 8)) 80 false, q1 82 (.len false (.tmp 81)) 80 false, q1 83 (.bin .neq (.tmp 82) (ki 0)) 80 false, q0 84 (.pick (.tmp 80) kT (.tmp 83))]
def s13_10 : List CI := [q0 0 (.mv kF)]
def s13_11 : List CI := [q0 85 (.load true 4 (.tmp 4)), q0 86 (.call 20 [.tmp 85]), q0 87 (.mksl 9 1 [ks ⟨#[97]⟩, ks ⟨#[99]⟩, ks ⟨#[98]⟩, ks ⟨#[100]⟩]), q0 88 (.call 17 [.tmp 86, .tmp 87]), q0 89 (.un .not (.tmp 88)), q0 90 (.mv (.tmp 89)), q1 91 (.load true 4 (.tmp 4)) 90 false, q1 92 (.call 18 [.tmp 91]) 90 false, q1 93 (.len false (.tmp 92)) 90 false, q1 94 (.bin .neq (.tmp 93) (ki 0)) 90 false, q0 95 (.pick (.tmp 90) kT (.tmp 94)), q0 96 (.mv (.tmp 95)), q1 97 (.build [.slice none 0 0, .slice none 0 0, .slice none 0 0, .slice none 0 0] []) 96 false, q1 98 (.call 11 [.tmp 97]) 96 false, q1 99 (.bin .neq (.tmp 98) (ki 0)) 96 false, q0 100 (.pick (.tmp 96) kT (.tmp 99))]
def s13_12 : List CI := [q0 0 (.mv kF)]
def s13_13 : List CD := [.mk 0 (q0 101 (.call 44 [ks ⟨#[99]⟩])) [], .mk 1 (q0 102 (.load true 12 (.tmp 2))) [], .mk 2 (q0 103 (.mksl 37 12 [.tmp 101, .tmp 102])) [], .mk 3 (q0 104 (.build [.int .i64 0, .string ⟨#[]⟩, .string ⟨#[]⟩, .string ⟨#[]⟩, .int .i64 0, .int .i64 0, .string ⟨#[]⟩, .slice none 0 0, .int .i64 0, .int .i64 0, .int .i64 0, .slice none 0 0] [(0, 1, ki 7), (1, 1, ks ⟨#[43]⟩), (11, 1, .tmp 103)])) [], .mk 4 (q0 105 (.call 43 [ks ⟨#[97]⟩, .tmp 104])) [], .mk 5 (q0 106 (.mksl 49 18 [.tmp 105])) [], .mk 6 (q0 107 (.faddr 1 (.tmp 4))) [], .mk 7 (q0 108 (.load false 1 (.tmp 107))) [], .mk 8 (q0 109 (.slice 18 (.tmp 108) (some (ki 1)) none)) [], .mk 9 (q0 110 (.append 49 18 248 [.string ⟨#[]⟩, .string ⟨#[]⟩, .int .i64 0, .slice none 0 0, .string ⟨#[]⟩, .int .i64 0, .string ⟨#[]⟩, .string ⟨#[]⟩, .string ⟨#[]⟩, .int .i64 0, .int .i64 0, .string ⟨#[]⟩, .slice none 0 0, .int .i64 0, .int .i64 0, .int .i64 0, .slice none 0 0, .int .i64 0] (.tmp 106) (.tmp 109))) [], .mk 10 (q0 111 (.faddr 1 (.tmp 4))) [], .mk 11 (.mk none (.store 1 (.tmp 111) (.tmp 110)) none) [4]]
def s13_14 : List CI := [q0 112 (.load true 4 (.tmp 4)), q0 113 (.call 18 [.tmp 112]), q0 114 (.mksl 9 1 [ks ⟨#[97]⟩, ks ⟨#[99]⟩]), q0 115 (.call 17 [.tmp 113, .tmp 114]), q0 116 (.mv (.tmp 115)), q1 117 (.load true 4 (.tmp 4)) 116 true, q1 118 (.call 20 [.tmp 117]) 116 true, q1 119 (.mksl 9 1 [ks ⟨#[100]⟩]) 116 true, q1 120 (.call 17 [.tmp 118, .tmp 119]) 116 true, q0 121 (.pick (.tmp 116) (.tmp 120) kF), q0 0 (.mv (.tmp 121))]
def a13 : AC := (.seq (.reg s13_0) (.keep [] (.seq (.reg s13_1) (.keep [1] (.seq (.reg s13_2) (.keep [1, 2] (.seq (.reg s13_3) (.keep [2, 3] (.seq (.reg s13_4) (.keep [2, 3, 4] (.seq (.mreg [] s13_5) (.keep [2, 4] (.seq (.mreg [42] s13_6) (.keep [2, 4] (.seq (.dreg s13_7) (.keep [2, 4, 5, 6] (.seq (.dreg s13_8) (.keep [2, 4, 5, 6, 7, 8] (.seq (.seq (.reg s13_9) (.keep [2, 4, 84] (.cond (.tmp 84) (.seq (.reg s13_10) .ret) .skip))) (.keep [2, 4] (.seq (.seq (.reg s13_11) (.keep [2, 4, 100] (.cond (.tmp 100) (.seq (.reg s13_12) .ret) .skip))) (.keep [2, 4] (.seq (.mreg [110] s13_13) (.keep [4] (.seq (.reg s13_14) .ret)))))))))))))))))))))))))
def c13 : FC := ⟨122, a13.erase, [.tmp 0]⟩
theorem comp13 : compF Tryz.prog Tryz.f13 = some c13 := by kernel_rfl
theorem era13 : c13.code = a13.erase := rfl
def s14_0 : List CI := [q0 2 (.box 37 (.tmp 0)), q0 4 (.mv (ki 0))]
def s14_1 : List CI := [q0 5 (.mv (ki 1))]
def s14_2 : List CI := [q0 6 (.mv (ki 0))]
def s14_3 : List CI := [q0 7 (.mv (.tmp 6)), q0 8 (.faddr 11 (.tmp 2)), q0 9 (.load false 1 (.tmp 8)), q0 10 (.len false (.tmp 9)), q0 11 (.bin .lss (.tmp 7) (.tmp 10)), q0 12 (.mv (.tmp 11)), q1 13 (.mv (.tmp 5)) 12 true, q1 14 (.mv (.tmp 1)) 12 true, q1 15 (.bin .leq (.tmp 13) (.tmp 14)) 12 true, q0 16 (.pick (.tmp 12) (.tmp 15) kF)]
def s14_4 : List CI := [q0 19 (.mv (.tmp 5)), q0 20 (.faddr 11 (.tmp 2)), q0 21 (.load false 1 (.tmp 20)), q0 22 (.mv (.tmp 6)), q0 23 (.iaddr 12 (.tmp 21) (.tmp 22)), q0 24 (.load true 12 (.tmp 23)), q0 25 (.mv (.tmp 1)), q0 26 (.mv (.tmp 5)), q0 27 (.bin .sub (.tmp 25) (.tmp 26)), q0 28 (.call 14 [.tmp 24, .tmp 27]), q0 29 (.bin .add (.tmp 19) (.tmp 28)), q0 5 (.mv (.tmp 29))]
def s14_5 : List CI := [q0 17 (.mv (.tmp 6)), q0 18 (.bin .add (.tmp 17) (ki 1)), q0 6 (.mv (.tmp 18))]
def s14_6 : List CI := [q0 30 (.mv (.tmp 5)), q0 4 (.mv (.tmp 30))]
def a14 : AC := (.seq (.reg s14_0) (.keep [1, 2] (.seq (.reg s14_1) (.keep [1, 2, 5] (.seq (.seq (.reg s14_2) (.keep [1, 2, 5, 6] (.block 0 (.loop (.keep [1, 2, 5, 6] (.seq (.seq (.reg s14_3) (.keep [1, 2, 5, 6, 16] (.cond (.tmp 16) .skip (.exit 0)))) (.keep [1, 2, 5, 6] (.seq (.block 1 (.reg s14_4)) (.keep [1, 2, 5, 6] (.reg s14_5)))))))))) (.keep [5] (.seq (.reg s14_6) .ret)))))))
def c14 : FC := ⟨31, a14.erase, [.tmp 4]⟩
theorem comp14 : compF Tryz.prog Tryz.f14 = some c14 := by kernel_rfl
theorem era14 : c14.code = a14.erase := rfl
def s17_0 : List CI := [q0 4 (.mv kF)]
def s17_1 : List CI := [q0 6 (.mv (.tmp 0)), q0 7 (.len false (.tmp 6)), q0 8 (.mv (.tmp 1)), q0 9 (.len false (.tmp 8)), q0 10 (.bin .neq (.tmp 7) (.tmp 9))]
def s17_2 : List CI := [q0 4 (.mv kF)]
def s17_3 : List CI := [q0 5 (.mv (ki 0))]
def s17_4 : List CI := [q0 11 (.mv (.tmp 5)), q0 12 (.mv (.tmp 0)), q0 13 (.len false (.tmp 12)), q0 14 (.bin .lss (.tmp 11) (.tmp 13))]
def s17_5 : List CI := [q0 17 (.mv (.tmp 0)), q0 18 (.mv (.tmp 5)), q0 19 (.iaddr 1 (.tmp 17) (.tmp 18)), q0 20 (.load false 1 (.tmp 19)), q0 21 (.mv (.tmp 1)), q0 22 (.mv (.tmp 5)), q0 23 (.iaddr 1 (.tmp 21) (.tmp 22)), q0 24 (.load false 1 (.tmp 23)), q0 25 (.bin .neq (.tmp 20) (.tmp 24))]
def s17_6 : List CI := [q0 4 (.mv kF)]
def s17_7 : List CI := [q0 15 (.mv (.tmp 5)), q0 16 (.bin .add (.tmp 15) (ki 1)), q0 5 (.mv (.tmp 16))]
def s17_8 : List CI := [q0 4 (.mv kT)]
def a17 : AC := (.seq (.reg s17_0) (.keep [0, 1] (.seq (.seq (.reg s17_1) (.keep [0, 1, 10] (.cond (.tmp 10) (.seq (.reg s17_2) .ret) .skip))) (.keep [0, 1] (.seq (.seq (.reg s17_3) (.keep [0, 1, 5] (.block 0 (.loop (.keep [0, 1, 5] (.seq (.seq (.reg s17_4) (.keep [0, 1, 5, 14] (.cond (.tmp 14) .skip (.exit 0)))) (.keep [0, 1, 5] (.seq (.block 1 (.seq (.dreg s17_5) (.keep [0, 1, 5, 25] (.cond (.tmp 25) (.seq (.reg s17_6) .ret) .skip)))) (.keep [0, 1, 5] (.reg s17_7)))))))))) (.keep [] (.seq (.reg s17_8) .ret)))))))
def c17 : FC := ⟨26, a17.erase, [.tmp 4]⟩
theorem comp17 : compF Tryz.prog Tryz.f17 = some c17 := by kernel_rfl
theorem era17 : c17.code = a17.erase := rfl
def s23_0 : List CI := [q0 4 (.mv kF)]
def s23_1 : List CI := [q0 5 (.mv (ki 0))]
def s23_2 : List CI := [q0 6 (.mv (.tmp 5)), q0 7 (.mv (.tmp 0)), q0 8 (.len false (.tmp 7)), q0 9 (.bin .lss (.tmp 6) (.tmp 8))]
def s23_3 : List CI := [q0 12 (.mv (.tmp 1)), q0 13 (.mv (.tmp 0)), q0 14 (.mv (.tmp 5)), q0 15 (.iaddr 1 (.tmp 13) (.tmp 14)), q0 16 (.load false 1 (.tmp 15)), q0 17 (.call 25 [.tmp 12, .tmp 16]), q0 18 (.un .not (.tmp 17))]
def s23_4 : List CI := [q0 4 (.mv kF)]
def s23_5 : List CI := [q0 10 (.mv (.tmp 5)), q0 11 (.bin .add (.tmp 10) (ki 1)), q0 5 (.mv (.tmp 11))]
def s23_6 : List CI := [q0 4 (.mv kT)]
def a23 : AC := (.seq (.reg s23_0) (.keep [0, 1] (.seq (.seq (.reg s23_1) (.keep [0, 1, 5] (.block 0 (.loop (.keep [0, 1, 5] (.seq (.seq (.reg s23_2) (.keep [0, 1, 5, 9] (.cond (.tmp 9) .skip (.exit 0)))) (.keep [0, 1, 5] (.seq (.block 1 (.seq (.reg s23_3) (.keep [0, 1, 5, 18] (.cond (.tmp 18) (.seq (.reg s23_4) .ret) .skip)))) (.keep [0, 1, 5] (.reg s23_5)))))))))) (.keep [] (.seq (.reg s23_6) .ret)))))
def s24_0 : List CI := [q0 2 (.box 25 (.tmp 0)), q0 4 (.alloc 49 (.agg #[.string ⟨#[]⟩, .string ⟨#[]⟩, .int .i64 0, .slice none 0 0, .string ⟨#[]⟩, .int .i64 0, .string ⟨#[]⟩, .string ⟨#[]⟩, .string ⟨#[]⟩, .int .i64 0, .int .i64 0, .string ⟨#[]⟩, .slice none 0 0, .int .i64 0, .int .i64 0, .int .i64 0, .slice none 0 0, .int .i64 0])), q0 5 (.mv kF)]
def s24_1 : List CI := [q0 6 (.faddr 1 (.tmp 2)), q0 7 (.load false 1 (.tmp 6)), q0 8 (.mv (.tmp 1)), q0 9 (.call 55 [.tmp 7, .tmp 8]), q0 10 (.extract (.tmp 9) 0), q0 11 (.extract (.tmp 9) 1), .mk none (.store 18 (.tmp 4) (.tmp 10)) none, q0 5 (.mv (.tmp 11))]
def a24 : AC := (.seq (.reg s24_0) (.keep [1, 2, 4] (.seq (.reg s24_1) .ret)))
def c24 : FC := ⟨12, a24.erase, [.cell 4 true 18, .tmp 5]⟩
theorem comp24 : compF Tryz.prog Tryz.f24 = some c24 := by kernel_rfl
theorem era24 : c24.code = a24.erase := rfl
def s26_0 : List CI := [q0 1 (.box 25 (.tmp 0)), q0 2 (.mv (.const (.slice none 0 0)))]
def s26_1 : List CI := [q0 3 (.mv (.const (.slice none 0 0)))]
def s26_2 : List CI := [q0 4 (.mv (ki 0))]
def s26_3 : List CI := [q0 5 (.mv (.tmp 4)), q0 6 (.faddr 1 (.tmp 1)), q0 7 (.load false 1 (.tmp 6)), q0 8 (.len false (.tmp 7)), q0 9 (.bin .lss (.tmp 5) (.tmp 8))]
def s26_4 : List CI := [q0 12 (.mv (.tmp 3)), q0 13 (.faddr 1 (.tmp 1)), q0 14 (.load false 1 (.tmp 13)), q0 15 (.mv (.tmp 4)), q0 16 (.iaddr 18 (.tmp 14) (.tmp 15)), q0 17 (.faddr 0 (.tmp 16)), q0 18 (.load false 1 (.tmp 17)), q0 19 (.call 54 [.tmp 12, .tmp 18]), q0 3 (.mv (.tmp 19))]
def s26_5 : List CI := [q0 10 (.mv (.tmp 4)), q0 11 (.bin .add (.tmp 10) (ki 1)), q0 4 (.mv (.tmp 11))]
def s26_6 : List CI := [q0 20 (.mv (.tmp 3)), q0 2 (.mv (.tmp 20))]
def a26 : AC := (.seq (.reg s26_0) (.keep [1] (.seq (.reg s26_1) (.keep [1, 3] (.seq (.seq (.reg s26_2) (.keep [1, 3, 4] (.block 0 (.loop (.keep [1, 3, 4] (.seq (.seq (.reg s26_3) (.keep [1, 3, 4, 9] (.cond (.tmp 9) .skip (.exit 0)))) (.keep [1, 3, 4] (.seq (.block 1 (.reg s26_4)) (.keep [1, 3, 4] (.reg s26_5)))))))))) (.keep [3] (.seq (.reg s26_6) .ret)))))))
def s27_0 : List CI := [q0 3 (.box 25 (.tmp 0)), q0 5 (.box 37 (.tmp 2)), q0 6 (.alloc 47 (.agg #[.int .i64 0, .slice none 0 0, .string ⟨#[]⟩])), q0 7 (.mv (ki 0))]
def s27_1 : List CI := [q0 9 (.load true 12 (.tmp 5)), q0 10 (.call 56 [.tmp 9]), q0 8 (.mv (.tmp 10))]
def s27_2 : List CI := [q0 11 (.mv (.tmp 8)), q0 12 (.bin .neq (.tmp 11) (ki 0))]
def s27_3 : List CI := [q0 13 (.mv (.tmp 8)), q0 14 (.call 57 [.tmp 13]), q0 15 (.extract (.tmp 14) 0), q0 16 (.extract (.tmp 14) 1), .mk none (.store 3 (.tmp 6) (.tmp 15)) none, q0 7 (.mv (.tmp 16))]
def s27_4 : List CI := [q0 17 (.load true 4 (.tmp 3)), q0 18 (.mv (.tmp 1)), q0 19 (.build [.slice none 0 0, .slice none 0 0, .slice none 0 0, .slice none 0 0, .string ⟨#[]⟩, .nilFunc] [(0, 4, .tmp 17), (4, 1, .tmp 18)]), q0 20 (.load true 12 (.tmp 5)), q0 21 (.call 58 [.tmp 19, .tmp 20]), q0 22 (.extract (.tmp 21) 0), q0 23 (.extract (.tmp 21) 1), .mk none (.store 3 (.tmp 6) (.tmp 22)) none, q0 7 (.mv (.tmp 23))]
def a27 : AC := (.seq (.reg s27_0) (.keep [1, 3, 5, 6] (.seq (.seq (.reg s27_1) (.keep [1, 3, 5, 6, 8] (.seq (.reg s27_2) (.keep [1, 3, 5, 6, 8, 12] (.cond (.tmp 12) (.seq (.reg s27_3) .ret) .skip))))) (.keep [1, 3, 5, 6] (.seq (.reg s27_4) .ret)))))
def c27 : FC := ⟨24, a27.erase, [.cell 6 true 3, .tmp 7]⟩
theorem comp27 : compF Tryz.prog Tryz.f27 = some c27 := by kernel_rfl
theorem era27 : c27.code = a27.erase := rfl
def s28_0 : List CI := [q0 2 (.box 47 (.tmp 0)), q0 3 (.box 47 (.tmp 1)), q0 4 (.mv kF)]
def s28_1 : List CI := [q0 5 (.faddr 0 (.tmp 2)), q0 6 (.load false 1 (.tmp 5)), q0 7 (.faddr 0 (.tmp 3)), q0 8 (.load false 1 (.tmp 7)), q0 9 (.bin .eql (.tmp 6) (.tmp 8)), q0 10 (.mv (.tmp 9)), q1 11 (.faddr 2 (.tmp 2)) 10 true, q1 12 (.load false 1 (.tmp 11)) 10 true, q1 13 (.faddr 2 (.tmp 3)) 10 true, q1 14 (.load false 1 (.tmp 13)) 10 true, q1 15 (.bin .eql (.tmp 12) (.tmp 14)) 10 true, q0 16 (.pick (.tmp 10) (.tmp 15) kF), q0 17 (.mv (.tmp 16)), q1 18 (.faddr 1 (.tmp 2)) 17 true, q1 19 (.load false 1 (.tmp 18)) 17 true, q1 20 (.faddr 1 (.tmp 3)) 17 true, q1 21 (.load false 1 (.tmp 20)) 17 true, q1 22 (.call 59 [.tmp 19, .tmp 21]) 17 true, q0 23 (.pick (.tmp 17) (.tmp 22) kF), q0 4 (.mv (.tmp 23))]
def a28 : AC := (.seq (.reg s28_0) (.keep [2, 3] (.seq (.reg s28_1) .ret)))
def c28 : FC := ⟨24, a28.erase, [.tmp 4]⟩
theorem comp28 : compF Tryz.prog Tryz.f28 = some c28 := by kernel_rfl
theorem era28 : c28.code = a28.erase := rfl
def s29_0 : List CI := [q0 2 (.box 25 (.tmp 0)), q0 4 (.alloc 58 (.agg #[.string ⟨#[]⟩, .string ⟨#[]⟩, .slice none 0 0, .int .i64 0])), q0 5 (.mv kF)]
def s29_1 : List CI := [q0 8 (.faddr 0 (.tmp 2)), q0 9 (.load false 1 (.tmp 8)), q0 10 (.len false (.tmp 9)), q0 11 (.mv (ki 0))]
def s29_2 : List CI := [q0 12 (.bin .lss (.tmp 11) (.tmp 10))]
def s29_3 : List CI := [q0 13 (.iaddr 4 (.tmp 9) (.tmp 11)), q0 14 (.load true 4 (.tmp 13)), q0 7 (.alloc 58 (.agg #[.string ⟨#[]⟩, .string ⟨#[]⟩, .slice none 0 0, .int .i64 0])), .mk none (.store 4 (.tmp 7) (.tmp 14)) none]
def s29_4 : List CI := [q0 15 (.faddr 0 (.tmp 7)), q0 16 (.load false 1 (.tmp 15)), q0 17 (.mv (.tmp 1)), q0 18 (.bin .eql (.tmp 16) (.tmp 17))]
def s29_5 : List CI := [q0 19 (.load true 4 (.tmp 7)), .mk none (.store 4 (.tmp 4) (.tmp 19)) none, q0 5 (.mv kT)]
def s29_6 : List CI := [q0 20 (.bin .add (.tmp 11) (ki 1)), q0 11 (.mv (.tmp 20))]
def s29_7 : List CI := [q0 21 (.build [.string ⟨#[]⟩, .string ⟨#[]⟩, .slice none 0 0, .int .i64 0] []), .mk none (.store 4 (.tmp 4) (.tmp 21)) none, q0 5 (.mv kF)]
def a29 : AC := (.seq (.reg s29_0) (.keep [1, 2, 4] (.seq (.seq (.reg s29_1) (.keep [1, 4, 9, 10, 11] (.block 0 (.loop (.keep [1, 4, 9, 10, 11] (.seq (.reg s29_2) (.keep [1, 4, 9, 10, 11, 12] (.seq (.cond (.tmp 12) .skip (.exit 0)) (.keep [1, 4, 9, 10, 11] (.seq (.block 1 (.seq (.reg s29_3) (.keep [1, 4, 7, 9, 10, 11] (.seq (.reg s29_4) (.keep [1, 4, 7, 9, 10, 11, 18] (.cond (.tmp 18) (.seq (.reg s29_5) .ret) .skip)))))) (.keep [1, 4, 9, 10, 11] (.reg s29_6)))))))))))) (.keep [4] (.seq (.reg s29_7) .ret)))))
def c29 : FC := ⟨22, a29.erase, [.cell 4 true 4, .tmp 5]⟩
theorem comp29 : compF Tryz.prog Tryz.f29 = some c29 := by kernel_rfl
theorem era29 : c29.code = a29.erase := rfl
def s32_0 : List CI := [q0 2 (.box 25 (.tmp 0)), q0 4 (.alloc 49 (.agg #[.string ⟨#[]⟩, .string ⟨#[]⟩, .int .i64 0, .slice none 0 0, .string ⟨#[]⟩, .int .i64 0, .string ⟨#[]⟩, .string ⟨#[]⟩, .string ⟨#[]⟩, .int .i64 0, .int .i64 0, .string ⟨#[]⟩, .slice none 0 0, .int .i64 0, .int .i64 0, .int .i64 0, .slice none 0 0, .int .i64 0])), q0 5 (.mv kF)]
def s32_1 : List CI := [q0 6 (.faddr 2 (.tmp 2)), q0 7 (.load false 1 (.tmp 6)), q0 8 (.mv (.tmp 1)), q0 9 (.call 55 [.tmp 7, .tmp 8]), q0 10 (.extract (.tmp 9) 0), q0 11 (.extract (.tmp 9) 1), .mk none (.store 18 (.tmp 4) (.tmp 10)) none, q0 5 (.mv (.tmp 11))]
def a32 : AC := (.seq (.reg s32_0) (.keep [1, 2, 4] (.seq (.reg s32_1) .ret)))
def s33_0 : List CI := [q0 2 (.box 25 (.tmp 0)), q0 4 (.alloc 49 (.agg #[.string ⟨#[]⟩, .string ⟨#[]⟩, .int .i64 0, .slice none 0 0, .string ⟨#[]⟩, .int .i64 0, .string ⟨#[]⟩, .string ⟨#[]⟩, .string ⟨#[]⟩, .int .i64 0, .int .i64 0, .string ⟨#[]⟩, .slice none 0 0, .int .i64 0, .int .i64 0, .int .i64 0, .slice none 0 0, .int .i64 0])), q0 5 (.mv kF)]
def s33_1 : List CI := [q0 6 (.faddr 2 (.tmp 2)), q0 7 (.load false 1 (.tmp 6)), q0 8 (.mv (.tmp 1)), q0 9 (.call 60 [.tmp 7, .tmp 8]), q0 10 (.extract (.tmp 9) 0), q0 11 (.extract (.tmp 9) 1), .mk none (.store 18 (.tmp 4) (.tmp 10)) none, q0 5 (.mv (.tmp 11))]
def a33 : AC := (.seq (.reg s33_0) (.keep [1, 2, 4] (.seq (.reg s33_1) .ret)))
def s35_0 : List CI := [q0 2 (.box 49 (.tmp 0)), q0 3 (.box 49 (.tmp 1)), q0 4 (.mv kF)]
def s35_1 : List CI := [q0 7 (.faddr 2 (.tmp 2)), q0 8 (.load true 3 (.tmp 7)), q0 9 (.faddr 2 (.tmp 3)), q0 10 (.load true 3 (.tmp 9)), q0 11 (.call 28 [.tmp 8, .tmp 10]), q0 5 (.mv (.tmp 11))]
def s35_2 : List CI := [q0 12 (.faddr 5 (.tmp 2)), q0 13 (.load true 12 (.tmp 12)), q0 14 (.faddr 5 (.tmp 3)), q0 15 (.load true 12 (.tmp 14)), q0 16 (.call 61 [.tmp 13, .tmp 15]), q0 6 (.mv (.tmp 16))]
def s35_3 : List CI := [q0 17 (.mv (.tmp 5)), q0 18 (.mv (.tmp 17)), q1 19 (.mv (.tmp 6)) 18 true, q0 20 (.pick (.tmp 18) (.tmp 19) kF), q0 21 (.mv (.tmp 20)), q1 22 (.faddr 0 (.tmp 2)) 21 true, q1 23 (.load false 1 (.tmp 22)) 21 true, q1 24 (.faddr 0 (.tmp 3)) 21 true, q1 25 (.load false 1 (.tmp 24)) 21 true, q1 26 (.bin .eql (.tmp 23) (.tmp 25)) 21 true, q0 27 (.pick (.tmp 21) (.tmp 26) kF), q0 28 (.mv (.tmp 27)), q1 29 (.faddr 1 (.tmp 2)) 28 true, q1 30 (.load false 1 (.tmp 29)) 28 true, q1 31 (.faddr 1 (.tmp 3)) 28 true, q1 32 (.load false 1 (.tmp 31)) 28 true, q1 33 (.bin .eql (.tmp 30) (.tmp 32)) 28 true, q0 34 (.pick (.tmp 28) (.tmp 33) kF), q0 35 (.mv (.tmp 34)), q1 36 (.faddr 17 (.tmp 2)) 35 true, q1 37 (.load false 1 (.tmp 36)) 35 true, q1 38 (.faddr 17 (.tmp 3)) 35 true, q1 39 (.load false 1 (.tmp 38)) 35 true, q1 40 (.bin .eql (.tmp 37) (.tmp 39)) 35 true, q0 41 (.pick (.tmp 35) (.tmp 40) kF), q0 4 (.mv (.tmp 41))]
def a35 : AC := (.seq (.reg s35_0) (.keep [2, 3] (.seq (.reg s35_1) (.keep [2, 3, 5] (.seq (.reg s35_2) (.keep [2, 3, 5, 6] (.seq (.reg s35_3) .ret)))))))
def s36_0 : List CI := [q0 1 (.box 58 (.tmp 0)), q0 2 (.mv (ki 0))]
def s36_1 : List CI := [q0 6 (.faddr 0 (.tmp 1)), q0 7 (.load false 1 (.tmp 6)), q0 8 (.call 62 [.tmp 7]), q0 9 (.un .not (.tmp 8)), q0 10 (.mv (.tmp 9)), q1 11 (.faddr 1 (.tmp 1)) 10 false, q1 12 (.load false 1 (.tmp 11)) 10 false, q1 13 (.call 62 [.tmp 12]) 10 false, q1 14 (.un .not (.tmp 13)) 10 false, q0 15 (.pick (.tmp 10) kT (.tmp 14)), q0 16 (.mv (.tmp 15)), q1 17 (.faddr 3 (.tmp 1)) 16 false, q1 18 (.load false 1 (.tmp 17)) 16 false, q1 19 (.bin .lss (.tmp 18) (ki 0)) 16 false, q0 20 (.pick (.tmp 16) kT (.tmp 19)), q0 21 (.mv (.tmp 20)), q1 22 (.faddr 3 (.tmp 1)) 21 false, q1 23 (.load false 1 (.tmp 22)) 21 false, q1 24 (.bin .gtr (.tmp 23) (ki 1099511627776)) 21 false, q0 25 (.pick (.tmp 21) kT (.tmp 24))]
def s36_2 : List CI := [q0 2 (.mv (ki 3))]
def s36_3 : List CI := [q0 26 (.faddr 2 (.tmp 1)), q0 27 (.load false 1 (.tmp 26)), q0 28 (.len false (.tmp 27)), q0 29 (.bin .gtr (.tmp 28) (ki 8))]
def s36_4 : List CI := [q0 2 (.mv (ki 2))]
def s36_5 : List CI := [q0 30 (.faddr 2 (.tmp 1)), q0 31 (.load false 1 (.tmp 30)), q0 32 (.len false (.tmp 31)), q0 33 (.mv (ki 0))]
def s36_6 : List CI := [q0 34 (.bin .lss (.tmp 33) (.tmp 32))]
def s36_7 : List CI := [q0 35 (.mv (.tmp 33)), q0 36 (.iaddr 4 (.tmp 31) (.tmp 33)), q0 37 (.load true 4 (.tmp 36)), q0 4 (.alloc 96 (.agg #[.string ⟨#[]⟩, .int .i64 0, .slice none 0 0, .string ⟨#[]⟩])), q0 3 (.mv (.tmp 35)), .mk none (.store 4 (.tmp 4) (.tmp 37)) none]
def s36_8 : List CI := [q0 38 (.faddr 0 (.tmp 4)), q0 39 (.load false 1 (.tmp 38)), q0 40 (.call 62 [.tmp 39]), q0 41 (.un .not (.tmp 40))]
def s36_9 : List CI := [q0 2 (.mv (ki 3))]
def s36_10 : List CI := [q0 42 (.faddr 2 (.tmp 1)), q0 43 (.load false 1 (.tmp 42)), q0 44 (.mv (.tmp 3)), q0 45 (.slice 4 (.tmp 43) none (some (.tmp 44))), q0 46 (.mkfn (Fn.func 64) [] [.tmp 4]), q0 47 (.call 63 [.tmp 45, .tmp 46])]
def s36_11 : List CI := [q0 2 (.mv (ki 121))]
def s36_12 : List CI := [q0 48 (.faddr 1 (.tmp 4)), q0 49 (.load true 3 (.tmp 48)), q0 50 (.call 65 [.tmp 49]), q0 5 (.mv (.tmp 50))]
def s36_13 : List CI := [q0 51 (.mv (.tmp 5)), q0 52 (.bin .neq (.tmp 51) (ki 0))]
def s36_14 : List CI := [q0 53 (.mv (.tmp 5)), q0 2 (.mv (.tmp 53))]
def s36_15 : List CI := [q0 54 (.bin .add (.tmp 33) (ki 1)), q0 33 (.mv (.tmp 54))]
def s36_16 : List CI := [q0 2 (.mv (ki 0))]
def a36 : AC := (.seq (.reg s36_0) (.keep [1] (.seq (.seq (.reg s36_1) (.keep [1, 25] (.cond (.tmp 25) (.seq (.reg s36_2) .ret) .skip))) (.keep [1] (.seq (.seq (.reg s36_3) (.keep [1, 29] (.cond (.tmp 29) (.seq (.reg s36_4) .ret) .skip))) (.keep [1] (.seq (.seq (.reg s36_5) (.keep [1, 31, 32, 33] (.block 0 (.loop (.keep [1, 31, 32, 33] (.seq (.reg s36_6) (.keep [1, 31, 32, 33, 34] (.seq (.cond (.tmp 34) .skip (.exit 0)) (.keep [1, 31, 32, 33] (.seq (.block 1 (.seq (.reg s36_7) (.keep [1, 3, 4, 31, 32, 33] (.seq (.seq (.reg s36_8) (.keep [1, 3, 4, 31, 32, 33, 41] (.cond (.tmp 41) (.seq (.reg s36_9) .ret) .skip))) (.keep [1, 3, 4, 31, 32, 33] (.seq (.seq (.reg s36_10) (.keep [1, 4, 31, 32, 33, 47] (.cond (.tmp 47) (.seq (.reg s36_11) .ret) .skip))) (.keep [1, 4, 31, 32, 33] (.seq (.reg s36_12) (.keep [1, 5, 31, 32, 33] (.seq (.reg s36_13) (.keep [1, 5, 31, 32, 33, 52] (.cond (.tmp 52) (.seq (.reg s36_14) .ret) .skip)))))))))))) (.keep [1, 31, 32, 33] (.reg s36_15)))))))))))) (.keep [] (.seq (.reg s36_16) .ret)))))))))
def c36 : FC := ⟨55, a36.erase, [.tmp 2]⟩
theorem comp36 : compF Tryz.prog Tryz.f36 = some c36 := by kernel_rfl
theorem era36 : c36.code = a36.erase := rfl
def s37_0 : List CI := [q0 1 (.box 25 (.tmp 0)), q0 2 (.mv (ki 0))]
def s37_1 : List CI := [q0 11 (.exts (.makeMap 102 none) 102 [] []), q0 3 (.mv (.tmp 11))]
def s37_2 : List CI := [q0 12 (.faddr 1 (.tmp 1)), q0 13 (.load false 1 (.tmp 12)), q0 14 (.faddr 2 (.tmp 1)), q0 15 (.load false 1 (.tmp 14)), q0 16 (.faddr 3 (.tmp 1)), q0 17 (.load false 1 (.tmp 16)), q0 18 (.mksl 23 1 [.tmp 13, .tmp 15, .tmp 17]), q0 19 (.len false (.tmp 18)), q0 20 (.mv (ki 0))]
def s37_3 : List CI := [q0 21 (.bin .lss (.tmp 20) (.tmp 19))]
def s37_4 : List CI := [q0 22 (.mv (.tmp 20)), q0 23 (.iaddr 1 (.tmp 18) (.tmp 20)), q0 24 (.load false 1 (.tmp 23)), q0 4 (.mv (.tmp 22)), q0 5 (.mv (.tmp 24))]
def s37_5 : List CI := [q0 25 (.mv (.tmp 5)), q0 26 (.len false (.tmp 25)), q0 27 (.mv (ki 0))]
def s37_6 : List CI := [q0 28 (.bin .lss (.tmp 27) (.tmp 26))]
def s37_7 : List CI := [q0 29 (.mv (.tmp 27)), q0 30 (.iaddr 18 (.tmp 25) (.tmp 27)), q0 31 (.load true 18 (.tmp 30)), q0 7 (.alloc 49 (.agg #[.string ⟨#[]⟩, .string ⟨#[]⟩, .int .i64 0, .slice none 0 0, .string ⟨#[]⟩, .int .i64 0, .string ⟨#[]⟩, .string ⟨#[]⟩, .string ⟨#[]⟩, .int .i64 0, .int .i64 0, .string ⟨#[]⟩, .slice none 0 0, .int .i64 0, .int .i64 0, .int .i64 0, .slice none 0 0, .int .i64 0])), q0 6 (.mv (.tmp 29)), .mk none (.store 18 (.tmp 7) (.tmp 31)) none]
def s37_8 : List CI := [q0 32 (.faddr 0 (.tmp 7)), q0 33 (.load false 1 (.tmp 32)), q0 34 (.call 62 [.tmp 33]), q0 35 (.un .not (.tmp 34)), q0 36 (.mv (.tmp 35)), q1 37 (.faddr 1 (.tmp 7)) 36 false, q1 38 (.load false 1 (.tmp 37)) 36 false, q1 39 (.call 62 [.tmp 38]) 36 false, q1 40 (.un .not (.tmp 39)) 36 false, q0 41 (.pick (.tmp 36) kT (.tmp 40)), q0 42 (.mv (.tmp 41)), q1 43 (.faddr 17 (.tmp 7)) 42 false, q1 44 (.load false 1 (.tmp 43)) 42 false, q1 45 (.bin .lss (.tmp 44) (ki 1)) 42 false, q0 46 (.pick (.tmp 42) kT (.tmp 45)), q0 47 (.mv (.tmp 46)), q1 48 (.faddr 17 (.tmp 7)) 47 false, q1 49 (.load false 1 (.tmp 48)) 47 false, q1 50 (.bin .gtr (.tmp 49) (ki 1099511627776)) 47 false, q0 51 (.pick (.tmp 47) kT (.tmp 50))]
def s37_9 : List CI := [q0 2 (.mv (ki 1))]
def s37_10 : List CI := [q0 52 (.faddr 2 (.tmp 7)), q0 53 (.load true 3 (.tmp 52)), q0 54 (.call 65 [.tmp 53]), q0 8 (.mv (.tmp 54))]
def s37_11 : List CI := [q0 55 (.mv (.tmp 8)), q0 56 (.bin .neq (.tmp 55) (ki 0))]
def s37_12 : List CI := [q0 57 (.mv (.tmp 8)), q0 2 (.mv (.tmp 57))]
def s37_13 : List CI := [q0 58 (.faddr 5 (.tmp 7)), q0 59 (.load true 12 (.tmp 58)), q0 60 (.call 56 [.tmp 59]), q0 9 (.mv (.tmp 60))]
def s37_14 : List CI := [q0 61 (.mv (.tmp 9)), q0 62 (.bin .neq (.tmp 61) (ki 0))]
def s37_15 : List CI := [q0 63 (.mv (.tmp 9)), q0 2 (.mv (.tmp 63))]
def s37_16 : List CI := [q0 64 (.mv (.tmp 6)), q0 65 (.bin .gtr (.tmp 64) (ki 0)), q0 66 (.mv (.tmp 65)), q1 67 (.faddr 0 (.tmp 7)) 66 true, q1 68 (.load false 1 (.tmp 67)) 66 true, q1 69 (.mv (.tmp 5)) 66 true, q1 70 (.mv (.tmp 6)) 66 true, q1 71 (.bin .sub (.tmp 70) (ki 1)) 66 true, q1 72 (.iaddr 18 (.tmp 69) (.tmp 71)) 66 true, q1 73 (.faddr 0 (.tmp 72)) 66 true, q1 74 (.load false 1 (.tmp 73)) 66 true, q1 75 (.bin .lss (.tmp 68) (.tmp 74)) 66 true, q1 76 (.mv (.tmp 75)) 66 true, q1 77 (.mv (.tmp 4)) 76 false, q1 78 (.bin .lss (.tmp 77) (ki 2)) 76 false, q1 79 (.mv (.tmp 78)) 76 false, q1 80 (.faddr 0 (.tmp 7)) 79 true, q1 81 (.load false 1 (.tmp 80)) 79 true, q1 82 (.mv (.tmp 5)) 79 true, q1 83 (.mv (.tmp 6)) 79 true, q1 84 (.bin .sub (.tmp 83) (ki 1)) 79 true, q1 85 (.iaddr 18 (.tmp 82) (.tmp 84)) 79 true, q1 86 (.faddr 0 (.tmp 85)) 79 true, q1 87 (.load false 1 (.tmp 86)) 79 true, q1 88 (.bin .eql (.tmp 81) (.tmp 87)) 79 true, q1 89 (.pick (.tmp 79) (.tmp 88) kF) 76 false, q1 90 (.pick (.tmp 76) kT (.tmp 89)) 66 true, q0 91 (.pick (.tmp 66) (.tmp 90) kF)]
def s37_17 : List CI := [q0 2 (.mv (ki 1))]
def s37_18 : List CI := [q0 92 (.faddr 0 (.tmp 7)), q0 93 (.load false 1 (.tmp 92)), q0 94 (.faddr 17 (.tmp 7)), q0 95 (.load false 1 (.tmp 94)), q0 96 (.build [.string ⟨#[]⟩, .int .i64 0] [(0, 1, .tmp 93), (1, 1, .tmp 95)]), q0 10 (.alloc 105 (.agg #[.string ⟨#[]⟩, .int .i64 0])), .mk none (.store 2 (.tmp 10) (.tmp 96)) none]
def s37_19 : List CI := [q0 97 (.mv (.tmp 3)), q0 98 (.load true 2 (.tmp 10)), q0 99 (.extq (.lookup 102 (.tmp 97) (.tmp 98) false) 4 [.mp 105 4, .other] [.tmp 97, .tmp 98])]
def s37_20 : List CI := [q0 2 (.mv (ki 121))]
def s37_21 : List CI := [q0 100 (.mv (.tmp 3)), q0 101 (.load true 2 (.tmp 10)), .mk none (.exts (.mapUpdate 102 (.tmp 100) (.tmp 101) kT) 0 [.mp 105 4, .other] [.tmp 100, .tmp 101, kT]) none]
def s37_22 : List CI := [q0 102 (.bin .add (.tmp 27) (ki 1)), q0 27 (.mv (.tmp 102))]
def s37_23 : List CI := [q0 103 (.bin .add (.tmp 20) (ki 1)), q0 20 (.mv (.tmp 103))]
def s37_24 : List CI := [q0 2 (.mv (ki 0))]
def a37 : AC := (.seq (.reg s37_0) (.keep [1] (.seq (.reg s37_1) (.keep [1, 3] (.seq (.seq (.reg s37_2) (.keep [3, 18, 19, 20] (.block 0 (.loop (.keep [3, 18, 19, 20] (.seq (.reg s37_3) (.keep [3, 18, 19, 20, 21] (.seq (.cond (.tmp 21) .skip (.exit 0)) (.keep [3, 18, 19, 20] (.seq (.block 1 (.seq (.reg s37_4) (.keep [3, 4, 5, 18, 19, 20] (.seq (.reg s37_5) (.keep [3, 4, 5, 18, 19, 20, 25, 26, 27] (.block 2 (.loop (.keep [3, 4, 5, 18, 19, 20, 25, 26, 27] (.seq (.reg s37_6) (.keep [3, 4, 5, 18, 19, 20, 25, 26, 27, 28] (.seq (.cond (.tmp 28) .skip (.exit 2)) (.keep [3, 4, 5, 18, 19, 20, 25, 26, 27] (.seq (.block 3 (.seq (.reg s37_7) (.keep [3, 4, 5, 6, 7, 18, 19, 20, 25, 26, 27] (.seq (.seq (.reg s37_8) (.keep [3, 4, 5, 6, 7, 18, 19, 20, 25, 26, 27, 51] (.cond (.tmp 51) (.seq (.reg s37_9) .ret) .skip))) (.keep [3, 4, 5, 6, 7, 18, 19, 20, 25, 26, 27] (.seq (.seq (.reg s37_10) (.keep [3, 4, 5, 6, 7, 8, 18, 19, 20, 25, 26, 27] (.seq (.reg s37_11) (.keep [3, 4, 5, 6, 7, 8, 18, 19, 20, 25, 26, 27, 56] (.cond (.tmp 56) (.seq (.reg s37_12) .ret) .skip))))) (.keep [3, 4, 5, 6, 7, 18, 19, 20, 25, 26, 27] (.seq (.seq (.reg s37_13) (.keep [3, 4, 5, 6, 7, 9, 18, 19, 20, 25, 26, 27] (.seq (.reg s37_14) (.keep [3, 4, 5, 6, 7, 9, 18, 19, 20, 25, 26, 27, 62] (.cond (.tmp 62) (.seq (.reg s37_15) .ret) .skip))))) (.keep [3, 4, 5, 6, 7, 18, 19, 20, 25, 26, 27] (.seq (.seq (.dreg s37_16) (.keep [3, 4, 5, 7, 18, 19, 20, 25, 26, 27, 91] (.cond (.tmp 91) (.seq (.reg s37_17) .ret) .skip))) (.keep [3, 4, 5, 7, 18, 19, 20, 25, 26, 27] (.seq (.reg s37_18) (.keep [3, 4, 5, 10, 18, 19, 20, 25, 26, 27] (.seq (.seq (.reg s37_19) (.keep [3, 4, 5, 10, 18, 19, 20, 25, 26, 27, 99] (.cond (.tmp 99) (.seq (.reg s37_20) .ret) .skip))) (.keep [3, 4, 5, 10, 18, 19, 20, 25, 26, 27] (.reg s37_21)))))))))))))))) (.keep [3, 4, 5, 18, 19, 20, 25, 26, 27] (.reg s37_22))))))))))))))) (.keep [3, 18, 19, 20] (.reg s37_23)))))))))))) (.keep [] (.seq (.reg s37_24) .ret)))))))
def c37 : FC := ⟨104, a37.erase, [.tmp 2]⟩
theorem comp37 : compF Tryz.prog Tryz.f37 = some c37 := by kernel_rfl
theorem era37 : c37.code = a37.erase := rfl
def s38_0 : List CI := [q0 2 (.box 25 (.tmp 0)), q0 3 (.box 49 (.tmp 1)), q0 4 (.mv (ki 0))]
def s38_1 : List CI := [q0 7 (.faddr 0 (.tmp 3)), q0 8 (.load false 1 (.tmp 7)), q0 9 (.call 62 [.tmp 8]), q0 10 (.un .not (.tmp 9)), q0 11 (.mv (.tmp 10)), q1 12 (.faddr 1 (.tmp 3)) 11 false, q1 13 (.load false 1 (.tmp 12)) 11 false, q1 14 (.call 62 [.tmp 13]) 11 false, q1 15 (.un .not (.tmp 14)) 11 false, q0 16 (.pick (.tmp 11) kT (.tmp 15)), q0 17 (.mv (.tmp 16)), q1 18 (.faddr 17 (.tmp 3)) 17 false, q1 19 (.load false 1 (.tmp 18)) 17 false, q1 20 (.bin .lss (.tmp 19) (ki 0)) 17 false, q0 21 (.pick (.tmp 17) kT (.tmp 20))]
def s38_2 : List CI := [q0 4 (.mv (ki 3))]
def s38_3 : List CI := [q0 22 (.faddr 2 (.tmp 3)), q0 23 (.load true 3 (.tmp 22)), q0 24 (.call 65 [.tmp 23]), q0 5 (.mv (.tmp 24))]
def s38_4 : List CI := [q0 25 (.mv (.tmp 5)), q0 26 (.bin .neq (.tmp 25) (ki 0))]
def s38_5 : List CI := [q0 27 (.mv (.tmp 5)), q0 4 (.mv (.tmp 27))]
def s38_6 : List CI := [q0 29 (.load true 4 (.tmp 2)), q0 30 (.faddr 1 (.tmp 3)), q0 31 (.load false 1 (.tmp 30)), q0 32 (.faddr 5 (.tmp 3)), q0 33 (.load true 12 (.tmp 32)), q0 34 (.call 27 [.tmp 29, .tmp 31, .tmp 33]), q0 28 (.mv (.tmp 34)), q0 35 (.extract (.tmp 28) 0), q0 36 (.extract (.tmp 28) 1), q0 6 (.alloc 47 (.agg #[.int .i64 0, .slice none 0 0, .string ⟨#[]⟩])), .mk none (.store 3 (.tmp 6) (.tmp 35)) none, q0 4 (.mv (.tmp 36))]
def s38_7 : List CI := [q0 37 (.mv (.tmp 4)), q0 38 (.bin .neq (.tmp 37) (ki 0))]
def s38_8 : List CI := [q0 39 (.mv (.tmp 4)), q0 4 (.mv (.tmp 39))]
def s38_9 : List CI := [q0 41 (.load true 3 (.tmp 6)), q0 42 (.faddr 2 (.tmp 3)), q0 43 (.load true 3 (.tmp 42)), q0 44 (.call 66 [.tmp 41, .tmp 43]), q0 40 (.mv (.tmp 44)), q0 45 (.extract (.tmp 40) 0), q0 46 (.extract (.tmp 40) 1), q0 4 (.mv (.tmp 46))]
def s38_10 : List CI := [q0 47 (.mv (.tmp 4)), q0 4 (.mv (.tmp 47))]
def a38 : AC := (.seq (.reg s38_0) (.keep [2, 3] (.seq (.seq (.reg s38_1) (.keep [2, 3, 21] (.cond (.tmp 21) (.seq (.reg s38_2) .ret) .skip))) (.keep [2, 3] (.seq (.seq (.reg s38_3) (.keep [2, 3, 5] (.seq (.reg s38_4) (.keep [2, 3, 5, 26] (.cond (.tmp 26) (.seq (.reg s38_5) .ret) .skip))))) (.keep [2, 3] (.seq (.reg s38_6) (.keep [3, 4, 6] (.seq (.seq (.reg s38_7) (.keep [3, 4, 6, 38] (.cond (.tmp 38) (.seq (.reg s38_8) .ret) .skip))) (.keep [3, 6] (.seq (.reg s38_9) (.keep [4] (.seq (.reg s38_10) .ret)))))))))))))
def c38 : FC := ⟨48, a38.erase, [.tmp 4]⟩
theorem comp38 : compF Tryz.prog Tryz.f38 = some c38 := by kernel_rfl
theorem era38 : c38.code = a38.erase := rfl
def s40_0 : List CI := [q0 1 (.box 25 (.tmp 0)), q0 2 (.mv (.const (.slice none 0 0)))]
def s40_1 : List CI := [q0 4 (.mksl 49 18 []), q0 5 (.faddr 1 (.tmp 1)), q0 6 (.load false 1 (.tmp 5)), q0 7 (.append 49 18 248 [.string ⟨#[]⟩, .string ⟨#[]⟩, .int .i64 0, .slice none 0 0, .string ⟨#[]⟩, .int .i64 0, .string ⟨#[]⟩, .string ⟨#[]⟩, .string ⟨#[]⟩, .int .i64 0, .int .i64 0, .string ⟨#[]⟩, .slice none 0 0, .int .i64 0, .int .i64 0, .int .i64 0, .slice none 0 0, .int .i64 0] (.tmp 4) (.tmp 6)), q0 3 (.mv (.tmp 7))]
def s40_2 : List CI := [q0 8 (.mv (.tmp 3)), q0 9 (.faddr 2 (.tmp 1)), q0 10 (.load false 1 (.tmp 9)), q0 11 (.append 49 18 248 [.string ⟨#[]⟩, .string ⟨#[]⟩, .int .i64 0, .slice none 0 0, .string ⟨#[]⟩, .int .i64 0, .string ⟨#[]⟩, .string ⟨#[]⟩, .string ⟨#[]⟩, .int .i64 0, .int .i64 0, .string ⟨#[]⟩, .slice none 0 0, .int .i64 0, .int .i64 0, .int .i64 0, .slice none 0 0, .int .i64 0] (.tmp 8) (.tmp 10)), q0 3 (.mv (.tmp 11))]
def s40_3 : List CI := [q0 12 (.mv (.tmp 3)), q0 13 (.faddr 3 (.tmp 1)), q0 14 (.load false 1 (.tmp 13)), q0 15 (.append 49 18 248 [.string ⟨#[]⟩, .string ⟨#[]⟩, .int .i64 0, .slice none 0 0, .string ⟨#[]⟩, .int .i64 0, .string ⟨#[]⟩, .string ⟨#[]⟩, .string ⟨#[]⟩, .int .i64 0, .int .i64 0, .string ⟨#[]⟩, .slice none 0 0, .int .i64 0, .int .i64 0, .int .i64 0, .slice none 0 0, .int .i64 0] (.tmp 12) (.tmp 14)), q0 2 (.mv (.tmp 15))]
def a40 : AC := (.seq (.reg s40_0) (.keep [1] (.seq (.reg s40_1) (.keep [1, 3] (.seq (.reg s40_2) (.keep [1, 3] (.seq (.reg s40_3) .ret)))))))
def c40 : FC := ⟨16, a40.erase, [.tmp 2]⟩
def s41_0 : List CI := [q0 1 (.box 49 (.tmp 0)), q0 2 (.mv (ki 0))]
def s41_1 : List CI := [q0 5 (.faddr 0 (.tmp 1)), q0 6 (.load false 1 (.tmp 5)), q0 7 (.call 68 [.tmp 6]), q0 8 (.mv (.tmp 7)), q1 9 (.faddr 1 (.tmp 1)) 8 true, q1 10 (.load false 1 (.tmp 9)) 8 true, q1 11 (.call 68 [.tmp 10]) 8 true, q0 12 (.pick (.tmp 8) (.tmp 11) kF), q0 3 (.mv (.tmp 12))]
def s41_2 : List CI := [q0 13 (.mv (.tmp 3)), q0 14 (.un .not (.tmp 13)), q0 15 (.mv (.tmp 14)), q1 16 (.faddr 17 (.tmp 1)) 15 false, q1 17 (.load false 1 (.tmp 16)) 15 false, q1 18 (.bin .lss (.tmp 17) (ki 1)) 15 false, q0 19 (.pick (.tmp 15) kT (.tmp 18)), q0 20 (.mv (.tmp 19)), q1 21 (.faddr 17 (.tmp 1)) 20 false, q1 22 (.load false 1 (.tmp 21)) 20 false, q1 23 (.bin .gtr (.tmp 22) (ki 1099511627776)) 20 false, q0 24 (.pick (.tmp 20) kT (.tmp 23))]
def s41_3 : List CI := [q0 2 (.mv (ki 1))]
def s41_4 : List CI := [q0 25 (.faddr 2 (.tmp 1)), q0 26 (.load true 3 (.tmp 25)), q0 27 (.call 69 [.tmp 26]), q0 4 (.mv (.tmp 27))]
def s41_5 : List CI := [q0 28 (.mv (.tmp 4)), q0 29 (.bin .neq (.tmp 28) (ki 0))]
def s41_6 : List CI := [q0 30 (.mv (.tmp 4)), q0 2 (.mv (.tmp 30))]
def s41_7 : List CI := [q0 31 (.faddr 5 (.tmp 1)), q0 32 (.load true 12 (.tmp 31)), q0 33 (.call 70 [.tmp 32]), q0 2 (.mv (.tmp 33))]
def a41 : AC := (.seq (.reg s41_0) (.keep [1] (.seq (.reg s41_1) (.keep [1, 3] (.seq (.seq (.reg s41_2) (.keep [1, 24] (.cond (.tmp 24) (.seq (.reg s41_3) .ret) .skip))) (.keep [1] (.seq (.reg s41_4) (.keep [1, 4] (.seq (.seq (.reg s41_5) (.keep [1, 4, 29] (.cond (.tmp 29) (.seq (.reg s41_6) .ret) .skip))) (.keep [1] (.seq (.reg s41_7) .ret)))))))))))
def s43_0 : List CI := [q0 3 (.box 37 (.tmp 1)), q0 4 (.alloc 49 (.agg #[.string ⟨#[]⟩, .string ⟨#[]⟩, .int .i64 0, .slice none 0 0, .string ⟨#[]⟩, .int .i64 0, .string ⟨#[]⟩, .string ⟨#[]⟩, .string ⟨#[]⟩, .int .i64 0, .int .i64 0, .string ⟨#[]⟩, .slice none 0 0, .int .i64 0, .int .i64 0, .int .i64 0, .slice none 0 0, .int .i64 0]))]
def s43_1 : List CI := [q0 5 (.mv (.tmp 0)), q0 6 (.build [.int .i64 0, .slice none 0 0, .string ⟨#[]⟩] [(0, 1, ki 2)]), q0 7 (.load true 12 (.tmp 3)), q0 8 (.build [.string ⟨#[]⟩, .string ⟨#[]⟩, .int .i64 0, .slice none 0 0, .string ⟨#[]⟩, .int .i64 0, .string ⟨#[]⟩, .string ⟨#[]⟩, .string ⟨#[]⟩, .int .i64 0, .int .i64 0, .string ⟨#[]⟩, .slice none 0 0, .int .i64 0, .int .i64 0, .int .i64 0, .slice none 0 0, .int .i64 0] [(0, 1, .tmp 5), (1, 1, ks ⟨#[117, 115, 101, 114]⟩), (2, 3, .tmp 6), (5, 12, .tmp 7), (17, 1, ki 1)]), .mk none (.store 18 (.tmp 4) (.tmp 8)) none]
def a43 : AC := (.seq (.reg s43_0) (.keep [0, 3, 4] (.seq (.reg s43_1) .ret)))
def c43 : FC := ⟨9, a43.erase, [.cell 4 true 18]⟩
theorem comp43 : compF Tryz.prog Tryz.f43 = some c43 := by kernel_rfl
theorem era43 : c43.code = a43.erase := rfl
def s44_0 : List CI := [q0 2 (.alloc 37 (.agg #[.int .i64 0, .string ⟨#[]⟩, .string ⟨#[]⟩, .string ⟨#[]⟩, .int .i64 0, .int .i64 0, .string ⟨#[]⟩, .slice none 0 0, .int .i64 0, .int .i64 0, .int .i64 0, .slice none 0 0]))]
def s44_1 : List CI := [q0 3 (.mv (.tmp 0)), q0 4 (.build [.int .i64 0, .string ⟨#[]⟩, .string ⟨#[]⟩, .string ⟨#[]⟩, .int .i64 0, .int .i64 0, .string ⟨#[]⟩, .slice none 0 0, .int .i64 0, .int .i64 0, .int .i64 0, .slice none 0 0] [(0, 1, ki 3), (2, 1, .tmp 3)]), .mk none (.store 12 (.tmp 2) (.tmp 4)) none]
def a44 : AC := (.seq (.reg s44_0) (.keep [0, 2] (.seq (.reg s44_1) .ret)))
def c44 : FC := ⟨5, a44.erase, [.cell 2 true 12]⟩
theorem comp44 : compF Tryz.prog Tryz.f44 = some c44 := by kernel_rfl
theorem era44 : c44.code = a44.erase := rfl
def s46_0 : List CI := [q0 2 (.mv (.const (.slice none 0 0)))]
def s46_1 : List CI := [q0 4 (.mv (.tmp 0)), q0 5 (.call 73 [.tmp 4]), q0 3 (.mv (.tmp 5))]
def s46_2 : List CI := [q0 6 (.mv (.tmp 3)), q0 7 (.call 74 [.tmp 6])]
def s46_3 : List CI := [q0 8 (.mv (.tmp 3)), q0 2 (.mv (.tmp 8))]
def a46 : AC := (.seq (.reg s46_0) (.keep [0] (.seq (.reg s46_1) (.keep [3] (.seq (.reg s46_2) (.keep [3] (.seq (.reg s46_3) .ret)))))))
def s51_0 : List CI := [q0 1 (.box 25 (.tmp 0)), q0 2 (.mv (.const (.slice none 0 0))), q0 3 (.mv (.const (.slice none 0 0)))]
def s51_1 : List CI := [q0 10 (.load true 4 (.tmp 1)), q0 11 (.call 26 [.tmp 10]), q0 4 (.mv (.tmp 11))]
def s51_2 : List CI := [q0 5 (.mv (.const (.slice none 0 0)))]
def s51_3 : List CI := [q0 6 (.mv (ki 0))]
def s51_4 : List CI := [q0 12 (.mv (.tmp 6)), q0 13 (.mv (.tmp 4)), q0 14 (.len false (.tmp 13)), q0 15 (.bin .lss (.tmp 12) (.tmp 14))]
def s51_5 : List CI := [q0 18 (.load true 4 (.tmp 1)), q0 19 (.mv (.tmp 4)), q0 20 (.mv (.tmp 6)), q0 21 (.iaddr 1 (.tmp 19) (.tmp 20)), q0 22 (.load false 1 (.tmp 21)), q0 23 (.call 53 [.tmp 18, .tmp 22]), q0 7 (.mv (.tmp 23))]
def s51_6 : List CI := [q0 8 (.mv (.const (.slice none 0 0)))]
def s51_7 : List CI := [q0 9 (.mv (ki 0))]
def s51_8 : List CI := [q0 24 (.mv (.tmp 9)), q0 25 (.mv (.tmp 4)), q0 26 (.len false (.tmp 25)), q0 27 (.bin .lss (.tmp 24) (.tmp 26))]
def s51_9 : List CI := [q0 30 (.mv (.tmp 7)), q0 31 (.mv (.tmp 4)), q0 32 (.mv (.tmp 9)), q0 33 (.iaddr 1 (.tmp 31) (.tmp 32)), q0 34 (.load false 1 (.tmp 33)), q0 35 (.call 25 [.tmp 30, .tmp 34])]
def s51_10 : List CI := [q0 36 (.mv (.tmp 8)), q0 37 (.mv (.tmp 9)), q0 38 (.mksl 3 1 [.tmp 37]), q0 39 (.append 3 1 8 [.int .i64 0] (.tmp 36) (.tmp 38)), q0 8 (.mv (.tmp 39))]
def s51_11 : List CI := [q0 28 (.mv (.tmp 9)), q0 29 (.bin .add (.tmp 28) (ki 1)), q0 9 (.mv (.tmp 29))]
def s51_12 : List CI := [q0 40 (.mv (.tmp 5)), q0 41 (.mv (.tmp 8)), q0 42 (.mksl 83 1 [.tmp 41]), q0 43 (.append 83 1 24 [.slice none 0 0] (.tmp 40) (.tmp 42)), q0 5 (.mv (.tmp 43))]
def s51_13 : List CI := [q0 16 (.mv (.tmp 6)), q0 17 (.bin .add (.tmp 16) (ki 1)), q0 6 (.mv (.tmp 17))]
def s51_14 : List CI := [q0 44 (.mv (.tmp 4)), q0 45 (.mv (.tmp 5)), q0 2 (.mv (.tmp 44)), q0 3 (.mv (.tmp 45))]
def a51 : AC := (.seq (.reg s51_0) (.keep [1] (.seq (.reg s51_1) (.keep [1, 4] (.seq (.reg s51_2) (.keep [1, 4, 5] (.seq (.seq (.reg s51_3) (.keep [1, 4, 5, 6] (.block 0 (.loop (.keep [1, 4, 5, 6] (.seq (.seq (.reg s51_4) (.keep [1, 4, 5, 6, 15] (.cond (.tmp 15) .skip (.exit 0)))) (.keep [1, 4, 5, 6] (.seq (.block 1 (.seq (.dreg s51_5) (.keep [1, 4, 5, 6, 7] (.seq (.reg s51_6) (.keep [1, 4, 5, 6, 7, 8] (.seq (.seq (.reg s51_7) (.keep [1, 4, 5, 6, 7, 8, 9] (.block 2 (.loop (.keep [1, 4, 5, 6, 7, 8, 9] (.seq (.seq (.reg s51_8) (.keep [1, 4, 5, 6, 7, 8, 9, 27] (.cond (.tmp 27) .skip (.exit 2)))) (.keep [1, 4, 5, 6, 7, 8, 9] (.seq (.block 3 (.seq (.reg s51_9) (.keep [1, 4, 5, 6, 7, 8, 9, 35] (.cond (.tmp 35) (.reg s51_10) .skip)))) (.keep [1, 4, 5, 6, 7, 8, 9] (.reg s51_11)))))))))) (.keep [1, 4, 5, 6, 8] (.reg s51_12)))))))) (.keep [1, 4, 5, 6] (.reg s51_13)))))))))) (.keep [4, 5] (.seq (.reg s51_14) .ret)))))))))
def s53_0 : List CI := [q0 2 (.box 25 (.tmp 0)), q0 4 (.mv (.const (.slice none 0 0)))]
def s53_1 : List CI := [q0 14 (.load true 4 (.tmp 2)), q0 15 (.mv (.tmp 1)), q0 16 (.call 31 [.tmp 14, .tmp 15]), q0 13 (.mv (.tmp 16)), q0 17 (.extract (.tmp 13) 0), q0 18 (.extract (.tmp 13) 1), q0 5 (.alloc 49 (.agg #[.string ⟨#[]⟩, .string ⟨#[]⟩, .int .i64 0, .slice none 0 0, .string ⟨#[]⟩, .int .i64 0, .string ⟨#[]⟩, .string ⟨#[]⟩, .string ⟨#[]⟩, .int .i64 0, .int .i64 0, .string ⟨#[]⟩, .slice none 0 0, .int .i64 0, .int .i64 0, .int .i64 0, .slice none 0 0, .int .i64 0])), .mk none (.store 18 (.tmp 5) (.tmp 17)) none, q0 6 (.mv (.tmp 18))]
def s53_2 : List CI := [q0 20 (.faddr 5 (.tmp 5)), q0 21 (.load true 12 (.tmp 20)), q0 22 (.call 22 [.tmp 21, .const (.slice none 0 0), .const (.slice none 0 0)]), q0 19 (.mv (.tmp 22)), q0 23 (.extract (.tmp 19) 0), q0 24 (.extract (.tmp 19) 1), q0 7 (.mv (.tmp 23)), q0 8 (.mv (.tmp 24))]
def s53_3 : List CI := [q0 9 (.mv (.const (.slice none 0 0)))]
def s53_4 : List CI := [q0 10 (.mv (ki 0))]
def s53_5 : List CI := [q0 25 (.mv (.tmp 10)), q0 26 (.mv (.tmp 7)), q0 27 (.len false (.tmp 26)), q0 28 (.bin .lss (.tmp 25) (.tmp 27))]
def s53_6 : List CD := [.mk 0 (q0 32 (.load true 4 (.tmp 2))) [], .mk 1 (q0 33 (.mv (.tmp 7))) [], .mk 2 (q0 34 (.mv (.tmp 10))) [], .mk 3 (q0 35 (.iaddr 1 (.tmp 33) (.tmp 34))) [], .mk 4 (q0 36 (.load false 1 (.tmp 35))) [], .mk 5 (q0 37 (.call 31 [.tmp 32, .tmp 36])) [], .mk 6 (q0 31 (.mv (.tmp 37))) [], .mk 7 (q0 38 (.extract (.tmp 31) 0)) [], .mk 8 (q0 39 (.extract (.tmp 31) 1)) [], .mk 9 (q0 11 (.alloc 49 (.agg #[.string ⟨#[]⟩, .string ⟨#[]⟩, .int .i64 0, .slice none 0 0, .string ⟨#[]⟩, .int .i64 0, .string ⟨#[]⟩, .string ⟨#[]⟩, .string ⟨#[]⟩, .int .i64 0, .int .i64 0, .string ⟨#[]⟩, .slice none 0 0, .int .i64 0, .int .i64 0, .int .i64 0, .slice none 0 0, .int .i64 0]))) [], .mk 10 (.mk none (.store 18 (.tmp 11) (.tmp 38)) none) [11], .mk 11 (q0 12 (.mv (.tmp 39))) []]
def s53_7 : List CI := [q0 40 (.mv (.tmp 12))]
def s53_8 : List CI := [q0 41 (.mv (.tmp 9)), q0 42 (.mv (.tmp 7)), q0 43 (.mv (.tmp 10)), q0 44 (.iaddr 1 (.tmp 42) (.tmp 43)), q0 45 (.load false 1 (.tmp 44)), q0 46 (.mksl 9 1 [.tmp 45]), q0 47 (.append 9 1 16 [.string ⟨#[]⟩] (.tmp 41) (.tmp 46)), q0 9 (.mv (.tmp 47))]
def s53_9 : List CI := [q0 29 (.mv (.tmp 10)), q0 30 (.bin .add (.tmp 29) (ki 1)), q0 10 (.mv (.tmp 30))]
def s53_10 : List CI := [q0 48 (.mv (.tmp 9)), q0 4 (.mv (.tmp 48))]
def a53 : AC := (.seq (.reg s53_0) (.keep [1, 2] (.seq (.reg s53_1) (.keep [2, 5] (.seq (.reg s53_2) (.keep [2, 7] (.seq (.reg s53_3) (.keep [2, 7, 9] (.seq (.seq (.reg s53_4) (.keep [2, 7, 9, 10] (.block 0 (.loop (.keep [2, 7, 9, 10] (.seq (.seq (.reg s53_5) (.keep [2, 7, 9, 10, 28] (.cond (.tmp 28) .skip (.exit 0)))) (.keep [2, 7, 9, 10] (.seq (.block 1 (.seq (.mreg [11] s53_6) (.keep [2, 7, 9, 10, 12] (.seq (.reg s53_7) (.keep [2, 7, 9, 10, 40] (.cond (.tmp 40) (.reg s53_8) .skip)))))) (.keep [2, 7, 9, 10] (.reg s53_9)))))))))) (.keep [9] (.seq (.reg s53_10) .ret)))))))))))
def s55_0 : List CI := [q0 3 (.box 9 (.tmp 1)), q0 4 (.alloc 49 (.agg #[.string ⟨#[]⟩, .string ⟨#[]⟩, .int .i64 0, .slice none 0 0, .string ⟨#[]⟩, .int .i64 0, .string ⟨#[]⟩, .string ⟨#[]⟩, .string ⟨#[]⟩, .int .i64 0, .int .i64 0, .string ⟨#[]⟩, .slice none 0 0, .int .i64 0, .int .i64 0, .int .i64 0, .slice none 0 0, .int .i64 0])), q0 5 (.mv kF)]
def s55_1 : List CI := [q0 7 (.mv (.tmp 0)), q0 8 (.mkfn (Fn.func 81) [] [.tmp 3]), q0 9 (.call 80 [.tmp 7, .tmp 8]), q0 6 (.mv (.tmp 9))]
def s55_2 : List CI := [q0 10 (.mv (.tmp 6)), q0 11 (.bin .geq (.tmp 10) (ki 0))]
def s55_3 : List CI := [q0 12 (.mv (.tmp 0)), q0 13 (.mv (.tmp 6)), q0 14 (.iaddr 18 (.tmp 12) (.tmp 13)), q0 15 (.load true 18 (.tmp 14)), .mk none (.store 18 (.tmp 4) (.tmp 15)) none, q0 5 (.mv kT)]
def s55_4 : List CI := [q0 16 (.build [.string ⟨#[]⟩, .string ⟨#[]⟩, .int .i64 0, .slice none 0 0, .string ⟨#[]⟩, .int .i64 0, .string ⟨#[]⟩, .string ⟨#[]⟩, .string ⟨#[]⟩, .int .i64 0, .int .i64 0, .string ⟨#[]⟩, .slice none 0 0, .int .i64 0, .int .i64 0, .int .i64 0, .slice none 0 0, .int .i64 0] []), .mk none (.store 18 (.tmp 4) (.tmp 16)) none, q0 5 (.mv kF)]
def a55 : AC := (.seq (.reg s55_0) (.keep [0, 3, 4] (.seq (.seq (.reg s55_1) (.keep [0, 4, 6] (.seq (.reg s55_2) (.keep [0, 4, 6, 11] (.cond (.tmp 11) (.seq (.reg s55_3) .ret) .skip))))) (.keep [4] (.seq (.reg s55_4) .ret)))))
def c55 : FC := ⟨17, a55.erase, [.cell 4 true 18, .tmp 5]⟩
theorem comp55 : compF Tryz.prog Tryz.f55 = some c55 := by kernel_rfl
theorem era55 : c55.code = a55.erase := rfl
def s56_0 : List CI := [q0 1 (.box 37 (.tmp 0)), q0 2 (.mv (ki 0))]
def s56_1 : List CI := [q0 3 (.load true 12 (.tmp 1)), q0 4 (.call 82 [.tmp 3]), q0 5 (.bin .gtr (.tmp 4) (ki 64)), q0 6 (.mv (.tmp 5)), q1 7 (.load true 12 (.tmp 1)) 6 false, q1 8 (.call 83 [.tmp 7]) 6 false, q1 9 (.bin .gtr (.tmp 8) (ki 12)) 6 false, q0 10 (.pick (.tmp 6) kT (.tmp 9))]
def s56_2 : List CI := [q0 2 (.mv (ki 2))]
def s56_3 : List CI := [q0 11 (.load true 12 (.tmp 1)), q0 12 (.call 84 [.tmp 11, kF]), q0 13 (.un .not (.tmp 12))]
def s56_4 : List CI := [q0 2 (.mv (ki 3))]
def s56_5 : List CI := [q0 2 (.mv (ki 0))]
def a56 : AC := (.seq (.reg s56_0) (.keep [1] (.seq (.seq (.reg s56_1) (.keep [1, 10] (.cond (.tmp 10) (.seq (.reg s56_2) .ret) .skip))) (.keep [1] (.seq (.seq (.reg s56_3) (.keep [13] (.cond (.tmp 13) (.seq (.reg s56_4) .ret) .skip))) (.keep [] (.seq (.reg s56_5) .ret)))))))
def c56 : FC := ⟨14, a56.erase, [.tmp 2]⟩
theorem comp56 : compF Tryz.prog Tryz.f56 = some c56 := by kernel_rfl
theorem era56 : c56.code = a56.erase := rfl
def s57_0 : List CI := [q0 2 (.alloc 47 (.agg #[.int .i64 0, .slice none 0 0, .string ⟨#[]⟩])), q0 3 (.mv (ki 0))]
def s57_1 : List CI := [q0 4 (.build [.int .i64 0, .slice none 0 0, .string ⟨#[]⟩] []), q0 5 (.mv (.tmp 0)), .mk none (.store 3 (.tmp 2) (.tmp 4)) none, q0 3 (.mv (.tmp 5))]
def a57 : AC := (.seq (.reg s57_0) (.keep [0, 2] (.seq (.reg s57_1) .ret)))
def c57 : FC := ⟨6, a57.erase, [.cell 2 true 3, .tmp 3]⟩
theorem comp57 : compF Tryz.prog Tryz.f57 = some c57 := by kernel_rfl
theorem era57 : c57.code = a57.erase := rfl
def s58_0 : List CI := [q0 2 (.box 92 (.tmp 0)), q0 3 (.box 37 (.tmp 1)), q0 4 (.alloc 47 (.agg #[.int .i64 0, .slice none 0 0, .string ⟨#[]⟩])), q0 5 (.mv (ki 0))]
def s58_1 : List CI := [q0 14 (.load true 6 (.tmp 2)), q0 6 (.alloc 92 (.agg #[.slice none 0 0, .slice none 0 0, .slice none 0 0, .slice none 0 0, .string ⟨#[]⟩, .nilFunc])), .mk none (.store 6 (.tmp 6) (.tmp 14)) none]
def s58_2 : List CI := [q0 15 (.faddr 0 (.tmp 3)), q0 16 (.load false 1 (.tmp 15)), q0 17 (.bin .eql (.tmp 16) (ki 5))]
def s58_3 : List CI := [q0 18 (.faddr 0 (.tmp 2)), q0 19 (.faddr 0 (.tmp 18)), q0 20 (.load false 1 (.tmp 19)), q0 21 (.mkfn (Fn.func 86) [] [.tmp 3]), q0 22 (.call 85 [.tmp 20, .tmp 21]), q0 7 (.mv (.tmp 22))]
def s58_4 : List CI := [q0 23 (.mv (.tmp 7)), q0 24 (.bin .lss (.tmp 23) (ki 0))]
def s58_5 : List CI := [q0 25 (.call 57 [ki 4]), q0 26 (.extract (.tmp 25) 0), q0 27 (.extract (.tmp 25) 1), .mk none (.store 3 (.tmp 4) (.tmp 26)) none, q0 5 (.mv (.tmp 27))]
def s58_6 : List CI := [q0 28 (.faddr 0 (.tmp 2)), q0 29 (.faddr 0 (.tmp 28)), q0 30 (.load false 1 (.tmp 29)), q0 31 (.mv (.tmp 7)), q0 32 (.iaddr 4 (.tmp 30) (.tmp 31)), q0 33 (.load true 4 (.tmp 32)), q0 8 (.alloc 58 (.agg #[.string ⟨#[]⟩, .string ⟨#[]⟩, .slice none 0 0, .int .i64 0])), .mk none (.store 4 (.tmp 8) (.tmp 33)) none]
def s58_7 : List CI := [q0 34 (.faddr 1 (.tmp 8)), q0 35 (.load false 1 (.tmp 34)), q0 36 (.faddr 4 (.tmp 2)), q0 37 (.load false 1 (.tmp 36)), q0 38 (.bin .neq (.tmp 35) (.tmp 37))]
def s58_8 : List CI := [q0 39 (.call 57 [ki 5]), q0 40 (.extract (.tmp 39) 0), q0 41 (.extract (.tmp 39) 1), .mk none (.store 3 (.tmp 4) (.tmp 40)) none, q0 5 (.mv (.tmp 41))]
def s58_9 : List CI := [q0 42 (.mkfn (Fn.func 87) [] [.tmp 8]), q0 43 (.faddr 5 (.tmp 6)), .mk none (.store 1 (.tmp 43) (.tmp 42)) none]
def s58_10 : List CI := [q0 9 (.mv (.const (.slice none 0 0)))]
def s58_11 : List CI := [q0 44 (.faddr 11 (.tmp 3)), q0 45 (.load false 1 (.tmp 44)), q0 46 (.len false (.tmp 45)), q0 47 (.mv (ki 0))]
def s58_12 : List CI := [q0 48 (.bin .lss (.tmp 47) (.tmp 46))]
def s58_13 : List CI := [q0 49 (.iaddr 12 (.tmp 45) (.tmp 47)), q0 50 (.load true 12 (.tmp 49)), q0 11 (.alloc 37 (.agg #[.int .i64 0, .string ⟨#[]⟩, .string ⟨#[]⟩, .string ⟨#[]⟩, .int .i64 0, .int .i64 0, .string ⟨#[]⟩, .slice none 0 0, .int .i64 0, .int .i64 0, .int .i64 0, .slice none 0 0])), .mk none (.store 12 (.tmp 11) (.tmp 50)) none]
def s58_14 : List CI := [q0 52 (.load true 6 (.tmp 6)), q0 53 (.load true 12 (.tmp 11)), q0 54 (.call 58 [.tmp 52, .tmp 53]), q0 51 (.mv (.tmp 54)), q0 55 (.extract (.tmp 51) 0), q0 56 (.extract (.tmp 51) 1), q0 12 (.alloc 47 (.agg #[.int .i64 0, .slice none 0 0, .string ⟨#[]⟩])), .mk none (.store 3 (.tmp 12) (.tmp 55)) none, q0 13 (.mv (.tmp 56))]
def s58_15 : List CI := [q0 57 (.mv (.tmp 13)), q0 58 (.bin .neq (.tmp 57) (ki 0))]
def s58_16 : List CI := [q0 59 (.mv (.tmp 13)), q0 60 (.call 57 [.tmp 59]), q0 61 (.extract (.tmp 60) 0), q0 62 (.extract (.tmp 60) 1), .mk none (.store 3 (.tmp 4) (.tmp 61)) none, q0 5 (.mv (.tmp 62))]
def s58_17 : List CI := [q0 63 (.mv (.tmp 9)), q0 64 (.load true 3 (.tmp 12)), q0 65 (.mksl 47 3 [.tmp 64]), q0 66 (.append 47 3 48 [.int .i64 0, .slice none 0 0, .string ⟨#[]⟩] (.tmp 63) (.tmp 65)), q0 9 (.mv (.tmp 66))]
def s58_18 : List CI := [q0 67 (.bin .add (.tmp 47) (ki 1)), q0 47 (.mv (.tmp 67))]
def s58_19 : List CD := [.mk 0 (q0 68 (.load true 6 (.tmp 2))) [], .mk 1 (q0 69 (.faddr 0 (.tmp 3))) [], .mk 2 (q0 70 (.load false 1 (.tmp 69))) [], .mk 3 (q0 71 (.call 90 [.tmp 68, .tmp 70])) [], .mk 4 (q0 72 (.load true 12 (.tmp 3))) [], .mk 5 (q0 73 (.mv (.tmp 9))) [], .mk 6 (q0 74 (.callv (.tmp 71) [.tmp 72, .tmp 73])) [], .mk 7 (q0 75 (.extract (.tmp 74) 0)) [], .mk 8 (q0 76 (.extract (.tmp 74) 1)) [], .mk 9 (.mk none (.store 3 (.tmp 4) (.tmp 75)) none) [4], .mk 10 (q0 5 (.mv (.tmp 76))) []]
def a58 : AC := (.seq (.reg s58_0) (.keep [2, 3, 4] (.seq (.reg s58_1) (.keep [2, 3, 4, 6] (.seq (.seq (.reg s58_2) (.keep [2, 3, 4, 6, 17] (.cond (.tmp 17) (.seq (.reg s58_3) (.keep [2, 3, 4, 6, 7] (.seq (.seq (.reg s58_4) (.keep [2, 3, 4, 6, 7, 24] (.cond (.tmp 24) (.seq (.reg s58_5) .ret) .skip))) (.keep [2, 3, 4, 6, 7] (.seq (.reg s58_6) (.keep [2, 3, 4, 6, 8] (.seq (.seq (.reg s58_7) (.keep [2, 3, 4, 6, 8, 38] (.cond (.tmp 38) (.seq (.reg s58_8) .ret) .skip))) (.keep [2, 3, 4, 6, 8] (.reg s58_9))))))))) .skip))) (.keep [2, 3, 4, 6] (.seq (.reg s58_10) (.keep [2, 3, 4, 6, 9] (.seq (.seq (.reg s58_11) (.keep [2, 3, 4, 6, 9, 45, 46, 47] (.block 0 (.loop (.keep [2, 3, 4, 6, 9, 45, 46, 47] (.seq (.reg s58_12) (.keep [2, 3, 4, 6, 9, 45, 46, 47, 48] (.seq (.cond (.tmp 48) .skip (.exit 0)) (.keep [2, 3, 4, 6, 9, 45, 46, 47] (.seq (.block 1 (.seq (.reg s58_13) (.keep [2, 3, 4, 6, 9, 11, 45, 46, 47] (.seq (.reg s58_14) (.keep [2, 3, 4, 6, 9, 12, 13, 45, 46, 47] (.seq (.seq (.reg s58_15) (.keep [2, 3, 4, 6, 9, 12, 13, 45, 46, 47, 58] (.cond (.tmp 58) (.seq (.reg s58_16) .ret) .skip))) (.keep [2, 3, 4, 6, 9, 12, 45, 46, 47] (.reg s58_17)))))))) (.keep [2, 3, 4, 6, 9, 45, 46, 47] (.reg s58_18)))))))))))) (.keep [2, 3, 4, 9] (.seq (.mreg [] s58_19) .ret)))))))))))
def c58 : FC := ⟨77, a58.erase, [.cell 4 true 3, .tmp 5]⟩
theorem comp58 : compF Tryz.prog Tryz.f58 = some c58 := by kernel_rfl
theorem era58 : c58.code = a58.erase := rfl
def s59_0 : List CI := [q0 4 (.mv kF)]
def s59_1 : List CI := [q0 6 (.mv (.tmp 0)), q0 7 (.len false (.tmp 6)), q0 8 (.mv (.tmp 1)), q0 9 (.len false (.tmp 8)), q0 10 (.bin .neq (.tmp 7) (.tmp 9))]
def s59_2 : List CI := [q0 4 (.mv kF)]
def s59_3 : List CI := [q0 5 (.mv (ki 0))]
def s59_4 : List CI := [q0 11 (.mv (.tmp 5)), q0 12 (.mv (.tmp 0)), q0 13 (.len false (.tmp 12)), q0 14 (.bin .lss (.tmp 11) (.tmp 13))]
def s59_5 : List CI := [q0 17 (.mv (.tmp 0)), q0 18 (.mv (.tmp 5)), q0 19 (.iaddr 2 (.tmp 17) (.tmp 18)), q0 20 (.load true 2 (.tmp 19)), q0 21 (.mv (.tmp 1)), q0 22 (.mv (.tmp 5)), q0 23 (.iaddr 2 (.tmp 21) (.tmp 22)), q0 24 (.load true 2 (.tmp 23)), q0 25 (.eqs true [.str, .int] (.tmp 20) (.tmp 24))]
def s59_6 : List CI := [q0 4 (.mv kF)]
def s59_7 : List CI := [q0 15 (.mv (.tmp 5)), q0 16 (.bin .add (.tmp 15) (ki 1)), q0 5 (.mv (.tmp 16))]
def s59_8 : List CI := [q0 4 (.mv kT)]
def a59 : AC := (.seq (.reg s59_0) (.keep [0, 1] (.seq (.seq (.reg s59_1) (.keep [0, 1, 10] (.cond (.tmp 10) (.seq (.reg s59_2) .ret) .skip))) (.keep [0, 1] (.seq (.seq (.reg s59_3) (.keep [0, 1, 5] (.block 0 (.loop (.keep [0, 1, 5] (.seq (.seq (.reg s59_4) (.keep [0, 1, 5, 14] (.cond (.tmp 14) .skip (.exit 0)))) (.keep [0, 1, 5] (.seq (.block 1 (.seq (.dreg s59_5) (.keep [0, 1, 5, 25] (.cond (.tmp 25) (.seq (.reg s59_6) .ret) .skip)))) (.keep [0, 1, 5] (.reg s59_7)))))))))) (.keep [] (.seq (.reg s59_8) .ret)))))))
def c59 : FC := ⟨26, a59.erase, [.tmp 4]⟩
theorem comp59 : compF Tryz.prog Tryz.f59 = some c59 := by kernel_rfl
theorem era59 : c59.code = a59.erase := rfl
def s62_0 : List CI := [q0 2 (.mv kF)]
def s62_1 : List CI := [q0 5 (.mv (.tmp 0)), q0 6 (.bin .eql (.tmp 5) (ks ⟨#[]⟩)), q0 7 (.mv (.tmp 6)), q1 8 (.mv (.tmp 0)) 7 false, q1 9 (.len true (.tmp 8)) 7 false, q1 10 (.bin .gtr (.tmp 9) (ki 24)) 7 false, q0 11 (.pick (.tmp 7) kT (.tmp 10)), q0 12 (.mv (.tmp 11)), q1 13 (.mv (.tmp 0)) 12 false, q1 14 (.call 91 [.tmp 13]) 12 false, q0 15 (.pick (.tmp 12) kT (.tmp 14))]
def s62_2 : List CI := [q0 2 (.mv kF)]
def s62_3 : List CI := [q0 16 (.mv (.tmp 0)), q0 17 (.len true (.tmp 16)), q0 18 (.mv (ki 0))]
def s62_4 : List CI := [q0 19 (.bin .lss (.tmp 18) (.tmp 17))]
def s62_5 : List CI := [q0 20 (.mv (.tmp 18)), q0 3 (.mv (.tmp 20))]
def s62_6 : List CI := [q0 21 (.mv (.tmp 0)), q0 22 (.mv (.tmp 3)), q0 23 (.idxs (.tmp 21) (.tmp 22)), q0 4 (.mv (.tmp 23))]
def s62_7 : List CI := [q0 25 (.mv (.tmp 4)), q0 26 (.bin .geq (.tmp 25) (.const (.int .u8 97))), q0 27 (.mv (.tmp 26)), q1 28 (.mv (.tmp 4)) 27 true, q1 29 (.bin .leq (.tmp 28) (.const (.int .u8 122))) 27 true, q0 30 (.pick (.tmp 27) (.tmp 29) kF), q0 24 (.mv (.tmp 30))]
def s62_8 : List CI := [q0 32 (.mv (.tmp 3)), q0 33 (.bin .gtr (.tmp 32) (ki 0)), q0 34 (.mv (.tmp 33)), q1 35 (.mv (.tmp 4)) 34 true, q1 36 (.bin .geq (.tmp 35) (.const (.int .u8 48))) 34 true, q1 37 (.mv (.tmp 36)) 34 true, q1 38 (.mv (.tmp 4)) 37 true, q1 39 (.bin .leq (.tmp 38) (.const (.int .u8 57))) 37 true, q1 40 (.pick (.tmp 37) (.tmp 39) kF) 34 true, q1 41 (.mv (.tmp 40)) 34 true, q1 42 (.mv (.tmp 4)) 41 false, q1 43 (.bin .eql (.tmp 42) (.const (.int .u8 95))) 41 false, q1 44 (.pick (.tmp 41) kT (.tmp 43)) 34 true, q0 45 (.pick (.tmp 34) (.tmp 44) kF), q0 31 (.mv (.tmp 45))]
def s62_9 : List CI := [q0 2 (.mv kF)]
def s62_10 : List CI := [q0 46 (.bin .add (.tmp 18) (ki 1)), q0 18 (.mv (.tmp 46))]
def s62_11 : List CI := [q0 2 (.mv kT)]
def a62 : AC := (.seq (.reg s62_0) (.keep [0] (.seq (.seq (.reg s62_1) (.keep [0, 15] (.cond (.tmp 15) (.seq (.reg s62_2) .ret) .skip))) (.keep [0] (.seq (.seq (.reg s62_3) (.keep [0, 17, 18] (.block 0 (.loop (.keep [0, 17, 18] (.seq (.reg s62_4) (.keep [0, 17, 18, 19] (.seq (.cond (.tmp 19) .skip (.exit 0)) (.keep [0, 17, 18] (.seq (.block 1 (.seq (.reg s62_5) (.keep [0, 3, 17, 18] (.seq (.reg s62_6) (.keep [0, 3, 4, 17, 18] (.block 2 (.seq (.reg s62_7) (.keep [0, 3, 4, 17, 18, 24] (.cond (.tmp 24) .skip (.seq (.reg s62_8) (.keep [0, 17, 18, 31] (.cond (.tmp 31) .skip (.seq (.reg s62_9) .ret))))))))))))) (.keep [0, 17, 18] (.reg s62_10)))))))))))) (.keep [] (.seq (.reg s62_11) .ret)))))))
def c62 : FC := ⟨47, a62.erase, [.tmp 2]⟩
theorem comp62 : compF Tryz.prog Tryz.f62 = some c62 := by kernel_rfl
theorem era62 : c62.code = a62.erase := rfl
def s63_0 : List CI := [q0 4 (.mv kF)]
def s63_1 : List CI := [q0 5 (.mv (.tmp 0)), q0 6 (.mv (.tmp 1)), q0 7 (.call 88 [.tmp 5, .tmp 6]), q0 8 (.bin .geq (.tmp 7) (ki 0)), q0 4 (.mv (.tmp 8))]
def a63 : AC := (.seq (.reg s63_0) (.keep [0, 1] (.seq (.reg s63_1) .ret)))
def c63 : FC := ⟨9, a63.erase, [.tmp 4]⟩
theorem comp63 : compF Tryz.prog Tryz.f63 = some c63 := by kernel_rfl
theorem era63 : c63.code = a63.erase := rfl
def s64_0 : List CI := [q0 2 (.box 96 (.tmp 0)), q0 3 (.mv kF)]
def s64_1 : List CI := [q0 4 (.faddr 0 (.tmp 2)), q0 5 (.load false 1 (.tmp 4)), q0 6 (.faddr 0 (.tmp 1)), q0 7 (.load false 1 (.tmp 6)), q0 8 (.bin .eql (.tmp 5) (.tmp 7)), q0 3 (.mv (.tmp 8))]
def a64 : AC := (.seq (.reg s64_0) (.keep [1, 2] (.seq (.reg s64_1) .ret)))
def c64 : FC := ⟨9, a64.erase, [.tmp 3]⟩
theorem comp64 : compF Tryz.prog Tryz.f64 = some c64 := by kernel_rfl
theorem era64 : c64.code = a64.erase := rfl
def s65_0 : List CI := [q0 1 (.box 47 (.tmp 0)), q0 2 (.mv (ki 0))]
def s65_1 : List CI := [q0 3 (.faddr 0 (.tmp 1)), q0 4 (.load false 1 (.tmp 3)), q0 5 (.bin .lss (.tmp 4) (ki 1)), q0 6 (.mv (.tmp 5)), q1 7 (.faddr 0 (.tmp 1)) 6 false, q1 8 (.load false 1 (.tmp 7)) 6 false, q1 9 (.bin .gtr (.tmp 8) (ki 5)) 6 false, q0 10 (.pick (.tmp 6) kT (.tmp 9)), q0 11 (.mv (.tmp 10)), q1 12 (.faddr 1 (.tmp 1)) 11 false, q1 13 (.load false 1 (.tmp 12)) 11 false, q1 14 (.len false (.tmp 13)) 11 false, q1 15 (.bin .gtr (.tmp 14) (ki 0)) 11 false, q1 16 (.mv (.tmp 15)) 11 false, q1 17 (.load true 3 (.tmp 1)) 16 true, q1 18 (.call 92 [.tmp 17]) 16 true, q1 19 (.un .not (.tmp 18)) 16 true, q1 20 (.pick (.tmp 16) (.tmp 19) kF) 11 false, q0 21 (.pick (.tmp 11) kT (.tmp 20))]
def s65_2 : List CI := [q0 2 (.mv (ki 3))]
def s65_3 : List CI := [q0 22 (.faddr 0 (.tmp 1)), q0 23 (.load false 1 (.tmp 22)), q0 24 (.bin .eql (.tmp 23) (ki 5)), q0 25 (.faddr 2 (.tmp 1)), q0 26 (.load false 1 (.tmp 25)), q0 27 (.bin .neq (.tmp 26) (ks ⟨#[]⟩)), q0 28 (.eqb true .bool (.tmp 24) (.tmp 27)), q0 29 (.mv (.tmp 28)), q1 30 (.faddr 2 (.tmp 1)) 29 false, q1 31 (.load false 1 (.tmp 30)) 29 false, q1 32 (.bin .neq (.tmp 31) (ks ⟨#[]⟩)) 29 false, q1 33 (.mv (.tmp 32)) 29 false, q1 34 (.faddr 2 (.tmp 1)) 33 true, q1 35 (.load false 1 (.tmp 34)) 33 true, q1 36 (.call 62 [.tmp 35]) 33 true, q1 37 (.un .not (.tmp 36)) 33 true, q1 38 (.pick (.tmp 33) (.tmp 37) kF) 29 false, q0 39 (.pick (.tmp 29) kT (.tmp 38))]
def s65_4 : List CI := [q0 2 (.mv (ki 3))]
def s65_5 : List CI := [q0 40 (.faddr 1 (.tmp 1)), q0 41 (.load false 1 (.tmp 40)), q0 42 (.call 93 [.tmp 41]), q0 43 (.bin .neq (.tmp 42) (ki 0)), q0 44 (.mv (.tmp 43)), q1 45 (.faddr 1 (.tmp 1)) 44 false, q1 46 (.load false 1 (.tmp 45)) 44 false, q1 47 (.call 94 [.tmp 46, .func 95]) 44 false, q0 48 (.pick (.tmp 44) kT (.tmp 47))]
def s65_6 : List CI := [q0 2 (.mv (ki 70))]
def s65_7 : List CI := [q0 2 (.mv (ki 0))]
def a65 : AC := (.seq (.reg s65_0) (.keep [1] (.seq (.seq (.reg s65_1) (.keep [1, 21] (.cond (.tmp 21) (.seq (.reg s65_2) .ret) .skip))) (.keep [1] (.seq (.seq (.reg s65_3) (.keep [1, 39] (.cond (.tmp 39) (.seq (.reg s65_4) .ret) .skip))) (.keep [1] (.seq (.seq (.reg s65_5) (.keep [48] (.cond (.tmp 48) (.seq (.reg s65_6) .ret) .skip))) (.keep [] (.seq (.reg s65_7) .ret)))))))))
def c65 : FC := ⟨49, a65.erase, [.tmp 2]⟩
theorem comp65 : compF Tryz.prog Tryz.f65 = some c65 := by kernel_rfl
theorem era65 : c65.code = a65.erase := rfl
def s66_0 : List CI := [q0 2 (.box 47 (.tmp 0)), q0 3 (.box 47 (.tmp 1)), q0 4 (.alloc 47 (.agg #[.int .i64 0, .slice none 0 0, .string ⟨#[]⟩])), q0 5 (.mv (ki 0))]
def s66_1 : List CI := [q0 6 (.faddr 0 (.tmp 2)), q0 7 (.load false 1 (.tmp 6)), q0 8 (.faddr 0 (.tmp 3)), q0 9 (.load false 1 (.tmp 8)), q0 10 (.bin .neq (.tmp 7) (.tmp 9)), q0 11 (.mv (.tmp 10)), q1 12 (.faddr 2 (.tmp 2)) 11 false, q1 13 (.load false 1 (.tmp 12)) 11 false, q1 14 (.faddr 2 (.tmp 3)) 11 false, q1 15 (.load false 1 (.tmp 14)) 11 false, q1 16 (.bin .neq (.tmp 13) (.tmp 15)) 11 false, q0 17 (.pick (.tmp 11) kT (.tmp 16))]
def s66_2 : List CI := [q0 18 (.call 57 [ki 5]), q0 19 (.extract (.tmp 18) 0), q0 20 (.extract (.tmp 18) 1), .mk none (.store 3 (.tmp 4) (.tmp 19)) none, q0 5 (.mv (.tmp 20))]
def s66_3 : List CI := [q0 21 (.faddr 1 (.tmp 2)), q0 22 (.load false 1 (.tmp 21)), q0 23 (.faddr 1 (.tmp 3)), q0 24 (.load false 1 (.tmp 23)), q0 25 (.call 96 [.tmp 22, .tmp 24]), q0 26 (.un .not (.tmp 25))]
def s66_4 : List CI := [q0 27 (.call 57 [ki 70]), q0 28 (.extract (.tmp 27) 0), q0 29 (.extract (.tmp 27) 1), .mk none (.store 3 (.tmp 4) (.tmp 28)) none, q0 5 (.mv (.tmp 29))]
def s66_5 : List CI := [q0 30 (.load true 3 (.tmp 2)), .mk none (.store 3 (.tmp 4) (.tmp 30)) none, q0 5 (.mv (ki 0))]
def a66 : AC := (.seq (.reg s66_0) (.keep [2, 3, 4] (.seq (.seq (.reg s66_1) (.keep [2, 3, 4, 17] (.cond (.tmp 17) (.seq (.reg s66_2) .ret) .skip))) (.keep [2, 3, 4] (.seq (.seq (.reg s66_3) (.keep [2, 4, 26] (.cond (.tmp 26) (.seq (.reg s66_4) .ret) .skip))) (.keep [2, 4] (.seq (.reg s66_5) .ret)))))))
def c66 : FC := ⟨31, a66.erase, [.cell 4 true 3, .tmp 5]⟩
theorem comp66 : compF Tryz.prog Tryz.f66 = some c66 := by kernel_rfl
theorem era66 : c66.code = a66.erase := rfl
def s80_0 : List CI := [q0 4 (.mv (ki 0))]
def s80_1 : List CI := [q0 6 (.mv (.tmp 0)), q0 7 (.len false (.tmp 6)), q0 8 (.mv (ki 0))]
def s80_2 : List CI := [q0 9 (.bin .lss (.tmp 8) (.tmp 7))]
def s80_3 : List CI := [q0 10 (.mv (.tmp 8)), q0 5 (.mv (.tmp 10))]
def s80_4 : List CI := [q0 11 (.mv (.tmp 1)), q0 12 (.mv (.tmp 0)), q0 13 (.mv (.tmp 5)), q0 14 (.iaddr 18 (.tmp 12) (.tmp 13)), q0 15 (.load true 18 (.tmp 14)), q0 16 (.callv (.tmp 11) [.tmp 15])]
def s80_5 : List CI := [q0 17 (.mv (.tmp 5)), q0 4 (.mv (.tmp 17))]
def s80_6 : List CI := [q0 18 (.bin .add (.tmp 8) (ki 1)), q0 8 (.mv (.tmp 18))]
def s80_7 : List CI := [q0 4 (.mv (.const (.int .i64 (-1))))]
def a80 : AC := (.seq (.reg s80_0) (.keep [0, 1] (.seq (.seq (.reg s80_1) (.keep [0, 1, 7, 8] (.block 0 (.loop (.keep [0, 1, 7, 8] (.seq (.reg s80_2) (.keep [0, 1, 7, 8, 9] (.seq (.cond (.tmp 9) .skip (.exit 0)) (.keep [0, 1, 7, 8] (.seq (.block 1 (.seq (.reg s80_3) (.keep [0, 1, 5, 7, 8] (.seq (.reg s80_4) (.keep [0, 1, 5, 7, 8, 16] (.cond (.tmp 16) (.seq (.reg s80_5) .ret) .skip)))))) (.keep [0, 1, 7, 8] (.reg s80_6)))))))))))) (.keep [] (.seq (.reg s80_7) .ret)))))
def c80 : FC := ⟨19, a80.erase, [.tmp 4]⟩
theorem comp80 : compF Tryz.prog Tryz.f80 = some c80 := by kernel_rfl
theorem era80 : c80.code = a80.erase := rfl
def s81_0 : List CI := [q0 2 (.box 49 (.tmp 0)), q0 3 (.mv kF)]
def s81_1 : List CI := [q0 4 (.faddr 0 (.tmp 2)), q0 5 (.load false 1 (.tmp 4)), q0 6 (.load false 1 (.tmp 1)), q0 7 (.bin .eql (.tmp 5) (.tmp 6)), q0 3 (.mv (.tmp 7))]
def a81 : AC := (.seq (.reg s81_0) (.keep [1, 2] (.seq (.reg s81_1) .ret)))
def c81 : FC := ⟨8, a81.erase, [.tmp 3]⟩
theorem comp81 : compF Tryz.prog Tryz.f81 = some c81 := by kernel_rfl
theorem era81 : c81.code = a81.erase := rfl
def s82_0 : List CI := [q0 1 (.box 37 (.tmp 0)), q0 2 (.mv (ki 0))]
def s82_1 : List CI := [q0 2 (.mv (ki 1))]
def s82_2 : List CI := [q0 5 (.faddr 11 (.tmp 1)), q0 6 (.load false 1 (.tmp 5)), q0 7 (.len false (.tmp 6)), q0 8 (.mv (ki 0))]
def s82_3 : List CI := [q0 9 (.bin .lss (.tmp 8) (.tmp 7))]
def s82_4 : List CI := [q0 10 (.iaddr 12 (.tmp 6) (.tmp 8)), q0 11 (.load true 12 (.tmp 10)), q0 4 (.alloc 37 (.agg #[.int .i64 0, .string ⟨#[]⟩, .string ⟨#[]⟩, .string ⟨#[]⟩, .int .i64 0, .int .i64 0, .string ⟨#[]⟩, .slice none 0 0, .int .i64 0, .int .i64 0, .int .i64 0, .slice none 0 0])), .mk none (.store 12 (.tmp 4) (.tmp 11)) none]
def s82_5 : List CI := [q0 12 (.mv (.tmp 2)), q0 13 (.load true 12 (.tmp 4)), q0 14 (.call 82 [.tmp 13]), q0 15 (.bin .add (.tmp 12) (.tmp 14)), q0 2 (.mv (.tmp 15))]
def s82_6 : List CI := [q0 16 (.bin .add (.tmp 8) (ki 1)), q0 8 (.mv (.tmp 16))]
def s82_7 : List CI := [q0 17 (.mv (.tmp 2)), q0 2 (.mv (.tmp 17))]
def a82 : AC := (.seq (.reg s82_0) (.keep [1] (.seq (.reg s82_1) (.keep [1, 2] (.seq (.seq (.reg s82_2) (.keep [2, 6, 7, 8] (.block 0 (.loop (.keep [2, 6, 7, 8] (.seq (.reg s82_3) (.keep [2, 6, 7, 8, 9] (.seq (.cond (.tmp 9) .skip (.exit 0)) (.keep [2, 6, 7, 8] (.seq (.block 1 (.seq (.reg s82_4) (.keep [2, 4, 6, 7, 8] (.reg s82_5)))) (.keep [2, 6, 7, 8] (.reg s82_6)))))))))))) (.keep [2] (.seq (.reg s82_7) .ret)))))))
def c82 : FC := ⟨18, a82.erase, [.tmp 2]⟩
theorem comp82 : compF Tryz.prog Tryz.f82 = some c82 := by kernel_rfl
theorem era82 : c82.code = a82.erase := rfl
def s83_0 : List CI := [q0 1 (.box 37 (.tmp 0)), q0 2 (.mv (ki 0))]
def s83_1 : List CI := [q0 5 (.faddr 11 (.tmp 1)), q0 6 (.load false 1 (.tmp 5)), q0 7 (.len false (.tmp 6)), q0 8 (.mv (ki 0))]
def s83_2 : List CI := [q0 9 (.bin .lss (.tmp 8) (.tmp 7))]
def s83_3 : List CI := [q0 10 (.iaddr 12 (.tmp 6) (.tmp 8)), q0 11 (.load true 12 (.tmp 10)), q0 4 (.alloc 37 (.agg #[.int .i64 0, .string ⟨#[]⟩, .string ⟨#[]⟩, .string ⟨#[]⟩, .int .i64 0, .int .i64 0, .string ⟨#[]⟩, .slice none 0 0, .int .i64 0, .int .i64 0, .int .i64 0, .slice none 0 0])), .mk none (.store 12 (.tmp 4) (.tmp 11)) none]
def s83_4 : List CI := [q0 12 (.mv (.tmp 2)), q0 13 (.load true 12 (.tmp 4)), q0 14 (.call 83 [.tmp 13]), q0 15 (.max2 (.tmp 12) (.tmp 14)), q0 2 (.mv (.tmp 15))]
def s83_5 : List CI := [q0 16 (.bin .add (.tmp 8) (ki 1)), q0 8 (.mv (.tmp 16))]
def s83_6 : List CI := [q0 17 (.mv (.tmp 2)), q0 18 (.bin .add (.tmp 17) (ki 1)), q0 2 (.mv (.tmp 18))]
def a83 : AC := (.seq (.reg s83_0) (.keep [1, 2] (.seq (.seq (.reg s83_1) (.keep [2, 6, 7, 8] (.block 0 (.loop (.keep [2, 6, 7, 8] (.seq (.reg s83_2) (.keep [2, 6, 7, 8, 9] (.seq (.cond (.tmp 9) .skip (.exit 0)) (.keep [2, 6, 7, 8] (.seq (.block 1 (.seq (.reg s83_3) (.keep [2, 4, 6, 7, 8] (.reg s83_4)))) (.keep [2, 6, 7, 8] (.reg s83_5)))))))))))) (.keep [2] (.seq (.reg s83_6) .ret)))))
def c83 : FC := ⟨19, a83.erase, [.tmp 2]⟩
theorem comp83 : compF Tryz.prog Tryz.f83 = some c83 := by kernel_rfl
theorem era83 : c83.code = a83.erase := rfl
def s84_0 : List CI := [q0 2 (.box 37 (.tmp 0)), q0 4 (.mv kF)]
def s84_1 : List CI := [q0 12 (.faddr 0 (.tmp 2)), q0 13 (.load false 1 (.tmp 12)), q0 14 (.build [.int .i64 0, .string ⟨#[]⟩, .string ⟨#[]⟩, .string ⟨#[]⟩, .int .i64 0, .int .i64 0, .string ⟨#[]⟩, .slice none 0 0, .int .i64 0, .int .i64 0, .int .i64 0, .slice none 0 0] [(0, 1, .tmp 13)]), q0 5 (.alloc 37 (.agg #[.int .i64 0, .string ⟨#[]⟩, .string ⟨#[]⟩, .string ⟨#[]⟩, .int .i64 0, .int .i64 0, .string ⟨#[]⟩, .slice none 0 0, .int .i64 0, .int .i64 0, .int .i64 0, .slice none 0 0])), .mk none (.store 12 (.tmp 5) (.tmp 14)) none]
def s84_2 : List CI := [q0 6 (.mv (ki 0))]
def s84_3 : List CI := [q0 15 (.faddr 0 (.tmp 2)), q0 16 (.load false 1 (.tmp 15))]
def s84_4 : List CI := [q0 18 (.bin .eql (.tmp 16) (ki 1)), q0 17 (.mv (.tmp 18))]
def s84_5 : List CD := [.mk 0 (q0 19 (.faddr 4 (.tmp 2))) [], .mk 1 (q0 20 (.load true 3 (.tmp 19))) [], .mk 2 (q0 21 (.faddr 7 (.tmp 2))) [], .mk 3 (q0 22 (.load false 1 (.tmp 21))) [5], .mk 4 (q0 23 (.faddr 2 (.tmp 2))) [], .mk 5 (q0 24 (.load false 1 (.tmp 23))) [5, 5], .mk 6 (q0 25 (.faddr 4 (.tmp 5))) [], .mk 7 (.mk none (.store 3 (.tmp 25) (.tmp 20)) none) [5], .mk 8 (q0 26 (.faddr 7 (.tmp 5))) [], .mk 9 (.mk none (.store 1 (.tmp 26) (.tmp 22)) none) [5], .mk 10 (q0 27 (.faddr 2 (.tmp 5))) [], .mk 11 (.mk none (.store 1 (.tmp 27) (.tmp 24)) none) [5]]
def s84_6 : List CI := [q0 28 (.faddr 4 (.tmp 2)), q0 29 (.load true 3 (.tmp 28)), q0 30 (.call 109 [.tmp 29]), q0 31 (.bin .neq (.tmp 30) (ki 0)), q0 32 (.mv (.tmp 31)), q1 33 (.faddr 4 (.tmp 2)) 32 false, q1 34 (.faddr 1 (.tmp 33)) 32 false, q1 35 (.load false 1 (.tmp 34)) 32 false, q1 36 (.bin .lss (.tmp 35) (ki 0)) 32 false, q0 37 (.pick (.tmp 32) kT (.tmp 36)), q0 38 (.mv (.tmp 37)), q1 39 (.faddr 4 (.tmp 2)) 38 false, q1 40 (.faddr 0 (.tmp 39)) 38 false, q1 41 (.load false 1 (.tmp 40)) 38 false, q1 42 (.faddr 7 (.tmp 2)) 38 false, q1 43 (.load false 1 (.tmp 42)) 38 false, q1 44 (.faddr 2 (.tmp 2)) 38 false, q1 45 (.load false 1 (.tmp 44)) 38 false, q1 46 (.build [.int .i64 0, .slice none 0 0, .string ⟨#[]⟩] [(0, 1, .tmp 41), (1, 1, .tmp 43), (2, 1, .tmp 45)]) 38 false, q1 47 (.call 65 [.tmp 46]) 38 false, q1 48 (.bin .neq (.tmp 47) (ki 0)) 38 false, q0 49 (.pick (.tmp 38) kT (.tmp 48))]
def s84_7 : List CI := [q0 4 (.mv kF)]
def s84_8 : List CI := [q0 51 (.bin .eql (.tmp 16) (ki 2)), q0 50 (.mv (.tmp 51))]
def s84_9 : List CI := [q0 52 (.bin .eql (.tmp 16) (ki 3)), q0 50 (.mv (.tmp 52))]
def s84_10 : List CI := [q0 53 (.bin .eql (.tmp 16) (ki 4)), q0 50 (.mv (.tmp 53))]
def s84_11 : List CI := [q0 54 (.faddr 2 (.tmp 2)), q0 55 (.load false 1 (.tmp 54)), q0 56 (.faddr 2 (.tmp 5)), .mk none (.store 1 (.tmp 56) (.tmp 55)) none]
def s84_12 : List CI := [q0 57 (.mv (.tmp 1)), q0 58 (.faddr 0 (.tmp 2)), q0 59 (.load false 1 (.tmp 58)), q0 60 (.bin .eql (.tmp 59) (ki 2)), q0 61 (.eqb true .bool (.tmp 57) (.tmp 60)), q0 62 (.mv (.tmp 61)), q1 63 (.faddr 2 (.tmp 2)) 62 false, q1 64 (.load false 1 (.tmp 63)) 62 false, q1 65 (.call 62 [.tmp 64]) 62 false, q1 66 (.un .not (.tmp 65)) 62 false, q0 67 (.pick (.tmp 62) kT (.tmp 66))]
def s84_13 : List CI := [q0 4 (.mv kF)]
def s84_14 : List CI := [q0 68 (.faddr 0 (.tmp 2)), q0 69 (.load false 1 (.tmp 68)), q0 70 (.bin .eql (.tmp 69) (ki 4))]
def s84_15 : List CI := [q0 6 (.mv (ki 1))]
def s84_16 : List CI := [q0 72 (.bin .eql (.tmp 16) (ki 5)), q0 71 (.mv (.tmp 72))]
def s84_17 : List CD := [.mk 0 (q0 73 (.faddr 1 (.tmp 2))) [], .mk 1 (q0 74 (.load false 1 (.tmp 73))) [], .mk 2 (q0 75 (.faddr 3 (.tmp 2))) [], .mk 3 (q0 76 (.load false 1 (.tmp 75))) [5], .mk 4 (q0 77 (.faddr 8 (.tmp 2))) [], .mk 5 (q0 78 (.load false 1 (.tmp 77))) [5, 5], .mk 6 (q0 79 (.faddr 9 (.tmp 2))) [], .mk 7 (q0 80 (.load true 2 (.tmp 79))) [5, 5, 5], .mk 8 (q0 81 (.faddr 1 (.tmp 5))) [], .mk 9 (.mk none (.store 1 (.tmp 81) (.tmp 74)) none) [5], .mk 10 (q0 82 (.faddr 3 (.tmp 5))) [], .mk 11 (.mk none (.store 1 (.tmp 82) (.tmp 76)) none) [5], .mk 12 (q0 83 (.faddr 8 (.tmp 5))) [], .mk 13 (.mk none (.store 1 (.tmp 83) (.tmp 78)) none) [5], .mk 14 (q0 84 (.faddr 9 (.tmp 5))) [], .mk 15 (.mk none (.store 2 (.tmp 84) (.tmp 80)) none) [5]]
def s84_18 : List CI := [q0 6 (.mv (ki 2))]
def s84_19 : List CI := [q0 7 (.mv (ki 0)), q0 8 (.mv (ki 0))]
def s84_20 : List CI := [q0 85 (.faddr 1 (.tmp 2)), q0 86 (.load false 1 (.tmp 85))]
def s84_21 : List CI := [q0 88 (.bin .eql (.tmp 86) (ks ⟨#[113, 117, 97, 110, 116, 105, 108, 101]⟩)), q0 87 (.mv (.tmp 88))]
def s84_22 : List CI := [q0 7 (.mv (ki 1)), q0 8 (.mv (ki 1000))]
def s84_23 : List CI := [q0 90 (.bin .eql (.tmp 86) (ks ⟨#[100, 101, 99, 97, 121]⟩)), q0 89 (.mv (.tmp 90))]
def s84_24 : List CI := [q0 7 (.mv (ki 1)), q0 8 (.mv (ki 1073741824))]
def s84_25 : List CI := [q0 91 (.mv (.tmp 1)), q0 92 (.mv (.tmp 91)), q1 93 (.load false 1 (.global 0)) 92 false, q1 94 (.faddr 1 (.tmp 2)) 92 false, q1 95 (.load false 1 (.tmp 94)) 92 false, q1 96 (.call 110 [.tmp 93, .tmp 95]) 92 false, q1 97 (.un .not (.tmp 96)) 92 false, q0 98 (.pick (.tmp 92) kT (.tmp 97)), q0 99 (.mv (.tmp 98)), q1 100 (.faddr 3 (.tmp 2)) 99 false, q1 101 (.load false 1 (.tmp 100)) 99 false, q1 102 (.call 62 [.tmp 101]) 99 false, q1 103 (.un .not (.tmp 102)) 99 false, q0 104 (.pick (.tmp 99) kT (.tmp 103)), q0 105 (.mv (.tmp 104)), q1 106 (.faddr 8 (.tmp 2)) 105 false, q1 107 (.load false 1 (.tmp 106)) 105 false, q1 108 (.mv (.tmp 7)) 105 false, q1 109 (.bin .lss (.tmp 107) (.tmp 108)) 105 false, q0 110 (.pick (.tmp 105) kT (.tmp 109)), q0 111 (.mv (.tmp 110)), q1 112 (.faddr 8 (.tmp 2)) 111 false, q1 113 (.load false 1 (.tmp 112)) 111 false, q1 114 (.mv (.tmp 8)) 111 false, q1 115 (.bin .gtr (.tmp 113) (.tmp 114)) 111 false, q0 116 (.pick (.tmp 111) kT (.tmp 115))]
def s84_26 : List CI := [q0 4 (.mv kF)]
def s84_27 : List CI := [q0 117 (.faddr 9 (.tmp 2)), q0 118 (.faddr 0 (.tmp 117)), q0 119 (.load false 1 (.tmp 118)), q0 120 (.bin .lss (.tmp 119) (ki 1)), q0 121 (.mv (.tmp 120)), q1 122 (.faddr 9 (.tmp 2)) 121 false, q1 123 (.faddr 0 (.tmp 122)) 121 false, q1 124 (.load false 1 (.tmp 123)) 121 false, q1 125 (.bin .gtr (.tmp 124) (ki 4)) 121 false, q0 126 (.pick (.tmp 121) kT (.tmp 125)), q0 127 (.mv (.tmp 126)), q1 128 (.faddr 9 (.tmp 2)) 127 false, q1 129 (.faddr 0 (.tmp 128)) 127 false, q1 130 (.load false 1 (.tmp 129)) 127 false, q1 131 (.bin .eql (.tmp 130) (ki 1)) 127 false, q1 132 (.faddr 9 (.tmp 2)) 127 false, q1 133 (.faddr 1 (.tmp 132)) 127 false, q1 134 (.load false 1 (.tmp 133)) 127 false, q1 135 (.bin .eql (.tmp 134) (ki 0)) 127 false, q1 136 (.eqb true .bool (.tmp 131) (.tmp 135)) 127 false, q0 137 (.pick (.tmp 127) kT (.tmp 136)), q0 138 (.mv (.tmp 137)), q1 139 (.faddr 9 (.tmp 2)) 138 false, q1 140 (.faddr 1 (.tmp 139)) 138 false, q1 141 (.load false 1 (.tmp 140)) 138 false, q1 142 (.bin .lss (.tmp 141) (ki 0)) 138 false, q0 143 (.pick (.tmp 138) kT (.tmp 142)), q0 144 (.mv (.tmp 143)), q1 145 (.faddr 9 (.tmp 2)) 144 false, q1 146 (.faddr 1 (.tmp 145)) 144 false, q1 147 (.load false 1 (.tmp 146)) 144 false, q1 148 (.bin .gtr (.tmp 147) (ki 1099511627776)) 144 false, q0 149 (.pick (.tmp 144) kT (.tmp 148))]
def s84_28 : List CI := [q0 4 (.mv kF)]
def s84_29 : List CI := [q0 1 (.mv kT)]
def s84_30 : List CI := [q0 151 (.bin .eql (.tmp 16) (ki 6)), q0 150 (.mv (.tmp 151))]
def s84_31 : List CI := [q0 152 (.faddr 1 (.tmp 2)), q0 153 (.load false 1 (.tmp 152)), q0 154 (.faddr 1 (.tmp 5)), .mk none (.store 1 (.tmp 154) (.tmp 153)) none, q0 6 (.mv (ki 1))]
def s84_32 : List CI := [q0 155 (.load false 1 (.global 1)), q0 156 (.faddr 1 (.tmp 2)), q0 157 (.load false 1 (.tmp 156)), q0 158 (.call 110 [.tmp 155, .tmp 157]), q0 159 (.un .not (.tmp 158))]
def s84_33 : List CI := [q0 4 (.mv kF)]
def s84_34 : List CI := [q0 161 (.bin .eql (.tmp 16) (ki 7)), q0 160 (.mv (.tmp 161))]
def s84_35 : List CI := [q0 162 (.faddr 1 (.tmp 2)), q0 163 (.load false 1 (.tmp 162)), q0 164 (.faddr 1 (.tmp 5)), .mk none (.store 1 (.tmp 164) (.tmp 163)) none, q0 6 (.mv (ki 2))]
def s84_36 : List CI := [q0 165 (.load false 1 (.global 2)), q0 166 (.faddr 1 (.tmp 2)), q0 167 (.load false 1 (.tmp 166)), q0 168 (.call 110 [.tmp 165, .tmp 167]), q0 169 (.un .not (.tmp 168))]
def s84_37 : List CI := [q0 4 (.mv kF)]
def s84_38 : List CI := [q0 171 (.bin .eql (.tmp 16) (ki 8)), q0 170 (.mv (.tmp 171))]
def s84_39 : List CI := [q0 6 (.mv (ki 3))]
def s84_40 : List CI := [q0 173 (.bin .eql (.tmp 16) (ki 9)), q0 172 (.mv (.tmp 173))]
def s84_41 : List CI := [q0 6 (.mv (ki 2))]
def s84_42 : List CI := [q0 4 (.mv kF)]
def s84_43 : List CI := [q0 174 (.load true 12 (.tmp 2)), q0 175 (.load true 12 (.tmp 5)), q0 176 (.call 111 [.tmp 174, .tmp 175]), q0 177 (.un .not (.tmp 176)), q0 178 (.mv (.tmp 177)), q1 179 (.faddr 11 (.tmp 2)) 178 false, q1 180 (.load false 1 (.tmp 179)) 178 false, q1 181 (.len false (.tmp 180)) 178 false, q1 182 (.mv (.tmp 6)) 178 false, q1 183 (.bin .neq (.tmp 181) (.tmp 182)) 178 false, q0 184 (.pick (.tmp 178) kT (.tmp 183))]
def s84_44 : List CI := [q0 4 (.mv kF)]
def s84_45 : List CI := [q0 185 (.faddr 11 (.tmp 2)), q0 186 (.load false 1 (.tmp 185)), q0 187 (.len false (.tmp 186)), q0 188 (.mv (ki 0))]
def s84_46 : List CI := [q0 189 (.bin .lss (.tmp 188) (.tmp 187))]
def s84_47 : List CI := [q0 190 (.iaddr 12 (.tmp 186) (.tmp 188)), q0 191 (.load true 12 (.tmp 190)), q0 10 (.alloc 37 (.agg #[.int .i64 0, .string ⟨#[]⟩, .string ⟨#[]⟩, .string ⟨#[]⟩, .int .i64 0, .int .i64 0, .string ⟨#[]⟩, .slice none 0 0, .int .i64 0, .int .i64 0, .int .i64 0, .slice none 0 0])), .mk none (.store 12 (.tmp 10) (.tmp 191)) none]
def s84_48 : List CI := [q0 192 (.load true 12 (.tmp 10)), q0 193 (.mv (.tmp 1)), q0 194 (.call 84 [.tmp 192, .tmp 193]), q0 195 (.un .not (.tmp 194))]
def s84_49 : List CI := [q0 4 (.mv kF)]
def s84_50 : List CI := [q0 196 (.bin .add (.tmp 188) (ki 1)), q0 188 (.mv (.tmp 196))]
def s84_51 : List CI := [q0 197 (.faddr 1 (.tmp 2)), q0 198 (.load false 1 (.tmp 197)), q0 199 (.bin .eql (.tmp 198) (ks ⟨#[99, 111, 117, 110, 116]⟩)), q0 200 (.mv (.tmp 199)), q1 201 (.faddr 0 (.tmp 2)) 200 true, q1 202 (.load false 1 (.tmp 201)) 200 true, q1 203 (.bin .eql (.tmp 202) (ki 5)) 200 true, q0 204 (.pick (.tmp 200) (.tmp 203) kF)]
def s84_52 : List CI := [q0 205 (.faddr 11 (.tmp 2)), q0 206 (.load false 1 (.tmp 205)), q0 207 (.iaddr 12 (.tmp 206) (ki 0)), q0 208 (.load true 12 (.tmp 207)), q0 11 (.alloc 37 (.agg #[.int .i64 0, .string ⟨#[]⟩, .string ⟨#[]⟩, .string ⟨#[]⟩, .int .i64 0, .int .i64 0, .string ⟨#[]⟩, .slice none 0 0, .int .i64 0, .int .i64 0, .int .i64 0, .slice none 0 0])), .mk none (.store 12 (.tmp 11) (.tmp 208)) none]
def s84_53 : List CI := [q0 209 (.load true 12 (.tmp 11)), q0 210 (.build [.int .i64 0, .int .i64 0, .string ⟨#[]⟩] [(0, 1, ki 1), (1, 1, ki 1)]), q0 211 (.build [.int .i64 0, .string ⟨#[]⟩, .string ⟨#[]⟩, .string ⟨#[]⟩, .int .i64 0, .int .i64 0, .string ⟨#[]⟩, .slice none 0 0, .int .i64 0, .int .i64 0, .int .i64 0, .slice none 0 0] [(0, 1, ki 1), (4, 3, .tmp 210)]), q0 212 (.call 111 [.tmp 209, .tmp 211]), q0 4 (.mv (.tmp 212))]
def s84_54 : List CI := [q0 4 (.mv kT)]
def a84 : AC := (.seq (.reg s84_0) (.keep [1, 2] (.seq (.reg s84_1) (.keep [1, 2, 5] (.seq (.reg s84_2) (.keep [1, 2, 5, 6] (.seq (.seq (.reg s84_3) (.keep [1, 2, 5, 6, 16] (.block 0 (.seq (.reg s84_4) (.keep [1, 2, 5, 6, 16, 17] (.cond (.tmp 17) (.seq (.mreg [] s84_5) (.keep [1, 2, 5, 6] (.seq (.reg s84_6) (.keep [1, 2, 5, 6, 49] (.cond (.tmp 49) (.seq (.reg s84_7) .ret) .skip))))) (.seq (.seq (.reg s84_8) (.keep [1, 2, 5, 6, 16, 50] (.cond (.tmp 50) .skip (.seq (.reg s84_9) (.keep [1, 2, 5, 6, 16, 50] (.cond (.tmp 50) .skip (.reg s84_10))))))) (.keep [1, 2, 5, 6, 16, 50] (.cond (.tmp 50) (.seq (.reg s84_11) (.keep [1, 2, 5, 6] (.seq (.seq (.reg s84_12) (.keep [1, 2, 5, 6, 67] (.cond (.tmp 67) (.seq (.reg s84_13) .ret) .skip))) (.keep [1, 2, 5, 6] (.seq (.reg s84_14) (.keep [1, 2, 5, 6, 70] (.cond (.tmp 70) (.reg s84_15) .skip))))))) (.seq (.reg s84_16) (.keep [1, 2, 5, 16, 71] (.cond (.tmp 71) (.seq (.mreg [] s84_17) (.keep [1, 2, 5] (.seq (.reg s84_18) (.keep [1, 2, 5, 6] (.seq (.reg s84_19) (.keep [1, 2, 5, 6, 7, 8] (.seq (.seq (.reg s84_20) (.keep [1, 2, 5, 6, 7, 8, 86] (.block 1 (.seq (.reg s84_21) (.keep [1, 2, 5, 6, 7, 8, 86, 87] (.cond (.tmp 87) (.reg s84_22) (.seq (.reg s84_23) (.keep [1, 2, 5, 6, 7, 8, 89] (.cond (.tmp 89) (.reg s84_24) .skip))))))))) (.keep [1, 2, 5, 6, 7, 8] (.seq (.seq (.reg s84_25) (.keep [2, 5, 6, 116] (.cond (.tmp 116) (.seq (.reg s84_26) .ret) .skip))) (.keep [2, 5, 6] (.seq (.seq (.reg s84_27) (.keep [2, 5, 6, 149] (.cond (.tmp 149) (.seq (.reg s84_28) .ret) .skip))) (.keep [2, 5, 6] (.reg s84_29))))))))))))) (.seq (.reg s84_30) (.keep [1, 2, 5, 16, 150] (.cond (.tmp 150) (.seq (.reg s84_31) (.keep [1, 2, 5, 6] (.seq (.reg s84_32) (.keep [1, 2, 5, 6, 159] (.cond (.tmp 159) (.seq (.reg s84_33) .ret) .skip))))) (.seq (.reg s84_34) (.keep [1, 2, 5, 16, 160] (.cond (.tmp 160) (.seq (.reg s84_35) (.keep [1, 2, 5, 6] (.seq (.reg s84_36) (.keep [1, 2, 5, 6, 169] (.cond (.tmp 169) (.seq (.reg s84_37) .ret) .skip))))) (.seq (.reg s84_38) (.keep [1, 2, 5, 16, 170] (.cond (.tmp 170) (.reg s84_39) (.seq (.reg s84_40) (.keep [1, 2, 5, 172] (.cond (.tmp 172) (.reg s84_41) (.seq (.reg s84_42) .ret))))))))))))))))))))))))) (.keep [1, 2, 5, 6] (.seq (.seq (.reg s84_43) (.keep [1, 2, 184] (.cond (.tmp 184) (.seq (.reg s84_44) .ret) .skip))) (.keep [1, 2] (.seq (.seq (.reg s84_45) (.keep [1, 2, 186, 187, 188] (.block 2 (.loop (.keep [1, 2, 186, 187, 188] (.seq (.reg s84_46) (.keep [1, 2, 186, 187, 188, 189] (.seq (.cond (.tmp 189) .skip (.exit 2)) (.keep [1, 2, 186, 187, 188] (.seq (.block 3 (.seq (.reg s84_47) (.keep [1, 2, 10, 186, 187, 188] (.seq (.reg s84_48) (.keep [1, 2, 186, 187, 188, 195] (.cond (.tmp 195) (.seq (.reg s84_49) .ret) .skip)))))) (.keep [1, 2, 186, 187, 188] (.reg s84_50)))))))))))) (.keep [2] (.seq (.seq (.reg s84_51) (.keep [2, 204] (.cond (.tmp 204) (.seq (.reg s84_52) (.keep [11] (.seq (.reg s84_53) .ret))) .skip))) (.keep [] (.seq (.reg s84_54) .ret)))))))))))))))
def c84 : FC := ⟨213, a84.erase, [.tmp 4]⟩
theorem comp84 : compF Tryz.prog Tryz.f84 = some c84 := by kernel_rfl
theorem era84 : c84.code = a84.erase := rfl
def s85_0 : List CI := [q0 4 (.mv (ki 0))]
def s85_1 : List CI := [q0 6 (.mv (.tmp 0)), q0 7 (.len false (.tmp 6)), q0 8 (.mv (ki 0))]
def s85_2 : List CI := [q0 9 (.bin .lss (.tmp 8) (.tmp 7))]
def s85_3 : List CI := [q0 10 (.mv (.tmp 8)), q0 5 (.mv (.tmp 10))]
def s85_4 : List CI := [q0 11 (.mv (.tmp 1)), q0 12 (.mv (.tmp 0)), q0 13 (.mv (.tmp 5)), q0 14 (.iaddr 4 (.tmp 12) (.tmp 13)), q0 15 (.load true 4 (.tmp 14)), q0 16 (.callv (.tmp 11) [.tmp 15])]
def s85_5 : List CI := [q0 17 (.mv (.tmp 5)), q0 4 (.mv (.tmp 17))]
def s85_6 : List CI := [q0 18 (.bin .add (.tmp 8) (ki 1)), q0 8 (.mv (.tmp 18))]
def s85_7 : List CI := [q0 4 (.mv (.const (.int .i64 (-1))))]
def a85 : AC := (.seq (.reg s85_0) (.keep [0, 1] (.seq (.seq (.reg s85_1) (.keep [0, 1, 7, 8] (.block 0 (.loop (.keep [0, 1, 7, 8] (.seq (.reg s85_2) (.keep [0, 1, 7, 8, 9] (.seq (.cond (.tmp 9) .skip (.exit 0)) (.keep [0, 1, 7, 8] (.seq (.block 1 (.seq (.reg s85_3) (.keep [0, 1, 5, 7, 8] (.seq (.reg s85_4) (.keep [0, 1, 5, 7, 8, 16] (.cond (.tmp 16) (.seq (.reg s85_5) .ret) .skip)))))) (.keep [0, 1, 7, 8] (.reg s85_6)))))))))))) (.keep [] (.seq (.reg s85_7) .ret)))))
def c85 : FC := ⟨19, a85.erase, [.tmp 4]⟩
theorem comp85 : compF Tryz.prog Tryz.f85 = some c85 := by kernel_rfl
theorem era85 : c85.code = a85.erase := rfl
def s86_0 : List CI := [q0 2 (.box 58 (.tmp 0)), q0 3 (.mv kF)]
def s86_1 : List CI := [q0 4 (.faddr 0 (.tmp 2)), q0 5 (.load false 1 (.tmp 4)), q0 6 (.faddr 3 (.tmp 1)), q0 7 (.load false 1 (.tmp 6)), q0 8 (.bin .eql (.tmp 5) (.tmp 7)), q0 3 (.mv (.tmp 8))]
def a86 : AC := (.seq (.reg s86_0) (.keep [1, 2] (.seq (.reg s86_1) .ret)))
def c86 : FC := ⟨9, a86.erase, [.tmp 3]⟩
theorem comp86 : compF Tryz.prog Tryz.f86 = some c86 := by kernel_rfl
theorem era86 : c86.code = a86.erase := rfl
def s87_0 : List CI := [q0 2 (.box 9 (.tmp 0)), q0 3 (.alloc 47 (.agg #[.int .i64 0, .slice none 0 0, .string ⟨#[]⟩])), q0 4 (.mv (ki 0))]
def s87_1 : List CI := [q0 6 (.faddr 2 (.tmp 1)), q0 7 (.load false 1 (.tmp 6)), q0 8 (.mkfn (Fn.func 89) [] [.tmp 2]), q0 9 (.call 88 [.tmp 7, .tmp 8]), q0 5 (.mv (.tmp 9))]
def s87_2 : List CI := [q0 10 (.mv (.tmp 5)), q0 11 (.bin .lss (.tmp 10) (ki 0))]
def s87_3 : List CI := [q0 12 (.call 57 [ki 4]), q0 13 (.extract (.tmp 12) 0), q0 14 (.extract (.tmp 12) 1), .mk none (.store 3 (.tmp 3) (.tmp 13)) none, q0 4 (.mv (.tmp 14))]
def s87_4 : List CI := [q0 15 (.faddr 2 (.tmp 1)), q0 16 (.load false 1 (.tmp 15)), q0 17 (.mv (.tmp 5)), q0 18 (.iaddr 4 (.tmp 16) (.tmp 17)), q0 19 (.faddr 1 (.tmp 18)), q0 20 (.load true 3 (.tmp 19)), .mk none (.store 3 (.tmp 3) (.tmp 20)) none, q0 4 (.mv (ki 0))]
def a87 : AC := (.seq (.reg s87_0) (.keep [1, 2, 3] (.seq (.reg s87_1) (.keep [1, 3, 5] (.seq (.seq (.reg s87_2) (.keep [1, 3, 5, 11] (.cond (.tmp 11) (.seq (.reg s87_3) .ret) .skip))) (.keep [1, 3, 5] (.seq (.reg s87_4) .ret)))))))
def c87 : FC := ⟨21, a87.erase, [.cell 3 true 3, .tmp 4]⟩
theorem comp87 : compF Tryz.prog Tryz.f87 = some c87 := by kernel_rfl
theorem era87 : c87.code = a87.erase := rfl
def s88_0 : List CI := [q0 4 (.mv (ki 0))]
def s88_1 : List CI := [q0 6 (.mv (.tmp 0)), q0 7 (.len false (.tmp 6)), q0 8 (.mv (ki 0))]
def s88_2 : List CI := [q0 9 (.bin .lss (.tmp 8) (.tmp 7))]
def s88_3 : List CI := [q0 10 (.mv (.tmp 8)), q0 5 (.mv (.tmp 10))]
def s88_4 : List CI := [q0 11 (.mv (.tmp 1)), q0 12 (.mv (.tmp 0)), q0 13 (.mv (.tmp 5)), q0 14 (.iaddr 4 (.tmp 12) (.tmp 13)), q0 15 (.load true 4 (.tmp 14)), q0 16 (.callv (.tmp 11) [.tmp 15])]
def s88_5 : List CI := [q0 17 (.mv (.tmp 5)), q0 4 (.mv (.tmp 17))]
def s88_6 : List CI := [q0 18 (.bin .add (.tmp 8) (ki 1)), q0 8 (.mv (.tmp 18))]
def s88_7 : List CI := [q0 4 (.mv (.const (.int .i64 (-1))))]
def a88 : AC := (.seq (.reg s88_0) (.keep [0, 1] (.seq (.seq (.reg s88_1) (.keep [0, 1, 7, 8] (.block 0 (.loop (.keep [0, 1, 7, 8] (.seq (.reg s88_2) (.keep [0, 1, 7, 8, 9] (.seq (.cond (.tmp 9) .skip (.exit 0)) (.keep [0, 1, 7, 8] (.seq (.block 1 (.seq (.reg s88_3) (.keep [0, 1, 5, 7, 8] (.seq (.reg s88_4) (.keep [0, 1, 5, 7, 8, 16] (.cond (.tmp 16) (.seq (.reg s88_5) .ret) .skip)))))) (.keep [0, 1, 7, 8] (.reg s88_6)))))))))))) (.keep [] (.seq (.reg s88_7) .ret)))))
def c88 : FC := ⟨19, a88.erase, [.tmp 4]⟩
theorem comp88 : compF Tryz.prog Tryz.f88 = some c88 := by kernel_rfl
theorem era88 : c88.code = a88.erase := rfl
def s89_0 : List CI := [q0 2 (.box 96 (.tmp 0)), q0 3 (.mv kF)]
def s89_1 : List CI := [q0 4 (.faddr 0 (.tmp 2)), q0 5 (.load false 1 (.tmp 4)), q0 6 (.load false 1 (.tmp 1)), q0 7 (.bin .eql (.tmp 5) (.tmp 6)), q0 3 (.mv (.tmp 7))]
def a89 : AC := (.seq (.reg s89_0) (.keep [1, 2] (.seq (.reg s89_1) .ret)))
def c89 : FC := ⟨8, a89.erase, [.tmp 3]⟩
theorem comp89 : compF Tryz.prog Tryz.f89 = some c89 := by kernel_rfl
theorem era89 : c89.code = a89.erase := rfl
def s90_0 : List CI := [q0 2 (.box 92 (.tmp 0)), q0 4 (.mv (.const .nilFunc))]
def s90_1 : List CI := [q0 5 (.exts (.makeMap 138 none) 138 [] []), q0 6 (.load true 6 (.tmp 2)), q0 7 (.mkfn (Fn.func 112) [.tmp 6] []), .mk none (.exts (.insert 138 (.tmp 5) (ki 1) (.tmp 7)) 0 [.mp 3 121, .int .i64] [.tmp 5, ki 1, .tmp 7]) none, q0 8 (.load true 6 (.tmp 2)), q0 9 (.mkfn (Fn.func 113) [.tmp 8] []), .mk none (.exts (.insert 138 (.tmp 5) (ki 2) (.tmp 9)) 0 [.mp 3 121, .int .i64] [.tmp 5, ki 2, .tmp 9]) none, q0 10 (.load true 6 (.tmp 2)), q0 11 (.mkfn (Fn.func 114) [.tmp 10] []), .mk none (.exts (.insert 138 (.tmp 5) (ki 3) (.tmp 11)) 0 [.mp 3 121, .int .i64] [.tmp 5, ki 3, .tmp 11]) none, q0 12 (.load true 6 (.tmp 2)), q0 13 (.mkfn (Fn.func 115) [.tmp 12] []), .mk none (.exts (.insert 138 (.tmp 5) (ki 4) (.tmp 13)) 0 [.mp 3 121, .int .i64] [.tmp 5, ki 4, .tmp 13]) none, q0 14 (.load true 6 (.tmp 2)), q0 15 (.mkfn (Fn.func 116) [.tmp 14] []), .mk none (.exts (.insert 138 (.tmp 5) (ki 5) (.tmp 15)) 0 [.mp 3 121, .int .i64] [.tmp 5, ki 5, .tmp 15]) none, q0 16 (.load true 6 (.tmp 2)), q0 17 (.mkfn (Fn.func 117) [.tmp 16] []), .mk none (.exts (.insert 138 (.tmp 5) (ki 6) (.tmp 17)) 0 [.mp 3 121, .int .i64] [.tmp 5, ki 6, .tmp 17]) none, q0 18 (.load true 6 (.tmp 2)), q0 19 (.mkfn (Fn.func 118) [.tmp 18] []), .mk none (.exts (.insert 138 (.tmp 5) (ki 7) (.tmp 19)) 0 [.mp 3 121, .int .i64] [.tmp 5, ki 7, .tmp 19]) none, q0 20 (.load true 6 (.tmp 2)), q0 21 (.mkfn (Fn.func 119) [.tmp 20] []), .mk none (.exts (.insert 138 (.tmp 5) (ki 8) (.tmp 21)) 0 [.mp 3 121, .int .i64] [.tmp 5, ki 8, .tmp 21]) none, q0 22 (.load true 6 (.tmp 2)), q0 23 (.mkfn (Fn.func 120) [.tmp 22] []), .mk none (.exts (.insert 138 (.tmp 5) (ki 9) (.tmp 23)) 0 [.mp 3 121, .int .i64] [.tmp 5, ki 9, .tmp 23]) none, q0 24 (.mv (.tmp 5)), q0 25 (.mv (.tmp 1)), q0 26 (.extq (.lookup 138 (.tmp 24) (.tmp 25) false) 121 [.mp 3 121, .int .i64] [.tmp 24, .tmp 25]), q0 4 (.mv (.tmp 26))]
def a90 : AC := (.seq (.reg s90_0) (.keep [1, 2] (.seq (.reg s90_1) .ret)))
def c90 : FC := ⟨27, a90.erase, [.tmp 4]⟩
theorem comp90 : compF Tryz.prog Tryz.f90 = some c90 := by kernel_rfl
theorem era90 : c90.code = a90.erase := rfl
def s91_0 : List CI := [q0 2 (.mv kF)]
def s91_1 : List CI := [q0 3 (.mv (.tmp 0)), q0 4 (.bin .neq (.tmp 3) (ks ⟨#[]⟩)), q0 5 (.mv (.tmp 4)), q1 6 (.mv (.tmp 0)) 5 true, q1 7 (.call 121 [.tmp 6, ks ⟨#[32]⟩]) 5 true, q1 8 (.un .not (.tmp 7)) 5 true, q0 9 (.pick (.tmp 5) (.tmp 8) kF), q0 10 (.mv (.tmp 9)), q1 11 (.mv (.tmp 0)) 10 true, q1 12 (.bin .add (ks ⟨#[32]⟩) (.tmp 11)) 10 true, q1 13 (.bin .add (.tmp 12) (ks ⟨#[32]⟩)) 10 true, q1 14 (.call 121 [.const (.string (ByteArray.mk (List.toArray (List.append (List.append [32, 116, 97, 98, 108, 101, 32, 102, 101, 97, 116, 117, 114, 101, 32, 111, 102, 32, 107, 101, 101, 112, 32, 98, 111, 111, 108, 32, 116, 101, 120, 116, 32, 107, 101, 121, 32, 105, 110, 116, 32, 100, 101, 99, 32, 105] [102, 32, 116, 104, 101, 110, 32, 101, 108, 115, 101, 32, 100, 101, 102, 97, 117, 108, 116, 32, 111, 114, 32, 97, 110, 100, 32, 110, 111, 116, 32, 116, 114, 117, 101, 32, 102, 97, 108, 115, 101, 32, 110, 117, 108, 108, 32]) (List.append [99, 111, 117, 110, 116, 32, 115, 117, 109, 32, 109, 101, 97, 110, 32, 109, 105, 110, 32, 109, 97, 120, 32, 102, 105, 114, 115, 116, 32, 108, 97, 115, 116, 32, 100, 105, 115, 116, 105, 110, 99, 116, 32, 113, 117, 97] [110, 116, 105, 108, 101, 32, 100, 101, 99, 97, 121, 32, 97, 108, 108, 32, 115, 108, 105, 100, 105, 110, 103, 32, 116, 117, 109, 98, 108, 105, 110, 103, 32, 115, 101, 115, 115, 105, 111, 110, 32, 119, 104, 101, 114, 101, 32]))))), .tmp 13]) 10 true, q0 15 (.pick (.tmp 10) (.tmp 14) kF), q0 2 (.mv (.tmp 15))]
def a91 : AC := (.seq (.reg s91_0) (.keep [0] (.seq (.reg s91_1) .ret)))
def c91 : FC := ⟨16, a91.erase, [.tmp 2]⟩
theorem comp91 : compF Tryz.prog Tryz.f91 = some c91 := by kernel_rfl
theorem era91 : c91.code = a91.erase := rfl
def s92_0 : List CI := [q0 1 (.box 47 (.tmp 0)), q0 2 (.mv kF)]
def s92_1 : List CI := [q0 3 (.faddr 0 (.tmp 1)), q0 4 (.load false 1 (.tmp 3)), q0 5 (.bin .eql (.tmp 4) (ki 2)), q0 6 (.mv (.tmp 5)), q1 7 (.faddr 0 (.tmp 1)) 6 false, q1 8 (.load false 1 (.tmp 7)) 6 false, q1 9 (.bin .eql (.tmp 8) (ki 3)) 6 false, q0 10 (.pick (.tmp 6) kT (.tmp 9)), q0 2 (.mv (.tmp 10))]
def a92 : AC := (.seq (.reg s92_0) (.keep [1] (.seq (.reg s92_1) .ret)))
def c92 : FC := ⟨11, a92.erase, [.tmp 2]⟩
theorem comp92 : compF Tryz.prog Tryz.f92 = some c92 := by kernel_rfl
theorem era92 : c92.code = a92.erase := rfl
def s93_0 : List CI := [q0 2 (.mv (ki 0))]
def s93_1 : List CI := [q0 5 (.mv (.tmp 0)), q0 6 (.len false (.tmp 5)), q0 7 (.bin .gtr (.tmp 6) (ki 4))]
def s93_2 : List CI := [q0 2 (.mv (ki 2))]
def s93_3 : List CI := [q0 8 (.mv (.tmp 0)), q0 9 (.len false (.tmp 8)), q0 10 (.mv (ki 0))]
def s93_4 : List CI := [q0 11 (.bin .lss (.tmp 10) (.tmp 9))]
def s93_5 : List CI := [q0 12 (.mv (.tmp 10)), q0 13 (.iaddr 2 (.tmp 8) (.tmp 10)), q0 14 (.load true 2 (.tmp 13)), q0 4 (.alloc 124 (.agg #[.string ⟨#[]⟩, .int .i64 0])), q0 3 (.mv (.tmp 12)), .mk none (.store 2 (.tmp 4) (.tmp 14)) none]
def s93_6 : List CI := [q0 16 (.faddr 0 (.tmp 4)), q0 17 (.load false 1 (.tmp 16)), q0 18 (.call 122 [.tmp 17]), q0 19 (.un .not (.tmp 18)), q0 15 (.mv (.tmp 19))]
def s93_7 : List CI := [q0 2 (.mv (ki 1))]
def s93_8 : List CI := [q0 21 (.faddr 1 (.tmp 4)), q0 22 (.load false 1 (.tmp 21)), q0 23 (.bin .eql (.tmp 22) (ki 0)), q0 24 (.mv (.tmp 23)), q1 25 (.faddr 1 (.tmp 4)) 24 false, q1 26 (.load false 1 (.tmp 25)) 24 false, q1 27 (.call 123 [.tmp 26, ki 8]) 24 false, q0 28 (.pick (.tmp 24) kT (.tmp 27)), q0 20 (.mv (.tmp 28))]
def s93_9 : List CI := [q0 2 (.mv (ki 70))]
def s93_10 : List CI := [q0 30 (.mv (.tmp 3)), q0 31 (.bin .gtr (.tmp 30) (ki 0)), q0 32 (.mv (.tmp 31)), q1 33 (.faddr 0 (.tmp 4)) 32 true, q1 34 (.load false 1 (.tmp 33)) 32 true, q1 35 (.mv (.tmp 0)) 32 true, q1 36 (.mv (.tmp 3)) 32 true, q1 37 (.bin .sub (.tmp 36) (ki 1)) 32 true, q1 38 (.iaddr 2 (.tmp 35) (.tmp 37)) 32 true, q1 39 (.faddr 0 (.tmp 38)) 32 true, q1 40 (.load false 1 (.tmp 39)) 32 true, q1 41 (.bin .leq (.tmp 34) (.tmp 40)) 32 true, q0 42 (.pick (.tmp 32) (.tmp 41) kF), q0 29 (.mv (.tmp 42))]
def s93_11 : List CI := [q0 2 (.mv (ki 3))]
def s93_12 : List CI := [q0 43 (.bin .add (.tmp 10) (ki 1)), q0 10 (.mv (.tmp 43))]
def s93_13 : List CI := [q0 2 (.mv (ki 0))]
def a93 : AC := (.seq (.reg s93_0) (.keep [0] (.seq (.seq (.reg s93_1) (.keep [0, 7] (.cond (.tmp 7) (.seq (.reg s93_2) .ret) .skip))) (.keep [0] (.seq (.seq (.reg s93_3) (.keep [0, 8, 9, 10] (.block 0 (.loop (.keep [0, 8, 9, 10] (.seq (.reg s93_4) (.keep [0, 8, 9, 10, 11] (.seq (.cond (.tmp 11) .skip (.exit 0)) (.keep [0, 8, 9, 10] (.seq (.block 1 (.seq (.reg s93_5) (.keep [0, 3, 4, 8, 9, 10] (.block 2 (.seq (.reg s93_6) (.keep [0, 3, 4, 8, 9, 10, 15] (.cond (.tmp 15) (.seq (.reg s93_7) .ret) (.seq (.reg s93_8) (.keep [0, 3, 4, 8, 9, 10, 20] (.cond (.tmp 20) (.seq (.reg s93_9) .ret) (.seq (.dreg s93_10) (.keep [0, 8, 9, 10, 29] (.cond (.tmp 29) (.seq (.reg s93_11) .ret) .skip))))))))))))) (.keep [0, 8, 9, 10] (.reg s93_12)))))))))))) (.keep [] (.seq (.reg s93_13) .ret)))))))
def c93 : FC := ⟨44, a93.erase, [.tmp 2]⟩
theorem comp93 : compF Tryz.prog Tryz.f93 = some c93 := by kernel_rfl
theorem era93 : c93.code = a93.erase := rfl
def s94_0 : List CI := [q0 4 (.mv kF)]
def s94_1 : List CI := [q0 5 (.mv (.tmp 0)), q0 6 (.mv (.tmp 1)), q0 7 (.call 124 [.tmp 5, .tmp 6]), q0 8 (.bin .geq (.tmp 7) (ki 0)), q0 4 (.mv (.tmp 8))]
def a94 : AC := (.seq (.reg s94_0) (.keep [0, 1] (.seq (.reg s94_1) .ret)))
def c94 : FC := ⟨9, a94.erase, [.tmp 4]⟩
theorem comp94 : compF Tryz.prog Tryz.f94 = some c94 := by kernel_rfl
theorem era94 : c94.code = a94.erase := rfl
def s95_0 : List CI := [q0 1 (.box 124 (.tmp 0)), q0 2 (.mv kF)]
def s95_1 : List CI := [q0 3 (.faddr 0 (.tmp 1)), q0 4 (.load false 1 (.tmp 3)), q0 5 (.call 62 [.tmp 4]), q0 6 (.un .not (.tmp 5)), q0 2 (.mv (.tmp 6))]
def a95 : AC := (.seq (.reg s95_0) (.keep [1] (.seq (.reg s95_1) .ret)))
def c95 : FC := ⟨7, a95.erase, [.tmp 2]⟩
theorem comp95 : compF Tryz.prog Tryz.f95 = some c95 := by kernel_rfl
theorem era95 : c95.code = a95.erase := rfl
def s96_0 : List CI := [q0 4 (.mv kF)]
def s96_1 : List CI := [q0 5 (.mv (.tmp 0)), q0 6 (.mv (.tmp 1)), q0 7 (.call 125 [.tmp 5, .tmp 6]), q0 4 (.mv (.tmp 7))]
def a96 : AC := (.seq (.reg s96_0) (.keep [0, 1] (.seq (.reg s96_1) .ret)))
def c96 : FC := ⟨8, a96.erase, [.tmp 4]⟩
theorem comp96 : compF Tryz.prog Tryz.f96 = some c96 := by kernel_rfl
theorem era96 : c96.code = a96.erase := rfl
end Go.Proofs.YtekngilbecjkhaaGreatDoor
