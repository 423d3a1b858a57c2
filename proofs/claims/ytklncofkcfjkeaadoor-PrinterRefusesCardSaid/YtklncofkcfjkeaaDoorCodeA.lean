
/- The compiled code of functions, printed by a program of mine. -/
import Derived.Test.YtklncofkcfjkeaaDoorGi
import Derived.Test.YtklncofkcfjkeaaDoorRows
set_option linter.unusedVariables false
namespace Go.Proofs.YtklncofkcfjkeaaDoor
open Go.Sx
def s3_0 : List CI := [q0 2 (.box 24 (.tmp 0)), q0 3 (.box 36 (.tmp 1)), q0 4 (.mv kF)]
def s3_1 : List CI := [q0 14 (.call 4 []), q0 15 (.un .not (.tmp 14))]
def s3_2 : List CI := [q0 4 (.mv kF)]
def s3_3 : List CI := [q0 16 (.load true 4 (.tmp 2)), q0 17 (.call 5 [.tmp 16]), q0 18 (.un .not (.tmp 17)), q0 19 (.mv (.tmp 18)), q1 20 (.load true 18 (.tmp 3)) 19 false, q1 21 (.call 6 [.tmp 20]) 19 false, q1 22 (.un .not (.tmp 21)) 19 false, q0 23 (.pick (.tmp 19) kT (.tmp 22))]
def s3_4 : List CI := [q0 4 (.mv kT)]
def s3_5 : List CI := [q0 25 (.load true 4 (.tmp 2)), q0 26 (.call 7 [.tmp 25]), q0 24 (.mv (.tmp 26)), q0 27 (.extract (.tmp 24) 0), q0 28 (.extract (.tmp 24) 1), q0 5 (.mv (.tmp 27)), q0 6 (.mv (.tmp 28))]
def s3_6 : List CI := [q0 30 (.faddr 2 (.tmp 3)), q0 31 (.load true 3 (.tmp 30)), q0 32 (.call 8 [.tmp 31]), q0 29 (.mv (.tmp 32)), q0 33 (.extract (.tmp 29) 0), q0 34 (.extract (.tmp 29) 1), q0 7 (.mv (.tmp 33)), q0 8 (.mv (.tmp 34))]
def s3_7 : List CI := [q0 36 (.faddr 5 (.tmp 3)), q0 37 (.load true 12 (.tmp 36)), q0 38 (.call 9 [.tmp 37]), q0 35 (.mv (.tmp 38)), q0 39 (.extract (.tmp 35) 0), q0 40 (.extract (.tmp 35) 1), q0 9 (.mv (.tmp 39)), q0 10 (.mv (.tmp 40))]
def s3_8 : List CI := [q0 42 (.load true 18 (.tmp 3)), q0 43 (.call 10 [.tmp 42]), q0 41 (.mv (.tmp 43)), q0 44 (.extract (.tmp 41) 0), q0 45 (.extract (.tmp 41) 1), q0 11 (.mv (.tmp 44)), q0 12 (.mv (.tmp 45))]
def s3_9 : List CI := [q0 46 (.mv (.tmp 6)), q0 47 (.load true 4 (.tmp 2)), q0 48 (.call 11 [.tmp 47]), q0 49 (.bin .neq (.tmp 46) (.tmp 48)), q0 50 (.mv (.tmp 49)), q1 51 (.mv (.tmp 5)) 50 false, q1 52 (.bin .eql (.tmp 51) (ks ⟨#[]⟩)) 50 false, q1 53 (.mv (.tmp 6)) 50 false, q1 54 (.bin .neq (.tmp 53) (ki 0)) 50 false, q1 55 (.eqb true .bool (.tmp 52) (.tmp 54)) 50 false, q0 56 (.pick (.tmp 50) kT (.tmp 55)), q0 57 (.mv (.tmp 56)), q1 58 (.mv (.tmp 8)) 57 false, q1 59 (.faddr 2 (.tmp 3)) 57 false, q1 60 (.load true 3 (.tmp 59)) 57 false, q1 61 (.call 12 [.tmp 60]) 57 false, q1 62 (.bin .neq (.tmp 58) (.tmp 61)) 57 false, q0 63 (.pick (.tmp 57) kT (.tmp 62)), q0 64 (.mv (.tmp 63)), q1 65 (.mv (.tmp 7)) 64 false, q1 66 (.bin .eql (.tmp 65) (ks ⟨#[]⟩)) 64 false, q1 67 (.mv (.tmp 8)) 64 false, q1 68 (.bin .neq (.tmp 67) (ki 0)) 64 false, q1 69 (.eqb true .bool (.tmp 66) (.tmp 68)) 64 false, q0 70 (.pick (.tmp 64) kT (.tmp 69)), q0 71 (.mv (.tmp 70)), q1 72 (.mv (.tmp 10)) 71 false, q1 73 (.faddr 5 (.tmp 3)) 71 false, q1 74 (.load true 12 (.tmp 73)) 71 false, q1 75 (.call 13 [.tmp 74]) 71 false, q1 76 (.bin .neq (.tmp 72) (.tmp 75)) 71 false, q0 77 (.pick (.tmp 71) kT (.tmp 76)), q0 78 (.mv (.tmp 77)), q1 79 (.mv (.tmp 9)) 78 false, q1 80 (.bin .eql (.tmp 79) (ks ⟨#[]⟩)) 78 false, q1 81 (.mv (.tmp 10)) 78 false, q1 82 (.bin .neq (.tmp 81) (ki 0)) 78 false, q1 83 (.eqb true .bool (.tmp 80) (.tmp 82)) 78 false, q0 84 (.pick (.tmp 78) kT (.tmp 83))]
def s3_10 : List CI := [q0 4 (.mv kF)]
def s3_11 : List CI := [q0 13 (.mv (ki 0))]
def s3_12 : List CI := [q0 86 (.faddr 0 (.tmp 3)), q0 87 (.load false 1 (.tmp 86)), q0 88 (.call 14 [.tmp 87]), q0 89 (.un .not (.tmp 88)), q0 90 (.mv (.tmp 89)), q1 91 (.faddr 1 (.tmp 3)) 90 false, q1 92 (.load false 1 (.tmp 91)) 90 false, q1 93 (.call 14 [.tmp 92]) 90 false, q1 94 (.un .not (.tmp 93)) 90 false, q0 95 (.pick (.tmp 90) kT (.tmp 94)), q0 85 (.mv (.tmp 95))]
def s3_13 : List CI := [q0 13 (.mv (ki 3))]
def s3_14 : List CI := [q0 97 (.mv (.tmp 8)), q0 98 (.bin .neq (.tmp 97) (ki 0)), q0 96 (.mv (.tmp 98))]
def s3_15 : List CI := [q0 99 (.mv (.tmp 8)), q0 13 (.mv (.tmp 99))]
def s3_16 : List CI := [q0 101 (.mv (.tmp 10)), q0 102 (.bin .neq (.tmp 101) (ki 0)), q0 100 (.mv (.tmp 102))]
def s3_17 : List CI := [q0 103 (.mv (.tmp 10)), q0 13 (.mv (.tmp 103))]
def s3_18 : List CI := [q0 104 (.mv (.tmp 12)), q0 105 (.mv (.tmp 13)), q0 106 (.bin .neq (.tmp 104) (.tmp 105)), q0 107 (.mv (.tmp 106)), q1 108 (.mv (.tmp 11)) 107 false, q1 109 (.bin .eql (.tmp 108) (ks ⟨#[]⟩)) 107 false, q1 110 (.mv (.tmp 12)) 107 false, q1 111 (.bin .neq (.tmp 110) (ki 0)) 107 false, q1 112 (.eqb true .bool (.tmp 109) (.tmp 111)) 107 false, q0 113 (.pick (.tmp 107) kT (.tmp 112))]
def s3_19 : List CI := [q0 4 (.mv kF)]
def s3_20 : List CI := [q0 114 (.mv (.tmp 12)), q0 115 (.bin .neq (.tmp 114) (ki 0)), q0 116 (.mv (.tmp 115)), q1 117 (.mv (.tmp 11)) 116 false, q1 118 (.faddr 0 (.tmp 3)) 116 false, q1 119 (.load false 1 (.tmp 118)) 116 false, q1 120 (.bin .add (ks ⟨#[102, 101, 97, 116, 117, 114, 101, 32]⟩) (.tmp 119)) 116 false, q1 121 (.bin .add (.tmp 120) (ks ⟨#[32, 111, 102, 32]⟩)) 116 false, q1 122 (.faddr 1 (.tmp 3)) 116 false, q1 123 (.load false 1 (.tmp 122)) 116 false, q1 124 (.bin .add (.tmp 121) (.tmp 123)) 116 false, q1 125 (.bin .add (.tmp 124) (ks ⟨#[58, 32]⟩)) 116 false, q1 126 (.mv (.tmp 7)) 116 false, q1 127 (.bin .add (.tmp 125) (.tmp 126)) 116 false, q1 128 (.bin .add (.tmp 127) (ks ⟨#[32, 61, 32]⟩)) 116 false, q1 129 (.mv (.tmp 9)) 116 false, q1 130 (.bin .add (.tmp 128) (.tmp 129)) 116 false, q1 131 (.bin .add (.tmp 130) (ks ⟨#[59]⟩)) 116 false, q1 132 (.bin .eql (.tmp 117) (.tmp 131)) 116 false, q0 133 (.pick (.tmp 116) kT (.tmp 132)), q0 4 (.mv (.tmp 133))]
def a3 : AC := (.seq (.reg s3_0) (.keep [2, 3] (.seq (.seq (.reg s3_1) (.keep [2, 3, 15] (.cond (.tmp 15) (.seq (.reg s3_2) .ret) .skip))) (.keep [2, 3] (.seq (.seq (.reg s3_3) (.keep [2, 3, 23] (.cond (.tmp 23) (.seq (.reg s3_4) .ret) .skip))) (.keep [2, 3] (.seq (.reg s3_5) (.keep [2, 3, 5, 6] (.seq (.reg s3_6) (.keep [2, 3, 5, 6, 7, 8] (.seq (.reg s3_7) (.keep [2, 3, 5, 6, 7, 8, 9, 10] (.seq (.reg s3_8) (.keep [2, 3, 5, 6, 7, 8, 9, 10, 11, 12] (.seq (.seq (.reg s3_9) (.keep [3, 7, 8, 9, 10, 11, 12, 84] (.cond (.tmp 84) (.seq (.reg s3_10) .ret) .skip))) (.keep [3, 7, 8, 9, 10, 11, 12] (.seq (.reg s3_11) (.keep [3, 7, 8, 9, 10, 11, 12, 13] (.seq (.block 0 (.seq (.reg s3_12) (.keep [3, 7, 8, 9, 10, 11, 12, 13, 85] (.cond (.tmp 85) (.reg s3_13) (.seq (.reg s3_14) (.keep [3, 7, 8, 9, 10, 11, 12, 13, 96] (.cond (.tmp 96) (.reg s3_15) (.seq (.reg s3_16) (.keep [3, 7, 9, 10, 11, 12, 13, 100] (.cond (.tmp 100) (.reg s3_17) .skip)))))))))) (.keep [3, 7, 9, 11, 12, 13] (.seq (.seq (.reg s3_18) (.keep [3, 7, 9, 11, 12, 113] (.cond (.tmp 113) (.seq (.reg s3_19) .ret) .skip))) (.keep [3, 7, 9, 11, 12] (.seq (.reg s3_20) .ret)))))))))))))))))))))))
def c3 : FC := ⟨134, a3.erase, [.tmp 4]⟩
theorem comp3 : compF Tryd.prog Tryd.f3 = some c3 := by kernel_rfl
theorem era3 : c3.code = a3.erase := rfl
def s4_0 : List CI := [q0 0 (.mv kF)]
def s4_1 : List CI := [q0 18 (.call 15 [ks ⟨#[97]⟩]), q0 19 (.call 15 [ks ⟨#[98]⟩]), q0 20 (.call 15 [ks ⟨#[99]⟩]), q0 1 (.alloc 34 (.agg #[.int .i64 0, .string ⟨#[]⟩, .string ⟨#[]⟩, .string ⟨#[]⟩, .int .i64 0, .int .i64 0, .string ⟨#[]⟩, .slice none 0 0, .int .i64 0, .int .i64 0, .int .i64 0, .slice none 0 0])), q0 2 (.alloc 34 (.agg #[.int .i64 0, .string ⟨#[]⟩, .string ⟨#[]⟩, .string ⟨#[]⟩, .int .i64 0, .int .i64 0, .string ⟨#[]⟩, .slice none 0 0, .int .i64 0, .int .i64 0, .int .i64 0, .slice none 0 0])), q0 3 (.alloc 34 (.agg #[.int .i64 0, .string ⟨#[]⟩, .string ⟨#[]⟩, .string ⟨#[]⟩, .int .i64 0, .int .i64 0, .string ⟨#[]⟩, .slice none 0 0, .int .i64 0, .int .i64 0, .int .i64 0, .slice none 0 0])), .mk none (.store 12 (.tmp 1) (.tmp 18)) none, .mk none (.store 12 (.tmp 2) (.tmp 19)) none, .mk none (.store 12 (.tmp 3) (.tmp 20)) none]
def s4_2 : List CI := [q0 21 (.build [.string ⟨#[]⟩, .int .i64 0] [(0, 1, ks ⟨#[101, 117, 114]⟩), (1, 1, ki 1)]), q0 22 (.mksl 53 2 [.tmp 21]), q0 4 (.mv (.tmp 22))]
def s4_3 : List CI := [q0 23 (.build [.int .i64 0, .int .i64 0, .string ⟨#[]⟩] [(0, 1, ki 2), (1, 1, ki 2)]), q0 24 (.mv (.tmp 4)), q0 25 (.build [.int .i64 0, .string ⟨#[]⟩, .string ⟨#[]⟩, .string ⟨#[]⟩, .int .i64 0, .int .i64 0, .string ⟨#[]⟩, .slice none 0 0, .int .i64 0, .int .i64 0, .int .i64 0, .slice none 0 0] [(0, 1, ki 1), (4, 3, .tmp 23), (7, 1, .tmp 24)]), q0 5 (.alloc 34 (.agg #[.int .i64 0, .string ⟨#[]⟩, .string ⟨#[]⟩, .string ⟨#[]⟩, .int .i64 0, .int .i64 0, .string ⟨#[]⟩, .slice none 0 0, .int .i64 0, .int .i64 0, .int .i64 0, .slice none 0 0])), .mk none (.store 12 (.tmp 5) (.tmp 25)) none]
def s4_4 : List CI := [q0 26 (.load true 12 (.tmp 1)), q0 27 (.load true 12 (.tmp 2)), q0 28 (.load true 12 (.tmp 5)), q0 29 (.call 17 [ks ⟨#[42]⟩, .tmp 27, .tmp 28]), q0 30 (.call 17 [ks ⟨#[43]⟩, .tmp 26, .tmp 29]), q0 31 (.call 16 [.tmp 30, ks ⟨#[97, 32, 43, 32, 98, 32, 42, 32, 50, 32, 91, 101, 117, 114, 93]⟩]), q0 32 (.un .not (.tmp 31)), q0 33 (.mv (.tmp 32)), q1 34 (.load true 12 (.tmp 1)) 33 false, q1 35 (.load true 12 (.tmp 2)) 33 false, q1 36 (.call 17 [ks ⟨#[43]⟩, .tmp 34, .tmp 35]) 33 false, q1 37 (.load true 12 (.tmp 3)) 33 false, q1 38 (.call 17 [ks ⟨#[42]⟩, .tmp 36, .tmp 37]) 33 false, q1 39 (.call 16 [.tmp 38, ks ⟨#[40, 97, 32, 43, 32, 98, 41, 32, 42, 32, 99]⟩]) 33 false, q1 40 (.un .not (.tmp 39)) 33 false, q0 41 (.pick (.tmp 33) kT (.tmp 40)), q0 42 (.mv (.tmp 41)), q1 43 (.load true 12 (.tmp 1)) 42 false, q1 44 (.call 18 [ks ⟨#[45]⟩, .tmp 43]) 42 false, q1 45 (.call 18 [ks ⟨#[45]⟩, .tmp 44]) 42 false, q1 46 (.call 16 [.tmp 45, ks ⟨#[45, 45, 97]⟩]) 42 false, q1 47 (.un .not (.tmp 46)) 42 false, q0 48 (.pick (.tmp 42) kT (.tmp 47)), q0 49 (.mv (.tmp 48)), q1 50 (.load true 12 (.tmp 1)) 49 false, q1 51 (.load true 12 (.tmp 2)) 49 false, q1 52 (.load true 12 (.tmp 3)) 49 false, q1 53 (.call 17 [ks ⟨#[45]⟩, .tmp 51, .tmp 52]) 49 false, q1 54 (.call 17 [ks ⟨#[45]⟩, .tmp 50, .tmp 53]) 49 false, q1 55 (.call 16 [.tmp 54, ks ⟨#[97, 32, 45, 32, 40, 98, 32, 45, 32, 99, 41]⟩]) 49 false, q1 56 (.un .not (.tmp 55)) 49 false, q0 57 (.pick (.tmp 49) kT (.tmp 56)), q0 58 (.mv (.tmp 57)), q1 59 (.load true 12 (.tmp 1)) 58 false, q1 60 (.load true 12 (.tmp 2)) 58 false, q1 61 (.call 17 [ks ⟨#[61, 61]⟩, .tmp 59, .tmp 60]) 58 false, q1 62 (.call 18 [ks ⟨#[110, 111, 116]⟩, .tmp 61]) 58 false, q1 63 (.call 16 [.tmp 62, ks ⟨#[110, 111, 116, 32, 97, 32, 61, 61, 32, 98]⟩]) 58 false, q1 64 (.un .not (.tmp 63)) 58 false, q0 65 (.pick (.tmp 58) kT (.tmp 64))]
def s4_5 : List CI := [q0 0 (.mv kF)]
def s4_6 : List CI := [q0 66 (.load true 12 (.tmp 1)), q0 67 (.load true 12 (.tmp 2)), q0 68 (.load true 12 (.tmp 3)), q0 69 (.mksl 34 12 [.tmp 66, .tmp 67, .tmp 68]), q0 70 (.build [.int .i64 0, .string ⟨#[]⟩, .string ⟨#[]⟩, .string ⟨#[]⟩, .int .i64 0, .int .i64 0, .string ⟨#[]⟩, .slice none 0 0, .int .i64 0, .int .i64 0, .int .i64 0, .slice none 0 0] [(0, 1, ki 8), (11, 1, .tmp 69)]), q0 6 (.alloc 34 (.agg #[.int .i64 0, .string ⟨#[]⟩, .string ⟨#[]⟩, .string ⟨#[]⟩, .int .i64 0, .int .i64 0, .string ⟨#[]⟩, .slice none 0 0, .int .i64 0, .int .i64 0, .int .i64 0, .slice none 0 0])), .mk none (.store 12 (.tmp 6) (.tmp 70)) none]
def s4_7 : List CI := [q0 71 (.build [.int .i64 0, .int .i64 0, .string ⟨#[]⟩] [(0, 1, ki 2)]), q0 72 (.build [.int .i64 0, .string ⟨#[]⟩, .string ⟨#[]⟩, .string ⟨#[]⟩, .int .i64 0, .int .i64 0, .string ⟨#[]⟩, .slice none 0 0, .int .i64 0, .int .i64 0, .int .i64 0, .slice none 0 0] [(0, 1, ki 1), (4, 3, .tmp 71)]), q0 7 (.alloc 34 (.agg #[.int .i64 0, .string ⟨#[]⟩, .string ⟨#[]⟩, .string ⟨#[]⟩, .int .i64 0, .int .i64 0, .string ⟨#[]⟩, .slice none 0 0, .int .i64 0, .int .i64 0, .int .i64 0, .slice none 0 0])), .mk none (.store 12 (.tmp 7) (.tmp 72)) none]
def s4_8 : List CI := [q0 73 (.build [.int .i64 0, .int .i64 0, .string ⟨#[]⟩] [(0, 1, ki 5), (2, 1, ks ⟨#[115, 49]⟩)]), q0 74 (.build [.int .i64 0, .string ⟨#[]⟩, .string ⟨#[]⟩, .string ⟨#[]⟩, .int .i64 0, .int .i64 0, .string ⟨#[]⟩, .slice none 0 0, .int .i64 0, .int .i64 0, .int .i64 0, .slice none 0 0] [(0, 1, ki 1), (2, 1, ks ⟨#[115, 104, 111, 112]⟩), (4, 3, .tmp 73)]), q0 8 (.alloc 34 (.agg #[.int .i64 0, .string ⟨#[]⟩, .string ⟨#[]⟩, .string ⟨#[]⟩, .int .i64 0, .int .i64 0, .string ⟨#[]⟩, .slice none 0 0, .int .i64 0, .int .i64 0, .int .i64 0, .slice none 0 0])), .mk none (.store 12 (.tmp 8) (.tmp 74)) none]
def s4_9 : List CI := [q0 75 (.load true 12 (.tmp 6)), q0 76 (.load true 12 (.tmp 7)), q0 77 (.mksl 34 12 [.tmp 75, .tmp 76]), q0 78 (.build [.int .i64 0, .string ⟨#[]⟩, .string ⟨#[]⟩, .string ⟨#[]⟩, .int .i64 0, .int .i64 0, .string ⟨#[]⟩, .slice none 0 0, .int .i64 0, .int .i64 0, .int .i64 0, .slice none 0 0] [(0, 1, ki 9), (11, 1, .tmp 77)]), q0 79 (.call 16 [.tmp 78, ks ⟨#[40, 105, 102, 32, 97, 32, 116, 104, 101, 110, 32, 98, 32, 101, 108, 115, 101, 32, 99, 41, 32, 100, 101, 102, 97, 117, 108, 116, 32, 48]⟩]), q0 80 (.un .not (.tmp 79)), q0 81 (.mv (.tmp 80)), q1 82 (.load true 12 (.tmp 8)) 81 false, q1 83 (.mksl 34 12 [.tmp 82]) 81 false, q1 84 (.build [.int .i64 0, .string ⟨#[]⟩, .string ⟨#[]⟩, .string ⟨#[]⟩, .int .i64 0, .int .i64 0, .string ⟨#[]⟩, .slice none 0 0, .int .i64 0, .int .i64 0, .int .i64 0, .slice none 0 0] [(0, 1, ki 4), (2, 1, ks ⟨#[114, 97, 110, 107]⟩), (11, 1, .tmp 83)]) 81 false, q1 85 (.call 16 [.tmp 84, ks ⟨#[114, 97, 110, 107, 32, 111, 102, 32, 40, 64, 115, 104, 111, 112, 32, 34, 115, 49, 34, 41]⟩]) 81 false, q1 86 (.un .not (.tmp 85)) 81 false, q0 87 (.pick (.tmp 81) kT (.tmp 86))]
def s4_10 : List CI := [q0 0 (.mv kF)]
def s4_11 : List CI := [q0 88 (.call 19 []), q0 9 (.alloc 34 (.agg #[.int .i64 0, .string ⟨#[]⟩, .string ⟨#[]⟩, .string ⟨#[]⟩, .int .i64 0, .int .i64 0, .string ⟨#[]⟩, .slice none 0 0, .int .i64 0, .int .i64 0, .int .i64 0, .slice none 0 0])), .mk none (.store 12 (.tmp 9) (.tmp 88)) none]
def s4_12 : List CI := [q0 89 (.build [.int .i64 0, .int .i64 0] [(0, 1, ki 1)]), q0 90 (.load true 12 (.tmp 9)), q0 91 (.load true 12 (.tmp 9)), q0 92 (.mksl 34 12 [.tmp 90, .tmp 91]), q0 93 (.build [.int .i64 0, .string ⟨#[]⟩, .string ⟨#[]⟩, .string ⟨#[]⟩, .int .i64 0, .int .i64 0, .string ⟨#[]⟩, .slice none 0 0, .int .i64 0, .int .i64 0, .int .i64 0, .slice none 0 0] [(0, 1, ki 5), (1, 1, ks ⟨#[99, 111, 117, 110, 116]⟩), (3, 1, ks ⟨#[99, 108, 105, 99, 107, 115]⟩), (9, 2, .tmp 89), (11, 1, .tmp 92)]), q0 10 (.alloc 34 (.agg #[.int .i64 0, .string ⟨#[]⟩, .string ⟨#[]⟩, .string ⟨#[]⟩, .int .i64 0, .int .i64 0, .string ⟨#[]⟩, .slice none 0 0, .int .i64 0, .int .i64 0, .int .i64 0, .slice none 0 0])), .mk none (.store 12 (.tmp 10) (.tmp 93)) none]
def s4_13 : List CI := [q0 94 (.build [.int .i64 0, .int .i64 0] [(0, 1, ki 2), (1, 1, ki 60)]), q0 95 (.call 20 [ks ⟨#[109, 115]⟩]), q0 96 (.call 20 [ks ⟨#[111, 107]⟩]), q0 97 (.mksl 34 12 [.tmp 95, .tmp 96]), q0 98 (.build [.int .i64 0, .string ⟨#[]⟩, .string ⟨#[]⟩, .string ⟨#[]⟩, .int .i64 0, .int .i64 0, .string ⟨#[]⟩, .slice none 0 0, .int .i64 0, .int .i64 0, .int .i64 0, .slice none 0 0] [(0, 1, ki 5), (1, 1, ks ⟨#[113, 117, 97, 110, 116, 105, 108, 101]⟩), (3, 1, ks ⟨#[99, 97, 108, 108, 115]⟩), (8, 1, ki 950), (9, 2, .tmp 94), (11, 1, .tmp 97)]), q0 11 (.alloc 34 (.agg #[.int .i64 0, .string ⟨#[]⟩, .string ⟨#[]⟩, .string ⟨#[]⟩, .int .i64 0, .int .i64 0, .string ⟨#[]⟩, .slice none 0 0, .int .i64 0, .int .i64 0, .int .i64 0, .slice none 0 0])), .mk none (.store 12 (.tmp 11) (.tmp 98)) none]
def s4_14 : List CI := [q0 99 (.load true 12 (.tmp 10)), q0 100 (.call 16 [.tmp 99, ks ⟨#[99, 111, 117, 110, 116, 40, 99, 108, 105, 99, 107, 115, 44, 32, 97, 108, 108, 41]⟩]), q0 101 (.un .not (.tmp 100)), q0 102 (.mv (.tmp 101)), q1 103 (.load true 12 (.tmp 11)) 102 false, q1 104 (.call 16 [.tmp 103, ks ⟨#[113, 117, 97, 110, 116, 105, 108, 101, 40, 99, 97, 108, 108, 115, 44, 32, 109, 115, 44, 32, 57, 53, 48, 44, 32, 115, 108, 105, 100, 105, 110, 103, 32, 54, 48, 32, 119, 104, 101, 114, 101, 32, 111, 107, 41]⟩]) 102 false, q1 105 (.un .not (.tmp 104)) 102 false, q0 106 (.pick (.tmp 102) kT (.tmp 105))]
def s4_15 : List CI := [q0 0 (.mv kF)]
def s4_16 : List CI := [q0 108 (.mv (.tmp 4)), q0 109 (.build [.int .i64 0, .slice none 0 0, .string ⟨#[]⟩] [(0, 1, ki 3), (1, 1, .tmp 108)]), q0 110 (.build [.string ⟨#[]⟩, .int .i64 0, .slice none 0 0, .string ⟨#[]⟩] [(0, 1, ks ⟨#[120]⟩), (1, 3, .tmp 109)]), q0 111 (.build [.int .i64 0, .slice none 0 0, .string ⟨#[]⟩] [(0, 1, ki 1)]), q0 112 (.build [.string ⟨#[]⟩, .int .i64 0, .slice none 0 0, .string ⟨#[]⟩] [(0, 1, ks ⟨#[121]⟩), (1, 3, .tmp 111)]), q0 113 (.mksl 59 4 [.tmp 110, .tmp 112]), q0 114 (.build [.string ⟨#[]⟩, .string ⟨#[]⟩, .slice none 0 0, .int .i64 0] [(0, 1, ks ⟨#[116]⟩), (1, 1, ks ⟨#[117, 115, 101, 114]⟩), (2, 1, .tmp 113), (3, 1, ki 9)]), q0 115 (.call 7 [.tmp 114]), q0 107 (.mv (.tmp 115)), q0 116 (.extract (.tmp 107) 0), q0 117 (.extract (.tmp 107) 1), q0 12 (.mv (.tmp 116)), q0 13 (.mv (.tmp 117))]
def s4_17 : List CI := [q0 119 (.build [.string ⟨#[]⟩, .string ⟨#[]⟩, .slice none 0 0, .int .i64 0] [(0, 1, ks ⟨#[116]⟩), (1, 1, ks ⟨#[117, 115, 101, 114]⟩)]), q0 120 (.call 7 [.tmp 119]), q0 118 (.mv (.tmp 120)), q0 121 (.extract (.tmp 118) 0), q0 122 (.extract (.tmp 118) 1), q0 14 (.mv (.tmp 121)), q0 15 (.mv (.tmp 122))]
def s4_18 : List CI := [q0 124 (.call 20 [ks ⟨#[120]⟩]), q0 125 (.call 9 [.tmp 124]), q0 123 (.mv (.tmp 125)), q0 126 (.extract (.tmp 123) 0), q0 127 (.extract (.tmp 123) 1), q0 16 (.mv (.tmp 126)), q0 17 (.mv (.tmp 127))]
def s4_19 : List CI := [q0 128 (.mv (.tmp 12)), q0 129 (.bin .eql (.tmp 128) (ks ⟨#[116, 97, 98, 108, 101, 32, 116, 32, 111, 102, 32, 117, 115, 101, 114, 32, 123, 32, 120, 58, 32, 100, 101, 99, 32, 91, 101, 117, 114, 93, 44, 32, 121, 58, 32, 98, 111, 111, 108, 32, 125, 32, 107, 101, 101, 112, 32, 57, 59]⟩)), q0 130 (.mv (.tmp 129)), q1 131 (.mv (.tmp 13)) 130 true, q1 132 (.bin .eql (.tmp 131) (ki 0)) 130 true, q0 133 (.pick (.tmp 130) (.tmp 132) kF), q0 134 (.mv (.tmp 133)), q1 135 (.mv (.tmp 14)) 134 true, q1 136 (.bin .eql (.tmp 135) (ks ⟨#[116, 97, 98, 108, 101, 32, 116, 32, 111, 102, 32, 117, 115, 101, 114, 32, 123, 32, 125, 59]⟩)) 134 true, q0 137 (.pick (.tmp 134) (.tmp 136) kF), q0 138 (.mv (.tmp 137)), q1 139 (.mv (.tmp 15)) 138 true, q1 140 (.bin .eql (.tmp 139) (ki 0)) 138 true, q0 141 (.pick (.tmp 138) (.tmp 140) kF), q0 142 (.mv (.tmp 141)), q1 143 (.mv (.tmp 17)) 142 true, q1 144 (.bin .eql (.tmp 143) (ki 3)) 142 true, q0 145 (.pick (.tmp 142) (.tmp 144) kF), q0 0 (.mv (.tmp 145))]
def a4 : AC := (.seq (.reg s4_0) (.keep [] (.seq (.reg s4_1) (.keep [1, 2, 3] (.seq (.reg s4_2) (.keep [1, 2, 3, 4] (.seq (.reg s4_3) (.keep [1, 2, 3, 4, 5] (.seq (.seq (.dreg s4_4) (.keep [1, 2, 3, 4, 65] (.cond (.tmp 65) (.seq (.reg s4_5) .ret) .skip))) (.keep [1, 2, 3, 4] (.seq (.reg s4_6) (.keep [4, 6] (.seq (.reg s4_7) (.keep [4, 6, 7] (.seq (.reg s4_8) (.keep [4, 6, 7, 8] (.seq (.seq (.reg s4_9) (.keep [4, 87] (.cond (.tmp 87) (.seq (.reg s4_10) .ret) .skip))) (.keep [4] (.seq (.reg s4_11) (.keep [4, 9] (.seq (.reg s4_12) (.keep [4, 10] (.seq (.reg s4_13) (.keep [4, 10, 11] (.seq (.seq (.reg s4_14) (.keep [4, 106] (.cond (.tmp 106) (.seq (.reg s4_15) .ret) .skip))) (.keep [4] (.seq (.reg s4_16) (.keep [12, 13] (.seq (.reg s4_17) (.keep [12, 13, 14, 15] (.seq (.reg s4_18) (.keep [12, 13, 14, 15, 17] (.seq (.reg s4_19) .ret)))))))))))))))))))))))))))))))))
def c4 : FC := ⟨146, a4.erase, [.tmp 0]⟩
theorem comp4 : compF Tryd.prog Tryd.f4 = some c4 := by kernel_rfl
theorem era4 : c4.code = a4.erase := rfl
def s5_0 : List CI := [q0 1 (.box 24 (.tmp 0)), q0 2 (.mv kF)]
def s5_1 : List CI := [q0 3 (.mv (ki 0))]
def s5_2 : List CI := [q0 4 (.mv (.tmp 3)), q0 5 (.faddr 2 (.tmp 1)), q0 6 (.load false 1 (.tmp 5)), q0 7 (.len false (.tmp 6)), q0 8 (.bin .lss (.tmp 4) (.tmp 7))]
def s5_3 : List CI := [q0 11 (.faddr 2 (.tmp 1)), q0 12 (.load false 1 (.tmp 11)), q0 13 (.mv (.tmp 3)), q0 14 (.iaddr 4 (.tmp 12) (.tmp 13)), q0 15 (.faddr 0 (.tmp 14)), q0 16 (.load false 1 (.tmp 15)), q0 17 (.len true (.tmp 16)), q0 18 (.bin .gtr (.tmp 17) (ki 100)), q0 19 (.mv (.tmp 18)), q1 20 (.faddr 2 (.tmp 1)) 19 false, q1 21 (.load false 1 (.tmp 20)) 19 false, q1 22 (.mv (.tmp 3)) 19 false, q1 23 (.iaddr 4 (.tmp 21) (.tmp 22)) 19 false, q1 24 (.faddr 1 (.tmp 23)) 19 false, q1 25 (.load true 3 (.tmp 24)) 19 false, q1 26 (.call 21 [.tmp 25]) 19 false, q1 27 (.un .not (.tmp 26)) 19 false, q0 28 (.pick (.tmp 19) kT (.tmp 27))]
def s5_4 : List CI := [q0 2 (.mv kF)]
def s5_5 : List CI := [q0 9 (.mv (.tmp 3)), q0 10 (.bin .add (.tmp 9) (ki 1)), q0 3 (.mv (.tmp 10))]
def s5_6 : List CI := [q0 29 (.faddr 2 (.tmp 1)), q0 30 (.load false 1 (.tmp 29)), q0 31 (.len false (.tmp 30)), q0 32 (.bin .leq (.tmp 31) (ki 12)), q0 33 (.mv (.tmp 32)), q1 34 (.faddr 0 (.tmp 1)) 33 true, q1 35 (.load false 1 (.tmp 34)) 33 true, q1 36 (.len true (.tmp 35)) 33 true, q1 37 (.faddr 1 (.tmp 1)) 33 true, q1 38 (.load false 1 (.tmp 37)) 33 true, q1 39 (.len true (.tmp 38)) 33 true, q1 40 (.bin .add (.tmp 36) (.tmp 39)) 33 true, q1 41 (.bin .leq (.tmp 40) (ki 200)) 33 true, q0 42 (.pick (.tmp 33) (.tmp 41) kF), q0 2 (.mv (.tmp 42))]
def a5 : AC := (.seq (.reg s5_0) (.keep [1] (.seq (.seq (.reg s5_1) (.keep [1, 3] (.block 0 (.loop (.keep [1, 3] (.seq (.seq (.reg s5_2) (.keep [1, 3, 8] (.cond (.tmp 8) .skip (.exit 0)))) (.keep [1, 3] (.seq (.block 1 (.seq (.reg s5_3) (.keep [1, 3, 28] (.cond (.tmp 28) (.seq (.reg s5_4) .ret) .skip)))) (.keep [1, 3] (.reg s5_5)))))))))) (.keep [1] (.seq (.reg s5_6) .ret)))))
def c5 : FC := ⟨43, a5.erase, [.tmp 2]⟩
theorem comp5 : compF Tryd.prog Tryd.f5 = some c5 := by kernel_rfl
theorem era5 : c5.code = a5.erase := rfl
def s6_0 : List CI := [q0 1 (.box 36 (.tmp 0)), q0 2 (.mv kF)]
def s6_1 : List CI := [q0 3 (.faddr 0 (.tmp 1)), q0 4 (.load false 1 (.tmp 3)), q0 5 (.len true (.tmp 4)), q0 6 (.faddr 1 (.tmp 1)), q0 7 (.load false 1 (.tmp 6)), q0 8 (.len true (.tmp 7)), q0 9 (.bin .add (.tmp 5) (.tmp 8)), q0 10 (.bin .leq (.tmp 9) (ki 200)), q0 11 (.mv (.tmp 10)), q1 12 (.faddr 2 (.tmp 1)) 11 true, q1 13 (.load true 3 (.tmp 12)) 11 true, q1 14 (.call 21 [.tmp 13]) 11 true, q0 15 (.pick (.tmp 11) (.tmp 14) kF), q0 16 (.mv (.tmp 15)), q1 17 (.faddr 5 (.tmp 1)) 16 true, q1 18 (.load true 12 (.tmp 17)) 16 true, q1 19 (.call 22 [.tmp 18, ki 80]) 16 true, q1 20 (.bin .geq (.tmp 19) (ki 0)) 16 true, q0 21 (.pick (.tmp 16) (.tmp 20) kF), q0 2 (.mv (.tmp 21))]
def a6 : AC := (.seq (.reg s6_0) (.keep [1] (.seq (.reg s6_1) .ret)))
def c6 : FC := ⟨22, a6.erase, [.tmp 2]⟩
theorem comp6 : compF Tryd.prog Tryd.f6 = some c6 := by kernel_rfl
theorem era6 : c6.code = a6.erase := rfl
def s7_0 : List CI := [q0 1 (.box 24 (.tmp 0)), q0 2 (.mv (ks ⟨#[]⟩)), q0 3 (.mv (ki 0))]
def s7_1 : List CI := [q0 8 (.load true 4 (.tmp 1)), q0 9 (.call 11 [.tmp 8]), q0 4 (.mv (.tmp 9))]
def s7_2 : List CI := [q0 10 (.mv (.tmp 4)), q0 11 (.bin .neq (.tmp 10) (ki 0))]
def s7_3 : List CI := [q0 12 (.mv (.tmp 4)), q0 2 (.mv (ks ⟨#[]⟩)), q0 3 (.mv (.tmp 12))]
def s7_4 : List CI := [q0 5 (.mv (.const (.slice none 0 0)))]
def s7_5 : List CI := [q0 13 (.faddr 2 (.tmp 1)), q0 14 (.load false 1 (.tmp 13)), q0 15 (.len false (.tmp 14)), q0 16 (.mv (ki 0))]
def s7_6 : List CI := [q0 17 (.bin .lss (.tmp 16) (.tmp 15))]
def s7_7 : List CI := [q0 18 (.iaddr 4 (.tmp 14) (.tmp 16)), q0 19 (.load true 4 (.tmp 18)), q0 7 (.alloc 59 (.agg #[.string ⟨#[]⟩, .int .i64 0, .slice none 0 0, .string ⟨#[]⟩])), .mk none (.store 4 (.tmp 7) (.tmp 19)) none]
def s7_8 : List CI := [q0 20 (.mv (.tmp 5)), q0 21 (.faddr 0 (.tmp 7)), q0 22 (.load false 1 (.tmp 21)), q0 23 (.faddr 1 (.tmp 7)), q0 24 (.load true 3 (.tmp 23)), q0 25 (.call 24 [.tmp 24]), q0 26 (.mksl 9 1 [ks ⟨#[32]⟩, .tmp 22, ks ⟨#[58, 32]⟩, .tmp 25]), q0 27 (.call 23 [.tmp 26]), q0 28 (.mksl 9 1 [.tmp 27]), q0 29 (.append 9 1 16 [.string ⟨#[]⟩] (.tmp 20) (.tmp 28)), q0 5 (.mv (.tmp 29))]
def s7_9 : List CI := [q0 30 (.bin .add (.tmp 16) (ki 1)), q0 16 (.mv (.tmp 30))]
def s7_10 : List CI := [q0 31 (.faddr 0 (.tmp 1)), q0 32 (.load false 1 (.tmp 31)), q0 33 (.faddr 1 (.tmp 1)), q0 34 (.load false 1 (.tmp 33)), q0 35 (.mv (.tmp 5)), q0 36 (.call 25 [.tmp 35, ks ⟨#[44]⟩]), q0 37 (.mksl 9 1 [ks ⟨#[116, 97, 98, 108, 101, 32]⟩, .tmp 32, ks ⟨#[32, 111, 102, 32]⟩, .tmp 34, ks ⟨#[32, 123]⟩, .tmp 36, ks ⟨#[32, 125]⟩]), q0 38 (.call 23 [.tmp 37]), q0 2 (.mv (.tmp 38))]
def s7_11 : List CI := [q0 39 (.faddr 3 (.tmp 1)), q0 40 (.load false 1 (.tmp 39)), q0 41 (.bin .neq (.tmp 40) (ki 0))]
def s7_12 : List CI := [q0 42 (.mv (.tmp 2)), q0 43 (.faddr 3 (.tmp 1)), q0 44 (.load false 1 (.tmp 43)), q0 45 (.call 26 [.tmp 44]), q0 46 (.mksl 9 1 [.tmp 42, ks ⟨#[32, 107, 101, 101, 112, 32]⟩, .tmp 45]), q0 47 (.call 23 [.tmp 46]), q0 2 (.mv (.tmp 47))]
def s7_13 : List CI := [q0 48 (.mv (.tmp 2)), q0 49 (.mksl 9 1 [.tmp 48, ks ⟨#[59]⟩]), q0 50 (.call 23 [.tmp 49]), q0 2 (.mv (.tmp 50)), q0 3 (.mv (ki 0))]
def a7 : AC := (.seq (.reg s7_0) (.keep [1] (.seq (.seq (.reg s7_1) (.keep [1, 4] (.seq (.reg s7_2) (.keep [1, 4, 11] (.cond (.tmp 11) (.seq (.reg s7_3) .ret) .skip))))) (.keep [1] (.seq (.reg s7_4) (.keep [1, 5] (.seq (.seq (.reg s7_5) (.keep [1, 5, 14, 15, 16] (.block 0 (.loop (.keep [1, 5, 14, 15, 16] (.seq (.reg s7_6) (.keep [1, 5, 14, 15, 16, 17] (.seq (.cond (.tmp 17) .skip (.exit 0)) (.keep [1, 5, 14, 15, 16] (.seq (.block 1 (.seq (.reg s7_7) (.keep [1, 5, 7, 14, 15, 16] (.dreg s7_8)))) (.keep [1, 5, 14, 15, 16] (.reg s7_9)))))))))))) (.keep [1, 5] (.seq (.dreg s7_10) (.keep [1, 2] (.seq (.seq (.reg s7_11) (.keep [1, 2, 41] (.cond (.tmp 41) (.reg s7_12) .skip))) (.keep [2] (.seq (.reg s7_13) .ret)))))))))))))
def c7 : FC := ⟨51, a7.erase, [.tmp 2, .tmp 3]⟩
theorem comp7 : compF Tryd.prog Tryd.f7 = some c7 := by kernel_rfl
theorem era7 : c7.code = a7.erase := rfl
def s8_0 : List CI := [q0 1 (.box 27 (.tmp 0)), q0 2 (.mv (ks ⟨#[]⟩)), q0 3 (.mv (ki 0))]
def s8_1 : List CI := [q0 5 (.load true 3 (.tmp 1)), q0 6 (.call 12 [.tmp 5]), q0 4 (.mv (.tmp 6))]
def s8_2 : List CI := [q0 7 (.mv (.tmp 4)), q0 8 (.bin .neq (.tmp 7) (ki 0))]
def s8_3 : List CI := [q0 9 (.mv (.tmp 4)), q0 2 (.mv (ks ⟨#[]⟩)), q0 3 (.mv (.tmp 9))]
def s8_4 : List CI := [q0 10 (.load true 3 (.tmp 1)), q0 11 (.call 24 [.tmp 10]), q0 2 (.mv (.tmp 11)), q0 3 (.mv (ki 0))]
def a8 : AC := (.seq (.reg s8_0) (.keep [1] (.seq (.seq (.reg s8_1) (.keep [1, 4] (.seq (.reg s8_2) (.keep [1, 4, 8] (.cond (.tmp 8) (.seq (.reg s8_3) .ret) .skip))))) (.keep [1] (.seq (.reg s8_4) .ret)))))
def c8 : FC := ⟨12, a8.erase, [.tmp 2, .tmp 3]⟩
theorem comp8 : compF Tryd.prog Tryd.f8 = some c8 := by kernel_rfl
theorem era8 : c8.code = a8.erase := rfl
def s9_0 : List CI := [q0 1 (.box 34 (.tmp 0)), q0 2 (.mv (ks ⟨#[]⟩)), q0 3 (.mv (ki 0))]
def s9_1 : List CI := [q0 5 (.load true 12 (.tmp 1)), q0 6 (.call 13 [.tmp 5]), q0 4 (.mv (.tmp 6))]
def s9_2 : List CI := [q0 7 (.mv (.tmp 4)), q0 8 (.bin .neq (.tmp 7) (ki 0))]
def s9_3 : List CI := [q0 9 (.mv (.tmp 4)), q0 2 (.mv (ks ⟨#[]⟩)), q0 3 (.mv (.tmp 9))]
def s9_4 : List CI := [q0 10 (.load true 12 (.tmp 1)), q0 11 (.build [.int .i64 0, .string ⟨#[]⟩, .string ⟨#[]⟩, .string ⟨#[]⟩, .int .i64 0, .int .i64 0, .string ⟨#[]⟩, .slice none 0 0, .int .i64 0, .int .i64 0, .int .i64 0, .slice none 0 0] [(0, 12, .tmp 10)]), q0 12 (.call 27 [.tmp 11]), q0 2 (.mv (.tmp 12)), q0 3 (.mv (ki 0))]
def a9 : AC := (.seq (.reg s9_0) (.keep [1] (.seq (.seq (.reg s9_1) (.keep [1, 4] (.seq (.reg s9_2) (.keep [1, 4, 8] (.cond (.tmp 8) (.seq (.reg s9_3) .ret) .skip))))) (.keep [1] (.seq (.reg s9_4) .ret)))))
def c9 : FC := ⟨13, a9.erase, [.tmp 2, .tmp 3]⟩
theorem comp9 : compF Tryd.prog Tryd.f9 = some c9 := by kernel_rfl
theorem era9 : c9.code = a9.erase := rfl
def s10_0 : List CI := [q0 1 (.box 36 (.tmp 0)), q0 2 (.mv (ks ⟨#[]⟩)), q0 3 (.mv (ki 0))]
def s10_1 : List CI := [q0 6 (.faddr 0 (.tmp 1)), q0 7 (.load false 1 (.tmp 6)), q0 8 (.call 14 [.tmp 7]), q0 9 (.un .not (.tmp 8)), q0 10 (.mv (.tmp 9)), q1 11 (.faddr 1 (.tmp 1)) 10 false, q1 12 (.load false 1 (.tmp 11)) 10 false, q1 13 (.call 14 [.tmp 12]) 10 false, q1 14 (.un .not (.tmp 13)) 10 false, q0 15 (.pick (.tmp 10) kT (.tmp 14))]
def s10_2 : List CI := [q0 2 (.mv (ks ⟨#[]⟩)), q0 3 (.mv (ki 3))]
def s10_3 : List CI := [q0 17 (.faddr 2 (.tmp 1)), q0 18 (.load true 3 (.tmp 17)), q0 19 (.call 8 [.tmp 18]), q0 16 (.mv (.tmp 19)), q0 20 (.extract (.tmp 16) 0), q0 21 (.extract (.tmp 16) 1), q0 4 (.mv (.tmp 20)), q0 3 (.mv (.tmp 21))]
def s10_4 : List CI := [q0 22 (.mv (.tmp 3)), q0 23 (.bin .neq (.tmp 22) (ki 0))]
def s10_5 : List CI := [q0 24 (.mv (.tmp 3)), q0 2 (.mv (ks ⟨#[]⟩)), q0 3 (.mv (.tmp 24))]
def s10_6 : List CI := [q0 26 (.faddr 5 (.tmp 1)), q0 27 (.load true 12 (.tmp 26)), q0 28 (.call 9 [.tmp 27]), q0 25 (.mv (.tmp 28)), q0 29 (.extract (.tmp 25) 0), q0 30 (.extract (.tmp 25) 1), q0 5 (.mv (.tmp 29)), q0 3 (.mv (.tmp 30))]
def s10_7 : List CI := [q0 31 (.mv (.tmp 3)), q0 32 (.bin .neq (.tmp 31) (ki 0))]
def s10_8 : List CI := [q0 33 (.mv (.tmp 3)), q0 2 (.mv (ks ⟨#[]⟩)), q0 3 (.mv (.tmp 33))]
def s10_9 : List CI := [q0 34 (.faddr 0 (.tmp 1)), q0 35 (.load false 1 (.tmp 34)), q0 36 (.faddr 1 (.tmp 1)), q0 37 (.load false 1 (.tmp 36)), q0 38 (.mv (.tmp 4)), q0 39 (.mv (.tmp 5)), q0 40 (.mksl 9 1 [ks ⟨#[102, 101, 97, 116, 117, 114, 101, 32]⟩, .tmp 35, ks ⟨#[32, 111, 102, 32]⟩, .tmp 37, ks ⟨#[58, 32]⟩, .tmp 38, ks ⟨#[32, 61, 32]⟩, .tmp 39, ks ⟨#[59]⟩]), q0 41 (.call 23 [.tmp 40]), q0 2 (.mv (.tmp 41)), q0 3 (.mv (ki 0))]
def a10 : AC := (.seq (.reg s10_0) (.keep [1] (.seq (.seq (.reg s10_1) (.keep [1, 15] (.cond (.tmp 15) (.seq (.reg s10_2) .ret) .skip))) (.keep [1] (.seq (.reg s10_3) (.keep [1, 3, 4] (.seq (.seq (.reg s10_4) (.keep [1, 3, 4, 23] (.cond (.tmp 23) (.seq (.reg s10_5) .ret) .skip))) (.keep [1, 4] (.seq (.reg s10_6) (.keep [1, 3, 4, 5] (.seq (.seq (.reg s10_7) (.keep [1, 3, 4, 5, 32] (.cond (.tmp 32) (.seq (.reg s10_8) .ret) .skip))) (.keep [1, 4, 5] (.seq (.reg s10_9) .ret)))))))))))))
def c10 : FC := ⟨42, a10.erase, [.tmp 2, .tmp 3]⟩
theorem comp10 : compF Tryd.prog Tryd.f10 = some c10 := by kernel_rfl
theorem era10 : c10.code = a10.erase := rfl
def s11_0 : List CI := [q0 1 (.box 24 (.tmp 0)), q0 2 (.mv (ki 0))]
def s11_1 : List CI := [q0 6 (.faddr 0 (.tmp 1)), q0 7 (.load false 1 (.tmp 6)), q0 8 (.call 14 [.tmp 7]), q0 9 (.un .not (.tmp 8)), q0 10 (.mv (.tmp 9)), q1 11 (.faddr 1 (.tmp 1)) 10 false, q1 12 (.load false 1 (.tmp 11)) 10 false, q1 13 (.call 14 [.tmp 12]) 10 false, q1 14 (.un .not (.tmp 13)) 10 false, q0 15 (.pick (.tmp 10) kT (.tmp 14)), q0 16 (.mv (.tmp 15)), q1 17 (.faddr 3 (.tmp 1)) 16 false, q1 18 (.load false 1 (.tmp 17)) 16 false, q1 19 (.bin .lss (.tmp 18) (ki 0)) 16 false, q0 20 (.pick (.tmp 16) kT (.tmp 19)), q0 21 (.mv (.tmp 20)), q1 22 (.faddr 3 (.tmp 1)) 21 false, q1 23 (.load false 1 (.tmp 22)) 21 false, q1 24 (.bin .gtr (.tmp 23) (ki 1099511627776)) 21 false, q0 25 (.pick (.tmp 21) kT (.tmp 24))]
def s11_2 : List CI := [q0 2 (.mv (ki 3))]
def s11_3 : List CI := [q0 26 (.faddr 2 (.tmp 1)), q0 27 (.load false 1 (.tmp 26)), q0 28 (.len false (.tmp 27)), q0 29 (.bin .gtr (.tmp 28) (ki 8))]
def s11_4 : List CI := [q0 2 (.mv (ki 2))]
def s11_5 : List CI := [q0 30 (.faddr 2 (.tmp 1)), q0 31 (.load false 1 (.tmp 30)), q0 32 (.len false (.tmp 31)), q0 33 (.mv (ki 0))]
def s11_6 : List CI := [q0 34 (.bin .lss (.tmp 33) (.tmp 32))]
def s11_7 : List CI := [q0 35 (.mv (.tmp 33)), q0 36 (.iaddr 4 (.tmp 31) (.tmp 33)), q0 37 (.load true 4 (.tmp 36)), q0 4 (.alloc 59 (.agg #[.string ⟨#[]⟩, .int .i64 0, .slice none 0 0, .string ⟨#[]⟩])), q0 3 (.mv (.tmp 35)), .mk none (.store 4 (.tmp 4) (.tmp 37)) none]
def s11_8 : List CI := [q0 38 (.faddr 0 (.tmp 4)), q0 39 (.load false 1 (.tmp 38)), q0 40 (.call 14 [.tmp 39]), q0 41 (.un .not (.tmp 40))]
def s11_9 : List CI := [q0 2 (.mv (ki 3))]
def s11_10 : List CI := [q0 42 (.faddr 2 (.tmp 1)), q0 43 (.load false 1 (.tmp 42)), q0 44 (.mv (.tmp 3)), q0 45 (.slice 4 (.tmp 43) none (some (.tmp 44))), q0 46 (.mkfn (Fn.func 29) [] [.tmp 4]), q0 47 (.call 28 [.tmp 45, .tmp 46])]
def s11_11 : List CI := [q0 2 (.mv (ki 121))]
def s11_12 : List CI := [q0 48 (.faddr 1 (.tmp 4)), q0 49 (.load true 3 (.tmp 48)), q0 50 (.call 12 [.tmp 49]), q0 5 (.mv (.tmp 50))]
def s11_13 : List CI := [q0 51 (.mv (.tmp 5)), q0 52 (.bin .neq (.tmp 51) (ki 0))]
def s11_14 : List CI := [q0 53 (.mv (.tmp 5)), q0 2 (.mv (.tmp 53))]
def s11_15 : List CI := [q0 54 (.bin .add (.tmp 33) (ki 1)), q0 33 (.mv (.tmp 54))]
def s11_16 : List CI := [q0 2 (.mv (ki 0))]
def a11 : AC := (.seq (.reg s11_0) (.keep [1] (.seq (.seq (.reg s11_1) (.keep [1, 25] (.cond (.tmp 25) (.seq (.reg s11_2) .ret) .skip))) (.keep [1] (.seq (.seq (.reg s11_3) (.keep [1, 29] (.cond (.tmp 29) (.seq (.reg s11_4) .ret) .skip))) (.keep [1] (.seq (.seq (.reg s11_5) (.keep [1, 31, 32, 33] (.block 0 (.loop (.keep [1, 31, 32, 33] (.seq (.reg s11_6) (.keep [1, 31, 32, 33, 34] (.seq (.cond (.tmp 34) .skip (.exit 0)) (.keep [1, 31, 32, 33] (.seq (.block 1 (.seq (.reg s11_7) (.keep [1, 3, 4, 31, 32, 33] (.seq (.seq (.reg s11_8) (.keep [1, 3, 4, 31, 32, 33, 41] (.cond (.tmp 41) (.seq (.reg s11_9) .ret) .skip))) (.keep [1, 3, 4, 31, 32, 33] (.seq (.seq (.reg s11_10) (.keep [1, 4, 31, 32, 33, 47] (.cond (.tmp 47) (.seq (.reg s11_11) .ret) .skip))) (.keep [1, 4, 31, 32, 33] (.seq (.reg s11_12) (.keep [1, 5, 31, 32, 33] (.seq (.reg s11_13) (.keep [1, 5, 31, 32, 33, 52] (.cond (.tmp 52) (.seq (.reg s11_14) .ret) .skip)))))))))))) (.keep [1, 31, 32, 33] (.reg s11_15)))))))))))) (.keep [] (.seq (.reg s11_16) .ret)))))))))
def c11 : FC := ⟨55, a11.erase, [.tmp 2]⟩
theorem comp11 : compF Tryd.prog Tryd.f11 = some c11 := by kernel_rfl
theorem era11 : c11.code = a11.erase := rfl
def s12_0 : List CI := [q0 1 (.box 27 (.tmp 0)), q0 2 (.mv (ki 0))]
def s12_1 : List CI := [q0 3 (.faddr 0 (.tmp 1)), q0 4 (.load false 1 (.tmp 3)), q0 5 (.bin .lss (.tmp 4) (ki 1)), q0 6 (.mv (.tmp 5)), q1 7 (.faddr 0 (.tmp 1)) 6 false, q1 8 (.load false 1 (.tmp 7)) 6 false, q1 9 (.bin .gtr (.tmp 8) (ki 5)) 6 false, q0 10 (.pick (.tmp 6) kT (.tmp 9)), q0 11 (.mv (.tmp 10)), q1 12 (.faddr 1 (.tmp 1)) 11 false, q1 13 (.load false 1 (.tmp 12)) 11 false, q1 14 (.len false (.tmp 13)) 11 false, q1 15 (.bin .gtr (.tmp 14) (ki 0)) 11 false, q1 16 (.mv (.tmp 15)) 11 false, q1 17 (.load true 3 (.tmp 1)) 16 true, q1 18 (.call 30 [.tmp 17]) 16 true, q1 19 (.un .not (.tmp 18)) 16 true, q1 20 (.pick (.tmp 16) (.tmp 19) kF) 11 false, q0 21 (.pick (.tmp 11) kT (.tmp 20))]
def s12_2 : List CI := [q0 2 (.mv (ki 3))]
def s12_3 : List CI := [q0 22 (.faddr 0 (.tmp 1)), q0 23 (.load false 1 (.tmp 22)), q0 24 (.bin .eql (.tmp 23) (ki 5)), q0 25 (.faddr 2 (.tmp 1)), q0 26 (.load false 1 (.tmp 25)), q0 27 (.bin .neq (.tmp 26) (ks ⟨#[]⟩)), q0 28 (.eqb true .bool (.tmp 24) (.tmp 27)), q0 29 (.mv (.tmp 28)), q1 30 (.faddr 2 (.tmp 1)) 29 false, q1 31 (.load false 1 (.tmp 30)) 29 false, q1 32 (.bin .neq (.tmp 31) (ks ⟨#[]⟩)) 29 false, q1 33 (.mv (.tmp 32)) 29 false, q1 34 (.faddr 2 (.tmp 1)) 33 true, q1 35 (.load false 1 (.tmp 34)) 33 true, q1 36 (.call 14 [.tmp 35]) 33 true, q1 37 (.un .not (.tmp 36)) 33 true, q1 38 (.pick (.tmp 33) (.tmp 37) kF) 29 false, q0 39 (.pick (.tmp 29) kT (.tmp 38))]
def s12_4 : List CI := [q0 2 (.mv (ki 3))]
def s12_5 : List CI := [q0 40 (.faddr 1 (.tmp 1)), q0 41 (.load false 1 (.tmp 40)), q0 42 (.call 31 [.tmp 41]), q0 43 (.bin .neq (.tmp 42) (ki 0)), q0 44 (.mv (.tmp 43)), q1 45 (.faddr 1 (.tmp 1)) 44 false, q1 46 (.load false 1 (.tmp 45)) 44 false, q1 47 (.call 32 [.tmp 46, .func 33]) 44 false, q0 48 (.pick (.tmp 44) kT (.tmp 47))]
def s12_6 : List CI := [q0 2 (.mv (ki 70))]
def s12_7 : List CI := [q0 2 (.mv (ki 0))]
def a12 : AC := (.seq (.reg s12_0) (.keep [1] (.seq (.seq (.reg s12_1) (.keep [1, 21] (.cond (.tmp 21) (.seq (.reg s12_2) .ret) .skip))) (.keep [1] (.seq (.seq (.reg s12_3) (.keep [1, 39] (.cond (.tmp 39) (.seq (.reg s12_4) .ret) .skip))) (.keep [1] (.seq (.seq (.reg s12_5) (.keep [48] (.cond (.tmp 48) (.seq (.reg s12_6) .ret) .skip))) (.keep [] (.seq (.reg s12_7) .ret)))))))))
def c12 : FC := ⟨49, a12.erase, [.tmp 2]⟩
theorem comp12 : compF Tryd.prog Tryd.f12 = some c12 := by kernel_rfl
theorem era12 : c12.code = a12.erase := rfl
def s13_0 : List CI := [q0 1 (.box 34 (.tmp 0)), q0 2 (.mv (ki 0))]
def s13_1 : List CI := [q0 3 (.load true 12 (.tmp 1)), q0 4 (.call 34 [.tmp 3]), q0 5 (.bin .gtr (.tmp 4) (ki 64)), q0 6 (.mv (.tmp 5)), q1 7 (.load true 12 (.tmp 1)) 6 false, q1 8 (.call 35 [.tmp 7]) 6 false, q1 9 (.bin .gtr (.tmp 8) (ki 12)) 6 false, q0 10 (.pick (.tmp 6) kT (.tmp 9))]
def s13_2 : List CI := [q0 2 (.mv (ki 2))]
def s13_3 : List CI := [q0 11 (.load true 12 (.tmp 1)), q0 12 (.call 36 [.tmp 11, kF]), q0 13 (.un .not (.tmp 12))]
def s13_4 : List CI := [q0 2 (.mv (ki 3))]
def s13_5 : List CI := [q0 2 (.mv (ki 0))]
def a13 : AC := (.seq (.reg s13_0) (.keep [1] (.seq (.seq (.reg s13_1) (.keep [1, 10] (.cond (.tmp 10) (.seq (.reg s13_2) .ret) .skip))) (.keep [1] (.seq (.seq (.reg s13_3) (.keep [13] (.cond (.tmp 13) (.seq (.reg s13_4) .ret) .skip))) (.keep [] (.seq (.reg s13_5) .ret)))))))
def c13 : FC := ⟨14, a13.erase, [.tmp 2]⟩
theorem comp13 : compF Tryd.prog Tryd.f13 = some c13 := by kernel_rfl
theorem era13 : c13.code = a13.erase := rfl
def s14_0 : List CI := [q0 2 (.mv kF)]
def s14_1 : List CI := [q0 5 (.mv (.tmp 0)), q0 6 (.bin .eql (.tmp 5) (ks ⟨#[]⟩)), q0 7 (.mv (.tmp 6)), q1 8 (.mv (.tmp 0)) 7 false, q1 9 (.len true (.tmp 8)) 7 false, q1 10 (.bin .gtr (.tmp 9) (ki 24)) 7 false, q0 11 (.pick (.tmp 7) kT (.tmp 10)), q0 12 (.mv (.tmp 11)), q1 13 (.mv (.tmp 0)) 12 false, q1 14 (.call 37 [.tmp 13]) 12 false, q0 15 (.pick (.tmp 12) kT (.tmp 14))]
def s14_2 : List CI := [q0 2 (.mv kF)]
def s14_3 : List CI := [q0 16 (.mv (.tmp 0)), q0 17 (.len true (.tmp 16)), q0 18 (.mv (ki 0))]
def s14_4 : List CI := [q0 19 (.bin .lss (.tmp 18) (.tmp 17))]
def s14_5 : List CI := [q0 20 (.mv (.tmp 18)), q0 3 (.mv (.tmp 20))]
def s14_6 : List CI := [q0 21 (.mv (.tmp 0)), q0 22 (.mv (.tmp 3)), q0 23 (.idxs (.tmp 21) (.tmp 22)), q0 4 (.mv (.tmp 23))]
def s14_7 : List CI := [q0 25 (.mv (.tmp 4)), q0 26 (.bin .geq (.tmp 25) (.const (.int .u8 97))), q0 27 (.mv (.tmp 26)), q1 28 (.mv (.tmp 4)) 27 true, q1 29 (.bin .leq (.tmp 28) (.const (.int .u8 122))) 27 true, q0 30 (.pick (.tmp 27) (.tmp 29) kF), q0 24 (.mv (.tmp 30))]
def s14_8 : List CI := [q0 32 (.mv (.tmp 3)), q0 33 (.bin .gtr (.tmp 32) (ki 0)), q0 34 (.mv (.tmp 33)), q1 35 (.mv (.tmp 4)) 34 true, q1 36 (.bin .geq (.tmp 35) (.const (.int .u8 48))) 34 true, q1 37 (.mv (.tmp 36)) 34 true, q1 38 (.mv (.tmp 4)) 37 true, q1 39 (.bin .leq (.tmp 38) (.const (.int .u8 57))) 37 true, q1 40 (.pick (.tmp 37) (.tmp 39) kF) 34 true, q1 41 (.mv (.tmp 40)) 34 true, q1 42 (.mv (.tmp 4)) 41 false, q1 43 (.bin .eql (.tmp 42) (.const (.int .u8 95))) 41 false, q1 44 (.pick (.tmp 41) kT (.tmp 43)) 34 true, q0 45 (.pick (.tmp 34) (.tmp 44) kF), q0 31 (.mv (.tmp 45))]
def s14_9 : List CI := [q0 2 (.mv kF)]
def s14_10 : List CI := [q0 46 (.bin .add (.tmp 18) (ki 1)), q0 18 (.mv (.tmp 46))]
def s14_11 : List CI := [q0 2 (.mv kT)]
def a14 : AC := (.seq (.reg s14_0) (.keep [0] (.seq (.seq (.reg s14_1) (.keep [0, 15] (.cond (.tmp 15) (.seq (.reg s14_2) .ret) .skip))) (.keep [0] (.seq (.seq (.reg s14_3) (.keep [0, 17, 18] (.block 0 (.loop (.keep [0, 17, 18] (.seq (.reg s14_4) (.keep [0, 17, 18, 19] (.seq (.cond (.tmp 19) .skip (.exit 0)) (.keep [0, 17, 18] (.seq (.block 1 (.seq (.reg s14_5) (.keep [0, 3, 17, 18] (.seq (.reg s14_6) (.keep [0, 3, 4, 17, 18] (.block 2 (.seq (.reg s14_7) (.keep [0, 3, 4, 17, 18, 24] (.cond (.tmp 24) .skip (.seq (.reg s14_8) (.keep [0, 17, 18, 31] (.cond (.tmp 31) .skip (.seq (.reg s14_9) .ret))))))))))))) (.keep [0, 17, 18] (.reg s14_10)))))))))))) (.keep [] (.seq (.reg s14_11) .ret)))))))
def c14 : FC := ⟨47, a14.erase, [.tmp 2]⟩
theorem comp14 : compF Tryd.prog Tryd.f14 = some c14 := by kernel_rfl
theorem era14 : c14.code = a14.erase := rfl
def s15_0 : List CI := [q0 2 (.alloc 34 (.agg #[.int .i64 0, .string ⟨#[]⟩, .string ⟨#[]⟩, .string ⟨#[]⟩, .int .i64 0, .int .i64 0, .string ⟨#[]⟩, .slice none 0 0, .int .i64 0, .int .i64 0, .int .i64 0, .slice none 0 0]))]
def s15_1 : List CI := [q0 3 (.mv (.tmp 0)), q0 4 (.build [.int .i64 0, .string ⟨#[]⟩, .string ⟨#[]⟩, .string ⟨#[]⟩, .int .i64 0, .int .i64 0, .string ⟨#[]⟩, .slice none 0 0, .int .i64 0, .int .i64 0, .int .i64 0, .slice none 0 0] [(0, 1, ki 3), (2, 1, .tmp 3)]), .mk none (.store 12 (.tmp 2) (.tmp 4)) none]
def a15 : AC := (.seq (.reg s15_0) (.keep [0, 2] (.seq (.reg s15_1) .ret)))
def c15 : FC := ⟨5, a15.erase, [.cell 2 true 12]⟩
theorem comp15 : compF Tryd.prog Tryd.f15 = some c15 := by kernel_rfl
theorem era15 : c15.code = a15.erase := rfl
def s16_0 : List CI := [q0 2 (.box 34 (.tmp 0)), q0 4 (.mv kF)]
def s16_1 : List CI := [q0 8 (.load true 12 (.tmp 2)), q0 9 (.call 9 [.tmp 8]), q0 7 (.mv (.tmp 9)), q0 10 (.extract (.tmp 7) 0), q0 11 (.extract (.tmp 7) 1), q0 5 (.mv (.tmp 10)), q0 6 (.mv (.tmp 11))]
def s16_2 : List CI := [q0 12 (.mv (.tmp 5)), q0 13 (.mv (.tmp 1)), q0 14 (.bin .eql (.tmp 12) (.tmp 13)), q0 15 (.mv (.tmp 14)), q1 16 (.mv (.tmp 6)) 15 true, q1 17 (.bin .eql (.tmp 16) (ki 0)) 15 true, q0 18 (.pick (.tmp 15) (.tmp 17) kF), q0 4 (.mv (.tmp 18))]
def a16 : AC := (.seq (.reg s16_0) (.keep [1, 2] (.seq (.reg s16_1) (.keep [1, 5, 6] (.seq (.reg s16_2) .ret)))))
def c16 : FC := ⟨19, a16.erase, [.tmp 4]⟩
theorem comp16 : compF Tryd.prog Tryd.f16 = some c16 := by kernel_rfl
theorem era16 : c16.code = a16.erase := rfl
def s17_0 : List CI := [q0 4 (.box 34 (.tmp 1)), q0 5 (.box 34 (.tmp 2)), q0 6 (.alloc 34 (.agg #[.int .i64 0, .string ⟨#[]⟩, .string ⟨#[]⟩, .string ⟨#[]⟩, .int .i64 0, .int .i64 0, .string ⟨#[]⟩, .slice none 0 0, .int .i64 0, .int .i64 0, .int .i64 0, .slice none 0 0]))]
def s17_1 : List CI := [q0 7 (.mv (.tmp 0)), q0 8 (.load true 12 (.tmp 4)), q0 9 (.load true 12 (.tmp 5)), q0 10 (.mksl 34 12 [.tmp 8, .tmp 9]), q0 11 (.build [.int .i64 0, .string ⟨#[]⟩, .string ⟨#[]⟩, .string ⟨#[]⟩, .int .i64 0, .int .i64 0, .string ⟨#[]⟩, .slice none 0 0, .int .i64 0, .int .i64 0, .int .i64 0, .slice none 0 0] [(0, 1, ki 7), (1, 1, .tmp 7), (11, 1, .tmp 10)]), .mk none (.store 12 (.tmp 6) (.tmp 11)) none]
def a17 : AC := (.seq (.reg s17_0) (.keep [0, 4, 5, 6] (.seq (.reg s17_1) .ret)))
def c17 : FC := ⟨12, a17.erase, [.cell 6 true 12]⟩
theorem comp17 : compF Tryd.prog Tryd.f17 = some c17 := by kernel_rfl
theorem era17 : c17.code = a17.erase := rfl
def s18_0 : List CI := [q0 3 (.box 34 (.tmp 1)), q0 4 (.alloc 34 (.agg #[.int .i64 0, .string ⟨#[]⟩, .string ⟨#[]⟩, .string ⟨#[]⟩, .int .i64 0, .int .i64 0, .string ⟨#[]⟩, .slice none 0 0, .int .i64 0, .int .i64 0, .int .i64 0, .slice none 0 0]))]
def s18_1 : List CI := [q0 5 (.mv (.tmp 0)), q0 6 (.load true 12 (.tmp 3)), q0 7 (.mksl 34 12 [.tmp 6]), q0 8 (.build [.int .i64 0, .string ⟨#[]⟩, .string ⟨#[]⟩, .string ⟨#[]⟩, .int .i64 0, .int .i64 0, .string ⟨#[]⟩, .slice none 0 0, .int .i64 0, .int .i64 0, .int .i64 0, .slice none 0 0] [(0, 1, ki 6), (1, 1, .tmp 5), (11, 1, .tmp 7)]), .mk none (.store 12 (.tmp 4) (.tmp 8)) none]
def a18 : AC := (.seq (.reg s18_0) (.keep [0, 3, 4] (.seq (.reg s18_1) .ret)))
def c18 : FC := ⟨9, a18.erase, [.cell 4 true 12]⟩
theorem comp18 : compF Tryd.prog Tryd.f18 = some c18 := by kernel_rfl
theorem era18 : c18.code = a18.erase := rfl
def s19_0 : List CI := [q0 0 (.alloc 34 (.agg #[.int .i64 0, .string ⟨#[]⟩, .string ⟨#[]⟩, .string ⟨#[]⟩, .int .i64 0, .int .i64 0, .string ⟨#[]⟩, .slice none 0 0, .int .i64 0, .int .i64 0, .int .i64 0, .slice none 0 0]))]
def s19_1 : List CI := [q0 1 (.build [.int .i64 0, .int .i64 0, .string ⟨#[]⟩] [(0, 1, ki 1), (1, 1, ki 1)]), q0 2 (.build [.int .i64 0, .string ⟨#[]⟩, .string ⟨#[]⟩, .string ⟨#[]⟩, .int .i64 0, .int .i64 0, .string ⟨#[]⟩, .slice none 0 0, .int .i64 0, .int .i64 0, .int .i64 0, .slice none 0 0] [(0, 1, ki 1), (4, 3, .tmp 1)]), .mk none (.store 12 (.tmp 0) (.tmp 2)) none]
def a19 : AC := (.seq (.reg s19_0) (.keep [0] (.seq (.reg s19_1) .ret)))
def c19 : FC := ⟨3, a19.erase, [.cell 0 true 12]⟩
theorem comp19 : compF Tryd.prog Tryd.f19 = some c19 := by kernel_rfl
theorem era19 : c19.code = a19.erase := rfl
def s20_0 : List CI := [q0 2 (.alloc 34 (.agg #[.int .i64 0, .string ⟨#[]⟩, .string ⟨#[]⟩, .string ⟨#[]⟩, .int .i64 0, .int .i64 0, .string ⟨#[]⟩, .slice none 0 0, .int .i64 0, .int .i64 0, .int .i64 0, .slice none 0 0]))]
def s20_1 : List CI := [q0 3 (.mv (.tmp 0)), q0 4 (.build [.int .i64 0, .string ⟨#[]⟩, .string ⟨#[]⟩, .string ⟨#[]⟩, .int .i64 0, .int .i64 0, .string ⟨#[]⟩, .slice none 0 0, .int .i64 0, .int .i64 0, .int .i64 0, .slice none 0 0] [(0, 1, ki 2), (2, 1, .tmp 3)]), .mk none (.store 12 (.tmp 2) (.tmp 4)) none]
def a20 : AC := (.seq (.reg s20_0) (.keep [0, 2] (.seq (.reg s20_1) .ret)))
def c20 : FC := ⟨5, a20.erase, [.cell 2 true 12]⟩
theorem comp20 : compF Tryd.prog Tryd.f20 = some c20 := by kernel_rfl
theorem era20 : c20.code = a20.erase := rfl
def s21_0 : List CI := [q0 1 (.box 27 (.tmp 0)), q0 2 (.mv kF)]
def s21_1 : List CI := [q0 3 (.faddr 2 (.tmp 1)), q0 4 (.load false 1 (.tmp 3)), q0 5 (.faddr 1 (.tmp 1)), q0 6 (.load false 1 (.tmp 5)), q0 7 (.build [.int .i64 0, .string ⟨#[]⟩, .string ⟨#[]⟩, .string ⟨#[]⟩, .int .i64 0, .int .i64 0, .string ⟨#[]⟩, .slice none 0 0, .int .i64 0, .int .i64 0, .int .i64 0, .slice none 0 0] [(2, 1, .tmp 4), (7, 1, .tmp 6)]), q0 8 (.call 22 [.tmp 7, ki 1]), q0 9 (.bin .geq (.tmp 8) (ki 0)), q0 2 (.mv (.tmp 9))]
def a21 : AC := (.seq (.reg s21_0) (.keep [1] (.seq (.reg s21_1) .ret)))
def c21 : FC := ⟨10, a21.erase, [.tmp 2]⟩
theorem comp21 : compF Tryd.prog Tryd.f21 = some c21 := by kernel_rfl
theorem era21 : c21.code = a21.erase := rfl
def s22_0 : List CI := [q0 2 (.box 34 (.tmp 0)), q0 4 (.mv (ki 0))]
def s22_1 : List CI := [q0 7 (.mv (.tmp 1)), q0 8 (.bin .lss (.tmp 7) (ki 1)), q0 9 (.mv (.tmp 8)), q1 10 (.faddr 1 (.tmp 2)) 9 false, q1 11 (.load false 1 (.tmp 10)) 9 false, q1 12 (.len true (.tmp 11)) 9 false, q1 13 (.faddr 2 (.tmp 2)) 9 false, q1 14 (.load false 1 (.tmp 13)) 9 false, q1 15 (.len true (.tmp 14)) 9 false, q1 16 (.bin .add (.tmp 12) (.tmp 15)) 9 false, q1 17 (.faddr 3 (.tmp 2)) 9 false, q1 18 (.load false 1 (.tmp 17)) 9 false, q1 19 (.len true (.tmp 18)) 9 false, q1 20 (.bin .add (.tmp 16) (.tmp 19)) 9 false, q1 21 (.faddr 4 (.tmp 2)) 9 false, q1 22 (.faddr 2 (.tmp 21)) 9 false, q1 23 (.load false 1 (.tmp 22)) 9 false, q1 24 (.len true (.tmp 23)) 9 false, q1 25 (.bin .add (.tmp 20) (.tmp 24)) 9 false, q1 26 (.bin .gtr (.tmp 25) (ki 300)) 9 false, q0 27 (.pick (.tmp 9) kT (.tmp 26)), q0 28 (.mv (.tmp 27)), q1 29 (.faddr 7 (.tmp 2)) 28 false, q1 30 (.load false 1 (.tmp 29)) 28 false, q1 31 (.len false (.tmp 30)) 28 false, q1 32 (.bin .gtr (.tmp 31) (ki 10)) 28 false, q0 33 (.pick (.tmp 28) kT (.tmp 32)), q0 34 (.mv (.tmp 33)), q1 35 (.faddr 11 (.tmp 2)) 34 false, q1 36 (.load false 1 (.tmp 35)) 34 false, q1 37 (.len false (.tmp 36)) 34 false, q1 38 (.bin .gtr (.tmp 37) (ki 10)) 34 false, q0 39 (.pick (.tmp 34) kT (.tmp 38))]
def s22_2 : List CI := [q0 4 (.mv (.const (.int .i64 (-1))))]
def s22_3 : List CI := [q0 5 (.mv (ki 0))]
def s22_4 : List CI := [q0 40 (.mv (.tmp 5)), q0 41 (.faddr 7 (.tmp 2)), q0 42 (.load false 1 (.tmp 41)), q0 43 (.len false (.tmp 42)), q0 44 (.bin .lss (.tmp 40) (.tmp 43))]
def s22_5 : List CI := [q0 47 (.faddr 7 (.tmp 2)), q0 48 (.load false 1 (.tmp 47)), q0 49 (.mv (.tmp 5)), q0 50 (.iaddr 2 (.tmp 48) (.tmp 49)), q0 51 (.faddr 0 (.tmp 50)), q0 52 (.load false 1 (.tmp 51)), q0 53 (.len true (.tmp 52)), q0 54 (.bin .gtr (.tmp 53) (ki 100))]
def s22_6 : List CI := [q0 4 (.mv (.const (.int .i64 (-1))))]
def s22_7 : List CI := [q0 45 (.mv (.tmp 5)), q0 46 (.bin .add (.tmp 45) (ki 1)), q0 5 (.mv (.tmp 46))]
def s22_8 : List CI := [q0 55 (.mv (.tmp 1)), q0 56 (.bin .sub (.tmp 55) (ki 1)), q0 1 (.mv (.tmp 56))]
def s22_9 : List CI := [q0 6 (.mv (ki 0))]
def s22_10 : List CI := [q0 57 (.mv (.tmp 6)), q0 58 (.faddr 11 (.tmp 2)), q0 59 (.load false 1 (.tmp 58)), q0 60 (.len false (.tmp 59)), q0 61 (.bin .lss (.tmp 57) (.tmp 60)), q0 62 (.mv (.tmp 61)), q1 63 (.mv (.tmp 1)) 62 true, q1 64 (.bin .geq (.tmp 63) (ki 0)) 62 true, q0 65 (.pick (.tmp 62) (.tmp 64) kF)]
def s22_11 : List CI := [q0 68 (.faddr 11 (.tmp 2)), q0 69 (.load false 1 (.tmp 68)), q0 70 (.mv (.tmp 6)), q0 71 (.iaddr 12 (.tmp 69) (.tmp 70)), q0 72 (.load true 12 (.tmp 71)), q0 73 (.mv (.tmp 1)), q0 74 (.call 22 [.tmp 72, .tmp 73]), q0 1 (.mv (.tmp 74))]
def s22_12 : List CI := [q0 66 (.mv (.tmp 6)), q0 67 (.bin .add (.tmp 66) (ki 1)), q0 6 (.mv (.tmp 67))]
def s22_13 : List CI := [q0 75 (.mv (.tmp 1)), q0 4 (.mv (.tmp 75))]
def a22 : AC := (.seq (.reg s22_0) (.keep [1, 2] (.seq (.seq (.reg s22_1) (.keep [1, 2, 39] (.cond (.tmp 39) (.seq (.reg s22_2) .ret) .skip))) (.keep [1, 2] (.seq (.seq (.reg s22_3) (.keep [1, 2, 5] (.block 0 (.loop (.keep [1, 2, 5] (.seq (.seq (.reg s22_4) (.keep [1, 2, 5, 44] (.cond (.tmp 44) .skip (.exit 0)))) (.keep [1, 2, 5] (.seq (.block 1 (.seq (.reg s22_5) (.keep [1, 2, 5, 54] (.cond (.tmp 54) (.seq (.reg s22_6) .ret) .skip)))) (.keep [1, 2, 5] (.reg s22_7)))))))))) (.keep [1, 2] (.seq (.reg s22_8) (.keep [1, 2] (.seq (.seq (.reg s22_9) (.keep [1, 2, 6] (.block 2 (.loop (.keep [1, 2, 6] (.seq (.seq (.reg s22_10) (.keep [1, 2, 6, 65] (.cond (.tmp 65) .skip (.exit 2)))) (.keep [1, 2, 6] (.seq (.block 3 (.reg s22_11)) (.keep [1, 2, 6] (.reg s22_12)))))))))) (.keep [1] (.seq (.reg s22_13) .ret)))))))))))
def c22 : FC := ⟨76, a22.erase, [.tmp 4]⟩
theorem comp22 : compF Tryd.prog Tryd.f22 = some c22 := by kernel_rfl
theorem era22 : c22.code = a22.erase := rfl
def s23_0 : List CI := [q0 2 (.mv (ks ⟨#[]⟩))]
def s23_1 : List CI := [q0 3 (.mv (.tmp 0)), q0 4 (.call 25 [.tmp 3, ks ⟨#[]⟩]), q0 2 (.mv (.tmp 4))]
def a23 : AC := (.seq (.reg s23_0) (.keep [0] (.seq (.reg s23_1) .ret)))
def c23 : FC := ⟨5, a23.erase, [.tmp 2]⟩
theorem comp23 : compF Tryd.prog Tryd.f23 = some c23 := by kernel_rfl
theorem era23 : c23.code = a23.erase := rfl
def s24_0 : List CI := [q0 1 (.box 27 (.tmp 0)), q0 2 (.mv (ks ⟨#[]⟩))]
def s24_1 : List CI := [q0 3 (.faddr 0 (.tmp 1)), q0 4 (.load false 1 (.tmp 3))]
def s24_2 : List CI := [q0 6 (.bin .eql (.tmp 4) (ki 1)), q0 5 (.mv (.tmp 6))]
def s24_3 : List CI := [q0 2 (.mv (ks ⟨#[98, 111, 111, 108]⟩))]
def s24_4 : List CI := [q0 8 (.bin .eql (.tmp 4) (ki 4)), q0 7 (.mv (.tmp 8))]
def s24_5 : List CI := [q0 2 (.mv (ks ⟨#[116, 101, 120, 116]⟩))]
def s24_6 : List CI := [q0 10 (.bin .eql (.tmp 4) (ki 5)), q0 9 (.mv (.tmp 10))]
def s24_7 : List CI := [q0 11 (.faddr 2 (.tmp 1)), q0 12 (.load false 1 (.tmp 11)), q0 13 (.mksl 9 1 [ks ⟨#[107, 101, 121, 32]⟩, .tmp 12]), q0 14 (.call 23 [.tmp 13]), q0 2 (.mv (.tmp 14))]
def s24_8 : List CI := [q0 16 (.bin .eql (.tmp 4) (ki 2)), q0 15 (.mv (.tmp 16))]
def s24_9 : List CI := [q0 17 (.faddr 1 (.tmp 1)), q0 18 (.load false 1 (.tmp 17)), q0 19 (.call 38 [.tmp 18]), q0 20 (.mksl 9 1 [ks ⟨#[105, 110, 116]⟩, .tmp 19]), q0 21 (.call 23 [.tmp 20]), q0 2 (.mv (.tmp 21))]
def s24_10 : List CI := [q0 22 (.faddr 1 (.tmp 1)), q0 23 (.load false 1 (.tmp 22)), q0 24 (.call 38 [.tmp 23]), q0 25 (.mksl 9 1 [ks ⟨#[100, 101, 99]⟩, .tmp 24]), q0 26 (.call 23 [.tmp 25]), q0 2 (.mv (.tmp 26))]
def a24 : AC := (.seq (.reg s24_0) (.keep [1] (.seq (.seq (.reg s24_1) (.keep [1, 4] (.block 0 (.seq (.reg s24_2) (.keep [1, 4, 5] (.cond (.tmp 5) (.seq (.reg s24_3) .ret) (.seq (.reg s24_4) (.keep [1, 4, 7] (.cond (.tmp 7) (.seq (.reg s24_5) .ret) (.seq (.reg s24_6) (.keep [1, 4, 9] (.cond (.tmp 9) (.seq (.reg s24_7) .ret) (.seq (.reg s24_8) (.keep [1, 15] (.cond (.tmp 15) (.seq (.reg s24_9) .ret) .skip))))))))))))))) (.keep [1] (.seq (.reg s24_10) .ret)))))
def c24 : FC := ⟨27, a24.erase, [.tmp 2]⟩
theorem comp24 : compF Tryd.prog Tryd.f24 = some c24 := by kernel_rfl
theorem era24 : c24.code = a24.erase := rfl
def s27_0 : List CI := [q0 1 (.box 68 (.tmp 0)), q0 2 (.mv (ks ⟨#[]⟩))]
def s27_1 : List CI := [q0 4 (.exts (.makeMap 88 none) 88 [] []), .mk none (.exts (.insert 88 (.tmp 4) (ki 1) (.func 43)) 0 [.mp 3 87, .int .i64] [.tmp 4, ki 1, .func 43]) none, .mk none (.exts (.insert 88 (.tmp 4) (ki 2) (.func 44)) 0 [.mp 3 87, .int .i64] [.tmp 4, ki 2, .func 44]) none, .mk none (.exts (.insert 88 (.tmp 4) (ki 3) (.func 44)) 0 [.mp 3 87, .int .i64] [.tmp 4, ki 3, .func 44]) none, .mk none (.exts (.insert 88 (.tmp 4) (ki 4) (.func 45)) 0 [.mp 3 87, .int .i64] [.tmp 4, ki 4, .func 45]) none, .mk none (.exts (.insert 88 (.tmp 4) (ki 5) (.func 46)) 0 [.mp 3 87, .int .i64] [.tmp 4, ki 5, .func 46]) none, .mk none (.exts (.insert 88 (.tmp 4) (ki 6) (.func 47)) 0 [.mp 3 87, .int .i64] [.tmp 4, ki 6, .func 47]) none, .mk none (.exts (.insert 88 (.tmp 4) (ki 7) (.func 48)) 0 [.mp 3 87, .int .i64] [.tmp 4, ki 7, .func 48]) none, .mk none (.exts (.insert 88 (.tmp 4) (ki 8) (.func 49)) 0 [.mp 3 87, .int .i64] [.tmp 4, ki 8, .func 49]) none, .mk none (.exts (.insert 88 (.tmp 4) (ki 9) (.func 50)) 0 [.mp 3 87, .int .i64] [.tmp 4, ki 9, .func 50]) none, q0 5 (.mv (.tmp 4)), q0 3 (.mv (.tmp 5))]
def s27_2 : List CI := [q0 6 (.mv (.tmp 3)), q0 7 (.faddr 0 (.tmp 1)), q0 8 (.faddr 0 (.tmp 7)), q0 9 (.load false 1 (.tmp 8)), q0 10 (.extq (.lookup 88 (.tmp 6) (.tmp 9) false) 87 [.mp 3 87, .int .i64] [.tmp 6, .tmp 9]), q0 11 (.load true 12 (.tmp 1)), q0 12 (.callv (.tmp 10) [.tmp 11]), q0 2 (.mv (.tmp 12))]
def a27 : AC := (.seq (.reg s27_0) (.keep [1] (.seq (.reg s27_1) (.keep [1, 3] (.seq (.reg s27_2) .ret)))))
def c27 : FC := ⟨13, a27.erase, [.tmp 2]⟩
theorem comp27 : compF Tryd.prog Tryd.f27 = some c27 := by kernel_rfl
theorem era27 : c27.code = a27.erase := rfl
def s28_0 : List CI := [q0 4 (.mv kF)]
def s28_1 : List CI := [q0 5 (.mv (.tmp 0)), q0 6 (.mv (.tmp 1)), q0 7 (.call 51 [.tmp 5, .tmp 6]), q0 8 (.bin .geq (.tmp 7) (ki 0)), q0 4 (.mv (.tmp 8))]
def a28 : AC := (.seq (.reg s28_0) (.keep [0, 1] (.seq (.reg s28_1) .ret)))
def c28 : FC := ⟨9, a28.erase, [.tmp 4]⟩
theorem comp28 : compF Tryd.prog Tryd.f28 = some c28 := by kernel_rfl
theorem era28 : c28.code = a28.erase := rfl
def s29_0 : List CI := [q0 2 (.box 59 (.tmp 0)), q0 3 (.mv kF)]
def s29_1 : List CI := [q0 4 (.faddr 0 (.tmp 2)), q0 5 (.load false 1 (.tmp 4)), q0 6 (.faddr 0 (.tmp 1)), q0 7 (.load false 1 (.tmp 6)), q0 8 (.bin .eql (.tmp 5) (.tmp 7)), q0 3 (.mv (.tmp 8))]
def a29 : AC := (.seq (.reg s29_0) (.keep [1, 2] (.seq (.reg s29_1) .ret)))
def c29 : FC := ⟨9, a29.erase, [.tmp 3]⟩
theorem comp29 : compF Tryd.prog Tryd.f29 = some c29 := by kernel_rfl
theorem era29 : c29.code = a29.erase := rfl
def s30_0 : List CI := [q0 1 (.box 27 (.tmp 0)), q0 2 (.mv kF)]
def s30_1 : List CI := [q0 3 (.faddr 0 (.tmp 1)), q0 4 (.load false 1 (.tmp 3)), q0 5 (.bin .eql (.tmp 4) (ki 2)), q0 6 (.mv (.tmp 5)), q1 7 (.faddr 0 (.tmp 1)) 6 false, q1 8 (.load false 1 (.tmp 7)) 6 false, q1 9 (.bin .eql (.tmp 8) (ki 3)) 6 false, q0 10 (.pick (.tmp 6) kT (.tmp 9)), q0 2 (.mv (.tmp 10))]
def a30 : AC := (.seq (.reg s30_0) (.keep [1] (.seq (.reg s30_1) .ret)))
def c30 : FC := ⟨11, a30.erase, [.tmp 2]⟩
theorem comp30 : compF Tryd.prog Tryd.f30 = some c30 := by kernel_rfl
theorem era30 : c30.code = a30.erase := rfl
def s31_0 : List CI := [q0 2 (.mv (ki 0))]
def s31_1 : List CI := [q0 5 (.mv (.tmp 0)), q0 6 (.len false (.tmp 5)), q0 7 (.bin .gtr (.tmp 6) (ki 4))]
def s31_2 : List CI := [q0 2 (.mv (ki 2))]
def s31_3 : List CI := [q0 8 (.mv (.tmp 0)), q0 9 (.len false (.tmp 8)), q0 10 (.mv (ki 0))]
def s31_4 : List CI := [q0 11 (.bin .lss (.tmp 10) (.tmp 9))]
def s31_5 : List CI := [q0 12 (.mv (.tmp 10)), q0 13 (.iaddr 2 (.tmp 8) (.tmp 10)), q0 14 (.load true 2 (.tmp 13)), q0 4 (.alloc 53 (.agg #[.string ⟨#[]⟩, .int .i64 0])), q0 3 (.mv (.tmp 12)), .mk none (.store 2 (.tmp 4) (.tmp 14)) none]
def s31_6 : List CI := [q0 16 (.faddr 0 (.tmp 4)), q0 17 (.load false 1 (.tmp 16)), q0 18 (.call 52 [.tmp 17]), q0 19 (.un .not (.tmp 18)), q0 15 (.mv (.tmp 19))]
def s31_7 : List CI := [q0 2 (.mv (ki 1))]
def s31_8 : List CI := [q0 21 (.faddr 1 (.tmp 4)), q0 22 (.load false 1 (.tmp 21)), q0 23 (.bin .eql (.tmp 22) (ki 0)), q0 24 (.mv (.tmp 23)), q1 25 (.faddr 1 (.tmp 4)) 24 false, q1 26 (.load false 1 (.tmp 25)) 24 false, q1 27 (.call 53 [.tmp 26, ki 8]) 24 false, q0 28 (.pick (.tmp 24) kT (.tmp 27)), q0 20 (.mv (.tmp 28))]
def s31_9 : List CI := [q0 2 (.mv (ki 70))]
def s31_10 : List CI := [q0 30 (.mv (.tmp 3)), q0 31 (.bin .gtr (.tmp 30) (ki 0)), q0 32 (.mv (.tmp 31)), q1 33 (.faddr 0 (.tmp 4)) 32 true, q1 34 (.load false 1 (.tmp 33)) 32 true, q1 35 (.mv (.tmp 0)) 32 true, q1 36 (.mv (.tmp 3)) 32 true, q1 37 (.bin .sub (.tmp 36) (ki 1)) 32 true, q1 38 (.iaddr 2 (.tmp 35) (.tmp 37)) 32 true, q1 39 (.faddr 0 (.tmp 38)) 32 true, q1 40 (.load false 1 (.tmp 39)) 32 true, q1 41 (.bin .leq (.tmp 34) (.tmp 40)) 32 true, q0 42 (.pick (.tmp 32) (.tmp 41) kF), q0 29 (.mv (.tmp 42))]
def s31_11 : List CI := [q0 2 (.mv (ki 3))]
def s31_12 : List CI := [q0 43 (.bin .add (.tmp 10) (ki 1)), q0 10 (.mv (.tmp 43))]
def s31_13 : List CI := [q0 2 (.mv (ki 0))]
def a31 : AC := (.seq (.reg s31_0) (.keep [0] (.seq (.seq (.reg s31_1) (.keep [0, 7] (.cond (.tmp 7) (.seq (.reg s31_2) .ret) .skip))) (.keep [0] (.seq (.seq (.reg s31_3) (.keep [0, 8, 9, 10] (.block 0 (.loop (.keep [0, 8, 9, 10] (.seq (.reg s31_4) (.keep [0, 8, 9, 10, 11] (.seq (.cond (.tmp 11) .skip (.exit 0)) (.keep [0, 8, 9, 10] (.seq (.block 1 (.seq (.reg s31_5) (.keep [0, 3, 4, 8, 9, 10] (.block 2 (.seq (.reg s31_6) (.keep [0, 3, 4, 8, 9, 10, 15] (.cond (.tmp 15) (.seq (.reg s31_7) .ret) (.seq (.reg s31_8) (.keep [0, 3, 4, 8, 9, 10, 20] (.cond (.tmp 20) (.seq (.reg s31_9) .ret) (.seq (.dreg s31_10) (.keep [0, 8, 9, 10, 29] (.cond (.tmp 29) (.seq (.reg s31_11) .ret) .skip))))))))))))) (.keep [0, 8, 9, 10] (.reg s31_12)))))))))))) (.keep [] (.seq (.reg s31_13) .ret)))))))
def c31 : FC := ⟨44, a31.erase, [.tmp 2]⟩
theorem comp31 : compF Tryd.prog Tryd.f31 = some c31 := by kernel_rfl
theorem era31 : c31.code = a31.erase := rfl
def s32_0 : List CI := [q0 4 (.mv kF)]
def s32_1 : List CI := [q0 5 (.mv (.tmp 0)), q0 6 (.mv (.tmp 1)), q0 7 (.call 54 [.tmp 5, .tmp 6]), q0 8 (.bin .geq (.tmp 7) (ki 0)), q0 4 (.mv (.tmp 8))]
def a32 : AC := (.seq (.reg s32_0) (.keep [0, 1] (.seq (.reg s32_1) .ret)))
def c32 : FC := ⟨9, a32.erase, [.tmp 4]⟩
theorem comp32 : compF Tryd.prog Tryd.f32 = some c32 := by kernel_rfl
theorem era32 : c32.code = a32.erase := rfl
def s33_0 : List CI := [q0 1 (.box 53 (.tmp 0)), q0 2 (.mv kF)]
def s33_1 : List CI := [q0 3 (.faddr 0 (.tmp 1)), q0 4 (.load false 1 (.tmp 3)), q0 5 (.call 14 [.tmp 4]), q0 6 (.un .not (.tmp 5)), q0 2 (.mv (.tmp 6))]
def a33 : AC := (.seq (.reg s33_0) (.keep [1] (.seq (.reg s33_1) .ret)))
def c33 : FC := ⟨7, a33.erase, [.tmp 2]⟩
theorem comp33 : compF Tryd.prog Tryd.f33 = some c33 := by kernel_rfl
theorem era33 : c33.code = a33.erase := rfl
def s34_0 : List CI := [q0 1 (.box 34 (.tmp 0)), q0 2 (.mv (ki 0))]
def s34_1 : List CI := [q0 2 (.mv (ki 1))]
def s34_2 : List CI := [q0 5 (.faddr 11 (.tmp 1)), q0 6 (.load false 1 (.tmp 5)), q0 7 (.len false (.tmp 6)), q0 8 (.mv (ki 0))]
def s34_3 : List CI := [q0 9 (.bin .lss (.tmp 8) (.tmp 7))]
def s34_4 : List CI := [q0 10 (.iaddr 12 (.tmp 6) (.tmp 8)), q0 11 (.load true 12 (.tmp 10)), q0 4 (.alloc 34 (.agg #[.int .i64 0, .string ⟨#[]⟩, .string ⟨#[]⟩, .string ⟨#[]⟩, .int .i64 0, .int .i64 0, .string ⟨#[]⟩, .slice none 0 0, .int .i64 0, .int .i64 0, .int .i64 0, .slice none 0 0])), .mk none (.store 12 (.tmp 4) (.tmp 11)) none]
def s34_5 : List CI := [q0 12 (.mv (.tmp 2)), q0 13 (.load true 12 (.tmp 4)), q0 14 (.call 34 [.tmp 13]), q0 15 (.bin .add (.tmp 12) (.tmp 14)), q0 2 (.mv (.tmp 15))]
def s34_6 : List CI := [q0 16 (.bin .add (.tmp 8) (ki 1)), q0 8 (.mv (.tmp 16))]
def s34_7 : List CI := [q0 17 (.mv (.tmp 2)), q0 2 (.mv (.tmp 17))]
def a34 : AC := (.seq (.reg s34_0) (.keep [1] (.seq (.reg s34_1) (.keep [1, 2] (.seq (.seq (.reg s34_2) (.keep [2, 6, 7, 8] (.block 0 (.loop (.keep [2, 6, 7, 8] (.seq (.reg s34_3) (.keep [2, 6, 7, 8, 9] (.seq (.cond (.tmp 9) .skip (.exit 0)) (.keep [2, 6, 7, 8] (.seq (.block 1 (.seq (.reg s34_4) (.keep [2, 4, 6, 7, 8] (.reg s34_5)))) (.keep [2, 6, 7, 8] (.reg s34_6)))))))))))) (.keep [2] (.seq (.reg s34_7) .ret)))))))
def c34 : FC := ⟨18, a34.erase, [.tmp 2]⟩
theorem comp34 : compF Tryd.prog Tryd.f34 = some c34 := by kernel_rfl
theorem era34 : c34.code = a34.erase := rfl
def s35_0 : List CI := [q0 1 (.box 34 (.tmp 0)), q0 2 (.mv (ki 0))]
def s35_1 : List CI := [q0 5 (.faddr 11 (.tmp 1)), q0 6 (.load false 1 (.tmp 5)), q0 7 (.len false (.tmp 6)), q0 8 (.mv (ki 0))]
def s35_2 : List CI := [q0 9 (.bin .lss (.tmp 8) (.tmp 7))]
def s35_3 : List CI := [q0 10 (.iaddr 12 (.tmp 6) (.tmp 8)), q0 11 (.load true 12 (.tmp 10)), q0 4 (.alloc 34 (.agg #[.int .i64 0, .string ⟨#[]⟩, .string ⟨#[]⟩, .string ⟨#[]⟩, .int .i64 0, .int .i64 0, .string ⟨#[]⟩, .slice none 0 0, .int .i64 0, .int .i64 0, .int .i64 0, .slice none 0 0])), .mk none (.store 12 (.tmp 4) (.tmp 11)) none]
def s35_4 : List CI := [q0 12 (.mv (.tmp 2)), q0 13 (.load true 12 (.tmp 4)), q0 14 (.call 35 [.tmp 13]), q0 15 (.max2 (.tmp 12) (.tmp 14)), q0 2 (.mv (.tmp 15))]
def s35_5 : List CI := [q0 16 (.bin .add (.tmp 8) (ki 1)), q0 8 (.mv (.tmp 16))]
def s35_6 : List CI := [q0 17 (.mv (.tmp 2)), q0 18 (.bin .add (.tmp 17) (ki 1)), q0 2 (.mv (.tmp 18))]
def a35 : AC := (.seq (.reg s35_0) (.keep [1, 2] (.seq (.seq (.reg s35_1) (.keep [2, 6, 7, 8] (.block 0 (.loop (.keep [2, 6, 7, 8] (.seq (.reg s35_2) (.keep [2, 6, 7, 8, 9] (.seq (.cond (.tmp 9) .skip (.exit 0)) (.keep [2, 6, 7, 8] (.seq (.block 1 (.seq (.reg s35_3) (.keep [2, 4, 6, 7, 8] (.reg s35_4)))) (.keep [2, 6, 7, 8] (.reg s35_5)))))))))))) (.keep [2] (.seq (.reg s35_6) .ret)))))
def c35 : FC := ⟨19, a35.erase, [.tmp 2]⟩
theorem comp35 : compF Tryd.prog Tryd.f35 = some c35 := by kernel_rfl
theorem era35 : c35.code = a35.erase := rfl
end Go.Proofs.YtklncofkcfjkeaaDoor
