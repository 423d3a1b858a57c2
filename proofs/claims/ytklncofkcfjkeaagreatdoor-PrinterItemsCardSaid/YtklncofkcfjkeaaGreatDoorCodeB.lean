
/- The compiled code of functions, printed by a program of mine. -/
import Derived.Test.YtklncofkcfjkeaaGreatDoorGi
import Derived.Test.YtklncofkcfjkeaaGreatDoorRows
set_option linter.unusedVariables false
namespace Go.Proofs.YtklncofkcfjkeaaGreatDoor
open Go.Sx
def s3_0 : List CI := [q0 2 (.box 29 (.tmp 0)), q0 3 (.box 29 (.tmp 1)), q0 4 (.mv kF)]
def s3_1 : List CI := [q0 9 (.call 6 []), q0 10 (.un .not (.tmp 9))]
def s3_2 : List CI := [q0 4 (.mv kF)]
def s3_3 : List CI := [q0 11 (.load true 12 (.tmp 2)), q0 12 (.call 7 [.tmp 11, ki 100]), q0 13 (.bin .lss (.tmp 12) (ki 0)), q0 14 (.mv (.tmp 13)), q1 15 (.load true 12 (.tmp 3)) 14 false, q1 16 (.call 7 [.tmp 15, ki 100]) 14 false, q1 17 (.bin .lss (.tmp 16) (ki 0)) 14 false, q0 18 (.pick (.tmp 14) kT (.tmp 17)), q0 19 (.mv (.tmp 18)), q1 20 (.load true 12 (.tmp 2)) 19 false, q1 21 (.call 8 [.tmp 20]) 19 false, q1 22 (.bin .neq (.tmp 21) (ki 0)) 19 false, q0 23 (.pick (.tmp 19) kT (.tmp 22)), q0 24 (.mv (.tmp 23)), q1 25 (.load true 12 (.tmp 3)) 24 false, q1 26 (.call 8 [.tmp 25]) 24 false, q1 27 (.bin .neq (.tmp 26) (ki 0)) 24 false, q0 28 (.pick (.tmp 24) kT (.tmp 27))]
def s3_4 : List CI := [q0 4 (.mv kT)]
def s3_5 : List CI := [q0 30 (.load true 12 (.tmp 2)), q0 31 (.call 9 [.tmp 30]), q0 29 (.mv (.tmp 31)), q0 32 (.extract (.tmp 29) 0), q0 33 (.extract (.tmp 29) 1), q0 5 (.mv (.tmp 32)), q0 6 (.mv (.tmp 33))]
def s3_6 : List CI := [q0 35 (.load true 12 (.tmp 3)), q0 36 (.call 9 [.tmp 35]), q0 34 (.mv (.tmp 36)), q0 37 (.extract (.tmp 34) 0), q0 38 (.extract (.tmp 34) 1), q0 7 (.mv (.tmp 37)), q0 8 (.mv (.tmp 38))]
def s3_7 : List CI := [q0 39 (.mv (.tmp 6)), q0 40 (.bin .eql (.tmp 39) (ki 0)), q0 41 (.mv (.tmp 40)), q1 42 (.mv (.tmp 8)) 41 true, q1 43 (.bin .eql (.tmp 42) (ki 0)) 41 true, q0 44 (.pick (.tmp 41) (.tmp 43) kF), q0 45 (.mv (.tmp 44)), q1 46 (.mv (.tmp 5)) 45 true, q1 47 (.mv (.tmp 7)) 45 true, q1 48 (.bin .eql (.tmp 46) (.tmp 47)) 45 true, q1 49 (.load true 12 (.tmp 2)) 45 true, q1 50 (.load true 12 (.tmp 3)) 45 true, q1 51 (.call 10 [.tmp 49, .tmp 50]) 45 true, q1 52 (.eqb false .bool (.tmp 48) (.tmp 51)) 45 true, q0 53 (.pick (.tmp 45) (.tmp 52) kF), q0 4 (.mv (.tmp 53))]
def a3 : AC := (.seq (.reg s3_0) (.keep [2, 3] (.seq (.seq (.reg s3_1) (.keep [2, 3, 10] (.cond (.tmp 10) (.seq (.reg s3_2) .ret) .skip))) (.keep [2, 3] (.seq (.seq (.reg s3_3) (.keep [2, 3, 28] (.cond (.tmp 28) (.seq (.reg s3_4) .ret) .skip))) (.keep [2, 3] (.seq (.reg s3_5) (.keep [2, 3, 5, 6] (.seq (.reg s3_6) (.keep [2, 3, 5, 6, 7, 8] (.seq (.reg s3_7) .ret)))))))))))
def c3 : FC := ⟨54, a3.erase, [.tmp 4]⟩
theorem comp3 : compF Tryz.prog Tryz.f3 = some c3 := by kernel_rfl
theorem era3 : c3.code = a3.erase := rfl
def s4_0 : List CI := [q0 2 (.box 29 (.tmp 0)), q0 3 (.box 38 (.tmp 1)), q0 4 (.mv kF)]
def s4_1 : List CI := [q0 13 (.call 6 []), q0 14 (.un .not (.tmp 13))]
def s4_2 : List CI := [q0 4 (.mv kF)]
def s4_3 : List CI := [q0 15 (.load true 12 (.tmp 2)), q0 16 (.call 7 [.tmp 15, ki 100]), q0 17 (.bin .lss (.tmp 16) (ki 0)), q0 18 (.mv (.tmp 17)), q1 19 (.load true 3 (.tmp 3)) 18 false, q1 20 (.call 11 [.tmp 19]) 18 false, q1 21 (.un .not (.tmp 20)) 18 false, q0 22 (.pick (.tmp 18) kT (.tmp 21))]
def s4_4 : List CI := [q0 4 (.mv kT)]
def s4_5 : List CI := [q0 24 (.load true 12 (.tmp 2)), q0 25 (.call 9 [.tmp 24]), q0 23 (.mv (.tmp 25)), q0 26 (.extract (.tmp 23) 0), q0 27 (.extract (.tmp 23) 1), q0 5 (.mv (.tmp 26)), q0 6 (.mv (.tmp 27))]
def s4_6 : List CI := [q0 29 (.load true 12 (.tmp 2)), q0 30 (.call 12 [.tmp 29]), q0 28 (.mv (.tmp 30)), q0 31 (.extract (.tmp 28) 0), q0 32 (.extract (.tmp 28) 1), q0 7 (.mv (.tmp 31)), q0 8 (.mv (.tmp 32))]
def s4_7 : List CI := [q0 34 (.load true 3 (.tmp 3)), q0 35 (.call 13 [.tmp 34]), q0 33 (.mv (.tmp 35)), q0 36 (.extract (.tmp 33) 0), q0 37 (.extract (.tmp 33) 1), q0 9 (.mv (.tmp 36)), q0 10 (.mv (.tmp 37))]
def s4_8 : List CI := [q0 39 (.load true 3 (.tmp 3)), q0 40 (.call 14 [.tmp 39]), q0 38 (.mv (.tmp 40)), q0 41 (.extract (.tmp 38) 0), q0 42 (.extract (.tmp 38) 1), q0 11 (.mv (.tmp 41)), q0 12 (.mv (.tmp 42))]
def s4_9 : List CI := [q0 43 (.mv (.tmp 5)), q0 44 (.mv (.tmp 7)), q0 45 (.bin .eql (.tmp 43) (.tmp 44)), q0 46 (.mv (.tmp 45)), q1 47 (.mv (.tmp 6)) 46 true, q1 48 (.mv (.tmp 8)) 46 true, q1 49 (.bin .eql (.tmp 47) (.tmp 48)) 46 true, q0 50 (.pick (.tmp 46) (.tmp 49) kF), q0 51 (.mv (.tmp 50)), q1 52 (.mv (.tmp 9)) 51 true, q1 53 (.mv (.tmp 11)) 51 true, q1 54 (.bin .eql (.tmp 52) (.tmp 53)) 51 true, q0 55 (.pick (.tmp 51) (.tmp 54) kF), q0 56 (.mv (.tmp 55)), q1 57 (.mv (.tmp 10)) 56 true, q1 58 (.mv (.tmp 12)) 56 true, q1 59 (.bin .eql (.tmp 57) (.tmp 58)) 56 true, q0 60 (.pick (.tmp 56) (.tmp 59) kF), q0 4 (.mv (.tmp 60))]
def a4 : AC := (.seq (.reg s4_0) (.keep [2, 3] (.seq (.seq (.reg s4_1) (.keep [2, 3, 14] (.cond (.tmp 14) (.seq (.reg s4_2) .ret) .skip))) (.keep [2, 3] (.seq (.seq (.reg s4_3) (.keep [2, 3, 22] (.cond (.tmp 22) (.seq (.reg s4_4) .ret) .skip))) (.keep [2, 3] (.seq (.reg s4_5) (.keep [2, 3, 5, 6] (.seq (.reg s4_6) (.keep [3, 5, 6, 7, 8] (.seq (.reg s4_7) (.keep [3, 5, 6, 7, 8, 9, 10] (.seq (.reg s4_8) (.keep [5, 6, 7, 8, 9, 10, 11, 12] (.seq (.reg s4_9) .ret)))))))))))))))
def c4 : FC := ⟨61, a4.erase, [.tmp 4]⟩
theorem comp4 : compF Tryz.prog Tryz.f4 = some c4 := by kernel_rfl
theorem era4 : c4.code = a4.erase := rfl
def s5_0 : List CI := [q0 1 (.box 45 (.tmp 0)), q0 2 (.mv kF)]
def s5_1 : List CI := [q0 17 (.call 6 []), q0 18 (.un .not (.tmp 17))]
def s5_2 : List CI := [q0 2 (.mv kF)]
def s5_3 : List CI := [q0 19 (.load true 2 (.tmp 1)), q0 20 (.call 15 [.tmp 19]), q0 21 (.un .not (.tmp 20))]
def s5_4 : List CI := [q0 2 (.mv kT)]
def s5_5 : List CI := [q0 3 (.mv (ki 0))]
def s5_6 : List CI := [q0 22 (.mv (.tmp 3)), q0 23 (.faddr 0 (.tmp 1)), q0 24 (.load false 1 (.tmp 23)), q0 25 (.len false (.tmp 24)), q0 26 (.bin .lss (.tmp 22) (.tmp 25))]
def s5_7 : List CI := [q0 30 (.faddr 0 (.tmp 1)), q0 31 (.load false 1 (.tmp 30)), q0 32 (.mv (.tmp 3)), q0 33 (.iaddr 4 (.tmp 31) (.tmp 32)), q0 34 (.load true 4 (.tmp 33)), q0 35 (.call 16 [.tmp 34]), q0 29 (.mv (.tmp 35)), q0 36 (.extract (.tmp 29) 0), q0 37 (.extract (.tmp 29) 1), q0 4 (.mv (.tmp 36)), q0 5 (.mv (.tmp 37))]
def s5_8 : List CI := [q0 39 (.faddr 0 (.tmp 1)), q0 40 (.load false 1 (.tmp 39)), q0 41 (.mv (.tmp 3)), q0 42 (.iaddr 4 (.tmp 40) (.tmp 41)), q0 43 (.load true 4 (.tmp 42)), q0 44 (.call 17 [.tmp 43]), q0 38 (.mv (.tmp 44)), q0 45 (.extract (.tmp 38) 0), q0 46 (.extract (.tmp 38) 1), q0 6 (.mv (.tmp 45)), q0 7 (.mv (.tmp 46))]
def s5_9 : List CI := [q0 47 (.mv (.tmp 4)), q0 48 (.mv (.tmp 6)), q0 49 (.bin .neq (.tmp 47) (.tmp 48)), q0 50 (.mv (.tmp 49)), q1 51 (.mv (.tmp 5)) 50 false, q1 52 (.mv (.tmp 7)) 50 false, q1 53 (.bin .neq (.tmp 51) (.tmp 52)) 50 false, q0 54 (.pick (.tmp 50) kT (.tmp 53))]
def s5_10 : List CI := [q0 2 (.mv kF)]
def s5_11 : List CI := [q0 27 (.mv (.tmp 3)), q0 28 (.bin .add (.tmp 27) (ki 1)), q0 3 (.mv (.tmp 28))]
def s5_12 : List CI := [q0 8 (.mv (ki 0))]
def s5_13 : List CI := [q0 55 (.mv (.tmp 8)), q0 56 (.faddr 1 (.tmp 1)), q0 57 (.load false 1 (.tmp 56)), q0 58 (.len false (.tmp 57)), q0 59 (.bin .lss (.tmp 55) (.tmp 58))]
def s5_14 : List CI := [q0 63 (.faddr 1 (.tmp 1)), q0 64 (.load false 1 (.tmp 63)), q0 65 (.mv (.tmp 8)), q0 66 (.iaddr 18 (.tmp 64) (.tmp 65)), q0 67 (.load true 18 (.tmp 66)), q0 68 (.call 18 [.tmp 67]), q0 62 (.mv (.tmp 68)), q0 69 (.extract (.tmp 62) 0), q0 70 (.extract (.tmp 62) 1), q0 9 (.mv (.tmp 69)), q0 10 (.mv (.tmp 70))]
def s5_15 : List CI := [q0 72 (.faddr 1 (.tmp 1)), q0 73 (.load false 1 (.tmp 72)), q0 74 (.mv (.tmp 8)), q0 75 (.iaddr 18 (.tmp 73) (.tmp 74)), q0 76 (.load true 18 (.tmp 75)), q0 77 (.call 19 [.tmp 76]), q0 71 (.mv (.tmp 77)), q0 78 (.extract (.tmp 71) 0), q0 79 (.extract (.tmp 71) 1), q0 11 (.mv (.tmp 78)), q0 12 (.mv (.tmp 79))]
def s5_16 : List CI := [q0 80 (.mv (.tmp 9)), q0 81 (.mv (.tmp 11)), q0 82 (.bin .neq (.tmp 80) (.tmp 81)), q0 83 (.mv (.tmp 82)), q1 84 (.mv (.tmp 10)) 83 false, q1 85 (.mv (.tmp 12)) 83 false, q1 86 (.bin .neq (.tmp 84) (.tmp 85)) 83 false, q0 87 (.pick (.tmp 83) kT (.tmp 86))]
def s5_17 : List CI := [q0 2 (.mv kF)]
def s5_18 : List CI := [q0 60 (.mv (.tmp 8)), q0 61 (.bin .add (.tmp 60) (ki 1)), q0 8 (.mv (.tmp 61))]
def s5_19 : List CI := [q0 89 (.load true 2 (.tmp 1)), q0 90 (.call 20 [.tmp 89]), q0 88 (.mv (.tmp 90)), q0 91 (.extract (.tmp 88) 0), q0 92 (.extract (.tmp 88) 1), q0 13 (.mv (.tmp 91)), q0 14 (.mv (.tmp 92))]
def s5_20 : List CI := [q0 94 (.load true 2 (.tmp 1)), q0 95 (.call 21 [.tmp 94]), q0 93 (.mv (.tmp 95)), q0 96 (.extract (.tmp 93) 0), q0 97 (.extract (.tmp 93) 1), q0 15 (.mv (.tmp 96)), q0 16 (.mv (.tmp 97))]
def s5_21 : List CI := [q0 98 (.mv (.tmp 13)), q0 99 (.mv (.tmp 15)), q0 100 (.bin .eql (.tmp 98) (.tmp 99)), q0 101 (.mv (.tmp 100)), q1 102 (.mv (.tmp 14)) 101 true, q1 103 (.mv (.tmp 16)) 101 true, q1 104 (.bin .eql (.tmp 102) (.tmp 103)) 101 true, q0 105 (.pick (.tmp 101) (.tmp 104) kF), q0 2 (.mv (.tmp 105))]
def a5 : AC := (.seq (.reg s5_0) (.keep [1] (.seq (.seq (.reg s5_1) (.keep [1, 18] (.cond (.tmp 18) (.seq (.reg s5_2) .ret) .skip))) (.keep [1] (.seq (.seq (.reg s5_3) (.keep [1, 21] (.cond (.tmp 21) (.seq (.reg s5_4) .ret) .skip))) (.keep [1] (.seq (.seq (.reg s5_5) (.keep [1, 3] (.block 0 (.loop (.keep [1, 3] (.seq (.seq (.reg s5_6) (.keep [1, 3, 26] (.cond (.tmp 26) .skip (.exit 0)))) (.keep [1, 3] (.seq (.block 1 (.seq (.reg s5_7) (.keep [1, 3, 4, 5] (.seq (.reg s5_8) (.keep [1, 3, 4, 5, 6, 7] (.seq (.reg s5_9) (.keep [1, 3, 54] (.cond (.tmp 54) (.seq (.reg s5_10) .ret) .skip)))))))) (.keep [1, 3] (.reg s5_11)))))))))) (.keep [1] (.seq (.seq (.reg s5_12) (.keep [1, 8] (.block 2 (.loop (.keep [1, 8] (.seq (.seq (.reg s5_13) (.keep [1, 8, 59] (.cond (.tmp 59) .skip (.exit 2)))) (.keep [1, 8] (.seq (.block 3 (.seq (.reg s5_14) (.keep [1, 8, 9, 10] (.seq (.reg s5_15) (.keep [1, 8, 9, 10, 11, 12] (.seq (.reg s5_16) (.keep [1, 8, 87] (.cond (.tmp 87) (.seq (.reg s5_17) .ret) .skip)))))))) (.keep [1, 8] (.reg s5_18)))))))))) (.keep [1] (.seq (.reg s5_19) (.keep [1, 13, 14] (.seq (.reg s5_20) (.keep [13, 14, 15, 16] (.seq (.reg s5_21) .ret)))))))))))))))
def c5 : FC := ⟨106, a5.erase, [.tmp 2]⟩
theorem comp5 : compF Tryz.prog Tryz.f5 = some c5 := by kernel_rfl
theorem era5 : c5.code = a5.erase := rfl
def s6_0 : List CI := [q0 0 (.mv kF)]
def s6_1 : List CI := [q0 18 (.call 22 [ks ⟨#[97]⟩]), q0 19 (.call 22 [ks ⟨#[98]⟩]), q0 20 (.call 22 [ks ⟨#[99]⟩]), q0 1 (.alloc 29 (.agg #[.int .i64 0, .string ⟨#[]⟩, .string ⟨#[]⟩, .string ⟨#[]⟩, .int .i64 0, .int .i64 0, .string ⟨#[]⟩, .slice none 0 0, .int .i64 0, .int .i64 0, .int .i64 0, .slice none 0 0])), q0 2 (.alloc 29 (.agg #[.int .i64 0, .string ⟨#[]⟩, .string ⟨#[]⟩, .string ⟨#[]⟩, .int .i64 0, .int .i64 0, .string ⟨#[]⟩, .slice none 0 0, .int .i64 0, .int .i64 0, .int .i64 0, .slice none 0 0])), q0 3 (.alloc 29 (.agg #[.int .i64 0, .string ⟨#[]⟩, .string ⟨#[]⟩, .string ⟨#[]⟩, .int .i64 0, .int .i64 0, .string ⟨#[]⟩, .slice none 0 0, .int .i64 0, .int .i64 0, .int .i64 0, .slice none 0 0])), .mk none (.store 12 (.tmp 1) (.tmp 18)) none, .mk none (.store 12 (.tmp 2) (.tmp 19)) none, .mk none (.store 12 (.tmp 3) (.tmp 20)) none]
def s6_2 : List CI := [q0 21 (.build [.string ⟨#[]⟩, .int .i64 0] [(0, 1, ks ⟨#[101, 117, 114]⟩), (1, 1, ki 1)]), q0 22 (.mksl 57 2 [.tmp 21]), q0 4 (.mv (.tmp 22))]
def s6_3 : List CI := [q0 23 (.build [.int .i64 0, .int .i64 0, .string ⟨#[]⟩] [(0, 1, ki 2), (1, 1, ki 2)]), q0 24 (.mv (.tmp 4)), q0 25 (.build [.int .i64 0, .string ⟨#[]⟩, .string ⟨#[]⟩, .string ⟨#[]⟩, .int .i64 0, .int .i64 0, .string ⟨#[]⟩, .slice none 0 0, .int .i64 0, .int .i64 0, .int .i64 0, .slice none 0 0] [(0, 1, ki 1), (4, 3, .tmp 23), (7, 1, .tmp 24)]), q0 5 (.alloc 29 (.agg #[.int .i64 0, .string ⟨#[]⟩, .string ⟨#[]⟩, .string ⟨#[]⟩, .int .i64 0, .int .i64 0, .string ⟨#[]⟩, .slice none 0 0, .int .i64 0, .int .i64 0, .int .i64 0, .slice none 0 0])), .mk none (.store 12 (.tmp 5) (.tmp 25)) none]
def s6_4 : List CI := [q0 26 (.load true 12 (.tmp 1)), q0 27 (.load true 12 (.tmp 2)), q0 28 (.load true 12 (.tmp 5)), q0 29 (.call 24 [ks ⟨#[42]⟩, .tmp 27, .tmp 28]), q0 30 (.call 24 [ks ⟨#[43]⟩, .tmp 26, .tmp 29]), q0 31 (.call 23 [.tmp 30, ks ⟨#[97, 32, 43, 32, 98, 32, 42, 32, 50, 32, 91, 101, 117, 114, 93]⟩]), q0 32 (.un .not (.tmp 31)), q0 33 (.mv (.tmp 32)), q1 34 (.load true 12 (.tmp 1)) 33 false, q1 35 (.load true 12 (.tmp 2)) 33 false, q1 36 (.call 24 [ks ⟨#[43]⟩, .tmp 34, .tmp 35]) 33 false, q1 37 (.load true 12 (.tmp 3)) 33 false, q1 38 (.call 24 [ks ⟨#[42]⟩, .tmp 36, .tmp 37]) 33 false, q1 39 (.call 23 [.tmp 38, ks ⟨#[40, 97, 32, 43, 32, 98, 41, 32, 42, 32, 99]⟩]) 33 false, q1 40 (.un .not (.tmp 39)) 33 false, q0 41 (.pick (.tmp 33) kT (.tmp 40)), q0 42 (.mv (.tmp 41)), q1 43 (.load true 12 (.tmp 1)) 42 false, q1 44 (.call 25 [ks ⟨#[45]⟩, .tmp 43]) 42 false, q1 45 (.call 25 [ks ⟨#[45]⟩, .tmp 44]) 42 false, q1 46 (.call 23 [.tmp 45, ks ⟨#[45, 45, 97]⟩]) 42 false, q1 47 (.un .not (.tmp 46)) 42 false, q0 48 (.pick (.tmp 42) kT (.tmp 47)), q0 49 (.mv (.tmp 48)), q1 50 (.load true 12 (.tmp 1)) 49 false, q1 51 (.load true 12 (.tmp 2)) 49 false, q1 52 (.load true 12 (.tmp 3)) 49 false, q1 53 (.call 24 [ks ⟨#[45]⟩, .tmp 51, .tmp 52]) 49 false, q1 54 (.call 24 [ks ⟨#[45]⟩, .tmp 50, .tmp 53]) 49 false, q1 55 (.call 23 [.tmp 54, ks ⟨#[97, 32, 45, 32, 40, 98, 32, 45, 32, 99, 41]⟩]) 49 false, q1 56 (.un .not (.tmp 55)) 49 false, q0 57 (.pick (.tmp 49) kT (.tmp 56)), q0 58 (.mv (.tmp 57)), q1 59 (.load true 12 (.tmp 1)) 58 false, q1 60 (.load true 12 (.tmp 2)) 58 false, q1 61 (.call 24 [ks ⟨#[61, 61]⟩, .tmp 59, .tmp 60]) 58 false, q1 62 (.call 25 [ks ⟨#[110, 111, 116]⟩, .tmp 61]) 58 false, q1 63 (.call 23 [.tmp 62, ks ⟨#[110, 111, 116, 32, 97, 32, 61, 61, 32, 98]⟩]) 58 false, q1 64 (.un .not (.tmp 63)) 58 false, q0 65 (.pick (.tmp 58) kT (.tmp 64))]
def s6_5 : List CI := [q0 0 (.mv kF)]
def s6_6 : List CI := [q0 66 (.load true 12 (.tmp 1)), q0 67 (.load true 12 (.tmp 2)), q0 68 (.load true 12 (.tmp 3)), q0 69 (.mksl 29 12 [.tmp 66, .tmp 67, .tmp 68]), q0 70 (.build [.int .i64 0, .string ⟨#[]⟩, .string ⟨#[]⟩, .string ⟨#[]⟩, .int .i64 0, .int .i64 0, .string ⟨#[]⟩, .slice none 0 0, .int .i64 0, .int .i64 0, .int .i64 0, .slice none 0 0] [(0, 1, ki 8), (11, 1, .tmp 69)]), q0 6 (.alloc 29 (.agg #[.int .i64 0, .string ⟨#[]⟩, .string ⟨#[]⟩, .string ⟨#[]⟩, .int .i64 0, .int .i64 0, .string ⟨#[]⟩, .slice none 0 0, .int .i64 0, .int .i64 0, .int .i64 0, .slice none 0 0])), .mk none (.store 12 (.tmp 6) (.tmp 70)) none]
def s6_7 : List CI := [q0 71 (.build [.int .i64 0, .int .i64 0, .string ⟨#[]⟩] [(0, 1, ki 2)]), q0 72 (.build [.int .i64 0, .string ⟨#[]⟩, .string ⟨#[]⟩, .string ⟨#[]⟩, .int .i64 0, .int .i64 0, .string ⟨#[]⟩, .slice none 0 0, .int .i64 0, .int .i64 0, .int .i64 0, .slice none 0 0] [(0, 1, ki 1), (4, 3, .tmp 71)]), q0 7 (.alloc 29 (.agg #[.int .i64 0, .string ⟨#[]⟩, .string ⟨#[]⟩, .string ⟨#[]⟩, .int .i64 0, .int .i64 0, .string ⟨#[]⟩, .slice none 0 0, .int .i64 0, .int .i64 0, .int .i64 0, .slice none 0 0])), .mk none (.store 12 (.tmp 7) (.tmp 72)) none]
def s6_8 : List CI := [q0 73 (.build [.int .i64 0, .int .i64 0, .string ⟨#[]⟩] [(0, 1, ki 5), (2, 1, ks ⟨#[115, 49]⟩)]), q0 74 (.build [.int .i64 0, .string ⟨#[]⟩, .string ⟨#[]⟩, .string ⟨#[]⟩, .int .i64 0, .int .i64 0, .string ⟨#[]⟩, .slice none 0 0, .int .i64 0, .int .i64 0, .int .i64 0, .slice none 0 0] [(0, 1, ki 1), (2, 1, ks ⟨#[115, 104, 111, 112]⟩), (4, 3, .tmp 73)]), q0 8 (.alloc 29 (.agg #[.int .i64 0, .string ⟨#[]⟩, .string ⟨#[]⟩, .string ⟨#[]⟩, .int .i64 0, .int .i64 0, .string ⟨#[]⟩, .slice none 0 0, .int .i64 0, .int .i64 0, .int .i64 0, .slice none 0 0])), .mk none (.store 12 (.tmp 8) (.tmp 74)) none]
def s6_9 : List CI := [q0 75 (.load true 12 (.tmp 6)), q0 76 (.load true 12 (.tmp 7)), q0 77 (.mksl 29 12 [.tmp 75, .tmp 76]), q0 78 (.build [.int .i64 0, .string ⟨#[]⟩, .string ⟨#[]⟩, .string ⟨#[]⟩, .int .i64 0, .int .i64 0, .string ⟨#[]⟩, .slice none 0 0, .int .i64 0, .int .i64 0, .int .i64 0, .slice none 0 0] [(0, 1, ki 9), (11, 1, .tmp 77)]), q0 79 (.call 23 [.tmp 78, ks ⟨#[40, 105, 102, 32, 97, 32, 116, 104, 101, 110, 32, 98, 32, 101, 108, 115, 101, 32, 99, 41, 32, 100, 101, 102, 97, 117, 108, 116, 32, 48]⟩]), q0 80 (.un .not (.tmp 79)), q0 81 (.mv (.tmp 80)), q1 82 (.load true 12 (.tmp 8)) 81 false, q1 83 (.mksl 29 12 [.tmp 82]) 81 false, q1 84 (.build [.int .i64 0, .string ⟨#[]⟩, .string ⟨#[]⟩, .string ⟨#[]⟩, .int .i64 0, .int .i64 0, .string ⟨#[]⟩, .slice none 0 0, .int .i64 0, .int .i64 0, .int .i64 0, .slice none 0 0] [(0, 1, ki 4), (2, 1, ks ⟨#[114, 97, 110, 107]⟩), (11, 1, .tmp 83)]) 81 false, q1 85 (.call 23 [.tmp 84, ks ⟨#[114, 97, 110, 107, 32, 111, 102, 32, 40, 64, 115, 104, 111, 112, 32, 34, 115, 49, 34, 41]⟩]) 81 false, q1 86 (.un .not (.tmp 85)) 81 false, q0 87 (.pick (.tmp 81) kT (.tmp 86))]
def s6_10 : List CI := [q0 0 (.mv kF)]
def s6_11 : List CI := [q0 88 (.call 26 []), q0 9 (.alloc 29 (.agg #[.int .i64 0, .string ⟨#[]⟩, .string ⟨#[]⟩, .string ⟨#[]⟩, .int .i64 0, .int .i64 0, .string ⟨#[]⟩, .slice none 0 0, .int .i64 0, .int .i64 0, .int .i64 0, .slice none 0 0])), .mk none (.store 12 (.tmp 9) (.tmp 88)) none]
def s6_12 : List CI := [q0 89 (.build [.int .i64 0, .int .i64 0] [(0, 1, ki 1)]), q0 90 (.load true 12 (.tmp 9)), q0 91 (.load true 12 (.tmp 9)), q0 92 (.mksl 29 12 [.tmp 90, .tmp 91]), q0 93 (.build [.int .i64 0, .string ⟨#[]⟩, .string ⟨#[]⟩, .string ⟨#[]⟩, .int .i64 0, .int .i64 0, .string ⟨#[]⟩, .slice none 0 0, .int .i64 0, .int .i64 0, .int .i64 0, .slice none 0 0] [(0, 1, ki 5), (1, 1, ks ⟨#[99, 111, 117, 110, 116]⟩), (3, 1, ks ⟨#[99, 108, 105, 99, 107, 115]⟩), (9, 2, .tmp 89), (11, 1, .tmp 92)]), q0 10 (.alloc 29 (.agg #[.int .i64 0, .string ⟨#[]⟩, .string ⟨#[]⟩, .string ⟨#[]⟩, .int .i64 0, .int .i64 0, .string ⟨#[]⟩, .slice none 0 0, .int .i64 0, .int .i64 0, .int .i64 0, .slice none 0 0])), .mk none (.store 12 (.tmp 10) (.tmp 93)) none]
def s6_13 : List CI := [q0 94 (.build [.int .i64 0, .int .i64 0] [(0, 1, ki 2), (1, 1, ki 60)]), q0 95 (.call 27 [ks ⟨#[109, 115]⟩]), q0 96 (.call 27 [ks ⟨#[111, 107]⟩]), q0 97 (.mksl 29 12 [.tmp 95, .tmp 96]), q0 98 (.build [.int .i64 0, .string ⟨#[]⟩, .string ⟨#[]⟩, .string ⟨#[]⟩, .int .i64 0, .int .i64 0, .string ⟨#[]⟩, .slice none 0 0, .int .i64 0, .int .i64 0, .int .i64 0, .slice none 0 0] [(0, 1, ki 5), (1, 1, ks ⟨#[113, 117, 97, 110, 116, 105, 108, 101]⟩), (3, 1, ks ⟨#[99, 97, 108, 108, 115]⟩), (8, 1, ki 950), (9, 2, .tmp 94), (11, 1, .tmp 97)]), q0 11 (.alloc 29 (.agg #[.int .i64 0, .string ⟨#[]⟩, .string ⟨#[]⟩, .string ⟨#[]⟩, .int .i64 0, .int .i64 0, .string ⟨#[]⟩, .slice none 0 0, .int .i64 0, .int .i64 0, .int .i64 0, .slice none 0 0])), .mk none (.store 12 (.tmp 11) (.tmp 98)) none]
def s6_14 : List CI := [q0 99 (.load true 12 (.tmp 10)), q0 100 (.call 23 [.tmp 99, ks ⟨#[99, 111, 117, 110, 116, 40, 99, 108, 105, 99, 107, 115, 44, 32, 97, 108, 108, 41]⟩]), q0 101 (.un .not (.tmp 100)), q0 102 (.mv (.tmp 101)), q1 103 (.load true 12 (.tmp 11)) 102 false, q1 104 (.call 23 [.tmp 103, ks ⟨#[113, 117, 97, 110, 116, 105, 108, 101, 40, 99, 97, 108, 108, 115, 44, 32, 109, 115, 44, 32, 57, 53, 48, 44, 32, 115, 108, 105, 100, 105, 110, 103, 32, 54, 48, 32, 119, 104, 101, 114, 101, 32, 111, 107, 41]⟩]) 102 false, q1 105 (.un .not (.tmp 104)) 102 false, q0 106 (.pick (.tmp 102) kT (.tmp 105))]
def s6_15 : List CI := [q0 0 (.mv kF)]
def s6_16 : List CI := [q0 108 (.mv (.tmp 4)), q0 109 (.build [.int .i64 0, .slice none 0 0, .string ⟨#[]⟩] [(0, 1, ki 3), (1, 1, .tmp 108)]), q0 110 (.build [.string ⟨#[]⟩, .int .i64 0, .slice none 0 0, .string ⟨#[]⟩] [(0, 1, ks ⟨#[120]⟩), (1, 3, .tmp 109)]), q0 111 (.build [.int .i64 0, .slice none 0 0, .string ⟨#[]⟩] [(0, 1, ki 1)]), q0 112 (.build [.string ⟨#[]⟩, .int .i64 0, .slice none 0 0, .string ⟨#[]⟩] [(0, 1, ks ⟨#[121]⟩), (1, 3, .tmp 111)]), q0 113 (.mksl 63 4 [.tmp 110, .tmp 112]), q0 114 (.build [.string ⟨#[]⟩, .string ⟨#[]⟩, .slice none 0 0, .int .i64 0] [(0, 1, ks ⟨#[116]⟩), (1, 1, ks ⟨#[117, 115, 101, 114]⟩), (2, 1, .tmp 113), (3, 1, ki 9)]), q0 115 (.call 16 [.tmp 114]), q0 107 (.mv (.tmp 115)), q0 116 (.extract (.tmp 107) 0), q0 117 (.extract (.tmp 107) 1), q0 12 (.mv (.tmp 116)), q0 13 (.mv (.tmp 117))]
def s6_17 : List CI := [q0 119 (.build [.string ⟨#[]⟩, .string ⟨#[]⟩, .slice none 0 0, .int .i64 0] [(0, 1, ks ⟨#[116]⟩), (1, 1, ks ⟨#[117, 115, 101, 114]⟩)]), q0 120 (.call 16 [.tmp 119]), q0 118 (.mv (.tmp 120)), q0 121 (.extract (.tmp 118) 0), q0 122 (.extract (.tmp 118) 1), q0 14 (.mv (.tmp 121)), q0 15 (.mv (.tmp 122))]
def s6_18 : List CI := [q0 124 (.call 27 [ks ⟨#[120]⟩]), q0 125 (.call 9 [.tmp 124]), q0 123 (.mv (.tmp 125)), q0 126 (.extract (.tmp 123) 0), q0 127 (.extract (.tmp 123) 1), q0 16 (.mv (.tmp 126)), q0 17 (.mv (.tmp 127))]
def s6_19 : List CI := [q0 128 (.mv (.tmp 12)), q0 129 (.bin .eql (.tmp 128) (ks ⟨#[116, 97, 98, 108, 101, 32, 116, 32, 111, 102, 32, 117, 115, 101, 114, 32, 123, 32, 120, 58, 32, 100, 101, 99, 32, 91, 101, 117, 114, 93, 44, 32, 121, 58, 32, 98, 111, 111, 108, 32, 125, 32, 107, 101, 101, 112, 32, 57, 59]⟩)), q0 130 (.mv (.tmp 129)), q1 131 (.mv (.tmp 13)) 130 true, q1 132 (.bin .eql (.tmp 131) (ki 0)) 130 true, q0 133 (.pick (.tmp 130) (.tmp 132) kF), q0 134 (.mv (.tmp 133)), q1 135 (.mv (.tmp 14)) 134 true, q1 136 (.bin .eql (.tmp 135) (ks ⟨#[116, 97, 98, 108, 101, 32, 116, 32, 111, 102, 32, 117, 115, 101, 114, 32, 123, 32, 125, 59]⟩)) 134 true, q0 137 (.pick (.tmp 134) (.tmp 136) kF), q0 138 (.mv (.tmp 137)), q1 139 (.mv (.tmp 15)) 138 true, q1 140 (.bin .eql (.tmp 139) (ki 0)) 138 true, q0 141 (.pick (.tmp 138) (.tmp 140) kF), q0 142 (.mv (.tmp 141)), q1 143 (.mv (.tmp 17)) 142 true, q1 144 (.bin .eql (.tmp 143) (ki 3)) 142 true, q0 145 (.pick (.tmp 142) (.tmp 144) kF), q0 0 (.mv (.tmp 145))]
def a6 : AC := (.seq (.reg s6_0) (.keep [] (.seq (.reg s6_1) (.keep [1, 2, 3] (.seq (.reg s6_2) (.keep [1, 2, 3, 4] (.seq (.reg s6_3) (.keep [1, 2, 3, 4, 5] (.seq (.seq (.dreg s6_4) (.keep [1, 2, 3, 4, 65] (.cond (.tmp 65) (.seq (.reg s6_5) .ret) .skip))) (.keep [1, 2, 3, 4] (.seq (.reg s6_6) (.keep [4, 6] (.seq (.reg s6_7) (.keep [4, 6, 7] (.seq (.reg s6_8) (.keep [4, 6, 7, 8] (.seq (.seq (.reg s6_9) (.keep [4, 87] (.cond (.tmp 87) (.seq (.reg s6_10) .ret) .skip))) (.keep [4] (.seq (.reg s6_11) (.keep [4, 9] (.seq (.reg s6_12) (.keep [4, 10] (.seq (.reg s6_13) (.keep [4, 10, 11] (.seq (.seq (.reg s6_14) (.keep [4, 106] (.cond (.tmp 106) (.seq (.reg s6_15) .ret) .skip))) (.keep [4] (.seq (.reg s6_16) (.keep [12, 13] (.seq (.reg s6_17) (.keep [12, 13, 14, 15] (.seq (.reg s6_18) (.keep [12, 13, 14, 15, 17] (.seq (.reg s6_19) .ret)))))))))))))))))))))))))))))))))
def c6 : FC := ⟨146, a6.erase, [.tmp 0]⟩
theorem comp6 : compF Tryz.prog Tryz.f6 = some c6 := by kernel_rfl
theorem era6 : c6.code = a6.erase := rfl
def s9_0 : List CI := [q0 1 (.box 29 (.tmp 0)), q0 2 (.mv (ks ⟨#[]⟩)), q0 3 (.mv (ki 0))]
def s9_1 : List CI := [q0 5 (.load true 12 (.tmp 1)), q0 6 (.call 31 [.tmp 5]), q0 4 (.mv (.tmp 6))]
def s9_2 : List CI := [q0 7 (.mv (.tmp 4)), q0 8 (.bin .neq (.tmp 7) (ki 0))]
def s9_3 : List CI := [q0 9 (.mv (.tmp 4)), q0 2 (.mv (ks ⟨#[]⟩)), q0 3 (.mv (.tmp 9))]
def s9_4 : List CI := [q0 10 (.load true 12 (.tmp 1)), q0 11 (.build [.int .i64 0, .string ⟨#[]⟩, .string ⟨#[]⟩, .string ⟨#[]⟩, .int .i64 0, .int .i64 0, .string ⟨#[]⟩, .slice none 0 0, .int .i64 0, .int .i64 0, .int .i64 0, .slice none 0 0] [(0, 12, .tmp 10)]), q0 12 (.call 32 [.tmp 11]), q0 2 (.mv (.tmp 12)), q0 3 (.mv (ki 0))]
def a9 : AC := (.seq (.reg s9_0) (.keep [1] (.seq (.seq (.reg s9_1) (.keep [1, 4] (.seq (.reg s9_2) (.keep [1, 4, 8] (.cond (.tmp 8) (.seq (.reg s9_3) .ret) .skip))))) (.keep [1] (.seq (.reg s9_4) .ret)))))
def c9 : FC := ⟨13, a9.erase, [.tmp 2, .tmp 3]⟩
theorem comp9 : compF Tryz.prog Tryz.f9 = some c9 := by kernel_rfl
theorem era9 : c9.code = a9.erase := rfl
def s12_0 : List CI := [q0 1 (.box 29 (.tmp 0)), q0 2 (.mv (ks ⟨#[]⟩)), q0 3 (.mv (ki 0))]
def s12_1 : List CI := [q0 5 (.load true 12 (.tmp 1)), q0 6 (.call 8 [.tmp 5]), q0 4 (.mv (.tmp 6))]
def s12_2 : List CI := [q0 7 (.mv (.tmp 4)), q0 8 (.bin .neq (.tmp 7) (ki 0))]
def s12_3 : List CI := [q0 9 (.mv (.tmp 4)), q0 2 (.mv (ks ⟨#[]⟩)), q0 3 (.mv (.tmp 9))]
def s12_4 : List CI := [q0 10 (.load true 12 (.tmp 1)), q0 11 (.call 34 [.tmp 10]), q0 2 (.mv (.tmp 11)), q0 3 (.mv (ki 0))]
def a12 : AC := (.seq (.reg s12_0) (.keep [1] (.seq (.reg s12_1) (.keep [1, 4] (.seq (.seq (.reg s12_2) (.keep [1, 4, 8] (.cond (.tmp 8) (.seq (.reg s12_3) .ret) .skip))) (.keep [1] (.seq (.reg s12_4) .ret)))))))
def c12 : FC := ⟨12, a12.erase, [.tmp 2, .tmp 3]⟩
theorem comp12 : compF Tryz.prog Tryz.f12 = some c12 := by kernel_rfl
theorem era12 : c12.code = a12.erase := rfl
def s13_0 : List CI := [q0 1 (.box 38 (.tmp 0)), q0 2 (.mv (ks ⟨#[]⟩)), q0 3 (.mv (ki 0))]
def s13_1 : List CI := [q0 5 (.load true 3 (.tmp 1)), q0 6 (.call 35 [.tmp 5]), q0 4 (.mv (.tmp 6))]
def s13_2 : List CI := [q0 7 (.mv (.tmp 4)), q0 8 (.bin .neq (.tmp 7) (ki 0))]
def s13_3 : List CI := [q0 9 (.mv (.tmp 4)), q0 2 (.mv (ks ⟨#[]⟩)), q0 3 (.mv (.tmp 9))]
def s13_4 : List CI := [q0 10 (.load true 3 (.tmp 1)), q0 11 (.call 36 [.tmp 10]), q0 2 (.mv (.tmp 11)), q0 3 (.mv (ki 0))]
def a13 : AC := (.seq (.reg s13_0) (.keep [1] (.seq (.seq (.reg s13_1) (.keep [1, 4] (.seq (.reg s13_2) (.keep [1, 4, 8] (.cond (.tmp 8) (.seq (.reg s13_3) .ret) .skip))))) (.keep [1] (.seq (.reg s13_4) .ret)))))
def c13 : FC := ⟨12, a13.erase, [.tmp 2, .tmp 3]⟩
theorem comp13 : compF Tryz.prog Tryz.f13 = some c13 := by kernel_rfl
theorem era13 : c13.code = a13.erase := rfl
def s14_0 : List CI := [q0 1 (.box 38 (.tmp 0)), q0 2 (.mv (ks ⟨#[]⟩)), q0 3 (.mv (ki 0))]
def s14_1 : List CI := [q0 5 (.load true 3 (.tmp 1)), q0 6 (.call 37 [.tmp 5]), q0 4 (.mv (.tmp 6))]
def s14_2 : List CI := [q0 7 (.mv (.tmp 4)), q0 8 (.bin .neq (.tmp 7) (ki 0))]
def s14_3 : List CI := [q0 9 (.mv (.tmp 4)), q0 2 (.mv (ks ⟨#[]⟩)), q0 3 (.mv (.tmp 9))]
def s14_4 : List CI := [q0 10 (.load true 3 (.tmp 1)), q0 11 (.call 38 [.tmp 10]), q0 2 (.mv (.tmp 11)), q0 3 (.mv (ki 0))]
def a14 : AC := (.seq (.reg s14_0) (.keep [1] (.seq (.reg s14_1) (.keep [1, 4] (.seq (.seq (.reg s14_2) (.keep [1, 4, 8] (.cond (.tmp 8) (.seq (.reg s14_3) .ret) .skip))) (.keep [1] (.seq (.reg s14_4) .ret)))))))
def c14 : FC := ⟨12, a14.erase, [.tmp 2, .tmp 3]⟩
theorem comp14 : compF Tryz.prog Tryz.f14 = some c14 := by kernel_rfl
theorem era14 : c14.code = a14.erase := rfl
def s15_0 : List CI := [q0 1 (.box 45 (.tmp 0)), q0 2 (.mv kF)]
def s15_1 : List CI := [q0 3 (.mv (ki 0))]
def s15_2 : List CI := [q0 5 (.mv (.tmp 3)), q0 6 (.faddr 0 (.tmp 1)), q0 7 (.load false 1 (.tmp 6)), q0 8 (.len false (.tmp 7)), q0 9 (.bin .lss (.tmp 5) (.tmp 8)), q0 10 (.mv (.tmp 9)), q1 11 (.mv (.tmp 3)) 10 true, q1 12 (.bin .lss (.tmp 11) (ki 21)) 10 true, q0 13 (.pick (.tmp 10) (.tmp 12) kF)]
def s15_3 : List CI := [q0 16 (.faddr 0 (.tmp 1)), q0 17 (.load false 1 (.tmp 16)), q0 18 (.mv (.tmp 3)), q0 19 (.iaddr 4 (.tmp 17) (.tmp 18)), q0 20 (.load true 4 (.tmp 19)), q0 21 (.call 39 [.tmp 20]), q0 22 (.un .not (.tmp 21))]
def s15_4 : List CI := [q0 2 (.mv kF)]
def s15_5 : List CI := [q0 14 (.mv (.tmp 3)), q0 15 (.bin .add (.tmp 14) (ki 1)), q0 3 (.mv (.tmp 15))]
def s15_6 : List CI := [q0 4 (.mv (ki 0))]
def s15_7 : List CI := [q0 23 (.mv (.tmp 4)), q0 24 (.faddr 1 (.tmp 1)), q0 25 (.load false 1 (.tmp 24)), q0 26 (.len false (.tmp 25)), q0 27 (.bin .lss (.tmp 23) (.tmp 26)), q0 28 (.mv (.tmp 27)), q1 29 (.mv (.tmp 4)) 28 true, q1 30 (.bin .lss (.tmp 29) (ki 21)) 28 true, q0 31 (.pick (.tmp 28) (.tmp 30) kF)]
def s15_8 : List CI := [q0 34 (.faddr 1 (.tmp 1)), q0 35 (.load false 1 (.tmp 34)), q0 36 (.mv (.tmp 4)), q0 37 (.iaddr 18 (.tmp 35) (.tmp 36)), q0 38 (.load true 18 (.tmp 37)), q0 39 (.call 40 [.tmp 38]), q0 40 (.un .not (.tmp 39))]
def s15_9 : List CI := [q0 2 (.mv kF)]
def s15_10 : List CI := [q0 32 (.mv (.tmp 4)), q0 33 (.bin .add (.tmp 32) (ki 1)), q0 4 (.mv (.tmp 33))]
def s15_11 : List CI := [q0 41 (.faddr 0 (.tmp 1)), q0 42 (.load false 1 (.tmp 41)), q0 43 (.len false (.tmp 42)), q0 44 (.bin .leq (.tmp 43) (ki 20)), q0 45 (.mv (.tmp 44)), q1 46 (.faddr 1 (.tmp 1)) 45 true, q1 47 (.load false 1 (.tmp 46)) 45 true, q1 48 (.len false (.tmp 47)) 45 true, q1 49 (.bin .leq (.tmp 48) (ki 20)) 45 true, q0 50 (.pick (.tmp 45) (.tmp 49) kF), q0 2 (.mv (.tmp 50))]
def a15 : AC := (.seq (.reg s15_0) (.keep [1] (.seq (.seq (.reg s15_1) (.keep [1, 3] (.block 0 (.loop (.keep [1, 3] (.seq (.seq (.reg s15_2) (.keep [1, 3, 13] (.cond (.tmp 13) .skip (.exit 0)))) (.keep [1, 3] (.seq (.block 1 (.seq (.reg s15_3) (.keep [1, 3, 22] (.cond (.tmp 22) (.seq (.reg s15_4) .ret) .skip)))) (.keep [1, 3] (.reg s15_5)))))))))) (.keep [1] (.seq (.seq (.reg s15_6) (.keep [1, 4] (.block 2 (.loop (.keep [1, 4] (.seq (.seq (.reg s15_7) (.keep [1, 4, 31] (.cond (.tmp 31) .skip (.exit 2)))) (.keep [1, 4] (.seq (.block 3 (.seq (.reg s15_8) (.keep [1, 4, 40] (.cond (.tmp 40) (.seq (.reg s15_9) .ret) .skip)))) (.keep [1, 4] (.reg s15_10)))))))))) (.keep [1] (.seq (.reg s15_11) .ret)))))))
def c15 : FC := ⟨51, a15.erase, [.tmp 2]⟩
theorem comp15 : compF Tryz.prog Tryz.f15 = some c15 := by kernel_rfl
theorem era15 : c15.code = a15.erase := rfl
def s16_0 : List CI := [q0 1 (.box 50 (.tmp 0)), q0 2 (.mv (ks ⟨#[]⟩)), q0 3 (.mv (ki 0))]
def s16_1 : List CI := [q0 8 (.load true 4 (.tmp 1)), q0 9 (.call 41 [.tmp 8]), q0 4 (.mv (.tmp 9))]
def s16_2 : List CI := [q0 10 (.mv (.tmp 4)), q0 11 (.bin .neq (.tmp 10) (ki 0))]
def s16_3 : List CI := [q0 12 (.mv (.tmp 4)), q0 2 (.mv (ks ⟨#[]⟩)), q0 3 (.mv (.tmp 12))]
def s16_4 : List CI := [q0 5 (.mv (.const (.slice none 0 0)))]
def s16_5 : List CI := [q0 13 (.faddr 2 (.tmp 1)), q0 14 (.load false 1 (.tmp 13)), q0 15 (.len false (.tmp 14)), q0 16 (.mv (ki 0))]
def s16_6 : List CI := [q0 17 (.bin .lss (.tmp 16) (.tmp 15))]
def s16_7 : List CI := [q0 18 (.iaddr 4 (.tmp 14) (.tmp 16)), q0 19 (.load true 4 (.tmp 18)), q0 7 (.alloc 63 (.agg #[.string ⟨#[]⟩, .int .i64 0, .slice none 0 0, .string ⟨#[]⟩])), .mk none (.store 4 (.tmp 7) (.tmp 19)) none]
def s16_8 : List CI := [q0 20 (.mv (.tmp 5)), q0 21 (.faddr 0 (.tmp 7)), q0 22 (.load false 1 (.tmp 21)), q0 23 (.faddr 1 (.tmp 7)), q0 24 (.load true 3 (.tmp 23)), q0 25 (.call 36 [.tmp 24]), q0 26 (.mksl 9 1 [ks ⟨#[32]⟩, .tmp 22, ks ⟨#[58, 32]⟩, .tmp 25]), q0 27 (.call 42 [.tmp 26]), q0 28 (.mksl 9 1 [.tmp 27]), q0 29 (.append 9 1 16 [.string ⟨#[]⟩] (.tmp 20) (.tmp 28)), q0 5 (.mv (.tmp 29))]
def s16_9 : List CI := [q0 30 (.bin .add (.tmp 16) (ki 1)), q0 16 (.mv (.tmp 30))]
def s16_10 : List CI := [q0 31 (.faddr 0 (.tmp 1)), q0 32 (.load false 1 (.tmp 31)), q0 33 (.faddr 1 (.tmp 1)), q0 34 (.load false 1 (.tmp 33)), q0 35 (.mv (.tmp 5)), q0 36 (.call 43 [.tmp 35, ks ⟨#[44]⟩]), q0 37 (.mksl 9 1 [ks ⟨#[116, 97, 98, 108, 101, 32]⟩, .tmp 32, ks ⟨#[32, 111, 102, 32]⟩, .tmp 34, ks ⟨#[32, 123]⟩, .tmp 36, ks ⟨#[32, 125]⟩]), q0 38 (.call 42 [.tmp 37]), q0 2 (.mv (.tmp 38))]
def s16_11 : List CI := [q0 39 (.faddr 3 (.tmp 1)), q0 40 (.load false 1 (.tmp 39)), q0 41 (.bin .neq (.tmp 40) (ki 0))]
def s16_12 : List CI := [q0 42 (.mv (.tmp 2)), q0 43 (.faddr 3 (.tmp 1)), q0 44 (.load false 1 (.tmp 43)), q0 45 (.call 44 [.tmp 44]), q0 46 (.mksl 9 1 [.tmp 42, ks ⟨#[32, 107, 101, 101, 112, 32]⟩, .tmp 45]), q0 47 (.call 42 [.tmp 46]), q0 2 (.mv (.tmp 47))]
def s16_13 : List CI := [q0 48 (.mv (.tmp 2)), q0 49 (.mksl 9 1 [.tmp 48, ks ⟨#[59]⟩]), q0 50 (.call 42 [.tmp 49]), q0 2 (.mv (.tmp 50)), q0 3 (.mv (ki 0))]
def a16 : AC := (.seq (.reg s16_0) (.keep [1] (.seq (.seq (.reg s16_1) (.keep [1, 4] (.seq (.reg s16_2) (.keep [1, 4, 11] (.cond (.tmp 11) (.seq (.reg s16_3) .ret) .skip))))) (.keep [1] (.seq (.reg s16_4) (.keep [1, 5] (.seq (.seq (.reg s16_5) (.keep [1, 5, 14, 15, 16] (.block 0 (.loop (.keep [1, 5, 14, 15, 16] (.seq (.reg s16_6) (.keep [1, 5, 14, 15, 16, 17] (.seq (.cond (.tmp 17) .skip (.exit 0)) (.keep [1, 5, 14, 15, 16] (.seq (.block 1 (.seq (.reg s16_7) (.keep [1, 5, 7, 14, 15, 16] (.dreg s16_8)))) (.keep [1, 5, 14, 15, 16] (.reg s16_9)))))))))))) (.keep [1, 5] (.seq (.dreg s16_10) (.keep [1, 2] (.seq (.seq (.reg s16_11) (.keep [1, 2, 41] (.cond (.tmp 41) (.reg s16_12) .skip))) (.keep [2] (.seq (.reg s16_13) .ret)))))))))))))
def c16 : FC := ⟨51, a16.erase, [.tmp 2, .tmp 3]⟩
theorem comp16 : compF Tryz.prog Tryz.f16 = some c16 := by kernel_rfl
theorem era16 : c16.code = a16.erase := rfl
def s17_0 : List CI := [q0 1 (.box 50 (.tmp 0)), q0 2 (.mv (ks ⟨#[]⟩)), q0 3 (.mv (ki 0))]
def s17_1 : List CI := [q0 7 (.load true 4 (.tmp 1)), q0 8 (.call 45 [.tmp 7]), q0 4 (.mv (.tmp 8))]
def s17_2 : List CI := [q0 9 (.mv (.tmp 4)), q0 10 (.bin .neq (.tmp 9) (ki 0))]
def s17_3 : List CI := [q0 11 (.mv (.tmp 4)), q0 2 (.mv (ks ⟨#[]⟩)), q0 3 (.mv (.tmp 11))]
def s17_4 : List CI := [q0 12 (.faddr 0 (.tmp 1)), q0 13 (.load false 1 (.tmp 12)), q0 14 (.bin .add (ks ⟨#[116, 97, 98, 108, 101, 32]⟩) (.tmp 13)), q0 15 (.bin .add (.tmp 14) (ks ⟨#[32, 111, 102, 32]⟩)), q0 16 (.faddr 1 (.tmp 1)), q0 17 (.load false 1 (.tmp 16)), q0 18 (.bin .add (.tmp 15) (.tmp 17)), q0 19 (.bin .add (.tmp 18) (ks ⟨#[32, 123]⟩)), q0 5 (.mv (.tmp 19))]
def s17_5 : List CI := [q0 6 (.mv (ki 0))]
def s17_6 : List CI := [q0 20 (.mv (.tmp 6)), q0 21 (.faddr 2 (.tmp 1)), q0 22 (.load false 1 (.tmp 21)), q0 23 (.len false (.tmp 22)), q0 24 (.bin .lss (.tmp 20) (.tmp 23))]
def s17_7 : List CI := [q0 27 (.mv (.tmp 6)), q0 28 (.bin .gtr (.tmp 27) (ki 0))]
def s17_8 : List CI := [q0 29 (.mv (.tmp 5)), q0 30 (.bin .add (.tmp 29) (ks ⟨#[44]⟩)), q0 5 (.mv (.tmp 30))]
def s17_9 : List CD := [.mk 0 (q0 31 (.mv (.tmp 5))) [], .mk 1 (q0 32 (.bin .add (.tmp 31) (ks ⟨#[32]⟩))) [], .mk 2 (q0 33 (.faddr 2 (.tmp 1))) [], .mk 3 (q0 34 (.load false 1 (.tmp 33))) [], .mk 4 (q0 35 (.mv (.tmp 6))) [], .mk 5 (q0 36 (.iaddr 4 (.tmp 34) (.tmp 35))) [], .mk 6 (q0 37 (.faddr 0 (.tmp 36))) [], .mk 7 (q0 38 (.load false 1 (.tmp 37))) [], .mk 8 (q0 39 (.bin .add (.tmp 32) (.tmp 38))) [], .mk 9 (q0 40 (.bin .add (.tmp 39) (ks ⟨#[58, 32]⟩))) [], .mk 10 (q0 41 (.faddr 2 (.tmp 1))) [], .mk 11 (q0 42 (.load false 1 (.tmp 41))) [], .mk 12 (q0 43 (.mv (.tmp 6))) [], .mk 13 (q0 44 (.iaddr 4 (.tmp 42) (.tmp 43))) [], .mk 14 (q0 45 (.faddr 1 (.tmp 44))) [], .mk 15 (q0 46 (.load true 3 (.tmp 45))) [], .mk 16 (q0 47 (.call 38 [.tmp 46])) [], .mk 17 (q0 48 (.bin .add (.tmp 40) (.tmp 47))) [], .mk 18 (q0 5 (.mv (.tmp 48))) []]
def s17_10 : List CI := [q0 25 (.mv (.tmp 6)), q0 26 (.bin .add (.tmp 25) (ki 1)), q0 6 (.mv (.tmp 26))]
def s17_11 : List CI := [q0 49 (.mv (.tmp 5)), q0 50 (.bin .add (.tmp 49) (ks ⟨#[32, 125]⟩)), q0 5 (.mv (.tmp 50))]
def s17_12 : List CI := [q0 51 (.faddr 3 (.tmp 1)), q0 52 (.load false 1 (.tmp 51)), q0 53 (.bin .neq (.tmp 52) (ki 0))]
def s17_13 : List CI := [q0 54 (.mv (.tmp 5)), q0 55 (.bin .add (.tmp 54) (ks ⟨#[32, 107, 101, 101, 112, 32]⟩)), q0 56 (.faddr 3 (.tmp 1)), q0 57 (.load false 1 (.tmp 56)), q0 58 (.call 46 [.tmp 57]), q0 59 (.bin .add (.tmp 55) (.tmp 58)), q0 5 (.mv (.tmp 59))]
def s17_14 : List CI := [q0 60 (.mv (.tmp 5)), q0 61 (.bin .add (.tmp 60) (ks ⟨#[59]⟩)), q0 2 (.mv (.tmp 61)), q0 3 (.mv (ki 0))]
def a17 : AC := (.seq (.reg s17_0) (.keep [1] (.seq (.reg s17_1) (.keep [1, 4] (.seq (.seq (.reg s17_2) (.keep [1, 4, 10] (.cond (.tmp 10) (.seq (.reg s17_3) .ret) .skip))) (.keep [1] (.seq (.reg s17_4) (.keep [1, 5] (.seq (.seq (.reg s17_5) (.keep [1, 5, 6] (.block 0 (.loop (.keep [1, 5, 6] (.seq (.seq (.reg s17_6) (.keep [1, 5, 6, 24] (.cond (.tmp 24) .skip (.exit 0)))) (.keep [1, 5, 6] (.seq (.block 1 (.seq (.seq (.reg s17_7) (.keep [1, 5, 6, 28] (.cond (.tmp 28) (.reg s17_8) .skip))) (.keep [1, 5, 6] (.mreg [] s17_9)))) (.keep [1, 5, 6] (.reg s17_10)))))))))) (.keep [1, 5] (.seq (.reg s17_11) (.keep [1, 5] (.seq (.seq (.reg s17_12) (.keep [1, 5, 53] (.cond (.tmp 53) (.reg s17_13) .skip))) (.keep [5] (.seq (.reg s17_14) .ret)))))))))))))))
def c17 : FC := ⟨62, a17.erase, [.tmp 2, .tmp 3]⟩
theorem comp17 : compF Tryz.prog Tryz.f17 = some c17 := by kernel_rfl
theorem era17 : c17.code = a17.erase := rfl
def s18_0 : List CI := [q0 1 (.box 53 (.tmp 0)), q0 2 (.mv (ks ⟨#[]⟩)), q0 3 (.mv (ki 0))]
def s18_1 : List CI := [q0 6 (.faddr 0 (.tmp 1)), q0 7 (.load false 1 (.tmp 6)), q0 8 (.call 47 [.tmp 7]), q0 9 (.un .not (.tmp 8)), q0 10 (.mv (.tmp 9)), q1 11 (.faddr 1 (.tmp 1)) 10 false, q1 12 (.load false 1 (.tmp 11)) 10 false, q1 13 (.call 47 [.tmp 12]) 10 false, q1 14 (.un .not (.tmp 13)) 10 false, q0 15 (.pick (.tmp 10) kT (.tmp 14))]
def s18_2 : List CI := [q0 2 (.mv (ks ⟨#[]⟩)), q0 3 (.mv (ki 3))]
def s18_3 : List CI := [q0 17 (.faddr 2 (.tmp 1)), q0 18 (.load true 3 (.tmp 17)), q0 19 (.call 13 [.tmp 18]), q0 16 (.mv (.tmp 19)), q0 20 (.extract (.tmp 16) 0), q0 21 (.extract (.tmp 16) 1), q0 4 (.mv (.tmp 20)), q0 3 (.mv (.tmp 21))]
def s18_4 : List CI := [q0 22 (.mv (.tmp 3)), q0 23 (.bin .neq (.tmp 22) (ki 0))]
def s18_5 : List CI := [q0 24 (.mv (.tmp 3)), q0 2 (.mv (ks ⟨#[]⟩)), q0 3 (.mv (.tmp 24))]
def s18_6 : List CI := [q0 26 (.faddr 5 (.tmp 1)), q0 27 (.load true 12 (.tmp 26)), q0 28 (.call 9 [.tmp 27]), q0 25 (.mv (.tmp 28)), q0 29 (.extract (.tmp 25) 0), q0 30 (.extract (.tmp 25) 1), q0 5 (.mv (.tmp 29)), q0 3 (.mv (.tmp 30))]
def s18_7 : List CI := [q0 31 (.mv (.tmp 3)), q0 32 (.bin .neq (.tmp 31) (ki 0))]
def s18_8 : List CI := [q0 33 (.mv (.tmp 3)), q0 2 (.mv (ks ⟨#[]⟩)), q0 3 (.mv (.tmp 33))]
def s18_9 : List CI := [q0 34 (.faddr 0 (.tmp 1)), q0 35 (.load false 1 (.tmp 34)), q0 36 (.faddr 1 (.tmp 1)), q0 37 (.load false 1 (.tmp 36)), q0 38 (.mv (.tmp 4)), q0 39 (.mv (.tmp 5)), q0 40 (.mksl 9 1 [ks ⟨#[102, 101, 97, 116, 117, 114, 101, 32]⟩, .tmp 35, ks ⟨#[32, 111, 102, 32]⟩, .tmp 37, ks ⟨#[58, 32]⟩, .tmp 38, ks ⟨#[32, 61, 32]⟩, .tmp 39, ks ⟨#[59]⟩]), q0 41 (.call 42 [.tmp 40]), q0 2 (.mv (.tmp 41)), q0 3 (.mv (ki 0))]
def a18 : AC := (.seq (.reg s18_0) (.keep [1] (.seq (.seq (.reg s18_1) (.keep [1, 15] (.cond (.tmp 15) (.seq (.reg s18_2) .ret) .skip))) (.keep [1] (.seq (.reg s18_3) (.keep [1, 3, 4] (.seq (.seq (.reg s18_4) (.keep [1, 3, 4, 23] (.cond (.tmp 23) (.seq (.reg s18_5) .ret) .skip))) (.keep [1, 4] (.seq (.reg s18_6) (.keep [1, 3, 4, 5] (.seq (.seq (.reg s18_7) (.keep [1, 3, 4, 5, 32] (.cond (.tmp 32) (.seq (.reg s18_8) .ret) .skip))) (.keep [1, 4, 5] (.seq (.reg s18_9) .ret)))))))))))))
def c18 : FC := ⟨42, a18.erase, [.tmp 2, .tmp 3]⟩
theorem comp18 : compF Tryz.prog Tryz.f18 = some c18 := by kernel_rfl
theorem era18 : c18.code = a18.erase := rfl
def s19_0 : List CI := [q0 1 (.box 53 (.tmp 0)), q0 2 (.mv (ks ⟨#[]⟩)), q0 3 (.mv (ki 0))]
def s19_1 : List CI := [q0 8 (.faddr 0 (.tmp 1)), q0 9 (.load false 1 (.tmp 8)), q0 10 (.call 48 [.tmp 9]), q0 11 (.un .not (.tmp 10)), q0 12 (.mv (.tmp 11)), q1 13 (.faddr 1 (.tmp 1)) 12 false, q1 14 (.load false 1 (.tmp 13)) 12 false, q1 15 (.call 48 [.tmp 14]) 12 false, q1 16 (.un .not (.tmp 15)) 12 false, q0 17 (.pick (.tmp 12) kT (.tmp 16))]
def s19_2 : List CI := [q0 2 (.mv (ks ⟨#[]⟩)), q0 3 (.mv (ki 3))]
def s19_3 : List CI := [q0 19 (.faddr 2 (.tmp 1)), q0 20 (.load true 3 (.tmp 19)), q0 21 (.call 14 [.tmp 20]), q0 18 (.mv (.tmp 21)), q0 22 (.extract (.tmp 18) 0), q0 23 (.extract (.tmp 18) 1), q0 4 (.mv (.tmp 22)), q0 5 (.mv (.tmp 23))]
def s19_4 : List CI := [q0 24 (.mv (.tmp 5)), q0 25 (.bin .neq (.tmp 24) (ki 0))]
def s19_5 : List CI := [q0 26 (.mv (.tmp 5)), q0 2 (.mv (ks ⟨#[]⟩)), q0 3 (.mv (.tmp 26))]
def s19_6 : List CI := [q0 28 (.faddr 5 (.tmp 1)), q0 29 (.load true 12 (.tmp 28)), q0 30 (.call 12 [.tmp 29]), q0 27 (.mv (.tmp 30)), q0 31 (.extract (.tmp 27) 0), q0 32 (.extract (.tmp 27) 1), q0 6 (.mv (.tmp 31)), q0 7 (.mv (.tmp 32))]
def s19_7 : List CI := [q0 33 (.mv (.tmp 7)), q0 34 (.bin .neq (.tmp 33) (ki 0))]
def s19_8 : List CI := [q0 35 (.mv (.tmp 7)), q0 2 (.mv (ks ⟨#[]⟩)), q0 3 (.mv (.tmp 35))]
def s19_9 : List CI := [q0 36 (.faddr 0 (.tmp 1)), q0 37 (.load false 1 (.tmp 36)), q0 38 (.bin .add (ks ⟨#[102, 101, 97, 116, 117, 114, 101, 32]⟩) (.tmp 37)), q0 39 (.bin .add (.tmp 38) (ks ⟨#[32, 111, 102, 32]⟩)), q0 40 (.faddr 1 (.tmp 1)), q0 41 (.load false 1 (.tmp 40)), q0 42 (.bin .add (.tmp 39) (.tmp 41)), q0 43 (.bin .add (.tmp 42) (ks ⟨#[58, 32]⟩)), q0 44 (.mv (.tmp 4)), q0 45 (.bin .add (.tmp 43) (.tmp 44)), q0 46 (.bin .add (.tmp 45) (ks ⟨#[32, 61, 32]⟩)), q0 47 (.mv (.tmp 6)), q0 48 (.bin .add (.tmp 46) (.tmp 47)), q0 49 (.bin .add (.tmp 48) (ks ⟨#[59]⟩)), q0 2 (.mv (.tmp 49)), q0 3 (.mv (ki 0))]
def a19 : AC := (.seq (.reg s19_0) (.keep [1] (.seq (.seq (.reg s19_1) (.keep [1, 17] (.cond (.tmp 17) (.seq (.reg s19_2) .ret) .skip))) (.keep [1] (.seq (.reg s19_3) (.keep [1, 4, 5] (.seq (.seq (.reg s19_4) (.keep [1, 4, 5, 25] (.cond (.tmp 25) (.seq (.reg s19_5) .ret) .skip))) (.keep [1, 4] (.seq (.reg s19_6) (.keep [1, 4, 6, 7] (.seq (.seq (.reg s19_7) (.keep [1, 4, 6, 7, 34] (.cond (.tmp 34) (.seq (.reg s19_8) .ret) .skip))) (.keep [1, 4, 6] (.seq (.reg s19_9) .ret)))))))))))))
def c19 : FC := ⟨50, a19.erase, [.tmp 2, .tmp 3]⟩
theorem comp19 : compF Tryz.prog Tryz.f19 = some c19 := by kernel_rfl
theorem era19 : c19.code = a19.erase := rfl
def s20_0 : List CI := [q0 1 (.box 45 (.tmp 0)), q0 2 (.mv (ks ⟨#[]⟩)), q0 3 (.mv (ki 0))]
def s20_1 : List CI := [q0 4 (.alloc 83 (.agg #[.pointer none, .slice none 0 0]))]
def s20_2 : List CI := [q0 13 (.faddr 0 (.tmp 1)), q0 14 (.load false 1 (.tmp 13)), q0 15 (.len false (.tmp 14)), q0 16 (.mv (ki 0))]
def s20_3 : List CI := [q0 17 (.bin .lss (.tmp 16) (.tmp 15))]
def s20_4 : List CI := [q0 18 (.iaddr 4 (.tmp 14) (.tmp 16)), q0 19 (.load true 4 (.tmp 18)), q0 6 (.alloc 50 (.agg #[.string ⟨#[]⟩, .string ⟨#[]⟩, .slice none 0 0, .int .i64 0])), .mk none (.store 4 (.tmp 6) (.tmp 19)) none]
def s20_5 : List CI := [q0 21 (.load true 4 (.tmp 6)), q0 22 (.call 16 [.tmp 21]), q0 20 (.mv (.tmp 22)), q0 23 (.extract (.tmp 20) 0), q0 24 (.extract (.tmp 20) 1), q0 7 (.mv (.tmp 23)), q0 8 (.mv (.tmp 24))]
def s20_6 : List CI := [q0 25 (.mv (.tmp 8)), q0 26 (.bin .neq (.tmp 25) (ki 0))]
def s20_7 : List CI := [q0 27 (.mv (.tmp 8)), q0 2 (.mv (ks ⟨#[]⟩)), q0 3 (.mv (.tmp 27))]
def s20_8 : List CI := [q0 28 (.mv (.tmp 7)), q0 29 (.bin .add (.tmp 28) (ks ⟨#[10]⟩)), q0 30 (.call 49 [.tmp 4, .tmp 29])]
def s20_9 : List CI := [q0 31 (.bin .add (.tmp 16) (ki 1)), q0 16 (.mv (.tmp 31))]
def s20_10 : List CI := [q0 32 (.faddr 1 (.tmp 1)), q0 33 (.load false 1 (.tmp 32)), q0 34 (.len false (.tmp 33)), q0 35 (.mv (ki 0))]
def s20_11 : List CI := [q0 36 (.bin .lss (.tmp 35) (.tmp 34))]
def s20_12 : List CI := [q0 37 (.iaddr 18 (.tmp 33) (.tmp 35)), q0 38 (.load true 18 (.tmp 37)), q0 10 (.alloc 53 (.agg #[.string ⟨#[]⟩, .string ⟨#[]⟩, .int .i64 0, .slice none 0 0, .string ⟨#[]⟩, .int .i64 0, .string ⟨#[]⟩, .string ⟨#[]⟩, .string ⟨#[]⟩, .int .i64 0, .int .i64 0, .string ⟨#[]⟩, .slice none 0 0, .int .i64 0, .int .i64 0, .int .i64 0, .slice none 0 0, .int .i64 0])), .mk none (.store 18 (.tmp 10) (.tmp 38)) none]
def s20_13 : List CI := [q0 40 (.load true 18 (.tmp 10)), q0 41 (.call 18 [.tmp 40]), q0 39 (.mv (.tmp 41)), q0 42 (.extract (.tmp 39) 0), q0 43 (.extract (.tmp 39) 1), q0 11 (.mv (.tmp 42)), q0 12 (.mv (.tmp 43))]
def s20_14 : List CI := [q0 44 (.mv (.tmp 12)), q0 45 (.bin .neq (.tmp 44) (ki 0))]
def s20_15 : List CI := [q0 46 (.mv (.tmp 12)), q0 2 (.mv (ks ⟨#[]⟩)), q0 3 (.mv (.tmp 46))]
def s20_16 : List CI := [q0 47 (.mv (.tmp 11)), q0 48 (.bin .add (.tmp 47) (ks ⟨#[10]⟩)), q0 49 (.call 49 [.tmp 4, .tmp 48])]
def s20_17 : List CI := [q0 50 (.bin .add (.tmp 35) (ki 1)), q0 35 (.mv (.tmp 50))]
def s20_18 : List CI := [q0 51 (.call 50 [.tmp 4]), q0 52 (.bin .gtr (.tmp 51) (ki 16384))]
def s20_19 : List CI := [q0 2 (.mv (ks ⟨#[]⟩)), q0 3 (.mv (ki 2))]
def s20_20 : List CI := [q0 53 (.call 51 [.tmp 4]), q0 2 (.mv (.tmp 53)), q0 3 (.mv (ki 0))]
def a20 : AC := (.seq (.reg s20_0) (.keep [1] (.seq (.reg s20_1) (.keep [1, 4] (.seq (.seq (.reg s20_2) (.keep [1, 4, 14, 15, 16] (.block 0 (.loop (.keep [1, 4, 14, 15, 16] (.seq (.reg s20_3) (.keep [1, 4, 14, 15, 16, 17] (.seq (.cond (.tmp 17) .skip (.exit 0)) (.keep [1, 4, 14, 15, 16] (.seq (.block 1 (.seq (.reg s20_4) (.keep [1, 4, 6, 14, 15, 16] (.seq (.reg s20_5) (.keep [1, 4, 7, 8, 14, 15, 16] (.seq (.seq (.reg s20_6) (.keep [1, 4, 7, 8, 14, 15, 16, 26] (.cond (.tmp 26) (.seq (.reg s20_7) .ret) .skip))) (.keep [1, 4, 7, 14, 15, 16] (.reg s20_8)))))))) (.keep [1, 4, 14, 15, 16] (.reg s20_9)))))))))))) (.keep [1, 4] (.seq (.seq (.reg s20_10) (.keep [4, 33, 34, 35] (.block 2 (.loop (.keep [4, 33, 34, 35] (.seq (.reg s20_11) (.keep [4, 33, 34, 35, 36] (.seq (.cond (.tmp 36) .skip (.exit 2)) (.keep [4, 33, 34, 35] (.seq (.block 3 (.seq (.reg s20_12) (.keep [4, 10, 33, 34, 35] (.seq (.reg s20_13) (.keep [4, 11, 12, 33, 34, 35] (.seq (.seq (.reg s20_14) (.keep [4, 11, 12, 33, 34, 35, 45] (.cond (.tmp 45) (.seq (.reg s20_15) .ret) .skip))) (.keep [4, 11, 33, 34, 35] (.reg s20_16)))))))) (.keep [4, 33, 34, 35] (.reg s20_17)))))))))))) (.keep [4] (.seq (.seq (.reg s20_18) (.keep [4, 52] (.cond (.tmp 52) (.seq (.reg s20_19) .ret) .skip))) (.keep [4] (.seq (.reg s20_20) .ret)))))))))))
def c20 : FC := ⟨54, a20.erase, [.tmp 2, .tmp 3]⟩
theorem comp20 : compF Tryz.prog Tryz.f20 = some c20 := by kernel_rfl
theorem era20 : c20.code = a20.erase := rfl
def s21_0 : List CI := [q0 1 (.box 45 (.tmp 0)), q0 2 (.mv (ks ⟨#[]⟩)), q0 3 (.mv (ki 0))]
def s21_1 : List CI := [q0 4 (.mv (ks ⟨#[]⟩))]
def s21_2 : List CI := [q0 5 (.mv (ki 0))]
def s21_3 : List CI := [q0 11 (.mv (.tmp 5)), q0 12 (.faddr 0 (.tmp 1)), q0 13 (.load false 1 (.tmp 12)), q0 14 (.len false (.tmp 13)), q0 15 (.bin .lss (.tmp 11) (.tmp 14))]
def s21_4 : List CI := [q0 19 (.faddr 0 (.tmp 1)), q0 20 (.load false 1 (.tmp 19)), q0 21 (.mv (.tmp 5)), q0 22 (.iaddr 4 (.tmp 20) (.tmp 21)), q0 23 (.load true 4 (.tmp 22)), q0 24 (.call 17 [.tmp 23]), q0 18 (.mv (.tmp 24)), q0 25 (.extract (.tmp 18) 0), q0 26 (.extract (.tmp 18) 1), q0 6 (.mv (.tmp 25)), q0 7 (.mv (.tmp 26))]
def s21_5 : List CI := [q0 27 (.mv (.tmp 7)), q0 28 (.bin .neq (.tmp 27) (ki 0))]
def s21_6 : List CI := [q0 29 (.mv (.tmp 7)), q0 2 (.mv (ks ⟨#[]⟩)), q0 3 (.mv (.tmp 29))]
def s21_7 : List CI := [q0 30 (.mv (.tmp 4)), q0 31 (.mv (.tmp 6)), q0 32 (.bin .add (.tmp 30) (.tmp 31)), q0 33 (.bin .add (.tmp 32) (ks ⟨#[10]⟩)), q0 4 (.mv (.tmp 33))]
def s21_8 : List CI := [q0 16 (.mv (.tmp 5)), q0 17 (.bin .add (.tmp 16) (ki 1)), q0 5 (.mv (.tmp 17))]
def s21_9 : List CI := [q0 8 (.mv (ki 0))]
def s21_10 : List CI := [q0 34 (.mv (.tmp 8)), q0 35 (.faddr 1 (.tmp 1)), q0 36 (.load false 1 (.tmp 35)), q0 37 (.len false (.tmp 36)), q0 38 (.bin .lss (.tmp 34) (.tmp 37))]
def s21_11 : List CI := [q0 42 (.faddr 1 (.tmp 1)), q0 43 (.load false 1 (.tmp 42)), q0 44 (.mv (.tmp 8)), q0 45 (.iaddr 18 (.tmp 43) (.tmp 44)), q0 46 (.load true 18 (.tmp 45)), q0 47 (.call 19 [.tmp 46]), q0 41 (.mv (.tmp 47)), q0 48 (.extract (.tmp 41) 0), q0 49 (.extract (.tmp 41) 1), q0 9 (.mv (.tmp 48)), q0 10 (.mv (.tmp 49))]
def s21_12 : List CI := [q0 50 (.mv (.tmp 10)), q0 51 (.bin .neq (.tmp 50) (ki 0))]
def s21_13 : List CI := [q0 52 (.mv (.tmp 10)), q0 2 (.mv (ks ⟨#[]⟩)), q0 3 (.mv (.tmp 52))]
def s21_14 : List CI := [q0 53 (.mv (.tmp 4)), q0 54 (.mv (.tmp 9)), q0 55 (.bin .add (.tmp 53) (.tmp 54)), q0 56 (.bin .add (.tmp 55) (ks ⟨#[10]⟩)), q0 4 (.mv (.tmp 56))]
def s21_15 : List CI := [q0 39 (.mv (.tmp 8)), q0 40 (.bin .add (.tmp 39) (ki 1)), q0 8 (.mv (.tmp 40))]
def s21_16 : List CI := [q0 57 (.mv (.tmp 4)), q0 58 (.len true (.tmp 57)), q0 59 (.bin .gtr (.tmp 58) (ki 16384))]
def s21_17 : List CI := [q0 2 (.mv (ks ⟨#[]⟩)), q0 3 (.mv (ki 2))]
def s21_18 : List CI := [q0 60 (.mv (.tmp 4)), q0 2 (.mv (.tmp 60)), q0 3 (.mv (ki 0))]
def a21 : AC := (.seq (.reg s21_0) (.keep [1] (.seq (.reg s21_1) (.keep [1, 4] (.seq (.seq (.reg s21_2) (.keep [1, 4, 5] (.block 0 (.loop (.keep [1, 4, 5] (.seq (.seq (.reg s21_3) (.keep [1, 4, 5, 15] (.cond (.tmp 15) .skip (.exit 0)))) (.keep [1, 4, 5] (.seq (.block 1 (.seq (.reg s21_4) (.keep [1, 4, 5, 6, 7] (.seq (.seq (.reg s21_5) (.keep [1, 4, 5, 6, 7, 28] (.cond (.tmp 28) (.seq (.reg s21_6) .ret) .skip))) (.keep [1, 4, 5, 6] (.reg s21_7)))))) (.keep [1, 4, 5] (.reg s21_8)))))))))) (.keep [1, 4] (.seq (.seq (.reg s21_9) (.keep [1, 4, 8] (.block 2 (.loop (.keep [1, 4, 8] (.seq (.seq (.reg s21_10) (.keep [1, 4, 8, 38] (.cond (.tmp 38) .skip (.exit 2)))) (.keep [1, 4, 8] (.seq (.block 3 (.seq (.reg s21_11) (.keep [1, 4, 8, 9, 10] (.seq (.seq (.reg s21_12) (.keep [1, 4, 8, 9, 10, 51] (.cond (.tmp 51) (.seq (.reg s21_13) .ret) .skip))) (.keep [1, 4, 8, 9] (.reg s21_14)))))) (.keep [1, 4, 8] (.reg s21_15)))))))))) (.keep [4] (.seq (.seq (.reg s21_16) (.keep [4, 59] (.cond (.tmp 59) (.seq (.reg s21_17) .ret) .skip))) (.keep [4] (.seq (.reg s21_18) .ret)))))))))))
def c21 : FC := ⟨61, a21.erase, [.tmp 2, .tmp 3]⟩
theorem comp21 : compF Tryz.prog Tryz.f21 = some c21 := by kernel_rfl
theorem era21 : c21.code = a21.erase := rfl
def s22_0 : List CI := [q0 2 (.alloc 29 (.agg #[.int .i64 0, .string ⟨#[]⟩, .string ⟨#[]⟩, .string ⟨#[]⟩, .int .i64 0, .int .i64 0, .string ⟨#[]⟩, .slice none 0 0, .int .i64 0, .int .i64 0, .int .i64 0, .slice none 0 0]))]
def s22_1 : List CI := [q0 3 (.mv (.tmp 0)), q0 4 (.build [.int .i64 0, .string ⟨#[]⟩, .string ⟨#[]⟩, .string ⟨#[]⟩, .int .i64 0, .int .i64 0, .string ⟨#[]⟩, .slice none 0 0, .int .i64 0, .int .i64 0, .int .i64 0, .slice none 0 0] [(0, 1, ki 3), (2, 1, .tmp 3)]), .mk none (.store 12 (.tmp 2) (.tmp 4)) none]
def a22 : AC := (.seq (.reg s22_0) (.keep [0, 2] (.seq (.reg s22_1) .ret)))
def c22 : FC := ⟨5, a22.erase, [.cell 2 true 12]⟩
theorem comp22 : compF Tryz.prog Tryz.f22 = some c22 := by kernel_rfl
theorem era22 : c22.code = a22.erase := rfl
def s23_0 : List CI := [q0 2 (.box 29 (.tmp 0)), q0 4 (.mv kF)]
def s23_1 : List CI := [q0 8 (.load true 12 (.tmp 2)), q0 9 (.call 9 [.tmp 8]), q0 7 (.mv (.tmp 9)), q0 10 (.extract (.tmp 7) 0), q0 11 (.extract (.tmp 7) 1), q0 5 (.mv (.tmp 10)), q0 6 (.mv (.tmp 11))]
def s23_2 : List CI := [q0 12 (.mv (.tmp 5)), q0 13 (.mv (.tmp 1)), q0 14 (.bin .eql (.tmp 12) (.tmp 13)), q0 15 (.mv (.tmp 14)), q1 16 (.mv (.tmp 6)) 15 true, q1 17 (.bin .eql (.tmp 16) (ki 0)) 15 true, q0 18 (.pick (.tmp 15) (.tmp 17) kF), q0 4 (.mv (.tmp 18))]
def a23 : AC := (.seq (.reg s23_0) (.keep [1, 2] (.seq (.reg s23_1) (.keep [1, 5, 6] (.seq (.reg s23_2) .ret)))))
def c23 : FC := ⟨19, a23.erase, [.tmp 4]⟩
theorem comp23 : compF Tryz.prog Tryz.f23 = some c23 := by kernel_rfl
theorem era23 : c23.code = a23.erase := rfl
def s24_0 : List CI := [q0 4 (.box 29 (.tmp 1)), q0 5 (.box 29 (.tmp 2)), q0 6 (.alloc 29 (.agg #[.int .i64 0, .string ⟨#[]⟩, .string ⟨#[]⟩, .string ⟨#[]⟩, .int .i64 0, .int .i64 0, .string ⟨#[]⟩, .slice none 0 0, .int .i64 0, .int .i64 0, .int .i64 0, .slice none 0 0]))]
def s24_1 : List CI := [q0 7 (.mv (.tmp 0)), q0 8 (.load true 12 (.tmp 4)), q0 9 (.load true 12 (.tmp 5)), q0 10 (.mksl 29 12 [.tmp 8, .tmp 9]), q0 11 (.build [.int .i64 0, .string ⟨#[]⟩, .string ⟨#[]⟩, .string ⟨#[]⟩, .int .i64 0, .int .i64 0, .string ⟨#[]⟩, .slice none 0 0, .int .i64 0, .int .i64 0, .int .i64 0, .slice none 0 0] [(0, 1, ki 7), (1, 1, .tmp 7), (11, 1, .tmp 10)]), .mk none (.store 12 (.tmp 6) (.tmp 11)) none]
def a24 : AC := (.seq (.reg s24_0) (.keep [0, 4, 5, 6] (.seq (.reg s24_1) .ret)))
def c24 : FC := ⟨12, a24.erase, [.cell 6 true 12]⟩
theorem comp24 : compF Tryz.prog Tryz.f24 = some c24 := by kernel_rfl
theorem era24 : c24.code = a24.erase := rfl
def s25_0 : List CI := [q0 3 (.box 29 (.tmp 1)), q0 4 (.alloc 29 (.agg #[.int .i64 0, .string ⟨#[]⟩, .string ⟨#[]⟩, .string ⟨#[]⟩, .int .i64 0, .int .i64 0, .string ⟨#[]⟩, .slice none 0 0, .int .i64 0, .int .i64 0, .int .i64 0, .slice none 0 0]))]
def s25_1 : List CI := [q0 5 (.mv (.tmp 0)), q0 6 (.load true 12 (.tmp 3)), q0 7 (.mksl 29 12 [.tmp 6]), q0 8 (.build [.int .i64 0, .string ⟨#[]⟩, .string ⟨#[]⟩, .string ⟨#[]⟩, .int .i64 0, .int .i64 0, .string ⟨#[]⟩, .slice none 0 0, .int .i64 0, .int .i64 0, .int .i64 0, .slice none 0 0] [(0, 1, ki 6), (1, 1, .tmp 5), (11, 1, .tmp 7)]), .mk none (.store 12 (.tmp 4) (.tmp 8)) none]
def a25 : AC := (.seq (.reg s25_0) (.keep [0, 3, 4] (.seq (.reg s25_1) .ret)))
def c25 : FC := ⟨9, a25.erase, [.cell 4 true 12]⟩
theorem comp25 : compF Tryz.prog Tryz.f25 = some c25 := by kernel_rfl
theorem era25 : c25.code = a25.erase := rfl
def s27_0 : List CI := [q0 2 (.alloc 29 (.agg #[.int .i64 0, .string ⟨#[]⟩, .string ⟨#[]⟩, .string ⟨#[]⟩, .int .i64 0, .int .i64 0, .string ⟨#[]⟩, .slice none 0 0, .int .i64 0, .int .i64 0, .int .i64 0, .slice none 0 0]))]
def s27_1 : List CI := [q0 3 (.mv (.tmp 0)), q0 4 (.build [.int .i64 0, .string ⟨#[]⟩, .string ⟨#[]⟩, .string ⟨#[]⟩, .int .i64 0, .int .i64 0, .string ⟨#[]⟩, .slice none 0 0, .int .i64 0, .int .i64 0, .int .i64 0, .slice none 0 0] [(0, 1, ki 2), (2, 1, .tmp 3)]), .mk none (.store 12 (.tmp 2) (.tmp 4)) none]
def a27 : AC := (.seq (.reg s27_0) (.keep [0, 2] (.seq (.reg s27_1) .ret)))
def c27 : FC := ⟨5, a27.erase, [.cell 2 true 12]⟩
theorem comp27 : compF Tryz.prog Tryz.f27 = some c27 := by kernel_rfl
theorem era27 : c27.code = a27.erase := rfl
def s32_0 : List CI := [q0 1 (.box 67 (.tmp 0)), q0 2 (.mv (ks ⟨#[]⟩))]
def s32_1 : List CI := [q0 4 (.exts (.makeMap 92 none) 92 [] []), .mk none (.exts (.insert 92 (.tmp 4) (ki 1) (.func 56)) 0 [.mp 3 91, .int .i64] [.tmp 4, ki 1, .func 56]) none, .mk none (.exts (.insert 92 (.tmp 4) (ki 2) (.func 57)) 0 [.mp 3 91, .int .i64] [.tmp 4, ki 2, .func 57]) none, .mk none (.exts (.insert 92 (.tmp 4) (ki 3) (.func 57)) 0 [.mp 3 91, .int .i64] [.tmp 4, ki 3, .func 57]) none, .mk none (.exts (.insert 92 (.tmp 4) (ki 4) (.func 58)) 0 [.mp 3 91, .int .i64] [.tmp 4, ki 4, .func 58]) none, .mk none (.exts (.insert 92 (.tmp 4) (ki 5) (.func 59)) 0 [.mp 3 91, .int .i64] [.tmp 4, ki 5, .func 59]) none, .mk none (.exts (.insert 92 (.tmp 4) (ki 6) (.func 60)) 0 [.mp 3 91, .int .i64] [.tmp 4, ki 6, .func 60]) none, .mk none (.exts (.insert 92 (.tmp 4) (ki 7) (.func 61)) 0 [.mp 3 91, .int .i64] [.tmp 4, ki 7, .func 61]) none, .mk none (.exts (.insert 92 (.tmp 4) (ki 8) (.func 62)) 0 [.mp 3 91, .int .i64] [.tmp 4, ki 8, .func 62]) none, .mk none (.exts (.insert 92 (.tmp 4) (ki 9) (.func 63)) 0 [.mp 3 91, .int .i64] [.tmp 4, ki 9, .func 63]) none, q0 5 (.mv (.tmp 4)), q0 3 (.mv (.tmp 5))]
def s32_2 : List CI := [q0 6 (.mv (.tmp 3)), q0 7 (.faddr 0 (.tmp 1)), q0 8 (.faddr 0 (.tmp 7)), q0 9 (.load false 1 (.tmp 8)), q0 10 (.extq (.lookup 92 (.tmp 6) (.tmp 9) false) 91 [.mp 3 91, .int .i64] [.tmp 6, .tmp 9]), q0 11 (.load true 12 (.tmp 1)), q0 12 (.callv (.tmp 10) [.tmp 11]), q0 2 (.mv (.tmp 12))]
def a32 : AC := (.seq (.reg s32_0) (.keep [1] (.seq (.reg s32_1) (.keep [1, 3] (.seq (.reg s32_2) .ret)))))
def c32 : FC := ⟨13, a32.erase, [.tmp 2]⟩
theorem comp32 : compF Tryz.prog Tryz.f32 = some c32 := by kernel_rfl
theorem era32 : c32.code = a32.erase := rfl
def s34_0 : List CI := [q0 1 (.box 29 (.tmp 0)), q0 2 (.mv (ks ⟨#[]⟩))]
def s34_1 : List CI := [q0 3 (.faddr 0 (.tmp 1)), q0 4 (.load false 1 (.tmp 3))]
def s34_2 : List CI := [q0 6 (.bin .eql (.tmp 4) (ki 1)), q0 5 (.mv (.tmp 6))]
def s34_3 : List CI := [q0 7 (.load true 12 (.tmp 1)), q0 8 (.call 65 [.tmp 7]), q0 2 (.mv (.tmp 8))]
def s34_4 : List CI := [q0 10 (.bin .eql (.tmp 4) (ki 4)), q0 9 (.mv (.tmp 10))]
def s34_5 : List CI := [q0 11 (.faddr 2 (.tmp 1)), q0 12 (.load false 1 (.tmp 11)), q0 13 (.bin .add (.tmp 12) (ks ⟨#[32, 111, 102, 32, 40]⟩)), q0 14 (.faddr 11 (.tmp 1)), q0 15 (.load false 1 (.tmp 14)), q0 16 (.iaddr 12 (.tmp 15) (ki 0)), q0 17 (.load true 12 (.tmp 16)), q0 18 (.call 34 [.tmp 17]), q0 19 (.bin .add (.tmp 13) (.tmp 18)), q0 20 (.bin .add (.tmp 19) (ks ⟨#[41]⟩)), q0 2 (.mv (.tmp 20))]
def s34_6 : List CI := [q0 22 (.bin .eql (.tmp 4) (ki 5)), q0 21 (.mv (.tmp 22))]
def s34_7 : List CI := [q0 23 (.load true 12 (.tmp 1)), q0 24 (.call 66 [.tmp 23]), q0 2 (.mv (.tmp 24))]
def s34_8 : List CI := [q0 26 (.bin .eql (.tmp 4) (ki 6)), q0 25 (.mv (.tmp 26))]
def s34_9 : List CI := [q0 27 (.load true 12 (.tmp 1)), q0 28 (.call 67 [.tmp 27]), q0 2 (.mv (.tmp 28))]
def s34_10 : List CI := [q0 30 (.bin .eql (.tmp 4) (ki 7)), q0 29 (.mv (.tmp 30))]
def s34_11 : List CI := [q0 31 (.load true 12 (.tmp 1)), q0 32 (.call 68 [.tmp 31]), q0 2 (.mv (.tmp 32))]
def s34_12 : List CI := [q0 34 (.bin .eql (.tmp 4) (ki 8)), q0 33 (.mv (.tmp 34))]
def s34_13 : List CI := [q0 35 (.faddr 11 (.tmp 1)), q0 36 (.load false 1 (.tmp 35)), q0 37 (.iaddr 12 (.tmp 36) (ki 0)), q0 38 (.load true 12 (.tmp 37)), q0 39 (.call 34 [.tmp 38]), q0 40 (.bin .add (ks ⟨#[105, 102, 32]⟩) (.tmp 39)), q0 41 (.bin .add (.tmp 40) (ks ⟨#[32, 116, 104, 101, 110, 32]⟩)), q0 42 (.faddr 11 (.tmp 1)), q0 43 (.load false 1 (.tmp 42)), q0 44 (.iaddr 12 (.tmp 43) (ki 1)), q0 45 (.load true 12 (.tmp 44)), q0 46 (.call 34 [.tmp 45]), q0 47 (.bin .add (.tmp 41) (.tmp 46)), q0 48 (.bin .add (.tmp 47) (ks ⟨#[32, 101, 108, 115, 101, 32]⟩)), q0 49 (.faddr 11 (.tmp 1)), q0 50 (.load false 1 (.tmp 49)), q0 51 (.iaddr 12 (.tmp 50) (ki 2)), q0 52 (.load true 12 (.tmp 51)), q0 53 (.call 34 [.tmp 52]), q0 54 (.bin .add (.tmp 48) (.tmp 53)), q0 2 (.mv (.tmp 54))]
def s34_14 : List CI := [q0 56 (.bin .eql (.tmp 4) (ki 9)), q0 55 (.mv (.tmp 56))]
def s34_15 : List CI := [q0 57 (.faddr 11 (.tmp 1)), q0 58 (.load false 1 (.tmp 57)), q0 59 (.iaddr 12 (.tmp 58) (ki 0)), q0 60 (.load true 12 (.tmp 59)), q0 61 (.call 69 [.tmp 60, ki 1]), q0 62 (.bin .add (.tmp 61) (ks ⟨#[32, 100, 101, 102, 97, 117, 108, 116, 32]⟩)), q0 63 (.faddr 11 (.tmp 1)), q0 64 (.load false 1 (.tmp 63)), q0 65 (.iaddr 12 (.tmp 64) (ki 1)), q0 66 (.load true 12 (.tmp 65)), q0 67 (.call 69 [.tmp 66, ki 2]), q0 68 (.bin .add (.tmp 62) (.tmp 67)), q0 2 (.mv (.tmp 68))]
def s34_16 : List CI := [q0 69 (.faddr 2 (.tmp 1)), q0 70 (.load false 1 (.tmp 69)), q0 2 (.mv (.tmp 70))]
def a34 : AC := (.seq (.reg s34_0) (.keep [1] (.seq (.seq (.reg s34_1) (.keep [1, 4] (.block 0 (.seq (.reg s34_2) (.keep [1, 4, 5] (.cond (.tmp 5) (.seq (.reg s34_3) .ret) (.seq (.reg s34_4) (.keep [1, 4, 9] (.cond (.tmp 9) (.seq (.dreg s34_5) .ret) (.seq (.reg s34_6) (.keep [1, 4, 21] (.cond (.tmp 21) (.seq (.reg s34_7) .ret) (.seq (.reg s34_8) (.keep [1, 4, 25] (.cond (.tmp 25) (.seq (.reg s34_9) .ret) (.seq (.reg s34_10) (.keep [1, 4, 29] (.cond (.tmp 29) (.seq (.reg s34_11) .ret) (.seq (.reg s34_12) (.keep [1, 4, 33] (.cond (.tmp 33) (.seq (.dreg s34_13) .ret) (.seq (.reg s34_14) (.keep [1, 55] (.cond (.tmp 55) (.seq (.dreg s34_15) .ret) .skip)))))))))))))))))))))))) (.keep [1] (.seq (.reg s34_16) .ret)))))
def c34 : FC := ⟨71, a34.erase, [.tmp 2]⟩
theorem comp34 : compF Tryz.prog Tryz.f34 = some c34 := by kernel_rfl
theorem era34 : c34.code = a34.erase := rfl
def s36_0 : List CI := [q0 1 (.box 38 (.tmp 0)), q0 2 (.mv (ks ⟨#[]⟩))]
def s36_1 : List CI := [q0 3 (.faddr 0 (.tmp 1)), q0 4 (.load false 1 (.tmp 3))]
def s36_2 : List CI := [q0 6 (.bin .eql (.tmp 4) (ki 1)), q0 5 (.mv (.tmp 6))]
def s36_3 : List CI := [q0 2 (.mv (ks ⟨#[98, 111, 111, 108]⟩))]
def s36_4 : List CI := [q0 8 (.bin .eql (.tmp 4) (ki 4)), q0 7 (.mv (.tmp 8))]
def s36_5 : List CI := [q0 2 (.mv (ks ⟨#[116, 101, 120, 116]⟩))]
def s36_6 : List CI := [q0 10 (.bin .eql (.tmp 4) (ki 5)), q0 9 (.mv (.tmp 10))]
def s36_7 : List CI := [q0 11 (.faddr 2 (.tmp 1)), q0 12 (.load false 1 (.tmp 11)), q0 13 (.mksl 9 1 [ks ⟨#[107, 101, 121, 32]⟩, .tmp 12]), q0 14 (.call 42 [.tmp 13]), q0 2 (.mv (.tmp 14))]
def s36_8 : List CI := [q0 16 (.bin .eql (.tmp 4) (ki 2)), q0 15 (.mv (.tmp 16))]
def s36_9 : List CI := [q0 17 (.faddr 1 (.tmp 1)), q0 18 (.load false 1 (.tmp 17)), q0 19 (.call 74 [.tmp 18]), q0 20 (.mksl 9 1 [ks ⟨#[105, 110, 116]⟩, .tmp 19]), q0 21 (.call 42 [.tmp 20]), q0 2 (.mv (.tmp 21))]
def s36_10 : List CI := [q0 22 (.faddr 1 (.tmp 1)), q0 23 (.load false 1 (.tmp 22)), q0 24 (.call 74 [.tmp 23]), q0 25 (.mksl 9 1 [ks ⟨#[100, 101, 99]⟩, .tmp 24]), q0 26 (.call 42 [.tmp 25]), q0 2 (.mv (.tmp 26))]
def a36 : AC := (.seq (.reg s36_0) (.keep [1] (.seq (.seq (.reg s36_1) (.keep [1, 4] (.block 0 (.seq (.reg s36_2) (.keep [1, 4, 5] (.cond (.tmp 5) (.seq (.reg s36_3) .ret) (.seq (.reg s36_4) (.keep [1, 4, 7] (.cond (.tmp 7) (.seq (.reg s36_5) .ret) (.seq (.reg s36_6) (.keep [1, 4, 9] (.cond (.tmp 9) (.seq (.reg s36_7) .ret) (.seq (.reg s36_8) (.keep [1, 15] (.cond (.tmp 15) (.seq (.reg s36_9) .ret) .skip))))))))))))))) (.keep [1] (.seq (.reg s36_10) .ret)))))
def c36 : FC := ⟨27, a36.erase, [.tmp 2]⟩
theorem comp36 : compF Tryz.prog Tryz.f36 = some c36 := by kernel_rfl
theorem era36 : c36.code = a36.erase := rfl
def s38_0 : List CI := [q0 1 (.box 38 (.tmp 0)), q0 2 (.mv (ks ⟨#[]⟩))]
def s38_1 : List CI := [q0 3 (.faddr 0 (.tmp 1)), q0 4 (.load false 1 (.tmp 3))]
def s38_2 : List CI := [q0 6 (.bin .eql (.tmp 4) (ki 1)), q0 5 (.mv (.tmp 6))]
def s38_3 : List CI := [q0 2 (.mv (ks ⟨#[98, 111, 111, 108]⟩))]
def s38_4 : List CI := [q0 8 (.bin .eql (.tmp 4) (ki 4)), q0 7 (.mv (.tmp 8))]
def s38_5 : List CI := [q0 2 (.mv (ks ⟨#[116, 101, 120, 116]⟩))]
def s38_6 : List CI := [q0 10 (.bin .eql (.tmp 4) (ki 5)), q0 9 (.mv (.tmp 10))]
def s38_7 : List CI := [q0 11 (.faddr 2 (.tmp 1)), q0 12 (.load false 1 (.tmp 11)), q0 13 (.bin .add (ks ⟨#[107, 101, 121, 32]⟩) (.tmp 12)), q0 2 (.mv (.tmp 13))]
def s38_8 : List CI := [q0 15 (.bin .eql (.tmp 4) (ki 2)), q0 14 (.mv (.tmp 15))]
def s38_9 : List CI := [q0 16 (.faddr 1 (.tmp 1)), q0 17 (.load false 1 (.tmp 16)), q0 18 (.call 77 [.tmp 17]), q0 19 (.bin .add (ks ⟨#[105, 110, 116]⟩) (.tmp 18)), q0 2 (.mv (.tmp 19))]
def s38_10 : List CI := [q0 20 (.faddr 1 (.tmp 1)), q0 21 (.load false 1 (.tmp 20)), q0 22 (.call 77 [.tmp 21]), q0 23 (.bin .add (ks ⟨#[100, 101, 99]⟩) (.tmp 22)), q0 2 (.mv (.tmp 23))]
def a38 : AC := (.seq (.reg s38_0) (.keep [1] (.seq (.seq (.reg s38_1) (.keep [1, 4] (.block 0 (.seq (.reg s38_2) (.keep [1, 4, 5] (.cond (.tmp 5) (.seq (.reg s38_3) .ret) (.seq (.reg s38_4) (.keep [1, 4, 7] (.cond (.tmp 7) (.seq (.reg s38_5) .ret) (.seq (.reg s38_6) (.keep [1, 4, 9] (.cond (.tmp 9) (.seq (.reg s38_7) .ret) (.seq (.reg s38_8) (.keep [1, 14] (.cond (.tmp 14) (.seq (.reg s38_9) .ret) .skip))))))))))))))) (.keep [1] (.seq (.reg s38_10) .ret)))))
def c38 : FC := ⟨24, a38.erase, [.tmp 2]⟩
theorem comp38 : compF Tryz.prog Tryz.f38 = some c38 := by kernel_rfl
theorem era38 : c38.code = a38.erase := rfl
def s39_0 : List CI := [q0 1 (.box 50 (.tmp 0)), q0 2 (.mv kF)]
def s39_1 : List CI := [q0 3 (.mv (ki 0))]
def s39_2 : List CI := [q0 4 (.mv (.tmp 3)), q0 5 (.faddr 2 (.tmp 1)), q0 6 (.load false 1 (.tmp 5)), q0 7 (.len false (.tmp 6)), q0 8 (.bin .lss (.tmp 4) (.tmp 7))]
def s39_3 : List CI := [q0 11 (.faddr 2 (.tmp 1)), q0 12 (.load false 1 (.tmp 11)), q0 13 (.mv (.tmp 3)), q0 14 (.iaddr 4 (.tmp 12) (.tmp 13)), q0 15 (.faddr 0 (.tmp 14)), q0 16 (.load false 1 (.tmp 15)), q0 17 (.len true (.tmp 16)), q0 18 (.bin .gtr (.tmp 17) (ki 100)), q0 19 (.mv (.tmp 18)), q1 20 (.faddr 2 (.tmp 1)) 19 false, q1 21 (.load false 1 (.tmp 20)) 19 false, q1 22 (.mv (.tmp 3)) 19 false, q1 23 (.iaddr 4 (.tmp 21) (.tmp 22)) 19 false, q1 24 (.faddr 1 (.tmp 23)) 19 false, q1 25 (.load true 3 (.tmp 24)) 19 false, q1 26 (.call 11 [.tmp 25]) 19 false, q1 27 (.un .not (.tmp 26)) 19 false, q0 28 (.pick (.tmp 19) kT (.tmp 27))]
def s39_4 : List CI := [q0 2 (.mv kF)]
def s39_5 : List CI := [q0 9 (.mv (.tmp 3)), q0 10 (.bin .add (.tmp 9) (ki 1)), q0 3 (.mv (.tmp 10))]
def s39_6 : List CI := [q0 29 (.faddr 2 (.tmp 1)), q0 30 (.load false 1 (.tmp 29)), q0 31 (.len false (.tmp 30)), q0 32 (.bin .leq (.tmp 31) (ki 12)), q0 33 (.mv (.tmp 32)), q1 34 (.faddr 0 (.tmp 1)) 33 true, q1 35 (.load false 1 (.tmp 34)) 33 true, q1 36 (.len true (.tmp 35)) 33 true, q1 37 (.faddr 1 (.tmp 1)) 33 true, q1 38 (.load false 1 (.tmp 37)) 33 true, q1 39 (.len true (.tmp 38)) 33 true, q1 40 (.bin .add (.tmp 36) (.tmp 39)) 33 true, q1 41 (.bin .leq (.tmp 40) (ki 200)) 33 true, q0 42 (.pick (.tmp 33) (.tmp 41) kF), q0 2 (.mv (.tmp 42))]
def a39 : AC := (.seq (.reg s39_0) (.keep [1] (.seq (.seq (.reg s39_1) (.keep [1, 3] (.block 0 (.loop (.keep [1, 3] (.seq (.seq (.reg s39_2) (.keep [1, 3, 8] (.cond (.tmp 8) .skip (.exit 0)))) (.keep [1, 3] (.seq (.block 1 (.seq (.reg s39_3) (.keep [1, 3, 28] (.cond (.tmp 28) (.seq (.reg s39_4) .ret) .skip)))) (.keep [1, 3] (.reg s39_5)))))))))) (.keep [1] (.seq (.reg s39_6) .ret)))))
def c39 : FC := ⟨43, a39.erase, [.tmp 2]⟩
theorem comp39 : compF Tryz.prog Tryz.f39 = some c39 := by kernel_rfl
theorem era39 : c39.code = a39.erase := rfl
def s40_0 : List CI := [q0 1 (.box 53 (.tmp 0)), q0 2 (.mv kF)]
def s40_1 : List CI := [q0 3 (.faddr 0 (.tmp 1)), q0 4 (.load false 1 (.tmp 3)), q0 5 (.len true (.tmp 4)), q0 6 (.faddr 1 (.tmp 1)), q0 7 (.load false 1 (.tmp 6)), q0 8 (.len true (.tmp 7)), q0 9 (.bin .add (.tmp 5) (.tmp 8)), q0 10 (.bin .leq (.tmp 9) (ki 200)), q0 11 (.mv (.tmp 10)), q1 12 (.faddr 2 (.tmp 1)) 11 true, q1 13 (.load true 3 (.tmp 12)) 11 true, q1 14 (.call 11 [.tmp 13]) 11 true, q0 15 (.pick (.tmp 11) (.tmp 14) kF), q0 16 (.mv (.tmp 15)), q1 17 (.faddr 5 (.tmp 1)) 16 true, q1 18 (.load true 12 (.tmp 17)) 16 true, q1 19 (.call 7 [.tmp 18, ki 80]) 16 true, q1 20 (.bin .geq (.tmp 19) (ki 0)) 16 true, q0 21 (.pick (.tmp 16) (.tmp 20) kF), q0 2 (.mv (.tmp 21))]
def a40 : AC := (.seq (.reg s40_0) (.keep [1] (.seq (.reg s40_1) .ret)))
def c40 : FC := ⟨22, a40.erase, [.tmp 2]⟩
theorem comp40 : compF Tryz.prog Tryz.f40 = some c40 := by kernel_rfl
theorem era40 : c40.code = a40.erase := rfl
def s41_0 : List CI := [q0 1 (.box 50 (.tmp 0)), q0 2 (.mv (ki 0))]
def s41_1 : List CI := [q0 6 (.faddr 0 (.tmp 1)), q0 7 (.load false 1 (.tmp 6)), q0 8 (.call 47 [.tmp 7]), q0 9 (.un .not (.tmp 8)), q0 10 (.mv (.tmp 9)), q1 11 (.faddr 1 (.tmp 1)) 10 false, q1 12 (.load false 1 (.tmp 11)) 10 false, q1 13 (.call 47 [.tmp 12]) 10 false, q1 14 (.un .not (.tmp 13)) 10 false, q0 15 (.pick (.tmp 10) kT (.tmp 14)), q0 16 (.mv (.tmp 15)), q1 17 (.faddr 3 (.tmp 1)) 16 false, q1 18 (.load false 1 (.tmp 17)) 16 false, q1 19 (.bin .lss (.tmp 18) (ki 0)) 16 false, q0 20 (.pick (.tmp 16) kT (.tmp 19)), q0 21 (.mv (.tmp 20)), q1 22 (.faddr 3 (.tmp 1)) 21 false, q1 23 (.load false 1 (.tmp 22)) 21 false, q1 24 (.bin .gtr (.tmp 23) (ki 1099511627776)) 21 false, q0 25 (.pick (.tmp 21) kT (.tmp 24))]
def s41_2 : List CI := [q0 2 (.mv (ki 3))]
def s41_3 : List CI := [q0 26 (.faddr 2 (.tmp 1)), q0 27 (.load false 1 (.tmp 26)), q0 28 (.len false (.tmp 27)), q0 29 (.bin .gtr (.tmp 28) (ki 8))]
def s41_4 : List CI := [q0 2 (.mv (ki 2))]
def s41_5 : List CI := [q0 30 (.faddr 2 (.tmp 1)), q0 31 (.load false 1 (.tmp 30)), q0 32 (.len false (.tmp 31)), q0 33 (.mv (ki 0))]
def s41_6 : List CI := [q0 34 (.bin .lss (.tmp 33) (.tmp 32))]
def s41_7 : List CI := [q0 35 (.mv (.tmp 33)), q0 36 (.iaddr 4 (.tmp 31) (.tmp 33)), q0 37 (.load true 4 (.tmp 36)), q0 4 (.alloc 63 (.agg #[.string ⟨#[]⟩, .int .i64 0, .slice none 0 0, .string ⟨#[]⟩])), q0 3 (.mv (.tmp 35)), .mk none (.store 4 (.tmp 4) (.tmp 37)) none]
def s41_8 : List CI := [q0 38 (.faddr 0 (.tmp 4)), q0 39 (.load false 1 (.tmp 38)), q0 40 (.call 47 [.tmp 39]), q0 41 (.un .not (.tmp 40))]
def s41_9 : List CI := [q0 2 (.mv (ki 3))]
def s41_10 : List CI := [q0 42 (.faddr 2 (.tmp 1)), q0 43 (.load false 1 (.tmp 42)), q0 44 (.mv (.tmp 3)), q0 45 (.slice 4 (.tmp 43) none (some (.tmp 44))), q0 46 (.mkfn (Fn.func 79) [] [.tmp 4]), q0 47 (.call 78 [.tmp 45, .tmp 46])]
def s41_11 : List CI := [q0 2 (.mv (ki 121))]
def s41_12 : List CI := [q0 48 (.faddr 1 (.tmp 4)), q0 49 (.load true 3 (.tmp 48)), q0 50 (.call 35 [.tmp 49]), q0 5 (.mv (.tmp 50))]
def s41_13 : List CI := [q0 51 (.mv (.tmp 5)), q0 52 (.bin .neq (.tmp 51) (ki 0))]
def s41_14 : List CI := [q0 53 (.mv (.tmp 5)), q0 2 (.mv (.tmp 53))]
def s41_15 : List CI := [q0 54 (.bin .add (.tmp 33) (ki 1)), q0 33 (.mv (.tmp 54))]
def s41_16 : List CI := [q0 2 (.mv (ki 0))]
def a41 : AC := (.seq (.reg s41_0) (.keep [1] (.seq (.seq (.reg s41_1) (.keep [1, 25] (.cond (.tmp 25) (.seq (.reg s41_2) .ret) .skip))) (.keep [1] (.seq (.seq (.reg s41_3) (.keep [1, 29] (.cond (.tmp 29) (.seq (.reg s41_4) .ret) .skip))) (.keep [1] (.seq (.seq (.reg s41_5) (.keep [1, 31, 32, 33] (.block 0 (.loop (.keep [1, 31, 32, 33] (.seq (.reg s41_6) (.keep [1, 31, 32, 33, 34] (.seq (.cond (.tmp 34) .skip (.exit 0)) (.keep [1, 31, 32, 33] (.seq (.block 1 (.seq (.reg s41_7) (.keep [1, 3, 4, 31, 32, 33] (.seq (.seq (.reg s41_8) (.keep [1, 3, 4, 31, 32, 33, 41] (.cond (.tmp 41) (.seq (.reg s41_9) .ret) .skip))) (.keep [1, 3, 4, 31, 32, 33] (.seq (.seq (.reg s41_10) (.keep [1, 4, 31, 32, 33, 47] (.cond (.tmp 47) (.seq (.reg s41_11) .ret) .skip))) (.keep [1, 4, 31, 32, 33] (.seq (.reg s41_12) (.keep [1, 5, 31, 32, 33] (.seq (.reg s41_13) (.keep [1, 5, 31, 32, 33, 52] (.cond (.tmp 52) (.seq (.reg s41_14) .ret) .skip)))))))))))) (.keep [1, 31, 32, 33] (.reg s41_15)))))))))))) (.keep [] (.seq (.reg s41_16) .ret)))))))))
def c41 : FC := ⟨55, a41.erase, [.tmp 2]⟩
theorem comp41 : compF Tryz.prog Tryz.f41 = some c41 := by kernel_rfl
theorem era41 : c41.code = a41.erase := rfl
def s42_0 : List CI := [q0 2 (.mv (ks ⟨#[]⟩))]
def s42_1 : List CI := [q0 3 (.mv (.tmp 0)), q0 4 (.call 43 [.tmp 3, ks ⟨#[]⟩]), q0 2 (.mv (.tmp 4))]
def a42 : AC := (.seq (.reg s42_0) (.keep [0] (.seq (.reg s42_1) .ret)))
def c42 : FC := ⟨5, a42.erase, [.tmp 2]⟩
theorem comp42 : compF Tryz.prog Tryz.f42 = some c42 := by kernel_rfl
theorem era42 : c42.code = a42.erase := rfl
def s45_0 : List CI := [q0 1 (.box 50 (.tmp 0)), q0 2 (.mv (ki 0))]
def s45_1 : List CI := [q0 6 (.faddr 0 (.tmp 1)), q0 7 (.load false 1 (.tmp 6)), q0 8 (.call 48 [.tmp 7]), q0 9 (.un .not (.tmp 8)), q0 10 (.mv (.tmp 9)), q1 11 (.faddr 1 (.tmp 1)) 10 false, q1 12 (.load false 1 (.tmp 11)) 10 false, q1 13 (.call 48 [.tmp 12]) 10 false, q1 14 (.un .not (.tmp 13)) 10 false, q0 15 (.pick (.tmp 10) kT (.tmp 14)), q0 16 (.mv (.tmp 15)), q1 17 (.faddr 3 (.tmp 1)) 16 false, q1 18 (.load false 1 (.tmp 17)) 16 false, q1 19 (.bin .lss (.tmp 18) (ki 0)) 16 false, q0 20 (.pick (.tmp 16) kT (.tmp 19)), q0 21 (.mv (.tmp 20)), q1 22 (.faddr 3 (.tmp 1)) 21 false, q1 23 (.load false 1 (.tmp 22)) 21 false, q1 24 (.bin .gtr (.tmp 23) (ki 1099511627776)) 21 false, q0 25 (.pick (.tmp 21) kT (.tmp 24))]
def s45_2 : List CI := [q0 2 (.mv (ki 3))]
def s45_3 : List CI := [q0 26 (.faddr 2 (.tmp 1)), q0 27 (.load false 1 (.tmp 26)), q0 28 (.len false (.tmp 27)), q0 29 (.bin .gtr (.tmp 28) (ki 8))]
def s45_4 : List CI := [q0 2 (.mv (ki 2))]
def s45_5 : List CI := [q0 3 (.mv (ki 0))]
def s45_6 : List CI := [q0 30 (.mv (.tmp 3)), q0 31 (.faddr 2 (.tmp 1)), q0 32 (.load false 1 (.tmp 31)), q0 33 (.len false (.tmp 32)), q0 34 (.bin .lss (.tmp 30) (.tmp 33))]
def s45_7 : List CI := [q0 37 (.faddr 2 (.tmp 1)), q0 38 (.load false 1 (.tmp 37)), q0 39 (.mv (.tmp 3)), q0 40 (.iaddr 4 (.tmp 38) (.tmp 39)), q0 41 (.faddr 0 (.tmp 40)), q0 42 (.load false 1 (.tmp 41)), q0 43 (.call 48 [.tmp 42]), q0 44 (.un .not (.tmp 43))]
def s45_8 : List CI := [q0 2 (.mv (ki 3))]
def s45_9 : List CI := [q0 4 (.mv (ki 0))]
def s45_10 : List CI := [q0 45 (.mv (.tmp 4)), q0 46 (.mv (.tmp 3)), q0 47 (.bin .lss (.tmp 45) (.tmp 46))]
def s45_11 : List CI := [q0 50 (.faddr 2 (.tmp 1)), q0 51 (.load false 1 (.tmp 50)), q0 52 (.mv (.tmp 4)), q0 53 (.iaddr 4 (.tmp 51) (.tmp 52)), q0 54 (.faddr 0 (.tmp 53)), q0 55 (.load false 1 (.tmp 54)), q0 56 (.faddr 2 (.tmp 1)), q0 57 (.load false 1 (.tmp 56)), q0 58 (.mv (.tmp 3)), q0 59 (.iaddr 4 (.tmp 57) (.tmp 58)), q0 60 (.faddr 0 (.tmp 59)), q0 61 (.load false 1 (.tmp 60)), q0 62 (.bin .eql (.tmp 55) (.tmp 61))]
def s45_12 : List CI := [q0 2 (.mv (ki 121))]
def s45_13 : List CI := [q0 48 (.mv (.tmp 4)), q0 49 (.bin .add (.tmp 48) (ki 1)), q0 4 (.mv (.tmp 49))]
def s45_14 : List CI := [q0 63 (.faddr 2 (.tmp 1)), q0 64 (.load false 1 (.tmp 63)), q0 65 (.mv (.tmp 3)), q0 66 (.iaddr 4 (.tmp 64) (.tmp 65)), q0 67 (.faddr 1 (.tmp 66)), q0 68 (.load true 3 (.tmp 67)), q0 69 (.call 37 [.tmp 68]), q0 5 (.mv (.tmp 69))]
def s45_15 : List CI := [q0 70 (.mv (.tmp 5)), q0 71 (.bin .neq (.tmp 70) (ki 0))]
def s45_16 : List CI := [q0 72 (.mv (.tmp 5)), q0 2 (.mv (.tmp 72))]
def s45_17 : List CI := [q0 35 (.mv (.tmp 3)), q0 36 (.bin .add (.tmp 35) (ki 1)), q0 3 (.mv (.tmp 36))]
def s45_18 : List CI := [q0 2 (.mv (ki 0))]
def a45 : AC := (.seq (.reg s45_0) (.keep [1] (.seq (.seq (.reg s45_1) (.keep [1, 25] (.cond (.tmp 25) (.seq (.reg s45_2) .ret) .skip))) (.keep [1] (.seq (.seq (.reg s45_3) (.keep [1, 29] (.cond (.tmp 29) (.seq (.reg s45_4) .ret) .skip))) (.keep [1] (.seq (.seq (.reg s45_5) (.keep [1, 3] (.block 0 (.loop (.keep [1, 3] (.seq (.seq (.reg s45_6) (.keep [1, 3, 34] (.cond (.tmp 34) .skip (.exit 0)))) (.keep [1, 3] (.seq (.block 1 (.seq (.seq (.reg s45_7) (.keep [1, 3, 44] (.cond (.tmp 44) (.seq (.reg s45_8) .ret) .skip))) (.keep [1, 3] (.seq (.seq (.reg s45_9) (.keep [1, 3, 4] (.block 2 (.loop (.keep [1, 3, 4] (.seq (.seq (.reg s45_10) (.keep [1, 3, 4, 47] (.cond (.tmp 47) .skip (.exit 2)))) (.keep [1, 3, 4] (.seq (.block 3 (.seq (.dreg s45_11) (.keep [1, 3, 4, 62] (.cond (.tmp 62) (.seq (.reg s45_12) .ret) .skip)))) (.keep [1, 3, 4] (.reg s45_13)))))))))) (.keep [1, 3] (.seq (.reg s45_14) (.keep [1, 3, 5] (.seq (.reg s45_15) (.keep [1, 3, 5, 71] (.cond (.tmp 71) (.seq (.reg s45_16) .ret) .skip)))))))))) (.keep [1, 3] (.reg s45_17)))))))))) (.keep [] (.seq (.reg s45_18) .ret)))))))))
def c45 : FC := ⟨73, a45.erase, [.tmp 2]⟩
theorem comp45 : compF Tryz.prog Tryz.f45 = some c45 := by kernel_rfl
theorem era45 : c45.code = a45.erase := rfl
def s46_0 : List CI := [q0 2 (.mv (ks ⟨#[]⟩))]
def s46_1 : List CI := [q0 3 (.mv (ks ⟨#[]⟩))]
def s46_2 : List CI := [q0 7 (.mv (.tmp 0)), q0 4 (.mv (.tmp 7))]
def s46_3 : List CI := [q0 5 (.mv (ki 0))]
def s46_4 : List CI := [q0 8 (.mv (.tmp 5)), q0 9 (.bin .lss (.tmp 8) (ki 1)), q0 10 (.mv (.tmp 9)), q1 11 (.mv (.tmp 4)) 10 false, q1 12 (.bin .neq (.tmp 11) (ki 0)) 10 false, q0 13 (.pick (.tmp 10) kT (.tmp 12))]
def s46_5 : List CI := [q0 16 (.mv (.tmp 4)), q0 17 (.bin .rem (.tmp 16) (ki 10)), q0 6 (.mv (.tmp 17))]
def s46_6 : List CI := [q0 18 (.mv (.tmp 6)), q0 19 (.bin .lss (.tmp 18) (ki 0))]
def s46_7 : List CI := [q0 20 (.mv (.tmp 6)), q0 21 (.un .neg (.tmp 20)), q0 6 (.mv (.tmp 21))]
def s46_8 : List CI := [q0 22 (.mv (.tmp 6)), q0 23 (.bin .add (ki 48) (.tmp 22)), q0 24 (.cvint .u8 (.tmp 23)), q0 25 (.mksl 5 1 [.tmp 24]), q0 26 (.extq (.convert 81 9 (.tmp 25)) 9 [.sl 5, .int .u8, .str, .other] [.tmp 25]), q0 27 (.mv (.tmp 3)), q0 28 (.bin .add (.tmp 26) (.tmp 27)), q0 3 (.mv (.tmp 28))]
def s46_9 : List CI := [q0 29 (.mv (.tmp 4)), q0 30 (.bin .quo (.tmp 29) (ki 10)), q0 4 (.mv (.tmp 30))]
def s46_10 : List CI := [q0 14 (.mv (.tmp 5)), q0 15 (.bin .add (.tmp 14) (ki 1)), q0 5 (.mv (.tmp 15))]
def s46_11 : List CI := [q0 31 (.mv (.tmp 0)), q0 32 (.bin .lss (.tmp 31) (ki 0))]
def s46_12 : List CI := [q0 33 (.mv (.tmp 3)), q0 34 (.bin .add (ks ⟨#[45]⟩) (.tmp 33)), q0 2 (.mv (.tmp 34))]
def s46_13 : List CI := [q0 35 (.mv (.tmp 3)), q0 2 (.mv (.tmp 35))]
def a46 : AC := (.seq (.reg s46_0) (.keep [0] (.seq (.reg s46_1) (.keep [0, 3] (.seq (.reg s46_2) (.keep [0, 3, 4] (.seq (.seq (.reg s46_3) (.keep [0, 3, 4, 5] (.block 0 (.loop (.keep [0, 3, 4, 5] (.seq (.seq (.reg s46_4) (.keep [0, 3, 4, 5, 13] (.cond (.tmp 13) .skip (.exit 0)))) (.keep [0, 3, 4, 5] (.seq (.block 1 (.seq (.reg s46_5) (.keep [0, 3, 4, 5, 6] (.seq (.seq (.reg s46_6) (.keep [0, 3, 4, 5, 6, 19] (.cond (.tmp 19) (.reg s46_7) .skip))) (.keep [0, 3, 4, 5, 6] (.seq (.reg s46_8) (.keep [0, 3, 4, 5] (.reg s46_9)))))))) (.keep [0, 3, 4, 5] (.reg s46_10)))))))))) (.keep [0, 3] (.seq (.seq (.reg s46_11) (.keep [3, 32] (.cond (.tmp 32) (.seq (.reg s46_12) .ret) .skip))) (.keep [3] (.seq (.reg s46_13) .ret)))))))))))
def c46 : FC := ⟨36, a46.erase, [.tmp 2]⟩
theorem comp46 : compF Tryz.prog Tryz.f46 = some c46 := by kernel_rfl
theorem era46 : c46.code = a46.erase := rfl
def s56_0 : List CI := [q0 1 (.box 67 (.tmp 0)), q0 2 (.mv (ks ⟨#[]⟩))]
def s56_1 : List CI := [q0 3 (.faddr 0 (.tmp 1)), q0 4 (.faddr 4 (.tmp 3)), q0 5 (.faddr 0 (.tmp 4)), q0 6 (.load false 1 (.tmp 5)), q0 7 (.bin .eql (.tmp 6) (ki 5))]
def s56_2 : List CI := [q0 8 (.faddr 0 (.tmp 1)), q0 9 (.faddr 2 (.tmp 8)), q0 10 (.load false 1 (.tmp 9)), q0 11 (.faddr 0 (.tmp 1)), q0 12 (.faddr 4 (.tmp 11)), q0 13 (.faddr 2 (.tmp 12)), q0 14 (.load false 1 (.tmp 13)), q0 15 (.mksl 9 1 [ks ⟨#[64]⟩, .tmp 10, ks ⟨#[32, 34]⟩, .tmp 14, ks ⟨#[34]⟩]), q0 16 (.call 42 [.tmp 15]), q0 2 (.mv (.tmp 16))]
def s56_3 : List CI := [q0 17 (.faddr 0 (.tmp 1)), q0 18 (.faddr 4 (.tmp 17)), q0 19 (.load true 3 (.tmp 18)), q0 20 (.call 93 [.tmp 19]), q0 21 (.faddr 0 (.tmp 1)), q0 22 (.faddr 7 (.tmp 21)), q0 23 (.load false 1 (.tmp 22)), q0 24 (.call 74 [.tmp 23]), q0 25 (.mksl 9 1 [.tmp 20, .tmp 24]), q0 26 (.call 42 [.tmp 25]), q0 2 (.mv (.tmp 26))]
def a56 : AC := (.seq (.reg s56_0) (.keep [1] (.seq (.seq (.reg s56_1) (.keep [1, 7] (.cond (.tmp 7) (.seq (.reg s56_2) .ret) .skip))) (.keep [1] (.seq (.dreg s56_3) .ret)))))
def c56 : FC := ⟨27, a56.erase, [.tmp 2]⟩
theorem comp56 : compF Tryz.prog Tryz.f56 = some c56 := by kernel_rfl
theorem era56 : c56.code = a56.erase := rfl
def s57_0 : List CI := [q0 1 (.box 67 (.tmp 0)), q0 2 (.mv (ks ⟨#[]⟩))]
def s57_1 : List CI := [q0 3 (.faddr 0 (.tmp 1)), q0 4 (.faddr 2 (.tmp 3)), q0 5 (.load false 1 (.tmp 4)), q0 2 (.mv (.tmp 5))]
def a57 : AC := (.seq (.reg s57_0) (.keep [1] (.seq (.reg s57_1) .ret)))
def c57 : FC := ⟨6, a57.erase, [.tmp 2]⟩
theorem comp57 : compF Tryz.prog Tryz.f57 = some c57 := by kernel_rfl
theorem era57 : c57.code = a57.erase := rfl
def s58_0 : List CI := [q0 1 (.box 67 (.tmp 0)), q0 2 (.mv (ks ⟨#[]⟩))]
def s58_1 : List CI := [q0 3 (.faddr 0 (.tmp 1)), q0 4 (.faddr 2 (.tmp 3)), q0 5 (.load false 1 (.tmp 4)), q0 6 (.load true 12 (.tmp 1)), q0 7 (.call 94 [.tmp 6, ki 0, ki 0]), q0 8 (.mksl 9 1 [.tmp 5, ks ⟨#[32, 111, 102, 32, 40]⟩, .tmp 7, ks ⟨#[41]⟩]), q0 9 (.call 42 [.tmp 8]), q0 2 (.mv (.tmp 9))]
def a58 : AC := (.seq (.reg s58_0) (.keep [1] (.seq (.dreg s58_1) .ret)))
def c58 : FC := ⟨10, a58.erase, [.tmp 2]⟩
theorem comp58 : compF Tryz.prog Tryz.f58 = some c58 := by kernel_rfl
theorem era58 : c58.code = a58.erase := rfl
def s59_0 : List CI := [q0 1 (.box 67 (.tmp 0)), q0 2 (.mv (ks ⟨#[]⟩))]
def s59_1 : List CI := [q0 5 (.faddr 0 (.tmp 1)), q0 6 (.faddr 1 (.tmp 5)), q0 7 (.load false 1 (.tmp 6)), q0 8 (.faddr 0 (.tmp 1)), q0 9 (.faddr 3 (.tmp 8)), q0 10 (.load false 1 (.tmp 9)), q0 11 (.mksl 9 1 [.tmp 7, ks ⟨#[40]⟩, .tmp 10]), q0 12 (.call 42 [.tmp 11]), q0 3 (.mv (.tmp 12))]
def s59_2 : List CI := [q0 13 (.faddr 0 (.tmp 1)), q0 14 (.faddr 1 (.tmp 13)), q0 15 (.load false 1 (.tmp 14)), q0 16 (.bin .neq (.tmp 15) (ks ⟨#[99, 111, 117, 110, 116]⟩))]
def s59_3 : List CI := [q0 17 (.mv (.tmp 3)), q0 18 (.load true 12 (.tmp 1)), q0 19 (.call 94 [.tmp 18, ki 0, ki 0]), q0 20 (.mksl 9 1 [.tmp 17, ks ⟨#[44, 32]⟩, .tmp 19]), q0 21 (.call 42 [.tmp 20]), q0 3 (.mv (.tmp 21))]
def s59_4 : List CI := [q0 22 (.faddr 0 (.tmp 1)), q0 23 (.faddr 8 (.tmp 22)), q0 24 (.load false 1 (.tmp 23)), q0 25 (.bin .neq (.tmp 24) (ki 0))]
def s59_5 : List CI := [q0 26 (.mv (.tmp 3)), q0 27 (.faddr 0 (.tmp 1)), q0 28 (.faddr 8 (.tmp 27)), q0 29 (.load false 1 (.tmp 28)), q0 30 (.call 44 [.tmp 29]), q0 31 (.mksl 9 1 [.tmp 26, ks ⟨#[44, 32]⟩, .tmp 30]), q0 32 (.call 42 [.tmp 31]), q0 3 (.mv (.tmp 32))]
def s59_6 : List CI := [q0 33 (.mv (.tmp 3)), q0 34 (.load true 12 (.tmp 1)), q0 35 (.call 95 [.tmp 34]), q0 36 (.mksl 9 1 [.tmp 33, ks ⟨#[44, 32]⟩, .tmp 35]), q0 37 (.call 42 [.tmp 36]), q0 3 (.mv (.tmp 37))]
def s59_7 : List CI := [q0 38 (.faddr 0 (.tmp 1)), q0 39 (.faddr 11 (.tmp 38)), q0 40 (.load false 1 (.tmp 39)), q0 41 (.iaddr 12 (.tmp 40) (ki 1)), q0 42 (.load true 12 (.tmp 41)), q0 4 (.alloc 29 (.agg #[.int .i64 0, .string ⟨#[]⟩, .string ⟨#[]⟩, .string ⟨#[]⟩, .int .i64 0, .int .i64 0, .string ⟨#[]⟩, .slice none 0 0, .int .i64 0, .int .i64 0, .int .i64 0, .slice none 0 0])), .mk none (.store 12 (.tmp 4) (.tmp 42)) none]
def s59_8 : List CI := [q0 43 (.faddr 0 (.tmp 4)), q0 44 (.load false 1 (.tmp 43)), q0 45 (.bin .neq (.tmp 44) (ki 1)), q0 46 (.mv (.tmp 45)), q1 47 (.faddr 4 (.tmp 4)) 46 false, q1 48 (.load true 3 (.tmp 47)) 46 false, q1 49 (.build [.int .i64 0, .int .i64 0, .string ⟨#[]⟩] [(0, 1, ki 1), (1, 1, ki 1)]) 46 false, q1 50 (.eqs true [.int, .int, .str] (.tmp 48) (.tmp 49)) 46 false, q0 51 (.pick (.tmp 46) kT (.tmp 50))]
def s59_9 : List CI := [q0 52 (.mv (.tmp 3)), q0 53 (.load true 12 (.tmp 1)), q0 54 (.call 94 [.tmp 53, ki 1, ki 0]), q0 55 (.mksl 9 1 [.tmp 52, ks ⟨#[32, 119, 104, 101, 114, 101, 32]⟩, .tmp 54]), q0 56 (.call 42 [.tmp 55]), q0 3 (.mv (.tmp 56))]
def s59_10 : List CI := [q0 57 (.mv (.tmp 3)), q0 58 (.mksl 9 1 [.tmp 57, ks ⟨#[41]⟩]), q0 59 (.call 42 [.tmp 58]), q0 2 (.mv (.tmp 59))]
def a59 : AC := (.seq (.reg s59_0) (.keep [1] (.seq (.reg s59_1) (.keep [1, 3] (.seq (.seq (.reg s59_2) (.keep [1, 3, 16] (.cond (.tmp 16) (.reg s59_3) .skip))) (.keep [1, 3] (.seq (.seq (.reg s59_4) (.keep [1, 3, 25] (.cond (.tmp 25) (.reg s59_5) .skip))) (.keep [1, 3] (.seq (.reg s59_6) (.keep [1, 3] (.seq (.seq (.reg s59_7) (.keep [1, 3, 4] (.seq (.reg s59_8) (.keep [1, 3, 51] (.cond (.tmp 51) (.reg s59_9) .skip))))) (.keep [3] (.seq (.reg s59_10) .ret)))))))))))))
def c59 : FC := ⟨60, a59.erase, [.tmp 2]⟩
theorem comp59 : compF Tryz.prog Tryz.f59 = some c59 := by kernel_rfl
theorem era59 : c59.code = a59.erase := rfl
def s60_0 : List CI := [q0 1 (.box 67 (.tmp 0)), q0 2 (.mv (ks ⟨#[]⟩))]
def s60_1 : List CI := [q0 3 (.faddr 0 (.tmp 1)), q0 4 (.faddr 1 (.tmp 3)), q0 5 (.load false 1 (.tmp 4))]
def s60_2 : List CI := [q0 7 (.bin .eql (.tmp 5) (ks ⟨#[45]⟩)), q0 6 (.mv (.tmp 7))]
def s60_3 : List CI := [q0 8 (.load true 12 (.tmp 1)), q0 9 (.call 94 [.tmp 8, ki 0, ki 8]), q0 10 (.mksl 9 1 [ks ⟨#[45]⟩, .tmp 9]), q0 11 (.call 42 [.tmp 10]), q0 2 (.mv (.tmp 11))]
def s60_4 : List CI := [q0 13 (.bin .eql (.tmp 5) (ks ⟨#[110, 111, 116]⟩)), q0 12 (.mv (.tmp 13))]
def s60_5 : List CI := [q0 14 (.load true 12 (.tmp 1)), q0 15 (.call 94 [.tmp 14, ki 0, ki 4]), q0 16 (.mksl 9 1 [ks ⟨#[110, 111, 116, 32]⟩, .tmp 15]), q0 17 (.call 42 [.tmp 16]), q0 2 (.mv (.tmp 17))]
def s60_6 : List CI := [q0 18 (.load true 12 (.tmp 1)), q0 19 (.call 94 [.tmp 18, ki 0, ki 0]), q0 20 (.mksl 9 1 [ks ⟨#[110, 117, 108, 108, 40]⟩, .tmp 19, ks ⟨#[41]⟩]), q0 21 (.call 42 [.tmp 20]), q0 2 (.mv (.tmp 21))]
def a60 : AC := (.seq (.reg s60_0) (.keep [1] (.seq (.seq (.reg s60_1) (.keep [1, 5] (.block 0 (.seq (.reg s60_2) (.keep [1, 5, 6] (.cond (.tmp 6) (.seq (.reg s60_3) .ret) (.seq (.reg s60_4) (.keep [1, 12] (.cond (.tmp 12) (.seq (.reg s60_5) .ret) .skip))))))))) (.keep [1] (.seq (.reg s60_6) .ret)))))
def c60 : FC := ⟨22, a60.erase, [.tmp 2]⟩
theorem comp60 : compF Tryz.prog Tryz.f60 = some c60 := by kernel_rfl
theorem era60 : c60.code = a60.erase := rfl
def s61_0 : List CI := [q0 1 (.box 67 (.tmp 0)), q0 2 (.mv (ks ⟨#[]⟩))]
def s61_1 : List CI := [q0 5 (.load true 12 (.tmp 1)), q0 6 (.call 96 [.tmp 5]), q0 3 (.mv (.tmp 6))]
def s61_2 : List CI := [q0 7 (.mv (.tmp 3)), q0 4 (.mv (.tmp 7))]
def s61_3 : List CI := [q0 8 (.mv (.tmp 3)), q0 9 (.bin .eql (.tmp 8) (ki 5))]
def s61_4 : List CI := [q0 10 (.mv (.tmp 4)), q0 11 (.bin .add (.tmp 10) (ki 1)), q0 4 (.mv (.tmp 11))]
def s61_5 : List CI := [q0 12 (.load true 12 (.tmp 1)), q0 13 (.mv (.tmp 4)), q0 14 (.call 94 [.tmp 12, ki 0, .tmp 13]), q0 15 (.faddr 0 (.tmp 1)), q0 16 (.faddr 1 (.tmp 15)), q0 17 (.load false 1 (.tmp 16)), q0 18 (.load true 12 (.tmp 1)), q0 19 (.mv (.tmp 3)), q0 20 (.bin .add (.tmp 19) (ki 1)), q0 21 (.call 94 [.tmp 18, ki 1, .tmp 20]), q0 22 (.mksl 9 1 [.tmp 14, ks ⟨#[32]⟩, .tmp 17, ks ⟨#[32]⟩, .tmp 21]), q0 23 (.call 42 [.tmp 22]), q0 2 (.mv (.tmp 23))]
def a61 : AC := (.seq (.reg s61_0) (.keep [1] (.seq (.reg s61_1) (.keep [1, 3] (.seq (.reg s61_2) (.keep [1, 3, 4] (.seq (.seq (.reg s61_3) (.keep [1, 3, 4, 9] (.cond (.tmp 9) (.reg s61_4) .skip))) (.keep [1, 3, 4] (.seq (.dreg s61_5) .ret)))))))))
def c61 : FC := ⟨24, a61.erase, [.tmp 2]⟩
theorem comp61 : compF Tryz.prog Tryz.f61 = some c61 := by kernel_rfl
theorem era61 : c61.code = a61.erase := rfl
def s62_0 : List CI := [q0 1 (.box 67 (.tmp 0)), q0 2 (.mv (ks ⟨#[]⟩))]
def s62_1 : List CI := [q0 3 (.load true 12 (.tmp 1)), q0 4 (.call 94 [.tmp 3, ki 0, ki 0]), q0 5 (.load true 12 (.tmp 1)), q0 6 (.call 94 [.tmp 5, ki 1, ki 0]), q0 7 (.load true 12 (.tmp 1)), q0 8 (.call 94 [.tmp 7, ki 2, ki 0]), q0 9 (.mksl 9 1 [ks ⟨#[105, 102, 32]⟩, .tmp 4, ks ⟨#[32, 116, 104, 101, 110, 32]⟩, .tmp 6, ks ⟨#[32, 101, 108, 115, 101, 32]⟩, .tmp 8]), q0 10 (.call 42 [.tmp 9]), q0 2 (.mv (.tmp 10))]
def a62 : AC := (.seq (.reg s62_0) (.keep [1] (.seq (.dreg s62_1) .ret)))
def c62 : FC := ⟨11, a62.erase, [.tmp 2]⟩
theorem comp62 : compF Tryz.prog Tryz.f62 = some c62 := by kernel_rfl
theorem era62 : c62.code = a62.erase := rfl
def s63_0 : List CI := [q0 1 (.box 67 (.tmp 0)), q0 2 (.mv (ks ⟨#[]⟩))]
def s63_1 : List CI := [q0 3 (.load true 12 (.tmp 1)), q0 4 (.call 94 [.tmp 3, ki 0, ki 1]), q0 5 (.load true 12 (.tmp 1)), q0 6 (.call 94 [.tmp 5, ki 1, ki 2]), q0 7 (.mksl 9 1 [.tmp 4, ks ⟨#[32, 100, 101, 102, 97, 117, 108, 116, 32]⟩, .tmp 6]), q0 8 (.call 42 [.tmp 7]), q0 2 (.mv (.tmp 8))]
def a63 : AC := (.seq (.reg s63_0) (.keep [1] (.seq (.dreg s63_1) .ret)))
def c63 : FC := ⟨9, a63.erase, [.tmp 2]⟩
theorem comp63 : compF Tryz.prog Tryz.f63 = some c63 := by kernel_rfl
theorem era63 : c63.code = a63.erase := rfl
def s65_0 : List CI := [q0 1 (.box 29 (.tmp 0)), q0 2 (.mv (ks ⟨#[]⟩))]
def s65_1 : List CI := [q0 3 (.faddr 4 (.tmp 1)), q0 4 (.faddr 0 (.tmp 3)), q0 5 (.load false 1 (.tmp 4)), q0 6 (.bin .eql (.tmp 5) (ki 5))]
def s65_2 : List CI := [q0 7 (.faddr 2 (.tmp 1)), q0 8 (.load false 1 (.tmp 7)), q0 9 (.bin .add (ks ⟨#[64]⟩) (.tmp 8)), q0 10 (.bin .add (.tmp 9) (ks ⟨#[32, 34]⟩)), q0 11 (.faddr 4 (.tmp 1)), q0 12 (.faddr 2 (.tmp 11)), q0 13 (.load false 1 (.tmp 12)), q0 14 (.bin .add (.tmp 10) (.tmp 13)), q0 15 (.bin .add (.tmp 14) (ks ⟨#[34]⟩)), q0 2 (.mv (.tmp 15))]
def s65_3 : List CI := [q0 16 (.faddr 4 (.tmp 1)), q0 17 (.load true 3 (.tmp 16)), q0 18 (.call 97 [.tmp 17]), q0 19 (.faddr 7 (.tmp 1)), q0 20 (.load false 1 (.tmp 19)), q0 21 (.call 77 [.tmp 20]), q0 22 (.bin .add (.tmp 18) (.tmp 21)), q0 2 (.mv (.tmp 22))]
def a65 : AC := (.seq (.reg s65_0) (.keep [1] (.seq (.seq (.reg s65_1) (.keep [1, 6] (.cond (.tmp 6) (.seq (.reg s65_2) .ret) .skip))) (.keep [1] (.seq (.dreg s65_3) .ret)))))
def c65 : FC := ⟨23, a65.erase, [.tmp 2]⟩
theorem comp65 : compF Tryz.prog Tryz.f65 = some c65 := by kernel_rfl
theorem era65 : c65.code = a65.erase := rfl
def s66_0 : List CI := [q0 1 (.box 29 (.tmp 0)), q0 2 (.mv (ks ⟨#[]⟩))]
def s66_1 : List CI := [q0 4 (.faddr 1 (.tmp 1)), q0 5 (.load false 1 (.tmp 4)), q0 6 (.bin .add (.tmp 5) (ks ⟨#[40]⟩)), q0 7 (.faddr 3 (.tmp 1)), q0 8 (.load false 1 (.tmp 7)), q0 9 (.bin .add (.tmp 6) (.tmp 8)), q0 3 (.mv (.tmp 9))]
def s66_2 : List CI := [q0 10 (.faddr 1 (.tmp 1)), q0 11 (.load false 1 (.tmp 10)), q0 12 (.bin .neq (.tmp 11) (ks ⟨#[99, 111, 117, 110, 116]⟩))]
def s66_3 : List CI := [q0 13 (.mv (.tmp 3)), q0 14 (.bin .add (.tmp 13) (ks ⟨#[44, 32]⟩)), q0 15 (.faddr 11 (.tmp 1)), q0 16 (.load false 1 (.tmp 15)), q0 17 (.iaddr 12 (.tmp 16) (ki 0)), q0 18 (.load true 12 (.tmp 17)), q0 19 (.call 34 [.tmp 18]), q0 20 (.bin .add (.tmp 14) (.tmp 19)), q0 3 (.mv (.tmp 20))]
def s66_4 : List CI := [q0 21 (.faddr 1 (.tmp 1)), q0 22 (.load false 1 (.tmp 21)), q0 23 (.bin .eql (.tmp 22) (ks ⟨#[113, 117, 97, 110, 116, 105, 108, 101]⟩)), q0 24 (.mv (.tmp 23)), q1 25 (.faddr 1 (.tmp 1)) 24 false, q1 26 (.load false 1 (.tmp 25)) 24 false, q1 27 (.bin .eql (.tmp 26) (ks ⟨#[100, 101, 99, 97, 121]⟩)) 24 false, q0 28 (.pick (.tmp 24) kT (.tmp 27))]
def s66_5 : List CI := [q0 29 (.mv (.tmp 3)), q0 30 (.bin .add (.tmp 29) (ks ⟨#[44, 32]⟩)), q0 31 (.faddr 8 (.tmp 1)), q0 32 (.load false 1 (.tmp 31)), q0 33 (.call 46 [.tmp 32]), q0 34 (.bin .add (.tmp 30) (.tmp 33)), q0 3 (.mv (.tmp 34))]
def s66_6 : List CI := [q0 35 (.mv (.tmp 3)), q0 36 (.bin .add (.tmp 35) (ks ⟨#[44, 32]⟩)), q0 37 (.faddr 9 (.tmp 1)), q0 38 (.load true 2 (.tmp 37)), q0 39 (.call 98 [.tmp 38]), q0 40 (.bin .add (.tmp 36) (.tmp 39)), q0 3 (.mv (.tmp 40))]
def s66_7 : List CI := [q0 41 (.faddr 11 (.tmp 1)), q0 42 (.load false 1 (.tmp 41)), q0 43 (.iaddr 12 (.tmp 42) (ki 1)), q0 44 (.load true 12 (.tmp 43)), q0 45 (.call 26 []), q0 46 (.call 10 [.tmp 44, .tmp 45]), q0 47 (.un .not (.tmp 46))]
def s66_8 : List CI := [q0 48 (.mv (.tmp 3)), q0 49 (.bin .add (.tmp 48) (ks ⟨#[32, 119, 104, 101, 114, 101, 32]⟩)), q0 50 (.faddr 11 (.tmp 1)), q0 51 (.load false 1 (.tmp 50)), q0 52 (.iaddr 12 (.tmp 51) (ki 1)), q0 53 (.load true 12 (.tmp 52)), q0 54 (.call 34 [.tmp 53]), q0 55 (.bin .add (.tmp 49) (.tmp 54)), q0 3 (.mv (.tmp 55))]
def s66_9 : List CI := [q0 56 (.mv (.tmp 3)), q0 57 (.bin .add (.tmp 56) (ks ⟨#[41]⟩)), q0 2 (.mv (.tmp 57))]
def a66 : AC := (.seq (.reg s66_0) (.keep [1] (.seq (.reg s66_1) (.keep [1, 3] (.seq (.seq (.reg s66_2) (.keep [1, 3, 12] (.cond (.tmp 12) (.reg s66_3) .skip))) (.keep [1, 3] (.seq (.seq (.reg s66_4) (.keep [1, 3, 28] (.cond (.tmp 28) (.reg s66_5) .skip))) (.keep [1, 3] (.seq (.reg s66_6) (.keep [1, 3] (.seq (.seq (.dreg s66_7) (.keep [1, 3, 47] (.cond (.tmp 47) (.reg s66_8) .skip))) (.keep [3] (.seq (.reg s66_9) .ret)))))))))))))
def c66 : FC := ⟨58, a66.erase, [.tmp 2]⟩
theorem comp66 : compF Tryz.prog Tryz.f66 = some c66 := by kernel_rfl
theorem era66 : c66.code = a66.erase := rfl
def s67_0 : List CI := [q0 1 (.box 29 (.tmp 0)), q0 2 (.mv (ks ⟨#[]⟩))]
def s67_1 : List CI := [q0 3 (.faddr 1 (.tmp 1)), q0 4 (.load false 1 (.tmp 3))]
def s67_2 : List CI := [q0 6 (.bin .eql (.tmp 4) (ks ⟨#[45]⟩)), q0 5 (.mv (.tmp 6))]
def s67_3 : List CI := [q0 7 (.faddr 11 (.tmp 1)), q0 8 (.load false 1 (.tmp 7)), q0 9 (.iaddr 12 (.tmp 8) (ki 0)), q0 10 (.load true 12 (.tmp 9)), q0 11 (.call 69 [.tmp 10, ki 8]), q0 12 (.bin .add (ks ⟨#[45]⟩) (.tmp 11)), q0 2 (.mv (.tmp 12))]
def s67_4 : List CI := [q0 14 (.bin .eql (.tmp 4) (ks ⟨#[110, 111, 116]⟩)), q0 13 (.mv (.tmp 14))]
def s67_5 : List CI := [q0 15 (.faddr 11 (.tmp 1)), q0 16 (.load false 1 (.tmp 15)), q0 17 (.iaddr 12 (.tmp 16) (ki 0)), q0 18 (.load true 12 (.tmp 17)), q0 19 (.call 69 [.tmp 18, ki 4]), q0 20 (.bin .add (ks ⟨#[110, 111, 116, 32]⟩) (.tmp 19)), q0 2 (.mv (.tmp 20))]
def s67_6 : List CI := [q0 21 (.faddr 11 (.tmp 1)), q0 22 (.load false 1 (.tmp 21)), q0 23 (.iaddr 12 (.tmp 22) (ki 0)), q0 24 (.load true 12 (.tmp 23)), q0 25 (.call 34 [.tmp 24]), q0 26 (.bin .add (ks ⟨#[110, 117, 108, 108, 40]⟩) (.tmp 25)), q0 27 (.bin .add (.tmp 26) (ks ⟨#[41]⟩)), q0 2 (.mv (.tmp 27))]
def a67 : AC := (.seq (.reg s67_0) (.keep [1] (.seq (.seq (.reg s67_1) (.keep [1, 4] (.block 0 (.seq (.reg s67_2) (.keep [1, 4, 5] (.cond (.tmp 5) (.seq (.reg s67_3) .ret) (.seq (.reg s67_4) (.keep [1, 13] (.cond (.tmp 13) (.seq (.reg s67_5) .ret) .skip))))))))) (.keep [1] (.seq (.reg s67_6) .ret)))))
def c67 : FC := ⟨28, a67.erase, [.tmp 2]⟩
theorem comp67 : compF Tryz.prog Tryz.f67 = some c67 := by kernel_rfl
theorem era67 : c67.code = a67.erase := rfl
def s68_0 : List CI := [q0 1 (.box 29 (.tmp 0)), q0 2 (.mv (ks ⟨#[]⟩))]
def s68_1 : List CI := [q0 5 (.load true 12 (.tmp 1)), q0 6 (.call 99 [.tmp 5]), q0 3 (.mv (.tmp 6))]
def s68_2 : List CI := [q0 7 (.mv (.tmp 3)), q0 4 (.mv (.tmp 7))]
def s68_3 : List CI := [q0 8 (.mv (.tmp 3)), q0 9 (.bin .eql (.tmp 8) (ki 5))]
def s68_4 : List CI := [q0 4 (.mv (ki 6))]
def s68_5 : List CI := [q0 10 (.faddr 11 (.tmp 1)), q0 11 (.load false 1 (.tmp 10)), q0 12 (.iaddr 12 (.tmp 11) (ki 0)), q0 13 (.load true 12 (.tmp 12)), q0 14 (.mv (.tmp 4)), q0 15 (.call 69 [.tmp 13, .tmp 14]), q0 16 (.bin .add (.tmp 15) (ks ⟨#[32]⟩)), q0 17 (.faddr 1 (.tmp 1)), q0 18 (.load false 1 (.tmp 17)), q0 19 (.bin .add (.tmp 16) (.tmp 18)), q0 20 (.bin .add (.tmp 19) (ks ⟨#[32]⟩)), q0 21 (.faddr 11 (.tmp 1)), q0 22 (.load false 1 (.tmp 21)), q0 23 (.iaddr 12 (.tmp 22) (ki 1)), q0 24 (.load true 12 (.tmp 23)), q0 25 (.mv (.tmp 3)), q0 26 (.bin .add (.tmp 25) (ki 1)), q0 27 (.call 69 [.tmp 24, .tmp 26]), q0 28 (.bin .add (.tmp 20) (.tmp 27)), q0 2 (.mv (.tmp 28))]
def a68 : AC := (.seq (.reg s68_0) (.keep [1] (.seq (.reg s68_1) (.keep [1, 3] (.seq (.reg s68_2) (.keep [1, 3, 4] (.seq (.seq (.reg s68_3) (.keep [1, 3, 4, 9] (.cond (.tmp 9) (.reg s68_4) .skip))) (.keep [1, 3, 4] (.seq (.dreg s68_5) .ret)))))))))
def c68 : FC := ⟨29, a68.erase, [.tmp 2]⟩
theorem comp68 : compF Tryz.prog Tryz.f68 = some c68 := by kernel_rfl
theorem era68 : c68.code = a68.erase := rfl
def s69_0 : List CI := [q0 2 (.box 29 (.tmp 0)), q0 4 (.mv (ks ⟨#[]⟩))]
def s69_1 : List CI := [q0 6 (.load true 12 (.tmp 2)), q0 7 (.call 34 [.tmp 6]), q0 5 (.mv (.tmp 7))]
def s69_2 : List CI := [q0 8 (.load true 12 (.tmp 2)), q0 9 (.call 99 [.tmp 8]), q0 10 (.mv (.tmp 1)), q0 11 (.bin .lss (.tmp 9) (.tmp 10))]
def s69_3 : List CI := [q0 12 (.mv (.tmp 5)), q0 13 (.bin .add (ks ⟨#[40]⟩) (.tmp 12)), q0 14 (.bin .add (.tmp 13) (ks ⟨#[41]⟩)), q0 4 (.mv (.tmp 14))]
def s69_4 : List CI := [q0 15 (.mv (.tmp 5)), q0 4 (.mv (.tmp 15))]
def a69 : AC := (.seq (.reg s69_0) (.keep [1, 2] (.seq (.reg s69_1) (.keep [1, 2, 5] (.seq (.seq (.reg s69_2) (.keep [5, 11] (.cond (.tmp 11) (.seq (.reg s69_3) .ret) .skip))) (.keep [5] (.seq (.reg s69_4) .ret)))))))
def c69 : FC := ⟨16, a69.erase, [.tmp 4]⟩
theorem comp69 : compF Tryz.prog Tryz.f69 = some c69 := by kernel_rfl
theorem era69 : c69.code = a69.erase := rfl
def s74_0 : List CI := [q0 2 (.mv (ks ⟨#[]⟩))]
def s74_1 : List CI := [q0 3 (.mv (.tmp 0)), q0 4 (.len false (.tmp 3)), q0 5 (.bin .eql (.tmp 4) (ki 0))]
def s74_2 : List CI := [q0 2 (.mv (ks ⟨#[]⟩))]
def s74_3 : List CI := [q0 6 (.mv (.tmp 0)), q0 7 (.call 103 [.tmp 6]), q0 8 (.mksl 9 1 [ks ⟨#[32, 91]⟩, .tmp 7, ks ⟨#[93]⟩]), q0 9 (.call 42 [.tmp 8]), q0 2 (.mv (.tmp 9))]
def a74 : AC := (.seq (.reg s74_0) (.keep [0] (.seq (.seq (.reg s74_1) (.keep [0, 5] (.cond (.tmp 5) (.seq (.reg s74_2) .ret) .skip))) (.keep [0] (.seq (.reg s74_3) .ret)))))
def c74 : FC := ⟨10, a74.erase, [.tmp 2]⟩
theorem comp74 : compF Tryz.prog Tryz.f74 = some c74 := by kernel_rfl
theorem era74 : c74.code = a74.erase := rfl
def s77_0 : List CI := [q0 2 (.mv (ks ⟨#[]⟩))]
def s77_1 : List CI := [q0 3 (.mv (.tmp 0)), q0 4 (.len false (.tmp 3)), q0 5 (.bin .eql (.tmp 4) (ki 0))]
def s77_2 : List CI := [q0 2 (.mv (ks ⟨#[]⟩))]
def s77_3 : List CI := [q0 6 (.mv (.tmp 0)), q0 7 (.call 106 [.tmp 6]), q0 8 (.bin .add (ks ⟨#[32, 91]⟩) (.tmp 7)), q0 9 (.bin .add (.tmp 8) (ks ⟨#[93]⟩)), q0 2 (.mv (.tmp 9))]
def a77 : AC := (.seq (.reg s77_0) (.keep [0] (.seq (.seq (.reg s77_1) (.keep [0, 5] (.cond (.tmp 5) (.seq (.reg s77_2) .ret) .skip))) (.keep [0] (.seq (.reg s77_3) .ret)))))
def c77 : FC := ⟨10, a77.erase, [.tmp 2]⟩
theorem comp77 : compF Tryz.prog Tryz.f77 = some c77 := by kernel_rfl
theorem era77 : c77.code = a77.erase := rfl
def s78_0 : List CI := [q0 4 (.mv kF)]
def s78_1 : List CI := [q0 5 (.mv (.tmp 0)), q0 6 (.mv (.tmp 1)), q0 7 (.call 107 [.tmp 5, .tmp 6]), q0 8 (.bin .geq (.tmp 7) (ki 0)), q0 4 (.mv (.tmp 8))]
def a78 : AC := (.seq (.reg s78_0) (.keep [0, 1] (.seq (.reg s78_1) .ret)))
def c78 : FC := ⟨9, a78.erase, [.tmp 4]⟩
theorem comp78 : compF Tryz.prog Tryz.f78 = some c78 := by kernel_rfl
theorem era78 : c78.code = a78.erase := rfl
def s79_0 : List CI := [q0 2 (.box 63 (.tmp 0)), q0 3 (.mv kF)]
def s79_1 : List CI := [q0 4 (.faddr 0 (.tmp 2)), q0 5 (.load false 1 (.tmp 4)), q0 6 (.faddr 0 (.tmp 1)), q0 7 (.load false 1 (.tmp 6)), q0 8 (.bin .eql (.tmp 5) (.tmp 7)), q0 3 (.mv (.tmp 8))]
def a79 : AC := (.seq (.reg s79_0) (.keep [1, 2] (.seq (.reg s79_1) .ret)))
def c79 : FC := ⟨9, a79.erase, [.tmp 3]⟩
theorem comp79 : compF Tryz.prog Tryz.f79 = some c79 := by kernel_rfl
theorem era79 : c79.code = a79.erase := rfl
def s93_0 : List CI := [q0 1 (.box 23 (.tmp 0)), q0 2 (.mv (ks ⟨#[]⟩))]
def s93_1 : List CI := [q0 5 (.load true 3 (.tmp 1)), q0 6 (.call 90 [.tmp 5]), q0 7 (.bin .neq (.tmp 6) (ki 0))]
def s93_2 : List CI := [q0 2 (.mv (ks ⟨#[]⟩))]
def s93_3 : List CI := [q0 8 (.load true 3 (.tmp 1)), q0 9 (.build [.int .i64 0, .int .i64 0, .string ⟨#[]⟩] [(0, 3, .tmp 8)]), q0 3 (.alloc 124 (.agg #[.int .i64 0, .int .i64 0, .string ⟨#[]⟩])), .mk none (.store 3 (.tmp 3) (.tmp 9)) none]
def s93_4 : List CI := [q0 10 (.exts (.makeMap 125 none) 125 [] []), q0 11 (.load true 3 (.tmp 3)), q0 12 (.mkfn (Fn.func 119) [.tmp 11] []), .mk none (.exts (.insert 125 (.tmp 10) (ki 0) (.tmp 12)) 0 [.mp 3 68, .int .i64] [.tmp 10, ki 0, .tmp 12]) none, q0 13 (.load true 3 (.tmp 3)), q0 14 (.mkfn (Fn.func 120) [.tmp 13] []), .mk none (.exts (.insert 125 (.tmp 10) (ki 1) (.tmp 14)) 0 [.mp 3 68, .int .i64] [.tmp 10, ki 1, .tmp 14]) none, q0 15 (.load true 3 (.tmp 3)), q0 16 (.mkfn (Fn.func 121) [.tmp 15] []), .mk none (.exts (.insert 125 (.tmp 10) (ki 2) (.tmp 16)) 0 [.mp 3 68, .int .i64] [.tmp 10, ki 2, .tmp 16]) none, q0 17 (.load true 3 (.tmp 3)), q0 18 (.mkfn (Fn.func 122) [.tmp 17] []), .mk none (.exts (.insert 125 (.tmp 10) (ki 3) (.tmp 18)) 0 [.mp 3 68, .int .i64] [.tmp 10, ki 3, .tmp 18]) none, q0 19 (.load true 3 (.tmp 3)), q0 20 (.mkfn (Fn.func 123) [.tmp 19] []), .mk none (.exts (.insert 125 (.tmp 10) (ki 4) (.tmp 20)) 0 [.mp 3 68, .int .i64] [.tmp 10, ki 4, .tmp 20]) none, q0 21 (.load true 3 (.tmp 3)), q0 22 (.mkfn (Fn.func 124) [.tmp 21] []), .mk none (.exts (.insert 125 (.tmp 10) (ki 5) (.tmp 22)) 0 [.mp 3 68, .int .i64] [.tmp 10, ki 5, .tmp 22]) none, q0 23 (.mv (.tmp 10)), q0 4 (.mv (.tmp 23))]
def s93_5 : List CI := [q0 24 (.mv (.tmp 4)), q0 25 (.faddr 0 (.tmp 1)), q0 26 (.load false 1 (.tmp 25)), q0 27 (.extq (.lookup 125 (.tmp 24) (.tmp 26) false) 68 [.mp 3 68, .int .i64] [.tmp 24, .tmp 26]), q0 28 (.callv (.tmp 27) []), q0 2 (.mv (.tmp 28))]
def a93 : AC := (.seq (.reg s93_0) (.keep [1] (.seq (.seq (.reg s93_1) (.keep [1, 7] (.cond (.tmp 7) (.seq (.reg s93_2) .ret) .skip))) (.keep [1] (.seq (.reg s93_3) (.keep [1, 3] (.seq (.reg s93_4) (.keep [1, 4] (.seq (.reg s93_5) .ret)))))))))
def c93 : FC := ⟨29, a93.erase, [.tmp 2]⟩
theorem comp93 : compF Tryz.prog Tryz.f93 = some c93 := by kernel_rfl
theorem era93 : c93.code = a93.erase := rfl
def s94_0 : List CI := [q0 3 (.box 67 (.tmp 0)), q0 6 (.mv (ks ⟨#[]⟩))]
def s94_1 : List CI := [q0 8 (.faddr 0 (.tmp 3)), q0 9 (.faddr 11 (.tmp 8)), q0 10 (.load false 1 (.tmp 9)), q0 11 (.mv (.tmp 1)), q0 12 (.iaddr 12 (.tmp 10) (.tmp 11)), q0 13 (.load true 12 (.tmp 12)), q0 14 (.build [.int .i64 0, .string ⟨#[]⟩, .string ⟨#[]⟩, .string ⟨#[]⟩, .int .i64 0, .int .i64 0, .string ⟨#[]⟩, .slice none 0 0, .int .i64 0, .int .i64 0, .int .i64 0, .slice none 0 0] [(0, 12, .tmp 13)]), q0 7 (.alloc 67 (.agg #[.int .i64 0, .string ⟨#[]⟩, .string ⟨#[]⟩, .string ⟨#[]⟩, .int .i64 0, .int .i64 0, .string ⟨#[]⟩, .slice none 0 0, .int .i64 0, .int .i64 0, .int .i64 0, .slice none 0 0])), .mk none (.store 12 (.tmp 7) (.tmp 14)) none]
def s94_2 : List CI := [q0 15 (.load true 12 (.tmp 7)), q0 16 (.call 96 [.tmp 15]), q0 17 (.mv (.tmp 2)), q0 18 (.bin .lss (.tmp 16) (.tmp 17))]
def s94_3 : List CI := [q0 19 (.load true 12 (.tmp 7)), q0 20 (.call 32 [.tmp 19]), q0 21 (.mksl 9 1 [ks ⟨#[40]⟩, .tmp 20, ks ⟨#[41]⟩]), q0 22 (.call 42 [.tmp 21]), q0 6 (.mv (.tmp 22))]
def s94_4 : List CI := [q0 23 (.load true 12 (.tmp 7)), q0 24 (.call 32 [.tmp 23]), q0 6 (.mv (.tmp 24))]
def a94 : AC := (.seq (.reg s94_0) (.keep [1, 2, 3] (.seq (.reg s94_1) (.keep [2, 7] (.seq (.seq (.reg s94_2) (.keep [7, 18] (.cond (.tmp 18) (.seq (.reg s94_3) .ret) .skip))) (.keep [7] (.seq (.reg s94_4) .ret)))))))
def c94 : FC := ⟨25, a94.erase, [.tmp 6]⟩
theorem comp94 : compF Tryz.prog Tryz.f94 = some c94 := by kernel_rfl
theorem era94 : c94.code = a94.erase := rfl
def s95_0 : List CI := [q0 1 (.box 67 (.tmp 0)), q0 2 (.mv (ks ⟨#[]⟩))]
def s95_1 : List CI := [q0 4 (.faddr 0 (.tmp 1)), q0 5 (.faddr 9 (.tmp 4)), q0 6 (.faddr 1 (.tmp 5)), q0 7 (.load false 1 (.tmp 6)), q0 8 (.call 44 [.tmp 7]), q0 3 (.mv (.tmp 8))]
def s95_2 : List CI := [q0 9 (.faddr 0 (.tmp 1)), q0 10 (.faddr 9 (.tmp 9)), q0 11 (.faddr 0 (.tmp 10)), q0 12 (.load false 1 (.tmp 11))]
def s95_3 : List CI := [q0 14 (.bin .eql (.tmp 12) (ki 2)), q0 13 (.mv (.tmp 14))]
def s95_4 : List CI := [q0 15 (.mv (.tmp 3)), q0 16 (.mksl 9 1 [ks ⟨#[115, 108, 105, 100, 105, 110, 103, 32]⟩, .tmp 15]), q0 17 (.call 42 [.tmp 16]), q0 2 (.mv (.tmp 17))]
def s95_5 : List CI := [q0 19 (.bin .eql (.tmp 12) (ki 3)), q0 18 (.mv (.tmp 19))]
def s95_6 : List CI := [q0 20 (.mv (.tmp 3)), q0 21 (.mksl 9 1 [ks ⟨#[116, 117, 109, 98, 108, 105, 110, 103, 32]⟩, .tmp 20]), q0 22 (.call 42 [.tmp 21]), q0 2 (.mv (.tmp 22))]
def s95_7 : List CI := [q0 24 (.bin .eql (.tmp 12) (ki 4)), q0 23 (.mv (.tmp 24))]
def s95_8 : List CI := [q0 25 (.mv (.tmp 3)), q0 26 (.mksl 9 1 [ks ⟨#[115, 101, 115, 115, 105, 111, 110, 32]⟩, .tmp 25]), q0 27 (.call 42 [.tmp 26]), q0 2 (.mv (.tmp 27))]
def s95_9 : List CI := [q0 2 (.mv (ks ⟨#[97, 108, 108]⟩))]
def a95 : AC := (.seq (.reg s95_0) (.keep [1] (.seq (.seq (.reg s95_1) (.keep [1, 3] (.seq (.reg s95_2) (.keep [3, 12] (.block 0 (.seq (.reg s95_3) (.keep [3, 12, 13] (.cond (.tmp 13) (.seq (.reg s95_4) .ret) (.seq (.reg s95_5) (.keep [3, 12, 18] (.cond (.tmp 18) (.seq (.reg s95_6) .ret) (.seq (.reg s95_7) (.keep [3, 23] (.cond (.tmp 23) (.seq (.reg s95_8) .ret) .skip)))))))))))))) (.keep [] (.seq (.reg s95_9) .ret)))))
def c95 : FC := ⟨28, a95.erase, [.tmp 2]⟩
theorem comp95 : compF Tryz.prog Tryz.f95 = some c95 := by kernel_rfl
theorem era95 : c95.code = a95.erase := rfl
def s96_0 : List CI := [q0 1 (.box 67 (.tmp 0)), q0 2 (.mv (ki 0))]
def s96_1 : List CI := [q0 3 (.faddr 0 (.tmp 1)), q0 4 (.faddr 0 (.tmp 3)), q0 5 (.load false 1 (.tmp 4))]
def s96_2 : List CI := [q0 7 (.bin .eql (.tmp 5) (ki 8)), q0 6 (.mv (.tmp 7))]
def s96_3 : List CI := [q0 2 (.mv (ki 0))]
def s96_4 : List CI := [q0 9 (.bin .eql (.tmp 5) (ki 9)), q0 8 (.mv (.tmp 9))]
def s96_5 : List CI := [q0 2 (.mv (ki 1))]
def s96_6 : List CI := [q0 11 (.bin .eql (.tmp 5) (ki 6)), q0 10 (.mv (.tmp 11))]
def s96_7 : List CI := [q0 12 (.faddr 0 (.tmp 1)), q0 13 (.faddr 1 (.tmp 12)), q0 14 (.load false 1 (.tmp 13))]
def s96_8 : List CI := [q0 16 (.bin .eql (.tmp 14) (ks ⟨#[45]⟩)), q0 15 (.mv (.tmp 16))]
def s96_9 : List CI := [q0 2 (.mv (ki 8))]
def s96_10 : List CI := [q0 18 (.bin .eql (.tmp 14) (ks ⟨#[110, 111, 116]⟩)), q0 17 (.mv (.tmp 18))]
def s96_11 : List CI := [q0 2 (.mv (ki 4))]
def s96_12 : List CI := [q0 2 (.mv (ki 9))]
def s96_13 : List CI := [q0 20 (.bin .eql (.tmp 5) (ki 7)), q0 19 (.mv (.tmp 20))]
def s96_14 : List CI := [q0 21 (.faddr 0 (.tmp 1)), q0 22 (.faddr 1 (.tmp 21)), q0 23 (.load false 1 (.tmp 22))]
def s96_15 : List CI := [q0 25 (.bin .eql (.tmp 23) (ks ⟨#[111, 114]⟩)), q0 24 (.mv (.tmp 25))]
def s96_16 : List CI := [q0 2 (.mv (ki 2))]
def s96_17 : List CI := [q0 27 (.bin .eql (.tmp 23) (ks ⟨#[97, 110, 100]⟩)), q0 26 (.mv (.tmp 27))]
def s96_18 : List CI := [q0 2 (.mv (ki 3))]
def s96_19 : List CI := [q0 29 (.bin .eql (.tmp 23) (ks ⟨#[43]⟩)), q0 28 (.mv (.tmp 29))]
def s96_20 : List CI := [q0 30 (.bin .eql (.tmp 23) (ks ⟨#[45]⟩)), q0 28 (.mv (.tmp 30))]
def s96_21 : List CI := [q0 2 (.mv (ki 6))]
def s96_22 : List CI := [q0 32 (.bin .eql (.tmp 23) (ks ⟨#[42]⟩)), q0 31 (.mv (.tmp 32))]
def s96_23 : List CI := [q0 33 (.bin .eql (.tmp 23) (ks ⟨#[47]⟩)), q0 31 (.mv (.tmp 33))]
def s96_24 : List CI := [q0 2 (.mv (ki 7))]
def s96_25 : List CI := [q0 2 (.mv (ki 5))]
def s96_26 : List CI := [q0 2 (.mv (ki 9))]
def a96 : AC := (.seq (.reg s96_0) (.keep [1] (.seq (.seq (.reg s96_1) (.keep [1, 5] (.block 0 (.seq (.reg s96_2) (.keep [1, 5, 6] (.cond (.tmp 6) (.seq (.reg s96_3) .ret) (.seq (.reg s96_4) (.keep [1, 5, 8] (.cond (.tmp 8) (.seq (.reg s96_5) .ret) (.seq (.reg s96_6) (.keep [1, 5, 10] (.cond (.tmp 10) (.seq (.seq (.reg s96_7) (.keep [14] (.block 1 (.seq (.reg s96_8) (.keep [14, 15] (.cond (.tmp 15) (.seq (.reg s96_9) .ret) (.seq (.reg s96_10) (.keep [17] (.cond (.tmp 17) (.seq (.reg s96_11) .ret) .skip))))))))) (.keep [] (.seq (.reg s96_12) .ret))) (.seq (.reg s96_13) (.keep [1, 19] (.cond (.tmp 19) (.seq (.seq (.reg s96_14) (.keep [23] (.block 2 (.seq (.reg s96_15) (.keep [23, 24] (.cond (.tmp 24) (.seq (.reg s96_16) .ret) (.seq (.reg s96_17) (.keep [23, 26] (.cond (.tmp 26) (.seq (.reg s96_18) .ret) (.seq (.seq (.reg s96_19) (.keep [23, 28] (.cond (.tmp 28) .skip (.reg s96_20)))) (.keep [23, 28] (.cond (.tmp 28) (.seq (.reg s96_21) .ret) (.seq (.seq (.reg s96_22) (.keep [23, 31] (.cond (.tmp 31) .skip (.reg s96_23)))) (.keep [31] (.cond (.tmp 31) (.seq (.reg s96_24) .ret) .skip))))))))))))))) (.keep [] (.seq (.reg s96_25) .ret))) .skip))))))))))))))) (.keep [] (.seq (.reg s96_26) .ret)))))
def c96 : FC := ⟨34, a96.erase, [.tmp 2]⟩
theorem comp96 : compF Tryz.prog Tryz.f96 = some c96 := by kernel_rfl
theorem era96 : c96.code = a96.erase := rfl
def s97_0 : List CI := [q0 1 (.box 23 (.tmp 0)), q0 2 (.mv (ks ⟨#[]⟩))]
def s97_1 : List CI := [q0 3 (.load true 3 (.tmp 1)), q0 4 (.call 125 [.tmp 3]), q0 5 (.un .not (.tmp 4))]
def s97_2 : List CI := [q0 2 (.mv (ks ⟨#[]⟩))]
def s97_3 : List CI := [q0 6 (.faddr 0 (.tmp 1)), q0 7 (.load false 1 (.tmp 6))]
def s97_4 : List CI := [q0 9 (.bin .eql (.tmp 7) (ki 1)), q0 8 (.mv (.tmp 9))]
def s97_5 : List CI := [q0 10 (.faddr 1 (.tmp 1)), q0 11 (.load false 1 (.tmp 10)), q0 12 (.bin .eql (.tmp 11) (ki 1))]
def s97_6 : List CI := [q0 2 (.mv (ks ⟨#[116, 114, 117, 101]⟩))]
def s97_7 : List CI := [q0 2 (.mv (ks ⟨#[102, 97, 108, 115, 101]⟩))]
def s97_8 : List CI := [q0 14 (.bin .eql (.tmp 7) (ki 2)), q0 13 (.mv (.tmp 14))]
def s97_9 : List CI := [q0 15 (.faddr 1 (.tmp 1)), q0 16 (.load false 1 (.tmp 15)), q0 17 (.call 46 [.tmp 16]), q0 2 (.mv (.tmp 17))]
def s97_10 : List CI := [q0 19 (.bin .eql (.tmp 7) (ki 3)), q0 18 (.mv (.tmp 19))]
def s97_11 : List CI := [q0 20 (.faddr 1 (.tmp 1)), q0 21 (.load false 1 (.tmp 20)), q0 22 (.call 126 [.tmp 21]), q0 2 (.mv (.tmp 22))]
def s97_12 : List CI := [q0 24 (.bin .eql (.tmp 7) (ki 4)), q0 23 (.mv (.tmp 24))]
def s97_13 : List CI := [q0 25 (.faddr 2 (.tmp 1)), q0 26 (.load false 1 (.tmp 25)), q0 27 (.bin .add (ks ⟨#[34]⟩) (.tmp 26)), q0 28 (.bin .add (.tmp 27) (ks ⟨#[34]⟩)), q0 2 (.mv (.tmp 28))]
def s97_14 : List CI := [q0 30 (.bin .eql (.tmp 7) (ki 5)), q0 29 (.mv (.tmp 30))]
def s97_15 : List CI := [q0 31 (.faddr 2 (.tmp 1)), q0 32 (.load false 1 (.tmp 31)), q0 33 (.bin .add (ks ⟨#[64]⟩) (.tmp 32)), q0 2 (.mv (.tmp 33))]
def s97_16 : List CI := [q0 2 (.mv (ks ⟨#[110, 117, 108, 108]⟩))]
def a97 : AC := (.seq (.reg s97_0) (.keep [1] (.seq (.seq (.reg s97_1) (.keep [1, 5] (.cond (.tmp 5) (.seq (.reg s97_2) .ret) .skip))) (.keep [1] (.seq (.seq (.reg s97_3) (.keep [1, 7] (.block 0 (.seq (.reg s97_4) (.keep [1, 7, 8] (.cond (.tmp 8) (.seq (.seq (.reg s97_5) (.keep [12] (.cond (.tmp 12) (.seq (.reg s97_6) .ret) .skip))) (.keep [] (.seq (.reg s97_7) .ret))) (.seq (.reg s97_8) (.keep [1, 7, 13] (.cond (.tmp 13) (.seq (.reg s97_9) .ret) (.seq (.reg s97_10) (.keep [1, 7, 18] (.cond (.tmp 18) (.seq (.reg s97_11) .ret) (.seq (.reg s97_12) (.keep [1, 7, 23] (.cond (.tmp 23) (.seq (.reg s97_13) .ret) (.seq (.reg s97_14) (.keep [1, 29] (.cond (.tmp 29) (.seq (.reg s97_15) .ret) .skip)))))))))))))))))) (.keep [] (.seq (.reg s97_16) .ret)))))))
def c97 : FC := ⟨34, a97.erase, [.tmp 2]⟩
theorem comp97 : compF Tryz.prog Tryz.f97 = some c97 := by kernel_rfl
theorem era97 : c97.code = a97.erase := rfl
def s98_0 : List CI := [q0 1 (.box 26 (.tmp 0)), q0 2 (.mv (ks ⟨#[]⟩))]
def s98_1 : List CI := [q0 3 (.faddr 0 (.tmp 1)), q0 4 (.load false 1 (.tmp 3))]
def s98_2 : List CI := [q0 6 (.bin .eql (.tmp 4) (ki 2)), q0 5 (.mv (.tmp 6))]
def s98_3 : List CI := [q0 7 (.faddr 1 (.tmp 1)), q0 8 (.load false 1 (.tmp 7)), q0 9 (.call 46 [.tmp 8]), q0 10 (.bin .add (ks ⟨#[115, 108, 105, 100, 105, 110, 103, 32]⟩) (.tmp 9)), q0 2 (.mv (.tmp 10))]
def s98_4 : List CI := [q0 12 (.bin .eql (.tmp 4) (ki 3)), q0 11 (.mv (.tmp 12))]
def s98_5 : List CI := [q0 13 (.faddr 1 (.tmp 1)), q0 14 (.load false 1 (.tmp 13)), q0 15 (.call 46 [.tmp 14]), q0 16 (.bin .add (ks ⟨#[116, 117, 109, 98, 108, 105, 110, 103, 32]⟩) (.tmp 15)), q0 2 (.mv (.tmp 16))]
def s98_6 : List CI := [q0 18 (.bin .eql (.tmp 4) (ki 4)), q0 17 (.mv (.tmp 18))]
def s98_7 : List CI := [q0 19 (.faddr 1 (.tmp 1)), q0 20 (.load false 1 (.tmp 19)), q0 21 (.call 46 [.tmp 20]), q0 22 (.bin .add (ks ⟨#[115, 101, 115, 115, 105, 111, 110, 32]⟩) (.tmp 21)), q0 2 (.mv (.tmp 22))]
def s98_8 : List CI := [q0 2 (.mv (ks ⟨#[97, 108, 108]⟩))]
def a98 : AC := (.seq (.reg s98_0) (.keep [1] (.seq (.seq (.reg s98_1) (.keep [1, 4] (.block 0 (.seq (.reg s98_2) (.keep [1, 4, 5] (.cond (.tmp 5) (.seq (.reg s98_3) .ret) (.seq (.reg s98_4) (.keep [1, 4, 11] (.cond (.tmp 11) (.seq (.reg s98_5) .ret) (.seq (.reg s98_6) (.keep [1, 17] (.cond (.tmp 17) (.seq (.reg s98_7) .ret) .skip)))))))))))) (.keep [] (.seq (.reg s98_8) .ret)))))
def c98 : FC := ⟨23, a98.erase, [.tmp 2]⟩
theorem comp98 : compF Tryz.prog Tryz.f98 = some c98 := by kernel_rfl
theorem era98 : c98.code = a98.erase := rfl
def s99_0 : List CI := [q0 1 (.box 29 (.tmp 0)), q0 2 (.mv (ki 0))]
def s99_1 : List CI := [q0 3 (.faddr 0 (.tmp 1)), q0 4 (.load false 1 (.tmp 3))]
def s99_2 : List CI := [q0 6 (.bin .eql (.tmp 4) (ki 8)), q0 5 (.mv (.tmp 6))]
def s99_3 : List CI := [q0 2 (.mv (ki 0))]
def s99_4 : List CI := [q0 8 (.bin .eql (.tmp 4) (ki 9)), q0 7 (.mv (.tmp 8))]
def s99_5 : List CI := [q0 2 (.mv (ki 1))]
def s99_6 : List CI := [q0 10 (.bin .eql (.tmp 4) (ki 6)), q0 9 (.mv (.tmp 10))]
def s99_7 : List CI := [q0 11 (.bin .eql (.tmp 4) (ki 7)), q0 9 (.mv (.tmp 11))]
def s99_8 : List CI := [q0 12 (.faddr 0 (.tmp 1)), q0 13 (.load false 1 (.tmp 12)), q0 14 (.faddr 1 (.tmp 1)), q0 15 (.load false 1 (.tmp 14)), q0 16 (.call 127 [.tmp 13, .tmp 15]), q0 2 (.mv (.tmp 16))]
def s99_9 : List CI := [q0 2 (.mv (ki 9))]
def a99 : AC := (.seq (.reg s99_0) (.keep [1] (.seq (.seq (.reg s99_1) (.keep [1, 4] (.block 0 (.seq (.reg s99_2) (.keep [1, 4, 5] (.cond (.tmp 5) (.seq (.reg s99_3) .ret) (.seq (.reg s99_4) (.keep [1, 4, 7] (.cond (.tmp 7) (.seq (.reg s99_5) .ret) (.seq (.seq (.reg s99_6) (.keep [1, 4, 9] (.cond (.tmp 9) .skip (.reg s99_7)))) (.keep [1, 9] (.cond (.tmp 9) (.seq (.reg s99_8) .ret) .skip)))))))))))) (.keep [] (.seq (.reg s99_9) .ret)))))
def c99 : FC := ⟨17, a99.erase, [.tmp 2]⟩
theorem comp99 : compF Tryz.prog Tryz.f99 = some c99 := by kernel_rfl
theorem era99 : c99.code = a99.erase := rfl
def s103_0 : List CI := [q0 2 (.mv (ks ⟨#[]⟩))]
def s103_1 : List CI := [q0 3 (.mv (.const (.slice none 0 0)))]
def s103_2 : List CI := [q0 7 (.mv (.tmp 0)), q0 8 (.len false (.tmp 7)), q0 9 (.mv (ki 0))]
def s103_3 : List CI := [q0 10 (.bin .lss (.tmp 9) (.tmp 8))]
def s103_4 : List CI := [q0 11 (.iaddr 2 (.tmp 7) (.tmp 9)), q0 12 (.load true 2 (.tmp 11)), q0 5 (.alloc 57 (.agg #[.string ⟨#[]⟩, .int .i64 0])), .mk none (.store 2 (.tmp 5) (.tmp 12)) none]
def s103_5 : List CI := [q0 13 (.faddr 0 (.tmp 5)), q0 14 (.load false 1 (.tmp 13)), q0 6 (.mv (.tmp 14))]
def s103_6 : List CI := [q0 15 (.faddr 1 (.tmp 5)), q0 16 (.load false 1 (.tmp 15)), q0 17 (.bin .neq (.tmp 16) (ki 1))]
def s103_7 : List CI := [q0 18 (.mv (.tmp 6)), q0 19 (.faddr 1 (.tmp 5)), q0 20 (.load false 1 (.tmp 19)), q0 21 (.call 44 [.tmp 20]), q0 22 (.bin .add (ks ⟨#[94]⟩) (.tmp 21)), q0 23 (.bin .add (.tmp 18) (.tmp 22)), q0 6 (.mv (.tmp 23))]
def s103_8 : List CI := [q0 24 (.mv (.tmp 3)), q0 25 (.mv (.tmp 6)), q0 26 (.mksl 9 1 [.tmp 25]), q0 27 (.append 9 1 16 [.string ⟨#[]⟩] (.tmp 24) (.tmp 26)), q0 3 (.mv (.tmp 27))]
def s103_9 : List CI := [q0 28 (.bin .add (.tmp 9) (ki 1)), q0 9 (.mv (.tmp 28))]
def s103_10 : List CI := [q0 29 (.mv (.tmp 3)), q0 30 (.call 43 [.tmp 29, ks ⟨#[42]⟩]), q0 2 (.mv (.tmp 30))]
def a103 : AC := (.seq (.reg s103_0) (.keep [0] (.seq (.reg s103_1) (.keep [0, 3] (.seq (.seq (.reg s103_2) (.keep [3, 7, 8, 9] (.block 0 (.loop (.keep [3, 7, 8, 9] (.seq (.reg s103_3) (.keep [3, 7, 8, 9, 10] (.seq (.cond (.tmp 10) .skip (.exit 0)) (.keep [3, 7, 8, 9] (.seq (.block 1 (.seq (.reg s103_4) (.keep [3, 5, 7, 8, 9] (.seq (.reg s103_5) (.keep [3, 5, 6, 7, 8, 9] (.seq (.seq (.reg s103_6) (.keep [3, 5, 6, 7, 8, 9, 17] (.cond (.tmp 17) (.reg s103_7) .skip))) (.keep [3, 6, 7, 8, 9] (.reg s103_8)))))))) (.keep [3, 7, 8, 9] (.reg s103_9)))))))))))) (.keep [3] (.seq (.reg s103_10) .ret)))))))
def c103 : FC := ⟨31, a103.erase, [.tmp 2]⟩
theorem comp103 : compF Tryz.prog Tryz.f103 = some c103 := by kernel_rfl
theorem era103 : c103.code = a103.erase := rfl
def s106_0 : List CI := [q0 2 (.mv (ks ⟨#[]⟩))]
def s106_1 : List CI := [q0 3 (.mv (.const (.slice none 0 0)))]
def s106_2 : List CI := [q0 4 (.mv (ki 0))]
def s106_3 : List CI := [q0 5 (.mv (.tmp 4)), q0 6 (.mv (.tmp 0)), q0 7 (.len false (.tmp 6)), q0 8 (.bin .lss (.tmp 5) (.tmp 7))]
def s106_4 : List CI := [q0 11 (.mv (.tmp 4)), q0 12 (.bin .gtr (.tmp 11) (ki 0))]
def s106_5 : List CI := [q0 13 (.mv (.tmp 3)), q0 14 (.mksl 5 1 [.const (.int .u8 42)]), q0 15 (.append 5 1 1 [.int .u8 0] (.tmp 13) (.tmp 14)), q0 3 (.mv (.tmp 15))]
def s106_6 : List CI := [q0 16 (.mv (.tmp 3)), q0 17 (.mv (.tmp 0)), q0 18 (.mv (.tmp 4)), q0 19 (.iaddr 2 (.tmp 17) (.tmp 18)), q0 20 (.faddr 0 (.tmp 19)), q0 21 (.load false 1 (.tmp 20)), q0 22 (.append 5 1 1 [.int .u8 0] (.tmp 16) (.tmp 21)), q0 3 (.mv (.tmp 22))]
def s106_7 : List CI := [q0 23 (.mv (.tmp 0)), q0 24 (.mv (.tmp 4)), q0 25 (.iaddr 2 (.tmp 23) (.tmp 24)), q0 26 (.faddr 1 (.tmp 25)), q0 27 (.load false 1 (.tmp 26)), q0 28 (.bin .neq (.tmp 27) (ki 1))]
def s106_8 : List CI := [q0 29 (.mv (.tmp 3)), q0 30 (.mksl 5 1 [.const (.int .u8 94)]), q0 31 (.append 5 1 1 [.int .u8 0] (.tmp 29) (.tmp 30)), q0 3 (.mv (.tmp 31))]
def s106_9 : List CI := [q0 32 (.mv (.tmp 3)), q0 33 (.mv (.tmp 0)), q0 34 (.mv (.tmp 4)), q0 35 (.iaddr 2 (.tmp 33) (.tmp 34)), q0 36 (.faddr 1 (.tmp 35)), q0 37 (.load false 1 (.tmp 36)), q0 38 (.call 128 [.tmp 37]), q0 39 (.append 5 1 1 [.int .u8 0] (.tmp 32) (.tmp 38)), q0 3 (.mv (.tmp 39))]
def s106_10 : List CI := [q0 9 (.mv (.tmp 4)), q0 10 (.bin .add (.tmp 9) (ki 1)), q0 4 (.mv (.tmp 10))]
def s106_11 : List CI := [q0 40 (.mv (.tmp 3)), q0 41 (.extq (.convert 81 9 (.tmp 40)) 9 [.sl 5, .int .u8, .str, .other] [.tmp 40]), q0 2 (.mv (.tmp 41))]
def a106 : AC := (.seq (.reg s106_0) (.keep [0] (.seq (.reg s106_1) (.keep [0, 3] (.seq (.seq (.reg s106_2) (.keep [0, 3, 4] (.block 0 (.loop (.keep [0, 3, 4] (.seq (.seq (.reg s106_3) (.keep [0, 3, 4, 8] (.cond (.tmp 8) .skip (.exit 0)))) (.keep [0, 3, 4] (.seq (.block 1 (.seq (.seq (.reg s106_4) (.keep [0, 3, 4, 12] (.cond (.tmp 12) (.reg s106_5) .skip))) (.keep [0, 3, 4] (.seq (.reg s106_6) (.keep [0, 3, 4] (.seq (.reg s106_7) (.keep [0, 3, 4, 28] (.cond (.tmp 28) (.seq (.reg s106_8) (.keep [0, 3, 4] (.reg s106_9))) .skip)))))))) (.keep [0, 3, 4] (.reg s106_10)))))))))) (.keep [3] (.seq (.reg s106_11) .ret)))))))
def c106 : FC := ⟨42, a106.erase, [.tmp 2]⟩
theorem comp106 : compF Tryz.prog Tryz.f106 = some c106 := by kernel_rfl
theorem era106 : c106.code = a106.erase := rfl
def s107_0 : List CI := [q0 4 (.mv (ki 0))]
def s107_1 : List CI := [q0 6 (.mv (.tmp 0)), q0 7 (.len false (.tmp 6)), q0 8 (.mv (ki 0))]
def s107_2 : List CI := [q0 9 (.bin .lss (.tmp 8) (.tmp 7))]
def s107_3 : List CI := [q0 10 (.mv (.tmp 8)), q0 5 (.mv (.tmp 10))]
def s107_4 : List CI := [q0 11 (.mv (.tmp 1)), q0 12 (.mv (.tmp 0)), q0 13 (.mv (.tmp 5)), q0 14 (.iaddr 4 (.tmp 12) (.tmp 13)), q0 15 (.load true 4 (.tmp 14)), q0 16 (.callv (.tmp 11) [.tmp 15])]
def s107_5 : List CI := [q0 17 (.mv (.tmp 5)), q0 4 (.mv (.tmp 17))]
def s107_6 : List CI := [q0 18 (.bin .add (.tmp 8) (ki 1)), q0 8 (.mv (.tmp 18))]
def s107_7 : List CI := [q0 4 (.mv (.const (.int .i64 (-1))))]
def a107 : AC := (.seq (.reg s107_0) (.keep [0, 1] (.seq (.seq (.reg s107_1) (.keep [0, 1, 7, 8] (.block 0 (.loop (.keep [0, 1, 7, 8] (.seq (.reg s107_2) (.keep [0, 1, 7, 8, 9] (.seq (.cond (.tmp 9) .skip (.exit 0)) (.keep [0, 1, 7, 8] (.seq (.block 1 (.seq (.reg s107_3) (.keep [0, 1, 5, 7, 8] (.seq (.reg s107_4) (.keep [0, 1, 5, 7, 8, 16] (.cond (.tmp 16) (.seq (.reg s107_5) .ret) .skip)))))) (.keep [0, 1, 7, 8] (.reg s107_6)))))))))))) (.keep [] (.seq (.reg s107_7) .ret)))))
def c107 : FC := ⟨19, a107.erase, [.tmp 4]⟩
theorem comp107 : compF Tryz.prog Tryz.f107 = some c107 := by kernel_rfl
theorem era107 : c107.code = a107.erase := rfl
def s119_0 : List CI := [q0 1 (.box 124 (.tmp 0)), q0 2 (.mv (ks ⟨#[]⟩))]
def s119_1 : List CI := [q0 2 (.mv (ks ⟨#[110, 117, 108, 108]⟩))]
def a119 : AC := (.seq (.reg s119_0) (.keep [] (.seq (.reg s119_1) .ret)))
def c119 : FC := ⟨3, a119.erase, [.tmp 2]⟩
theorem comp119 : compF Tryz.prog Tryz.f119 = some c119 := by kernel_rfl
theorem era119 : c119.code = a119.erase := rfl
def s120_0 : List CI := [q0 1 (.box 124 (.tmp 0)), q0 2 (.mv (ks ⟨#[]⟩))]
def s120_1 : List CI := [q0 3 (.faddr 0 (.tmp 1)), q0 4 (.faddr 1 (.tmp 3)), q0 5 (.load false 1 (.tmp 4)), q0 6 (.bin .eql (.tmp 5) (ki 1)), q0 7 (.call 139 [.tmp 6]), q0 2 (.mv (.tmp 7))]
def a120 : AC := (.seq (.reg s120_0) (.keep [1] (.seq (.reg s120_1) .ret)))
def c120 : FC := ⟨8, a120.erase, [.tmp 2]⟩
theorem comp120 : compF Tryz.prog Tryz.f120 = some c120 := by kernel_rfl
theorem era120 : c120.code = a120.erase := rfl
def s121_0 : List CI := [q0 1 (.box 124 (.tmp 0)), q0 2 (.mv (ks ⟨#[]⟩))]
def s121_1 : List CI := [q0 3 (.faddr 0 (.tmp 1)), q0 4 (.faddr 1 (.tmp 3)), q0 5 (.load false 1 (.tmp 4)), q0 6 (.call 44 [.tmp 5]), q0 2 (.mv (.tmp 6))]
def a121 : AC := (.seq (.reg s121_0) (.keep [1] (.seq (.reg s121_1) .ret)))
def c121 : FC := ⟨7, a121.erase, [.tmp 2]⟩
theorem comp121 : compF Tryz.prog Tryz.f121 = some c121 := by kernel_rfl
theorem era121 : c121.code = a121.erase := rfl
def s122_0 : List CI := [q0 1 (.box 124 (.tmp 0)), q0 2 (.mv (ks ⟨#[]⟩))]
def s122_1 : List CI := [q0 3 (.faddr 0 (.tmp 1)), q0 4 (.faddr 1 (.tmp 3)), q0 5 (.load false 1 (.tmp 4)), q0 6 (.call 140 [.tmp 5]), q0 2 (.mv (.tmp 6))]
def a122 : AC := (.seq (.reg s122_0) (.keep [1] (.seq (.reg s122_1) .ret)))
def c122 : FC := ⟨7, a122.erase, [.tmp 2]⟩
theorem comp122 : compF Tryz.prog Tryz.f122 = some c122 := by kernel_rfl
theorem era122 : c122.code = a122.erase := rfl
def s123_0 : List CI := [q0 1 (.box 124 (.tmp 0)), q0 2 (.mv (ks ⟨#[]⟩))]
def s123_1 : List CI := [q0 3 (.faddr 0 (.tmp 1)), q0 4 (.faddr 2 (.tmp 3)), q0 5 (.load false 1 (.tmp 4)), q0 6 (.bin .add (ks ⟨#[34]⟩) (.tmp 5)), q0 7 (.bin .add (.tmp 6) (ks ⟨#[34]⟩)), q0 2 (.mv (.tmp 7))]
def a123 : AC := (.seq (.reg s123_0) (.keep [1] (.seq (.reg s123_1) .ret)))
def c123 : FC := ⟨8, a123.erase, [.tmp 2]⟩
theorem comp123 : compF Tryz.prog Tryz.f123 = some c123 := by kernel_rfl
theorem era123 : c123.code = a123.erase := rfl
def s124_0 : List CI := [q0 1 (.box 124 (.tmp 0)), q0 2 (.mv (ks ⟨#[]⟩))]
def s124_1 : List CI := [q0 3 (.faddr 0 (.tmp 1)), q0 4 (.faddr 2 (.tmp 3)), q0 5 (.load false 1 (.tmp 4)), q0 6 (.bin .add (ks ⟨#[64]⟩) (.tmp 5)), q0 2 (.mv (.tmp 6))]
def a124 : AC := (.seq (.reg s124_0) (.keep [1] (.seq (.reg s124_1) .ret)))
def c124 : FC := ⟨7, a124.erase, [.tmp 2]⟩
theorem comp124 : compF Tryz.prog Tryz.f124 = some c124 := by kernel_rfl
theorem era124 : c124.code = a124.erase := rfl
def s126_0 : List CI := [q0 2 (.mv (ks ⟨#[]⟩))]
def s126_1 : List CI := [q0 3 (.mv (ks ⟨#[]⟩))]
def s126_2 : List CI := [q0 7 (.mv (.tmp 0)), q0 4 (.mv (.tmp 7))]
def s126_3 : List CI := [q0 5 (.mv (ki 0))]
def s126_4 : List CI := [q0 8 (.mv (.tmp 5)), q0 9 (.bin .lss (.tmp 8) (ki 7)), q0 10 (.mv (.tmp 9)), q1 11 (.mv (.tmp 4)) 10 false, q1 12 (.bin .neq (.tmp 11) (ki 0)) 10 false, q0 13 (.pick (.tmp 10) kT (.tmp 12))]
def s126_5 : List CI := [q0 16 (.mv (.tmp 4)), q0 17 (.bin .rem (.tmp 16) (ki 10)), q0 6 (.mv (.tmp 17))]
def s126_6 : List CI := [q0 18 (.mv (.tmp 6)), q0 19 (.bin .lss (.tmp 18) (ki 0))]
def s126_7 : List CI := [q0 20 (.mv (.tmp 6)), q0 21 (.un .neg (.tmp 20)), q0 6 (.mv (.tmp 21))]
def s126_8 : List CI := [q0 22 (.mv (.tmp 5)), q0 23 (.bin .eql (.tmp 22) (ki 6))]
def s126_9 : List CI := [q0 24 (.mv (.tmp 3)), q0 25 (.bin .add (ks ⟨#[46]⟩) (.tmp 24)), q0 3 (.mv (.tmp 25))]
def s126_10 : List CI := [q0 26 (.mv (.tmp 6)), q0 27 (.bin .add (ki 48) (.tmp 26)), q0 28 (.cvint .u8 (.tmp 27)), q0 29 (.mksl 5 1 [.tmp 28]), q0 30 (.extq (.convert 81 9 (.tmp 29)) 9 [.sl 5, .int .u8, .str, .other] [.tmp 29]), q0 31 (.mv (.tmp 3)), q0 32 (.bin .add (.tmp 30) (.tmp 31)), q0 3 (.mv (.tmp 32))]
def s126_11 : List CI := [q0 33 (.mv (.tmp 4)), q0 34 (.bin .quo (.tmp 33) (ki 10)), q0 4 (.mv (.tmp 34))]
def s126_12 : List CI := [q0 14 (.mv (.tmp 5)), q0 15 (.bin .add (.tmp 14) (ki 1)), q0 5 (.mv (.tmp 15))]
def s126_13 : List CI := [q0 35 (.mv (.tmp 0)), q0 36 (.bin .lss (.tmp 35) (ki 0))]
def s126_14 : List CI := [q0 37 (.mv (.tmp 3)), q0 38 (.bin .add (ks ⟨#[45]⟩) (.tmp 37)), q0 2 (.mv (.tmp 38))]
def s126_15 : List CI := [q0 39 (.mv (.tmp 3)), q0 2 (.mv (.tmp 39))]
def a126 : AC := (.seq (.reg s126_0) (.keep [0] (.seq (.reg s126_1) (.keep [0, 3] (.seq (.reg s126_2) (.keep [0, 3, 4] (.seq (.seq (.reg s126_3) (.keep [0, 3, 4, 5] (.block 0 (.loop (.keep [0, 3, 4, 5] (.seq (.seq (.reg s126_4) (.keep [0, 3, 4, 5, 13] (.cond (.tmp 13) .skip (.exit 0)))) (.keep [0, 3, 4, 5] (.seq (.block 1 (.seq (.reg s126_5) (.keep [0, 3, 4, 5, 6] (.seq (.seq (.reg s126_6) (.keep [0, 3, 4, 5, 6, 19] (.cond (.tmp 19) (.reg s126_7) .skip))) (.keep [0, 3, 4, 5, 6] (.seq (.seq (.reg s126_8) (.keep [0, 3, 4, 5, 6, 23] (.cond (.tmp 23) (.reg s126_9) .skip))) (.keep [0, 3, 4, 5, 6] (.seq (.reg s126_10) (.keep [0, 3, 4, 5] (.reg s126_11)))))))))) (.keep [0, 3, 4, 5] (.reg s126_12)))))))))) (.keep [0, 3] (.seq (.seq (.reg s126_13) (.keep [3, 36] (.cond (.tmp 36) (.seq (.reg s126_14) .ret) .skip))) (.keep [3] (.seq (.reg s126_15) .ret)))))))))))
def c126 : FC := ⟨40, a126.erase, [.tmp 2]⟩
theorem comp126 : compF Tryz.prog Tryz.f126 = some c126 := by kernel_rfl
theorem era126 : c126.code = a126.erase := rfl
def s127_0 : List CI := [q0 4 (.mv (ki 0))]
def s127_1 : List CI := [q0 5 (.mv (.tmp 1))]
def s127_2 : List CI := [q0 7 (.bin .eql (.tmp 5) (ks ⟨#[111, 114]⟩)), q0 6 (.mv (.tmp 7))]
def s127_3 : List CI := [q0 4 (.mv (ki 2))]
def s127_4 : List CI := [q0 9 (.bin .eql (.tmp 5) (ks ⟨#[97, 110, 100]⟩)), q0 8 (.mv (.tmp 9))]
def s127_5 : List CI := [q0 4 (.mv (ki 3))]
def s127_6 : List CI := [q0 11 (.bin .eql (.tmp 5) (ks ⟨#[110, 111, 116]⟩)), q0 10 (.mv (.tmp 11))]
def s127_7 : List CI := [q0 4 (.mv (ki 4))]
def s127_8 : List CI := [q0 13 (.bin .eql (.tmp 5) (ks ⟨#[61, 61]⟩)), q0 12 (.mv (.tmp 13))]
def s127_9 : List CI := [q0 14 (.bin .eql (.tmp 5) (ks ⟨#[33, 61]⟩)), q0 12 (.mv (.tmp 14))]
def s127_10 : List CI := [q0 15 (.bin .eql (.tmp 5) (ks ⟨#[60]⟩)), q0 12 (.mv (.tmp 15))]
def s127_11 : List CI := [q0 16 (.bin .eql (.tmp 5) (ks ⟨#[60, 61]⟩)), q0 12 (.mv (.tmp 16))]
def s127_12 : List CI := [q0 4 (.mv (ki 5))]
def s127_13 : List CI := [q0 18 (.bin .eql (.tmp 5) (ks ⟨#[42]⟩)), q0 17 (.mv (.tmp 18))]
def s127_14 : List CI := [q0 19 (.bin .eql (.tmp 5) (ks ⟨#[47]⟩)), q0 17 (.mv (.tmp 19))]
def s127_15 : List CI := [q0 4 (.mv (ki 7))]
def s127_16 : List CI := [q0 21 (.bin .eql (.tmp 5) (ks ⟨#[110, 117, 108, 108]⟩)), q0 20 (.mv (.tmp 21))]
def s127_17 : List CI := [q0 4 (.mv (ki 9))]
def s127_18 : List CI := [q0 22 (.mv (.tmp 0)), q0 23 (.bin .eql (.tmp 22) (ki 6))]
def s127_19 : List CI := [q0 4 (.mv (ki 8))]
def s127_20 : List CI := [q0 4 (.mv (ki 6))]
def a127 : AC := (.seq (.reg s127_0) (.keep [0, 1] (.seq (.seq (.reg s127_1) (.keep [0, 5] (.block 0 (.seq (.reg s127_2) (.keep [0, 5, 6] (.cond (.tmp 6) (.seq (.reg s127_3) .ret) (.seq (.reg s127_4) (.keep [0, 5, 8] (.cond (.tmp 8) (.seq (.reg s127_5) .ret) (.seq (.reg s127_6) (.keep [0, 5, 10] (.cond (.tmp 10) (.seq (.reg s127_7) .ret) (.seq (.seq (.reg s127_8) (.keep [0, 5, 12] (.cond (.tmp 12) .skip (.seq (.reg s127_9) (.keep [0, 5, 12] (.cond (.tmp 12) .skip (.seq (.reg s127_10) (.keep [0, 5, 12] (.cond (.tmp 12) .skip (.reg s127_11)))))))))) (.keep [0, 5, 12] (.cond (.tmp 12) (.seq (.reg s127_12) .ret) (.seq (.seq (.reg s127_13) (.keep [0, 5, 17] (.cond (.tmp 17) .skip (.reg s127_14)))) (.keep [0, 5, 17] (.cond (.tmp 17) (.seq (.reg s127_15) .ret) (.seq (.reg s127_16) (.keep [0, 20] (.cond (.tmp 20) (.seq (.reg s127_17) .ret) .skip))))))))))))))))))))) (.keep [0] (.seq (.seq (.reg s127_18) (.keep [23] (.cond (.tmp 23) (.seq (.reg s127_19) .ret) .skip))) (.keep [] (.seq (.reg s127_20) .ret)))))))
def c127 : FC := ⟨24, a127.erase, [.tmp 4]⟩
theorem comp127 : compF Tryz.prog Tryz.f127 = some c127 := by kernel_rfl
theorem era127 : c127.code = a127.erase := rfl
def s128_0 : List CI := [q0 2 (.mv (ks ⟨#[]⟩))]
def s128_1 : List CI := [q0 4 (.mv (.tmp 0)), q0 5 (.bin .gtr (.tmp 4) (.const (.int .i64 (-10)))), q0 6 (.mv (.tmp 5)), q1 7 (.mv (.tmp 0)) 6 true, q1 8 (.bin .lss (.tmp 7) (ki 10)) 6 true, q0 9 (.pick (.tmp 6) (.tmp 8) kF)]
def s128_2 : List CI := [q0 10 (.mv (.tmp 0)), q0 11 (.bin .lss (.tmp 10) (ki 0))]
def s128_3 : List CI := [q0 12 (.mv (.tmp 0)), q0 13 (.bin .sub (ki 48) (.tmp 12)), q0 14 (.cvint .u8 (.tmp 13)), q0 15 (.mksl 5 1 [.tmp 14]), q0 16 (.extq (.convert 81 9 (.tmp 15)) 9 [.sl 5, .int .u8, .str, .other] [.tmp 15]), q0 17 (.bin .add (ks ⟨#[45]⟩) (.tmp 16)), q0 2 (.mv (.tmp 17))]
def s128_4 : List CI := [q0 18 (.mv (.tmp 0)), q0 19 (.bin .add (ki 48) (.tmp 18)), q0 20 (.cvint .u8 (.tmp 19)), q0 21 (.mksl 5 1 [.tmp 20]), q0 22 (.extq (.convert 81 9 (.tmp 21)) 9 [.sl 5, .int .u8, .str, .other] [.tmp 21]), q0 2 (.mv (.tmp 22))]
def s128_5 : List CI := [q0 23 (.mv (.tmp 0)), q0 24 (.bin .rem (.tmp 23) (ki 10)), q0 3 (.mv (.tmp 24))]
def s128_6 : List CI := [q0 25 (.mv (.tmp 3)), q0 26 (.bin .lss (.tmp 25) (ki 0))]
def s128_7 : List CI := [q0 27 (.mv (.tmp 3)), q0 28 (.un .neg (.tmp 27)), q0 3 (.mv (.tmp 28))]
def s128_8 : List CI := [q0 29 (.mv (.tmp 0)), q0 30 (.bin .quo (.tmp 29) (ki 10)), q0 31 (.call 128 [.tmp 30]), q0 32 (.mv (.tmp 3)), q0 33 (.bin .add (ki 48) (.tmp 32)), q0 34 (.cvint .u8 (.tmp 33)), q0 35 (.mksl 5 1 [.tmp 34]), q0 36 (.extq (.convert 81 9 (.tmp 35)) 9 [.sl 5, .int .u8, .str, .other] [.tmp 35]), q0 37 (.bin .add (.tmp 31) (.tmp 36)), q0 2 (.mv (.tmp 37))]
def a128 : AC := (.seq (.reg s128_0) (.keep [0] (.seq (.seq (.reg s128_1) (.keep [0, 9] (.cond (.tmp 9) (.seq (.seq (.reg s128_2) (.keep [0, 11] (.cond (.tmp 11) (.seq (.reg s128_3) .ret) .skip))) (.keep [0] (.seq (.reg s128_4) .ret))) .skip))) (.keep [0] (.seq (.reg s128_5) (.keep [0, 3] (.seq (.seq (.reg s128_6) (.keep [0, 3, 26] (.cond (.tmp 26) (.reg s128_7) .skip))) (.keep [0, 3] (.seq (.dreg s128_8) .ret)))))))))
def c128 : FC := ⟨38, a128.erase, [.tmp 2]⟩
theorem comp128 : compF Tryz.prog Tryz.f128 = some c128 := by kernel_rfl
theorem era128 : c128.code = a128.erase := rfl
def s140_0 : List CI := [q0 2 (.mv (ks ⟨#[]⟩))]
def s140_1 : List CI := [q0 6 (.mv (.tmp 0)), q0 7 (.call 44 [.tmp 6]), q0 3 (.mv (.tmp 7))]
def s140_2 : List CI := [q0 4 (.mv (ks ⟨#[]⟩))]
def s140_3 : List CI := [q0 8 (.mv (.tmp 0)), q0 9 (.bin .lss (.tmp 8) (ki 0))]
def s140_4 : List CD := [.mk 0 (q0 10 (.mv (.tmp 3))) [], .mk 1 (q0 11 (.extq (.slice 9 (.tmp 10) (some (ki 1)) none none) 9 [.str] [.tmp 10, ki 1])) [], .mk 2 (q0 4 (.mv (ks ⟨#[45]⟩))) [], .mk 3 (q0 3 (.mv (.tmp 11))) []]
def s140_5 : List CI := [q0 12 (.mv (.tmp 3)), q0 13 (.len true (.tmp 12)), q0 14 (.bin .leq (.tmp 13) (ki 6))]
def s140_6 : List CI := [q0 15 (.mv (.tmp 3)), q0 16 (.bin .add (ks ⟨#[48]⟩) (.tmp 15)), q0 3 (.mv (.tmp 16))]
def s140_7 : List CI := [q0 17 (.mv (.tmp 3)), q0 18 (.len true (.tmp 17)), q0 19 (.bin .sub (.tmp 18) (ki 6)), q0 5 (.mv (.tmp 19))]
def s140_8 : List CI := [q0 20 (.mv (.tmp 4)), q0 21 (.mv (.tmp 3)), q0 22 (.mv (.tmp 5)), q0 23 (.extq (.slice 9 (.tmp 21) none (some (.tmp 22)) none) 9 [.str] [.tmp 21, .tmp 22]), q0 24 (.bin .add (.tmp 20) (.tmp 23)), q0 25 (.bin .add (.tmp 24) (ks ⟨#[46]⟩)), q0 26 (.mv (.tmp 3)), q0 27 (.mv (.tmp 5)), q0 28 (.extq (.slice 9 (.tmp 26) (some (.tmp 27)) none none) 9 [.str] [.tmp 26, .tmp 27]), q0 29 (.bin .add (.tmp 25) (.tmp 28)), q0 2 (.mv (.tmp 29))]
def a140 : AC := (.seq (.reg s140_0) (.keep [0] (.seq (.reg s140_1) (.keep [0, 3] (.seq (.reg s140_2) (.keep [0, 3, 4] (.seq (.seq (.reg s140_3) (.keep [3, 4, 9] (.cond (.tmp 9) (.mreg [] s140_4) .skip))) (.keep [3, 4] (.seq (.block 0 (.loop (.keep [3, 4] (.seq (.seq (.reg s140_5) (.keep [3, 4, 14] (.cond (.tmp 14) .skip (.exit 0)))) (.keep [3, 4] (.block 1 (.reg s140_6))))))) (.keep [3, 4] (.seq (.reg s140_7) (.keep [3, 4, 5] (.seq (.dreg s140_8) .ret)))))))))))))
def c140 : FC := ⟨30, a140.erase, [.tmp 2]⟩
theorem comp140 : compF Tryz.prog Tryz.f140 = some c140 := by kernel_rfl
theorem era140 : c140.code = a140.erase := rfl
end Go.Proofs.YtklncofkcfjkeaaGreatDoor
