
/- The compiled code of functions, printed by a program of mine. -/
import Derived.Test.YtklncofkcfjkeaaDoorGi
import Derived.Test.YtklncofkcfjkeaaDoorRows
set_option linter.unusedVariables false
namespace Go.Proofs.YtklncofkcfjkeaaDoor
open Go.Sx
def s36_0 : List CI := [q0 2 (.box 34 (.tmp 0)), q0 4 (.mv kF)]
def s36_1 : List CI := [q0 12 (.faddr 0 (.tmp 2)), q0 13 (.load false 1 (.tmp 12)), q0 14 (.build [.int .i64 0, .string ⟨#[]⟩, .string ⟨#[]⟩, .string ⟨#[]⟩, .int .i64 0, .int .i64 0, .string ⟨#[]⟩, .slice none 0 0, .int .i64 0, .int .i64 0, .int .i64 0, .slice none 0 0] [(0, 1, .tmp 13)]), q0 5 (.alloc 34 (.agg #[.int .i64 0, .string ⟨#[]⟩, .string ⟨#[]⟩, .string ⟨#[]⟩, .int .i64 0, .int .i64 0, .string ⟨#[]⟩, .slice none 0 0, .int .i64 0, .int .i64 0, .int .i64 0, .slice none 0 0])), .mk none (.store 12 (.tmp 5) (.tmp 14)) none]
def s36_2 : List CI := [q0 6 (.mv (ki 0))]
def s36_3 : List CI := [q0 15 (.faddr 0 (.tmp 2)), q0 16 (.load false 1 (.tmp 15))]
def s36_4 : List CI := [q0 18 (.bin .eql (.tmp 16) (ki 1)), q0 17 (.mv (.tmp 18))]
def s36_5 : List CD := [.mk 0 (q0 19 (.faddr 4 (.tmp 2))) [], .mk 1 (q0 20 (.load true 3 (.tmp 19))) [], .mk 2 (q0 21 (.faddr 7 (.tmp 2))) [], .mk 3 (q0 22 (.load false 1 (.tmp 21))) [5], .mk 4 (q0 23 (.faddr 2 (.tmp 2))) [], .mk 5 (q0 24 (.load false 1 (.tmp 23))) [5, 5], .mk 6 (q0 25 (.faddr 4 (.tmp 5))) [], .mk 7 (.mk none (.store 3 (.tmp 25) (.tmp 20)) none) [5], .mk 8 (q0 26 (.faddr 7 (.tmp 5))) [], .mk 9 (.mk none (.store 1 (.tmp 26) (.tmp 22)) none) [5], .mk 10 (q0 27 (.faddr 2 (.tmp 5))) [], .mk 11 (.mk none (.store 1 (.tmp 27) (.tmp 24)) none) [5]]
def s36_6 : List CI := [q0 28 (.faddr 4 (.tmp 2)), q0 29 (.load true 3 (.tmp 28)), q0 30 (.call 55 [.tmp 29]), q0 31 (.bin .neq (.tmp 30) (ki 0)), q0 32 (.mv (.tmp 31)), q1 33 (.faddr 4 (.tmp 2)) 32 false, q1 34 (.faddr 1 (.tmp 33)) 32 false, q1 35 (.load false 1 (.tmp 34)) 32 false, q1 36 (.bin .lss (.tmp 35) (ki 0)) 32 false, q0 37 (.pick (.tmp 32) kT (.tmp 36)), q0 38 (.mv (.tmp 37)), q1 39 (.faddr 4 (.tmp 2)) 38 false, q1 40 (.faddr 0 (.tmp 39)) 38 false, q1 41 (.load false 1 (.tmp 40)) 38 false, q1 42 (.faddr 7 (.tmp 2)) 38 false, q1 43 (.load false 1 (.tmp 42)) 38 false, q1 44 (.faddr 2 (.tmp 2)) 38 false, q1 45 (.load false 1 (.tmp 44)) 38 false, q1 46 (.build [.int .i64 0, .slice none 0 0, .string ⟨#[]⟩] [(0, 1, .tmp 41), (1, 1, .tmp 43), (2, 1, .tmp 45)]) 38 false, q1 47 (.call 12 [.tmp 46]) 38 false, q1 48 (.bin .neq (.tmp 47) (ki 0)) 38 false, q0 49 (.pick (.tmp 38) kT (.tmp 48))]
def s36_7 : List CI := [q0 4 (.mv kF)]
def s36_8 : List CI := [q0 51 (.bin .eql (.tmp 16) (ki 2)), q0 50 (.mv (.tmp 51))]
def s36_9 : List CI := [q0 52 (.bin .eql (.tmp 16) (ki 3)), q0 50 (.mv (.tmp 52))]
def s36_10 : List CI := [q0 53 (.bin .eql (.tmp 16) (ki 4)), q0 50 (.mv (.tmp 53))]
def s36_11 : List CI := [q0 54 (.faddr 2 (.tmp 2)), q0 55 (.load false 1 (.tmp 54)), q0 56 (.faddr 2 (.tmp 5)), .mk none (.store 1 (.tmp 56) (.tmp 55)) none]
def s36_12 : List CI := [q0 57 (.mv (.tmp 1)), q0 58 (.faddr 0 (.tmp 2)), q0 59 (.load false 1 (.tmp 58)), q0 60 (.bin .eql (.tmp 59) (ki 2)), q0 61 (.eqb true .bool (.tmp 57) (.tmp 60)), q0 62 (.mv (.tmp 61)), q1 63 (.faddr 2 (.tmp 2)) 62 false, q1 64 (.load false 1 (.tmp 63)) 62 false, q1 65 (.call 14 [.tmp 64]) 62 false, q1 66 (.un .not (.tmp 65)) 62 false, q0 67 (.pick (.tmp 62) kT (.tmp 66))]
def s36_13 : List CI := [q0 4 (.mv kF)]
def s36_14 : List CI := [q0 68 (.faddr 0 (.tmp 2)), q0 69 (.load false 1 (.tmp 68)), q0 70 (.bin .eql (.tmp 69) (ki 4))]
def s36_15 : List CI := [q0 6 (.mv (ki 1))]
def s36_16 : List CI := [q0 72 (.bin .eql (.tmp 16) (ki 5)), q0 71 (.mv (.tmp 72))]
def s36_17 : List CD := [.mk 0 (q0 73 (.faddr 1 (.tmp 2))) [], .mk 1 (q0 74 (.load false 1 (.tmp 73))) [], .mk 2 (q0 75 (.faddr 3 (.tmp 2))) [], .mk 3 (q0 76 (.load false 1 (.tmp 75))) [5], .mk 4 (q0 77 (.faddr 8 (.tmp 2))) [], .mk 5 (q0 78 (.load false 1 (.tmp 77))) [5, 5], .mk 6 (q0 79 (.faddr 9 (.tmp 2))) [], .mk 7 (q0 80 (.load true 2 (.tmp 79))) [5, 5, 5], .mk 8 (q0 81 (.faddr 1 (.tmp 5))) [], .mk 9 (.mk none (.store 1 (.tmp 81) (.tmp 74)) none) [5], .mk 10 (q0 82 (.faddr 3 (.tmp 5))) [], .mk 11 (.mk none (.store 1 (.tmp 82) (.tmp 76)) none) [5], .mk 12 (q0 83 (.faddr 8 (.tmp 5))) [], .mk 13 (.mk none (.store 1 (.tmp 83) (.tmp 78)) none) [5], .mk 14 (q0 84 (.faddr 9 (.tmp 5))) [], .mk 15 (.mk none (.store 2 (.tmp 84) (.tmp 80)) none) [5]]
def s36_18 : List CI := [q0 6 (.mv (ki 2))]
def s36_19 : List CI := [q0 7 (.mv (ki 0)), q0 8 (.mv (ki 0))]
def s36_20 : List CI := [q0 85 (.faddr 1 (.tmp 2)), q0 86 (.load false 1 (.tmp 85))]
def s36_21 : List CI := [q0 88 (.bin .eql (.tmp 86) (ks ⟨#[113, 117, 97, 110, 116, 105, 108, 101]⟩)), q0 87 (.mv (.tmp 88))]
def s36_22 : List CI := [q0 7 (.mv (ki 1)), q0 8 (.mv (ki 1000))]
def s36_23 : List CI := [q0 90 (.bin .eql (.tmp 86) (ks ⟨#[100, 101, 99, 97, 121]⟩)), q0 89 (.mv (.tmp 90))]
def s36_24 : List CI := [q0 7 (.mv (ki 1)), q0 8 (.mv (ki 1073741824))]
def s36_25 : List CI := [q0 91 (.mv (.tmp 1)), q0 92 (.mv (.tmp 91)), q1 93 (.load false 1 (.global 0)) 92 false, q1 94 (.faddr 1 (.tmp 2)) 92 false, q1 95 (.load false 1 (.tmp 94)) 92 false, q1 96 (.call 56 [.tmp 93, .tmp 95]) 92 false, q1 97 (.un .not (.tmp 96)) 92 false, q0 98 (.pick (.tmp 92) kT (.tmp 97)), q0 99 (.mv (.tmp 98)), q1 100 (.faddr 3 (.tmp 2)) 99 false, q1 101 (.load false 1 (.tmp 100)) 99 false, q1 102 (.call 14 [.tmp 101]) 99 false, q1 103 (.un .not (.tmp 102)) 99 false, q0 104 (.pick (.tmp 99) kT (.tmp 103)), q0 105 (.mv (.tmp 104)), q1 106 (.faddr 8 (.tmp 2)) 105 false, q1 107 (.load false 1 (.tmp 106)) 105 false, q1 108 (.mv (.tmp 7)) 105 false, q1 109 (.bin .lss (.tmp 107) (.tmp 108)) 105 false, q0 110 (.pick (.tmp 105) kT (.tmp 109)), q0 111 (.mv (.tmp 110)), q1 112 (.faddr 8 (.tmp 2)) 111 false, q1 113 (.load false 1 (.tmp 112)) 111 false, q1 114 (.mv (.tmp 8)) 111 false, q1 115 (.bin .gtr (.tmp 113) (.tmp 114)) 111 false, q0 116 (.pick (.tmp 111) kT (.tmp 115))]
def s36_26 : List CI := [q0 4 (.mv kF)]
def s36_27 : List CI := [q0 117 (.faddr 9 (.tmp 2)), q0 118 (.faddr 0 (.tmp 117)), q0 119 (.load false 1 (.tmp 118)), q0 120 (.bin .lss (.tmp 119) (ki 1)), q0 121 (.mv (.tmp 120)), q1 122 (.faddr 9 (.tmp 2)) 121 false, q1 123 (.faddr 0 (.tmp 122)) 121 false, q1 124 (.load false 1 (.tmp 123)) 121 false, q1 125 (.bin .gtr (.tmp 124) (ki 4)) 121 false, q0 126 (.pick (.tmp 121) kT (.tmp 125)), q0 127 (.mv (.tmp 126)), q1 128 (.faddr 9 (.tmp 2)) 127 false, q1 129 (.faddr 0 (.tmp 128)) 127 false, q1 130 (.load false 1 (.tmp 129)) 127 false, q1 131 (.bin .eql (.tmp 130) (ki 1)) 127 false, q1 132 (.faddr 9 (.tmp 2)) 127 false, q1 133 (.faddr 1 (.tmp 132)) 127 false, q1 134 (.load false 1 (.tmp 133)) 127 false, q1 135 (.bin .eql (.tmp 134) (ki 0)) 127 false, q1 136 (.eqb true .bool (.tmp 131) (.tmp 135)) 127 false, q0 137 (.pick (.tmp 127) kT (.tmp 136)), q0 138 (.mv (.tmp 137)), q1 139 (.faddr 9 (.tmp 2)) 138 false, q1 140 (.faddr 1 (.tmp 139)) 138 false, q1 141 (.load false 1 (.tmp 140)) 138 false, q1 142 (.bin .lss (.tmp 141) (ki 0)) 138 false, q0 143 (.pick (.tmp 138) kT (.tmp 142)), q0 144 (.mv (.tmp 143)), q1 145 (.faddr 9 (.tmp 2)) 144 false, q1 146 (.faddr 1 (.tmp 145)) 144 false, q1 147 (.load false 1 (.tmp 146)) 144 false, q1 148 (.bin .gtr (.tmp 147) (ki 1099511627776)) 144 false, q0 149 (.pick (.tmp 144) kT (.tmp 148))]
def s36_28 : List CI := [q0 4 (.mv kF)]
def s36_29 : List CI := [q0 1 (.mv kT)]
def s36_30 : List CI := [q0 151 (.bin .eql (.tmp 16) (ki 6)), q0 150 (.mv (.tmp 151))]
def s36_31 : List CI := [q0 152 (.faddr 1 (.tmp 2)), q0 153 (.load false 1 (.tmp 152)), q0 154 (.faddr 1 (.tmp 5)), .mk none (.store 1 (.tmp 154) (.tmp 153)) none, q0 6 (.mv (ki 1))]
def s36_32 : List CI := [q0 155 (.load false 1 (.global 1)), q0 156 (.faddr 1 (.tmp 2)), q0 157 (.load false 1 (.tmp 156)), q0 158 (.call 56 [.tmp 155, .tmp 157]), q0 159 (.un .not (.tmp 158))]
def s36_33 : List CI := [q0 4 (.mv kF)]
def s36_34 : List CI := [q0 161 (.bin .eql (.tmp 16) (ki 7)), q0 160 (.mv (.tmp 161))]
def s36_35 : List CI := [q0 162 (.faddr 1 (.tmp 2)), q0 163 (.load false 1 (.tmp 162)), q0 164 (.faddr 1 (.tmp 5)), .mk none (.store 1 (.tmp 164) (.tmp 163)) none, q0 6 (.mv (ki 2))]
def s36_36 : List CI := [q0 165 (.load false 1 (.global 2)), q0 166 (.faddr 1 (.tmp 2)), q0 167 (.load false 1 (.tmp 166)), q0 168 (.call 56 [.tmp 165, .tmp 167]), q0 169 (.un .not (.tmp 168))]
def s36_37 : List CI := [q0 4 (.mv kF)]
def s36_38 : List CI := [q0 171 (.bin .eql (.tmp 16) (ki 8)), q0 170 (.mv (.tmp 171))]
def s36_39 : List CI := [q0 6 (.mv (ki 3))]
def s36_40 : List CI := [q0 173 (.bin .eql (.tmp 16) (ki 9)), q0 172 (.mv (.tmp 173))]
def s36_41 : List CI := [q0 6 (.mv (ki 2))]
def s36_42 : List CI := [q0 4 (.mv kF)]
def s36_43 : List CI := [q0 174 (.load true 12 (.tmp 2)), q0 175 (.load true 12 (.tmp 5)), q0 176 (.call 57 [.tmp 174, .tmp 175]), q0 177 (.un .not (.tmp 176)), q0 178 (.mv (.tmp 177)), q1 179 (.faddr 11 (.tmp 2)) 178 false, q1 180 (.load false 1 (.tmp 179)) 178 false, q1 181 (.len false (.tmp 180)) 178 false, q1 182 (.mv (.tmp 6)) 178 false, q1 183 (.bin .neq (.tmp 181) (.tmp 182)) 178 false, q0 184 (.pick (.tmp 178) kT (.tmp 183))]
def s36_44 : List CI := [q0 4 (.mv kF)]
def s36_45 : List CI := [q0 185 (.faddr 11 (.tmp 2)), q0 186 (.load false 1 (.tmp 185)), q0 187 (.len false (.tmp 186)), q0 188 (.mv (ki 0))]
def s36_46 : List CI := [q0 189 (.bin .lss (.tmp 188) (.tmp 187))]
def s36_47 : List CI := [q0 190 (.iaddr 12 (.tmp 186) (.tmp 188)), q0 191 (.load true 12 (.tmp 190)), q0 10 (.alloc 34 (.agg #[.int .i64 0, .string ⟨#[]⟩, .string ⟨#[]⟩, .string ⟨#[]⟩, .int .i64 0, .int .i64 0, .string ⟨#[]⟩, .slice none 0 0, .int .i64 0, .int .i64 0, .int .i64 0, .slice none 0 0])), .mk none (.store 12 (.tmp 10) (.tmp 191)) none]
def s36_48 : List CI := [q0 192 (.load true 12 (.tmp 10)), q0 193 (.mv (.tmp 1)), q0 194 (.call 36 [.tmp 192, .tmp 193]), q0 195 (.un .not (.tmp 194))]
def s36_49 : List CI := [q0 4 (.mv kF)]
def s36_50 : List CI := [q0 196 (.bin .add (.tmp 188) (ki 1)), q0 188 (.mv (.tmp 196))]
def s36_51 : List CI := [q0 197 (.faddr 1 (.tmp 2)), q0 198 (.load false 1 (.tmp 197)), q0 199 (.bin .eql (.tmp 198) (ks ⟨#[99, 111, 117, 110, 116]⟩)), q0 200 (.mv (.tmp 199)), q1 201 (.faddr 0 (.tmp 2)) 200 true, q1 202 (.load false 1 (.tmp 201)) 200 true, q1 203 (.bin .eql (.tmp 202) (ki 5)) 200 true, q0 204 (.pick (.tmp 200) (.tmp 203) kF)]
def s36_52 : List CI := [q0 205 (.faddr 11 (.tmp 2)), q0 206 (.load false 1 (.tmp 205)), q0 207 (.iaddr 12 (.tmp 206) (ki 0)), q0 208 (.load true 12 (.tmp 207)), q0 11 (.alloc 34 (.agg #[.int .i64 0, .string ⟨#[]⟩, .string ⟨#[]⟩, .string ⟨#[]⟩, .int .i64 0, .int .i64 0, .string ⟨#[]⟩, .slice none 0 0, .int .i64 0, .int .i64 0, .int .i64 0, .slice none 0 0])), .mk none (.store 12 (.tmp 11) (.tmp 208)) none]
def s36_53 : List CI := [q0 209 (.load true 12 (.tmp 11)), q0 210 (.build [.int .i64 0, .int .i64 0, .string ⟨#[]⟩] [(0, 1, ki 1), (1, 1, ki 1)]), q0 211 (.build [.int .i64 0, .string ⟨#[]⟩, .string ⟨#[]⟩, .string ⟨#[]⟩, .int .i64 0, .int .i64 0, .string ⟨#[]⟩, .slice none 0 0, .int .i64 0, .int .i64 0, .int .i64 0, .slice none 0 0] [(0, 1, ki 1), (4, 3, .tmp 210)]), q0 212 (.call 57 [.tmp 209, .tmp 211]), q0 4 (.mv (.tmp 212))]
def s36_54 : List CI := [q0 4 (.mv kT)]
def a36 : AC := (.seq (.reg s36_0) (.keep [1, 2] (.seq (.reg s36_1) (.keep [1, 2, 5] (.seq (.reg s36_2) (.keep [1, 2, 5, 6] (.seq (.seq (.reg s36_3) (.keep [1, 2, 5, 6, 16] (.block 0 (.seq (.reg s36_4) (.keep [1, 2, 5, 6, 16, 17] (.cond (.tmp 17) (.seq (.mreg [] s36_5) (.keep [1, 2, 5, 6] (.seq (.reg s36_6) (.keep [1, 2, 5, 6, 49] (.cond (.tmp 49) (.seq (.reg s36_7) .ret) .skip))))) (.seq (.seq (.reg s36_8) (.keep [1, 2, 5, 6, 16, 50] (.cond (.tmp 50) .skip (.seq (.reg s36_9) (.keep [1, 2, 5, 6, 16, 50] (.cond (.tmp 50) .skip (.reg s36_10))))))) (.keep [1, 2, 5, 6, 16, 50] (.cond (.tmp 50) (.seq (.reg s36_11) (.keep [1, 2, 5, 6] (.seq (.seq (.reg s36_12) (.keep [1, 2, 5, 6, 67] (.cond (.tmp 67) (.seq (.reg s36_13) .ret) .skip))) (.keep [1, 2, 5, 6] (.seq (.reg s36_14) (.keep [1, 2, 5, 6, 70] (.cond (.tmp 70) (.reg s36_15) .skip))))))) (.seq (.reg s36_16) (.keep [1, 2, 5, 16, 71] (.cond (.tmp 71) (.seq (.mreg [] s36_17) (.keep [1, 2, 5] (.seq (.reg s36_18) (.keep [1, 2, 5, 6] (.seq (.reg s36_19) (.keep [1, 2, 5, 6, 7, 8] (.seq (.seq (.reg s36_20) (.keep [1, 2, 5, 6, 7, 8, 86] (.block 1 (.seq (.reg s36_21) (.keep [1, 2, 5, 6, 7, 8, 86, 87] (.cond (.tmp 87) (.reg s36_22) (.seq (.reg s36_23) (.keep [1, 2, 5, 6, 7, 8, 89] (.cond (.tmp 89) (.reg s36_24) .skip))))))))) (.keep [1, 2, 5, 6, 7, 8] (.seq (.seq (.reg s36_25) (.keep [2, 5, 6, 116] (.cond (.tmp 116) (.seq (.reg s36_26) .ret) .skip))) (.keep [2, 5, 6] (.seq (.seq (.reg s36_27) (.keep [2, 5, 6, 149] (.cond (.tmp 149) (.seq (.reg s36_28) .ret) .skip))) (.keep [2, 5, 6] (.reg s36_29))))))))))))) (.seq (.reg s36_30) (.keep [1, 2, 5, 16, 150] (.cond (.tmp 150) (.seq (.reg s36_31) (.keep [1, 2, 5, 6] (.seq (.reg s36_32) (.keep [1, 2, 5, 6, 159] (.cond (.tmp 159) (.seq (.reg s36_33) .ret) .skip))))) (.seq (.reg s36_34) (.keep [1, 2, 5, 16, 160] (.cond (.tmp 160) (.seq (.reg s36_35) (.keep [1, 2, 5, 6] (.seq (.reg s36_36) (.keep [1, 2, 5, 6, 169] (.cond (.tmp 169) (.seq (.reg s36_37) .ret) .skip))))) (.seq (.reg s36_38) (.keep [1, 2, 5, 16, 170] (.cond (.tmp 170) (.reg s36_39) (.seq (.reg s36_40) (.keep [1, 2, 5, 172] (.cond (.tmp 172) (.reg s36_41) (.seq (.reg s36_42) .ret))))))))))))))))))))))))) (.keep [1, 2, 5, 6] (.seq (.seq (.reg s36_43) (.keep [1, 2, 184] (.cond (.tmp 184) (.seq (.reg s36_44) .ret) .skip))) (.keep [1, 2] (.seq (.seq (.reg s36_45) (.keep [1, 2, 186, 187, 188] (.block 2 (.loop (.keep [1, 2, 186, 187, 188] (.seq (.reg s36_46) (.keep [1, 2, 186, 187, 188, 189] (.seq (.cond (.tmp 189) .skip (.exit 2)) (.keep [1, 2, 186, 187, 188] (.seq (.block 3 (.seq (.reg s36_47) (.keep [1, 2, 10, 186, 187, 188] (.seq (.reg s36_48) (.keep [1, 2, 186, 187, 188, 195] (.cond (.tmp 195) (.seq (.reg s36_49) .ret) .skip)))))) (.keep [1, 2, 186, 187, 188] (.reg s36_50)))))))))))) (.keep [2] (.seq (.seq (.reg s36_51) (.keep [2, 204] (.cond (.tmp 204) (.seq (.reg s36_52) (.keep [11] (.seq (.reg s36_53) .ret))) .skip))) (.keep [] (.seq (.reg s36_54) .ret)))))))))))))))
def c36 : FC := ⟨213, a36.erase, [.tmp 4]⟩
theorem comp36 : compF Tryd.prog Tryd.f36 = some c36 := by kernel_rfl
theorem era36 : c36.code = a36.erase := rfl
def s37_0 : List CI := [q0 2 (.mv kF)]
def s37_1 : List CI := [q0 3 (.mv (.tmp 0)), q0 4 (.bin .neq (.tmp 3) (ks ⟨#[]⟩)), q0 5 (.mv (.tmp 4)), q1 6 (.mv (.tmp 0)) 5 true, q1 7 (.call 58 [.tmp 6, ks ⟨#[32]⟩]) 5 true, q1 8 (.un .not (.tmp 7)) 5 true, q0 9 (.pick (.tmp 5) (.tmp 8) kF), q0 10 (.mv (.tmp 9)), q1 11 (.mv (.tmp 0)) 10 true, q1 12 (.bin .add (ks ⟨#[32]⟩) (.tmp 11)) 10 true, q1 13 (.bin .add (.tmp 12) (ks ⟨#[32]⟩)) 10 true, q1 14 (.call 58 [.const (.string (ByteArray.mk (List.toArray (List.append (List.append [32, 116, 97, 98, 108, 101, 32, 102, 101, 97, 116, 117, 114, 101, 32, 111, 102, 32, 107, 101, 101, 112, 32, 98, 111, 111, 108, 32, 116, 101, 120, 116, 32, 107, 101, 121, 32, 105, 110, 116, 32, 100, 101, 99, 32, 105] [102, 32, 116, 104, 101, 110, 32, 101, 108, 115, 101, 32, 100, 101, 102, 97, 117, 108, 116, 32, 111, 114, 32, 97, 110, 100, 32, 110, 111, 116, 32, 116, 114, 117, 101, 32, 102, 97, 108, 115, 101, 32, 110, 117, 108, 108, 32]) (List.append [99, 111, 117, 110, 116, 32, 115, 117, 109, 32, 109, 101, 97, 110, 32, 109, 105, 110, 32, 109, 97, 120, 32, 102, 105, 114, 115, 116, 32, 108, 97, 115, 116, 32, 100, 105, 115, 116, 105, 110, 99, 116, 32, 113, 117, 97] [110, 116, 105, 108, 101, 32, 100, 101, 99, 97, 121, 32, 97, 108, 108, 32, 115, 108, 105, 100, 105, 110, 103, 32, 116, 117, 109, 98, 108, 105, 110, 103, 32, 115, 101, 115, 115, 105, 111, 110, 32, 119, 104, 101, 114, 101, 32]))))), .tmp 13]) 10 true, q0 15 (.pick (.tmp 10) (.tmp 14) kF), q0 2 (.mv (.tmp 15))]
def a37 : AC := (.seq (.reg s37_0) (.keep [0] (.seq (.reg s37_1) .ret)))
def c37 : FC := ⟨16, a37.erase, [.tmp 2]⟩
theorem comp37 : compF Tryd.prog Tryd.f37 = some c37 := by kernel_rfl
theorem era37 : c37.code = a37.erase := rfl
def s38_0 : List CI := [q0 2 (.mv (ks ⟨#[]⟩))]
def s38_1 : List CI := [q0 3 (.mv (.tmp 0)), q0 4 (.len false (.tmp 3)), q0 5 (.bin .eql (.tmp 4) (ki 0))]
def s38_2 : List CI := [q0 2 (.mv (ks ⟨#[]⟩))]
def s38_3 : List CI := [q0 6 (.mv (.tmp 0)), q0 7 (.call 59 [.tmp 6]), q0 8 (.mksl 9 1 [ks ⟨#[32, 91]⟩, .tmp 7, ks ⟨#[93]⟩]), q0 9 (.call 23 [.tmp 8]), q0 2 (.mv (.tmp 9))]
def a38 : AC := (.seq (.reg s38_0) (.keep [0] (.seq (.seq (.reg s38_1) (.keep [0, 5] (.cond (.tmp 5) (.seq (.reg s38_2) .ret) .skip))) (.keep [0] (.seq (.reg s38_3) .ret)))))
def c38 : FC := ⟨10, a38.erase, [.tmp 2]⟩
theorem comp38 : compF Tryd.prog Tryd.f38 = some c38 := by kernel_rfl
theorem era38 : c38.code = a38.erase := rfl
def s43_0 : List CI := [q0 1 (.box 68 (.tmp 0)), q0 2 (.mv (ks ⟨#[]⟩))]
def s43_1 : List CI := [q0 3 (.faddr 0 (.tmp 1)), q0 4 (.faddr 4 (.tmp 3)), q0 5 (.faddr 0 (.tmp 4)), q0 6 (.load false 1 (.tmp 5)), q0 7 (.bin .eql (.tmp 6) (ki 5))]
def s43_2 : List CI := [q0 8 (.faddr 0 (.tmp 1)), q0 9 (.faddr 2 (.tmp 8)), q0 10 (.load false 1 (.tmp 9)), q0 11 (.faddr 0 (.tmp 1)), q0 12 (.faddr 4 (.tmp 11)), q0 13 (.faddr 2 (.tmp 12)), q0 14 (.load false 1 (.tmp 13)), q0 15 (.mksl 9 1 [ks ⟨#[64]⟩, .tmp 10, ks ⟨#[32, 34]⟩, .tmp 14, ks ⟨#[34]⟩]), q0 16 (.call 23 [.tmp 15]), q0 2 (.mv (.tmp 16))]
def s43_3 : List CI := [q0 17 (.faddr 0 (.tmp 1)), q0 18 (.faddr 4 (.tmp 17)), q0 19 (.load true 3 (.tmp 18)), q0 20 (.call 63 [.tmp 19]), q0 21 (.faddr 0 (.tmp 1)), q0 22 (.faddr 7 (.tmp 21)), q0 23 (.load false 1 (.tmp 22)), q0 24 (.call 38 [.tmp 23]), q0 25 (.mksl 9 1 [.tmp 20, .tmp 24]), q0 26 (.call 23 [.tmp 25]), q0 2 (.mv (.tmp 26))]
def a43 : AC := (.seq (.reg s43_0) (.keep [1] (.seq (.seq (.reg s43_1) (.keep [1, 7] (.cond (.tmp 7) (.seq (.reg s43_2) .ret) .skip))) (.keep [1] (.seq (.dreg s43_3) .ret)))))
def c43 : FC := ⟨27, a43.erase, [.tmp 2]⟩
theorem comp43 : compF Tryd.prog Tryd.f43 = some c43 := by kernel_rfl
theorem era43 : c43.code = a43.erase := rfl
def s44_0 : List CI := [q0 1 (.box 68 (.tmp 0)), q0 2 (.mv (ks ⟨#[]⟩))]
def s44_1 : List CI := [q0 3 (.faddr 0 (.tmp 1)), q0 4 (.faddr 2 (.tmp 3)), q0 5 (.load false 1 (.tmp 4)), q0 2 (.mv (.tmp 5))]
def a44 : AC := (.seq (.reg s44_0) (.keep [1] (.seq (.reg s44_1) .ret)))
def c44 : FC := ⟨6, a44.erase, [.tmp 2]⟩
theorem comp44 : compF Tryd.prog Tryd.f44 = some c44 := by kernel_rfl
theorem era44 : c44.code = a44.erase := rfl
def s45_0 : List CI := [q0 1 (.box 68 (.tmp 0)), q0 2 (.mv (ks ⟨#[]⟩))]
def s45_1 : List CI := [q0 3 (.faddr 0 (.tmp 1)), q0 4 (.faddr 2 (.tmp 3)), q0 5 (.load false 1 (.tmp 4)), q0 6 (.load true 12 (.tmp 1)), q0 7 (.call 64 [.tmp 6, ki 0, ki 0]), q0 8 (.mksl 9 1 [.tmp 5, ks ⟨#[32, 111, 102, 32, 40]⟩, .tmp 7, ks ⟨#[41]⟩]), q0 9 (.call 23 [.tmp 8]), q0 2 (.mv (.tmp 9))]
def a45 : AC := (.seq (.reg s45_0) (.keep [1] (.seq (.dreg s45_1) .ret)))
def c45 : FC := ⟨10, a45.erase, [.tmp 2]⟩
theorem comp45 : compF Tryd.prog Tryd.f45 = some c45 := by kernel_rfl
theorem era45 : c45.code = a45.erase := rfl
def s46_0 : List CI := [q0 1 (.box 68 (.tmp 0)), q0 2 (.mv (ks ⟨#[]⟩))]
def s46_1 : List CI := [q0 5 (.faddr 0 (.tmp 1)), q0 6 (.faddr 1 (.tmp 5)), q0 7 (.load false 1 (.tmp 6)), q0 8 (.faddr 0 (.tmp 1)), q0 9 (.faddr 3 (.tmp 8)), q0 10 (.load false 1 (.tmp 9)), q0 11 (.mksl 9 1 [.tmp 7, ks ⟨#[40]⟩, .tmp 10]), q0 12 (.call 23 [.tmp 11]), q0 3 (.mv (.tmp 12))]
def s46_2 : List CI := [q0 13 (.faddr 0 (.tmp 1)), q0 14 (.faddr 1 (.tmp 13)), q0 15 (.load false 1 (.tmp 14)), q0 16 (.bin .neq (.tmp 15) (ks ⟨#[99, 111, 117, 110, 116]⟩))]
def s46_3 : List CI := [q0 17 (.mv (.tmp 3)), q0 18 (.load true 12 (.tmp 1)), q0 19 (.call 64 [.tmp 18, ki 0, ki 0]), q0 20 (.mksl 9 1 [.tmp 17, ks ⟨#[44, 32]⟩, .tmp 19]), q0 21 (.call 23 [.tmp 20]), q0 3 (.mv (.tmp 21))]
def s46_4 : List CI := [q0 22 (.faddr 0 (.tmp 1)), q0 23 (.faddr 8 (.tmp 22)), q0 24 (.load false 1 (.tmp 23)), q0 25 (.bin .neq (.tmp 24) (ki 0))]
def s46_5 : List CI := [q0 26 (.mv (.tmp 3)), q0 27 (.faddr 0 (.tmp 1)), q0 28 (.faddr 8 (.tmp 27)), q0 29 (.load false 1 (.tmp 28)), q0 30 (.call 26 [.tmp 29]), q0 31 (.mksl 9 1 [.tmp 26, ks ⟨#[44, 32]⟩, .tmp 30]), q0 32 (.call 23 [.tmp 31]), q0 3 (.mv (.tmp 32))]
def s46_6 : List CI := [q0 33 (.mv (.tmp 3)), q0 34 (.load true 12 (.tmp 1)), q0 35 (.call 65 [.tmp 34]), q0 36 (.mksl 9 1 [.tmp 33, ks ⟨#[44, 32]⟩, .tmp 35]), q0 37 (.call 23 [.tmp 36]), q0 3 (.mv (.tmp 37))]
def s46_7 : List CI := [q0 38 (.faddr 0 (.tmp 1)), q0 39 (.faddr 11 (.tmp 38)), q0 40 (.load false 1 (.tmp 39)), q0 41 (.iaddr 12 (.tmp 40) (ki 1)), q0 42 (.load true 12 (.tmp 41)), q0 4 (.alloc 34 (.agg #[.int .i64 0, .string ⟨#[]⟩, .string ⟨#[]⟩, .string ⟨#[]⟩, .int .i64 0, .int .i64 0, .string ⟨#[]⟩, .slice none 0 0, .int .i64 0, .int .i64 0, .int .i64 0, .slice none 0 0])), .mk none (.store 12 (.tmp 4) (.tmp 42)) none]
def s46_8 : List CI := [q0 43 (.faddr 0 (.tmp 4)), q0 44 (.load false 1 (.tmp 43)), q0 45 (.bin .neq (.tmp 44) (ki 1)), q0 46 (.mv (.tmp 45)), q1 47 (.faddr 4 (.tmp 4)) 46 false, q1 48 (.load true 3 (.tmp 47)) 46 false, q1 49 (.build [.int .i64 0, .int .i64 0, .string ⟨#[]⟩] [(0, 1, ki 1), (1, 1, ki 1)]) 46 false, q1 50 (.eqs true [.int, .int, .str] (.tmp 48) (.tmp 49)) 46 false, q0 51 (.pick (.tmp 46) kT (.tmp 50))]
def s46_9 : List CI := [q0 52 (.mv (.tmp 3)), q0 53 (.load true 12 (.tmp 1)), q0 54 (.call 64 [.tmp 53, ki 1, ki 0]), q0 55 (.mksl 9 1 [.tmp 52, ks ⟨#[32, 119, 104, 101, 114, 101, 32]⟩, .tmp 54]), q0 56 (.call 23 [.tmp 55]), q0 3 (.mv (.tmp 56))]
def s46_10 : List CI := [q0 57 (.mv (.tmp 3)), q0 58 (.mksl 9 1 [.tmp 57, ks ⟨#[41]⟩]), q0 59 (.call 23 [.tmp 58]), q0 2 (.mv (.tmp 59))]
def a46 : AC := (.seq (.reg s46_0) (.keep [1] (.seq (.reg s46_1) (.keep [1, 3] (.seq (.seq (.reg s46_2) (.keep [1, 3, 16] (.cond (.tmp 16) (.reg s46_3) .skip))) (.keep [1, 3] (.seq (.seq (.reg s46_4) (.keep [1, 3, 25] (.cond (.tmp 25) (.reg s46_5) .skip))) (.keep [1, 3] (.seq (.reg s46_6) (.keep [1, 3] (.seq (.seq (.reg s46_7) (.keep [1, 3, 4] (.seq (.reg s46_8) (.keep [1, 3, 51] (.cond (.tmp 51) (.reg s46_9) .skip))))) (.keep [3] (.seq (.reg s46_10) .ret)))))))))))))
def c46 : FC := ⟨60, a46.erase, [.tmp 2]⟩
theorem comp46 : compF Tryd.prog Tryd.f46 = some c46 := by kernel_rfl
theorem era46 : c46.code = a46.erase := rfl
def s47_0 : List CI := [q0 1 (.box 68 (.tmp 0)), q0 2 (.mv (ks ⟨#[]⟩))]
def s47_1 : List CI := [q0 3 (.faddr 0 (.tmp 1)), q0 4 (.faddr 1 (.tmp 3)), q0 5 (.load false 1 (.tmp 4))]
def s47_2 : List CI := [q0 7 (.bin .eql (.tmp 5) (ks ⟨#[45]⟩)), q0 6 (.mv (.tmp 7))]
def s47_3 : List CI := [q0 8 (.load true 12 (.tmp 1)), q0 9 (.call 64 [.tmp 8, ki 0, ki 8]), q0 10 (.mksl 9 1 [ks ⟨#[45]⟩, .tmp 9]), q0 11 (.call 23 [.tmp 10]), q0 2 (.mv (.tmp 11))]
def s47_4 : List CI := [q0 13 (.bin .eql (.tmp 5) (ks ⟨#[110, 111, 116]⟩)), q0 12 (.mv (.tmp 13))]
def s47_5 : List CI := [q0 14 (.load true 12 (.tmp 1)), q0 15 (.call 64 [.tmp 14, ki 0, ki 4]), q0 16 (.mksl 9 1 [ks ⟨#[110, 111, 116, 32]⟩, .tmp 15]), q0 17 (.call 23 [.tmp 16]), q0 2 (.mv (.tmp 17))]
def s47_6 : List CI := [q0 18 (.load true 12 (.tmp 1)), q0 19 (.call 64 [.tmp 18, ki 0, ki 0]), q0 20 (.mksl 9 1 [ks ⟨#[110, 117, 108, 108, 40]⟩, .tmp 19, ks ⟨#[41]⟩]), q0 21 (.call 23 [.tmp 20]), q0 2 (.mv (.tmp 21))]
def a47 : AC := (.seq (.reg s47_0) (.keep [1] (.seq (.seq (.reg s47_1) (.keep [1, 5] (.block 0 (.seq (.reg s47_2) (.keep [1, 5, 6] (.cond (.tmp 6) (.seq (.reg s47_3) .ret) (.seq (.reg s47_4) (.keep [1, 12] (.cond (.tmp 12) (.seq (.reg s47_5) .ret) .skip))))))))) (.keep [1] (.seq (.reg s47_6) .ret)))))
def c47 : FC := ⟨22, a47.erase, [.tmp 2]⟩
theorem comp47 : compF Tryd.prog Tryd.f47 = some c47 := by kernel_rfl
theorem era47 : c47.code = a47.erase := rfl
def s48_0 : List CI := [q0 1 (.box 68 (.tmp 0)), q0 2 (.mv (ks ⟨#[]⟩))]
def s48_1 : List CI := [q0 5 (.load true 12 (.tmp 1)), q0 6 (.call 66 [.tmp 5]), q0 3 (.mv (.tmp 6))]
def s48_2 : List CI := [q0 7 (.mv (.tmp 3)), q0 4 (.mv (.tmp 7))]
def s48_3 : List CI := [q0 8 (.mv (.tmp 3)), q0 9 (.bin .eql (.tmp 8) (ki 5))]
def s48_4 : List CI := [q0 10 (.mv (.tmp 4)), q0 11 (.bin .add (.tmp 10) (ki 1)), q0 4 (.mv (.tmp 11))]
def s48_5 : List CI := [q0 12 (.load true 12 (.tmp 1)), q0 13 (.mv (.tmp 4)), q0 14 (.call 64 [.tmp 12, ki 0, .tmp 13]), q0 15 (.faddr 0 (.tmp 1)), q0 16 (.faddr 1 (.tmp 15)), q0 17 (.load false 1 (.tmp 16)), q0 18 (.load true 12 (.tmp 1)), q0 19 (.mv (.tmp 3)), q0 20 (.bin .add (.tmp 19) (ki 1)), q0 21 (.call 64 [.tmp 18, ki 1, .tmp 20]), q0 22 (.mksl 9 1 [.tmp 14, ks ⟨#[32]⟩, .tmp 17, ks ⟨#[32]⟩, .tmp 21]), q0 23 (.call 23 [.tmp 22]), q0 2 (.mv (.tmp 23))]
def a48 : AC := (.seq (.reg s48_0) (.keep [1] (.seq (.reg s48_1) (.keep [1, 3] (.seq (.reg s48_2) (.keep [1, 3, 4] (.seq (.seq (.reg s48_3) (.keep [1, 3, 4, 9] (.cond (.tmp 9) (.reg s48_4) .skip))) (.keep [1, 3, 4] (.seq (.dreg s48_5) .ret)))))))))
def c48 : FC := ⟨24, a48.erase, [.tmp 2]⟩
theorem comp48 : compF Tryd.prog Tryd.f48 = some c48 := by kernel_rfl
theorem era48 : c48.code = a48.erase := rfl
def s49_0 : List CI := [q0 1 (.box 68 (.tmp 0)), q0 2 (.mv (ks ⟨#[]⟩))]
def s49_1 : List CI := [q0 3 (.load true 12 (.tmp 1)), q0 4 (.call 64 [.tmp 3, ki 0, ki 0]), q0 5 (.load true 12 (.tmp 1)), q0 6 (.call 64 [.tmp 5, ki 1, ki 0]), q0 7 (.load true 12 (.tmp 1)), q0 8 (.call 64 [.tmp 7, ki 2, ki 0]), q0 9 (.mksl 9 1 [ks ⟨#[105, 102, 32]⟩, .tmp 4, ks ⟨#[32, 116, 104, 101, 110, 32]⟩, .tmp 6, ks ⟨#[32, 101, 108, 115, 101, 32]⟩, .tmp 8]), q0 10 (.call 23 [.tmp 9]), q0 2 (.mv (.tmp 10))]
def a49 : AC := (.seq (.reg s49_0) (.keep [1] (.seq (.dreg s49_1) .ret)))
def c49 : FC := ⟨11, a49.erase, [.tmp 2]⟩
theorem comp49 : compF Tryd.prog Tryd.f49 = some c49 := by kernel_rfl
theorem era49 : c49.code = a49.erase := rfl
def s50_0 : List CI := [q0 1 (.box 68 (.tmp 0)), q0 2 (.mv (ks ⟨#[]⟩))]
def s50_1 : List CI := [q0 3 (.load true 12 (.tmp 1)), q0 4 (.call 64 [.tmp 3, ki 0, ki 1]), q0 5 (.load true 12 (.tmp 1)), q0 6 (.call 64 [.tmp 5, ki 1, ki 2]), q0 7 (.mksl 9 1 [.tmp 4, ks ⟨#[32, 100, 101, 102, 97, 117, 108, 116, 32]⟩, .tmp 6]), q0 8 (.call 23 [.tmp 7]), q0 2 (.mv (.tmp 8))]
def a50 : AC := (.seq (.reg s50_0) (.keep [1] (.seq (.dreg s50_1) .ret)))
def c50 : FC := ⟨9, a50.erase, [.tmp 2]⟩
theorem comp50 : compF Tryd.prog Tryd.f50 = some c50 := by kernel_rfl
theorem era50 : c50.code = a50.erase := rfl
def s51_0 : List CI := [q0 4 (.mv (ki 0))]
def s51_1 : List CI := [q0 6 (.mv (.tmp 0)), q0 7 (.len false (.tmp 6)), q0 8 (.mv (ki 0))]
def s51_2 : List CI := [q0 9 (.bin .lss (.tmp 8) (.tmp 7))]
def s51_3 : List CI := [q0 10 (.mv (.tmp 8)), q0 5 (.mv (.tmp 10))]
def s51_4 : List CI := [q0 11 (.mv (.tmp 1)), q0 12 (.mv (.tmp 0)), q0 13 (.mv (.tmp 5)), q0 14 (.iaddr 4 (.tmp 12) (.tmp 13)), q0 15 (.load true 4 (.tmp 14)), q0 16 (.callv (.tmp 11) [.tmp 15])]
def s51_5 : List CI := [q0 17 (.mv (.tmp 5)), q0 4 (.mv (.tmp 17))]
def s51_6 : List CI := [q0 18 (.bin .add (.tmp 8) (ki 1)), q0 8 (.mv (.tmp 18))]
def s51_7 : List CI := [q0 4 (.mv (.const (.int .i64 (-1))))]
def a51 : AC := (.seq (.reg s51_0) (.keep [0, 1] (.seq (.seq (.reg s51_1) (.keep [0, 1, 7, 8] (.block 0 (.loop (.keep [0, 1, 7, 8] (.seq (.reg s51_2) (.keep [0, 1, 7, 8, 9] (.seq (.cond (.tmp 9) .skip (.exit 0)) (.keep [0, 1, 7, 8] (.seq (.block 1 (.seq (.reg s51_3) (.keep [0, 1, 5, 7, 8] (.seq (.reg s51_4) (.keep [0, 1, 5, 7, 8, 16] (.cond (.tmp 16) (.seq (.reg s51_5) .ret) .skip)))))) (.keep [0, 1, 7, 8] (.reg s51_6)))))))))))) (.keep [] (.seq (.reg s51_7) .ret)))))
def c51 : FC := ⟨19, a51.erase, [.tmp 4]⟩
theorem comp51 : compF Tryd.prog Tryd.f51 = some c51 := by kernel_rfl
theorem era51 : c51.code = a51.erase := rfl
def s52_0 : List CI := [q0 2 (.mv kF)]
def s52_1 : List CI := [q0 5 (.mv (.tmp 0)), q0 6 (.len true (.tmp 5)), q0 7 (.bin .eql (.tmp 6) (ki 0)), q0 8 (.mv (.tmp 7)), q1 9 (.mv (.tmp 0)) 8 false, q1 10 (.len true (.tmp 9)) 8 false, q1 11 (.bin .gtr (.tmp 10) (ki 24)) 8 false, q0 12 (.pick (.tmp 8) kT (.tmp 11)), q0 13 (.mv (.tmp 12)), q1 14 (.mv (.tmp 0)) 13 false, q1 15 (.idxs (.tmp 14) (ki 0)) 13 false, q1 16 (.bin .lss (.tmp 15) (.const (.int .u8 97))) 13 false, q0 17 (.pick (.tmp 13) kT (.tmp 16)), q0 18 (.mv (.tmp 17)), q1 19 (.mv (.tmp 0)) 18 false, q1 20 (.idxs (.tmp 19) (ki 0)) 18 false, q1 21 (.bin .gtr (.tmp 20) (.const (.int .u8 122))) 18 false, q0 22 (.pick (.tmp 18) kT (.tmp 21))]
def s52_2 : List CI := [q0 2 (.mv kF)]
def s52_3 : List CI := [q0 23 (.mv (.tmp 0)), q0 24 (.len true (.tmp 23)), q0 25 (.mv (ki 0))]
def s52_4 : List CI := [q0 26 (.bin .lss (.tmp 25) (.tmp 24))]
def s52_5 : List CI := [q0 27 (.mv (.tmp 25)), q0 3 (.mv (.tmp 27))]
def s52_6 : List CI := [q0 28 (.mv (.tmp 0)), q0 29 (.mv (.tmp 3)), q0 30 (.idxs (.tmp 28) (.tmp 29)), q0 4 (.mv (.tmp 30))]
def s52_7 : List CI := [q0 31 (.mv (.tmp 4)), q0 32 (.bin .lss (.tmp 31) (.const (.int .u8 97))), q0 33 (.mv (.tmp 32)), q1 34 (.mv (.tmp 4)) 33 false, q1 35 (.bin .gtr (.tmp 34) (.const (.int .u8 122))) 33 false, q0 36 (.pick (.tmp 33) kT (.tmp 35)), q0 37 (.mv (.tmp 36)), q1 38 (.mv (.tmp 4)) 37 true, q1 39 (.bin .lss (.tmp 38) (.const (.int .u8 48))) 37 true, q1 40 (.mv (.tmp 39)) 37 true, q1 41 (.mv (.tmp 4)) 40 false, q1 42 (.bin .gtr (.tmp 41) (.const (.int .u8 57))) 40 false, q1 43 (.pick (.tmp 40) kT (.tmp 42)) 37 true, q0 44 (.pick (.tmp 37) (.tmp 43) kF), q0 45 (.mv (.tmp 44)), q1 46 (.mv (.tmp 4)) 45 true, q1 47 (.bin .neq (.tmp 46) (.const (.int .u8 95))) 45 true, q0 48 (.pick (.tmp 45) (.tmp 47) kF)]
def s52_8 : List CI := [q0 2 (.mv kF)]
def s52_9 : List CI := [q0 49 (.bin .add (.tmp 25) (ki 1)), q0 25 (.mv (.tmp 49))]
def s52_10 : List CI := [q0 2 (.mv kT)]
def a52 : AC := (.seq (.reg s52_0) (.keep [0] (.seq (.seq (.reg s52_1) (.keep [0, 22] (.cond (.tmp 22) (.seq (.reg s52_2) .ret) .skip))) (.keep [0] (.seq (.seq (.reg s52_3) (.keep [0, 24, 25] (.block 0 (.loop (.keep [0, 24, 25] (.seq (.reg s52_4) (.keep [0, 24, 25, 26] (.seq (.cond (.tmp 26) .skip (.exit 0)) (.keep [0, 24, 25] (.seq (.block 1 (.seq (.reg s52_5) (.keep [0, 3, 24, 25] (.seq (.reg s52_6) (.keep [0, 4, 24, 25] (.seq (.reg s52_7) (.keep [0, 24, 25, 48] (.cond (.tmp 48) (.seq (.reg s52_8) .ret) .skip)))))))) (.keep [0, 24, 25] (.reg s52_9)))))))))))) (.keep [] (.seq (.reg s52_10) .ret)))))))
def c52 : FC := ⟨50, a52.erase, [.tmp 2]⟩
theorem comp52 : compF Tryd.prog Tryd.f52 = some c52 := by kernel_rfl
theorem era52 : c52.code = a52.erase := rfl
def s53_0 : List CI := [q0 4 (.mv kF)]
def s53_1 : List CI := [q0 5 (.mv (.tmp 0)), q0 6 (.mv (.tmp 1)), q0 7 (.bin .gtr (.tmp 5) (.tmp 6)), q0 8 (.mv (.tmp 7)), q1 9 (.mv (.tmp 0)) 8 false, q1 10 (.mv (.tmp 1)) 8 false, q1 11 (.un .neg (.tmp 10)) 8 false, q1 12 (.bin .lss (.tmp 9) (.tmp 11)) 8 false, q0 13 (.pick (.tmp 8) kT (.tmp 12)), q0 4 (.mv (.tmp 13))]
def a53 : AC := (.seq (.reg s53_0) (.keep [0, 1] (.seq (.reg s53_1) .ret)))
def c53 : FC := ⟨14, a53.erase, [.tmp 4]⟩
theorem comp53 : compF Tryd.prog Tryd.f53 = some c53 := by kernel_rfl
theorem era53 : c53.code = a53.erase := rfl
def s54_0 : List CI := [q0 4 (.mv (ki 0))]
def s54_1 : List CI := [q0 6 (.mv (.tmp 0)), q0 7 (.len false (.tmp 6)), q0 8 (.mv (ki 0))]
def s54_2 : List CI := [q0 9 (.bin .lss (.tmp 8) (.tmp 7))]
def s54_3 : List CI := [q0 10 (.mv (.tmp 8)), q0 5 (.mv (.tmp 10))]
def s54_4 : List CI := [q0 11 (.mv (.tmp 1)), q0 12 (.mv (.tmp 0)), q0 13 (.mv (.tmp 5)), q0 14 (.iaddr 2 (.tmp 12) (.tmp 13)), q0 15 (.load true 2 (.tmp 14)), q0 16 (.callv (.tmp 11) [.tmp 15])]
def s54_5 : List CI := [q0 17 (.mv (.tmp 5)), q0 4 (.mv (.tmp 17))]
def s54_6 : List CI := [q0 18 (.bin .add (.tmp 8) (ki 1)), q0 8 (.mv (.tmp 18))]
def s54_7 : List CI := [q0 4 (.mv (.const (.int .i64 (-1))))]
def a54 : AC := (.seq (.reg s54_0) (.keep [0, 1] (.seq (.seq (.reg s54_1) (.keep [0, 1, 7, 8] (.block 0 (.loop (.keep [0, 1, 7, 8] (.seq (.reg s54_2) (.keep [0, 1, 7, 8, 9] (.seq (.cond (.tmp 9) .skip (.exit 0)) (.keep [0, 1, 7, 8] (.seq (.block 1 (.seq (.reg s54_3) (.keep [0, 1, 5, 7, 8] (.seq (.reg s54_4) (.keep [0, 1, 5, 7, 8, 16] (.cond (.tmp 16) (.seq (.reg s54_5) .ret) .skip)))))) (.keep [0, 1, 7, 8] (.reg s54_6)))))))))))) (.keep [] (.seq (.reg s54_7) .ret)))))
def c54 : FC := ⟨19, a54.erase, [.tmp 4]⟩
theorem comp54 : compF Tryd.prog Tryd.f54 = some c54 := by kernel_rfl
theorem era54 : c54.code = a54.erase := rfl
def s55_0 : List CI := [q0 1 (.box 29 (.tmp 0)), q0 2 (.mv (ki 0))]
def s55_1 : List CI := [q0 9 (.faddr 0 (.tmp 1)), q0 10 (.load false 1 (.tmp 9)), q0 11 (.bin .eql (.tmp 10) (ki 2)), q0 12 (.mv (.tmp 11)), q1 13 (.faddr 0 (.tmp 1)) 12 false, q1 14 (.load false 1 (.tmp 13)) 12 false, q1 15 (.bin .eql (.tmp 14) (ki 3)) 12 false, q0 16 (.pick (.tmp 12) kT (.tmp 15)), q0 3 (.mv (.tmp 16))]
def s55_2 : List CI := [q0 17 (.faddr 0 (.tmp 1)), q0 18 (.load false 1 (.tmp 17)), q0 19 (.bin .eql (.tmp 18) (ki 4)), q0 20 (.mv (.tmp 19)), q1 21 (.faddr 0 (.tmp 1)) 20 false, q1 22 (.load false 1 (.tmp 21)) 20 false, q1 23 (.bin .eql (.tmp 22) (ki 5)) 20 false, q0 24 (.pick (.tmp 20) kT (.tmp 23)), q0 4 (.mv (.tmp 24))]
def s55_3 : List CI := [q0 26 (.faddr 0 (.tmp 1)), q0 27 (.load false 1 (.tmp 26)), q0 28 (.bin .lss (.tmp 27) (ki 0)), q0 29 (.mv (.tmp 28)), q1 30 (.faddr 0 (.tmp 1)) 29 false, q1 31 (.load false 1 (.tmp 30)) 29 false, q1 32 (.bin .gtr (.tmp 31) (ki 5)) 29 false, q0 33 (.pick (.tmp 29) kT (.tmp 32)), q0 25 (.mv (.tmp 33))]
def s55_4 : List CI := [q0 34 (.mv (.tmp 4)), q0 35 (.un .not (.tmp 34)), q0 36 (.mv (.tmp 35)), q1 37 (.faddr 2 (.tmp 1)) 36 true, q1 38 (.load false 1 (.tmp 37)) 36 true, q1 39 (.bin .neq (.tmp 38) (ks ⟨#[]⟩)) 36 true, q0 40 (.pick (.tmp 36) (.tmp 39) kF), q0 25 (.mv (.tmp 40))]
def s55_5 : List CI := [q0 2 (.mv (ki 1))]
def s55_6 : List CI := [q0 42 (.mv (.tmp 3)), q0 43 (.un .not (.tmp 42)), q0 44 (.mv (.tmp 43)), q1 45 (.faddr 1 (.tmp 1)) 44 true, q1 46 (.load false 1 (.tmp 45)) 44 true, q1 47 (.bin .neq (.tmp 46) (ki 0)) 44 true, q0 48 (.pick (.tmp 44) (.tmp 47) kF), q0 49 (.mv (.tmp 48)), q1 50 (.faddr 0 (.tmp 1)) 49 true, q1 51 (.load false 1 (.tmp 50)) 49 true, q1 52 (.bin .neq (.tmp 51) (ki 1)) 49 true, q1 53 (.mv (.tmp 52)) 49 true, q1 54 (.faddr 1 (.tmp 1)) 53 false, q1 55 (.load false 1 (.tmp 54)) 53 false, q1 56 (.bin .neq (.tmp 55) (ki 1)) 53 false, q1 57 (.pick (.tmp 53) kT (.tmp 56)) 49 true, q0 58 (.pick (.tmp 49) (.tmp 57) kF), q0 41 (.mv (.tmp 58))]
def s55_7 : List CI := [q0 2 (.mv (ki 1))]
def s55_8 : List CI := [q0 60 (.faddr 1 (.tmp 1)), q0 61 (.load false 1 (.tmp 60)), q0 62 (.bin .lss (.tmp 61) (.const (.int .i64 (-1152921504606846976)))), q0 63 (.mv (.tmp 62)), q1 64 (.faddr 1 (.tmp 1)) 63 false, q1 65 (.load false 1 (.tmp 64)) 63 false, q1 66 (.bin .gtr (.tmp 65) (ki 1152921504606846976)) 63 false, q0 67 (.pick (.tmp 63) kT (.tmp 66)), q0 59 (.mv (.tmp 67))]
def s55_9 : List CI := [q0 2 (.mv (ki 2))]
def s55_10 : List CI := [q0 68 (.mv (.tmp 4)), q0 69 (.un .not (.tmp 68))]
def s55_11 : List CI := [q0 2 (.mv (ki 0))]
def s55_12 : List CI := [q0 5 (.mv (ki 64)), q0 6 (.mv (.const (.int .u8 32)))]
def s55_13 : List CI := [q0 70 (.faddr 0 (.tmp 1)), q0 71 (.load false 1 (.tmp 70)), q0 72 (.bin .eql (.tmp 71) (ki 5))]
def s55_14 : List CI := [q0 5 (.mv (ki 32)), q0 6 (.mv (.const (.int .u8 33)))]
def s55_15 : List CI := [q0 73 (.faddr 2 (.tmp 1)), q0 74 (.load false 1 (.tmp 73)), q0 75 (.len true (.tmp 74)), q0 76 (.mv (.tmp 5)), q0 77 (.bin .gtr (.tmp 75) (.tmp 76))]
def s55_16 : List CI := [q0 2 (.mv (ki 2))]
def s55_17 : List CI := [q0 78 (.faddr 0 (.tmp 1)), q0 79 (.load false 1 (.tmp 78)), q0 80 (.bin .eql (.tmp 79) (ki 5)), q0 81 (.mv (.tmp 80)), q1 82 (.faddr 2 (.tmp 1)) 81 true, q1 83 (.load false 1 (.tmp 82)) 81 true, q1 84 (.bin .eql (.tmp 83) (ks ⟨#[]⟩)) 81 true, q0 85 (.pick (.tmp 81) (.tmp 84) kF)]
def s55_18 : List CI := [q0 2 (.mv (ki 3))]
def s55_19 : List CI := [q0 86 (.faddr 2 (.tmp 1)), q0 87 (.load false 1 (.tmp 86)), q0 88 (.len true (.tmp 87)), q0 89 (.mv (ki 0))]
def s55_20 : List CI := [q0 90 (.bin .lss (.tmp 89) (.tmp 88))]
def s55_21 : List CI := [q0 91 (.mv (.tmp 89)), q0 7 (.mv (.tmp 91))]
def s55_22 : List CI := [q0 92 (.faddr 2 (.tmp 1)), q0 93 (.load false 1 (.tmp 92)), q0 94 (.mv (.tmp 7)), q0 95 (.idxs (.tmp 93) (.tmp 94)), q0 8 (.mv (.tmp 95))]
def s55_23 : List CI := [q0 96 (.mv (.tmp 8)), q0 97 (.mv (.tmp 6)), q0 98 (.bin .lss (.tmp 96) (.tmp 97)), q0 99 (.mv (.tmp 98)), q1 100 (.mv (.tmp 8)) 99 false, q1 101 (.bin .gtr (.tmp 100) (.const (.int .u8 126))) 99 false, q0 102 (.pick (.tmp 99) kT (.tmp 101)), q0 103 (.mv (.tmp 102)), q1 104 (.mv (.tmp 8)) 103 false, q1 105 (.bin .eql (.tmp 104) (.const (.int .u8 34))) 103 false, q0 106 (.pick (.tmp 103) kT (.tmp 105)), q0 107 (.mv (.tmp 106)), q1 108 (.mv (.tmp 8)) 107 false, q1 109 (.bin .eql (.tmp 108) (.const (.int .u8 92))) 107 false, q0 110 (.pick (.tmp 107) kT (.tmp 109))]
def s55_24 : List CI := [q0 2 (.mv (ki 3))]
def s55_25 : List CI := [q0 111 (.bin .add (.tmp 89) (ki 1)), q0 89 (.mv (.tmp 111))]
def s55_26 : List CI := [q0 2 (.mv (ki 0))]
def a55 : AC := (.seq (.reg s55_0) (.keep [1] (.seq (.reg s55_1) (.keep [1, 3] (.seq (.reg s55_2) (.keep [1, 3, 4] (.seq (.block 0 (.seq (.seq (.reg s55_3) (.keep [1, 3, 4, 25] (.cond (.tmp 25) .skip (.reg s55_4)))) (.keep [1, 3, 4, 25] (.cond (.tmp 25) (.seq (.reg s55_5) .ret) (.seq (.reg s55_6) (.keep [1, 4, 41] (.cond (.tmp 41) (.seq (.reg s55_7) .ret) (.seq (.reg s55_8) (.keep [1, 4, 59] (.cond (.tmp 59) (.seq (.reg s55_9) .ret) .skip)))))))))) (.keep [1, 4] (.seq (.seq (.reg s55_10) (.keep [1, 69] (.cond (.tmp 69) (.seq (.reg s55_11) .ret) .skip))) (.keep [1] (.seq (.reg s55_12) (.keep [1, 5, 6] (.seq (.seq (.reg s55_13) (.keep [1, 5, 6, 72] (.cond (.tmp 72) (.reg s55_14) .skip))) (.keep [1, 5, 6] (.seq (.seq (.reg s55_15) (.keep [1, 6, 77] (.cond (.tmp 77) (.seq (.reg s55_16) .ret) .skip))) (.keep [1, 6] (.seq (.seq (.reg s55_17) (.keep [1, 6, 85] (.cond (.tmp 85) (.seq (.reg s55_18) .ret) .skip))) (.keep [1, 6] (.seq (.seq (.reg s55_19) (.keep [1, 6, 88, 89] (.block 1 (.loop (.keep [1, 6, 88, 89] (.seq (.reg s55_20) (.keep [1, 6, 88, 89, 90] (.seq (.cond (.tmp 90) .skip (.exit 1)) (.keep [1, 6, 88, 89] (.seq (.block 2 (.seq (.reg s55_21) (.keep [1, 6, 7, 88, 89] (.seq (.reg s55_22) (.keep [1, 6, 8, 88, 89] (.seq (.reg s55_23) (.keep [1, 6, 88, 89, 110] (.cond (.tmp 110) (.seq (.reg s55_24) .ret) .skip)))))))) (.keep [1, 6, 88, 89] (.reg s55_25)))))))))))) (.keep [] (.seq (.reg s55_26) .ret)))))))))))))))))))))
def c55 : FC := ⟨112, a55.erase, [.tmp 2]⟩
theorem comp55 : compF Tryd.prog Tryd.f55 = some c55 := by kernel_rfl
theorem era55 : c55.code = a55.erase := rfl
def s56_0 : List CI := [q0 4 (.mv kF)]
def s56_1 : List CI := [q0 5 (.mv (.tmp 0)), q0 6 (.mv (.tmp 1)), q0 7 (.call 67 [.tmp 5, .tmp 6]), q0 8 (.bin .geq (.tmp 7) (ki 0)), q0 4 (.mv (.tmp 8))]
def a56 : AC := (.seq (.reg s56_0) (.keep [0, 1] (.seq (.reg s56_1) .ret)))
def c56 : FC := ⟨9, a56.erase, [.tmp 4]⟩
theorem comp56 : compF Tryd.prog Tryd.f56 = some c56 := by kernel_rfl
theorem era56 : c56.code = a56.erase := rfl
def s57_0 : List CI := [q0 2 (.box 34 (.tmp 0)), q0 3 (.box 34 (.tmp 1)), q0 4 (.mv kF)]
def s57_1 : List CI := [q0 5 (.faddr 0 (.tmp 2)), q0 6 (.load false 1 (.tmp 5)), q0 7 (.faddr 0 (.tmp 3)), q0 8 (.load false 1 (.tmp 7)), q0 9 (.bin .eql (.tmp 6) (.tmp 8)), q0 10 (.mv (.tmp 9)), q1 11 (.faddr 1 (.tmp 2)) 10 true, q1 12 (.load false 1 (.tmp 11)) 10 true, q1 13 (.faddr 1 (.tmp 3)) 10 true, q1 14 (.load false 1 (.tmp 13)) 10 true, q1 15 (.bin .eql (.tmp 12) (.tmp 14)) 10 true, q0 16 (.pick (.tmp 10) (.tmp 15) kF), q0 17 (.mv (.tmp 16)), q1 18 (.faddr 2 (.tmp 2)) 17 true, q1 19 (.load false 1 (.tmp 18)) 17 true, q1 20 (.faddr 2 (.tmp 3)) 17 true, q1 21 (.load false 1 (.tmp 20)) 17 true, q1 22 (.bin .eql (.tmp 19) (.tmp 21)) 17 true, q0 23 (.pick (.tmp 17) (.tmp 22) kF), q0 24 (.mv (.tmp 23)), q1 25 (.faddr 3 (.tmp 2)) 24 true, q1 26 (.load false 1 (.tmp 25)) 24 true, q1 27 (.faddr 3 (.tmp 3)) 24 true, q1 28 (.load false 1 (.tmp 27)) 24 true, q1 29 (.bin .eql (.tmp 26) (.tmp 28)) 24 true, q0 30 (.pick (.tmp 24) (.tmp 29) kF), q0 31 (.mv (.tmp 30)), q1 32 (.faddr 4 (.tmp 2)) 31 true, q1 33 (.load true 3 (.tmp 32)) 31 true, q1 34 (.faddr 4 (.tmp 3)) 31 true, q1 35 (.load true 3 (.tmp 34)) 31 true, q1 36 (.eqs false [.int, .int, .str] (.tmp 33) (.tmp 35)) 31 true, q0 37 (.pick (.tmp 31) (.tmp 36) kF), q0 38 (.mv (.tmp 37)), q1 39 (.faddr 7 (.tmp 2)) 38 true, q1 40 (.load false 1 (.tmp 39)) 38 true, q1 41 (.faddr 7 (.tmp 3)) 38 true, q1 42 (.load false 1 (.tmp 41)) 38 true, q1 43 (.call 68 [.tmp 40, .tmp 42]) 38 true, q0 44 (.pick (.tmp 38) (.tmp 43) kF), q0 45 (.mv (.tmp 44)), q1 46 (.faddr 8 (.tmp 2)) 45 true, q1 47 (.load false 1 (.tmp 46)) 45 true, q1 48 (.faddr 8 (.tmp 3)) 45 true, q1 49 (.load false 1 (.tmp 48)) 45 true, q1 50 (.bin .eql (.tmp 47) (.tmp 49)) 45 true, q0 51 (.pick (.tmp 45) (.tmp 50) kF), q0 52 (.mv (.tmp 51)), q1 53 (.faddr 9 (.tmp 2)) 52 true, q1 54 (.load true 2 (.tmp 53)) 52 true, q1 55 (.faddr 9 (.tmp 3)) 52 true, q1 56 (.load true 2 (.tmp 55)) 52 true, q1 57 (.eqs false [.int, .int] (.tmp 54) (.tmp 56)) 52 true, q0 58 (.pick (.tmp 52) (.tmp 57) kF), q0 4 (.mv (.tmp 58))]
def a57 : AC := (.seq (.reg s57_0) (.keep [2, 3] (.seq (.reg s57_1) .ret)))
def c57 : FC := ⟨59, a57.erase, [.tmp 4]⟩
theorem comp57 : compF Tryd.prog Tryd.f57 = some c57 := by kernel_rfl
theorem era57 : c57.code = a57.erase := rfl
def s59_0 : List CI := [q0 2 (.mv (ks ⟨#[]⟩))]
def s59_1 : List CI := [q0 3 (.mv (.const (.slice none 0 0)))]
def s59_2 : List CI := [q0 7 (.mv (.tmp 0)), q0 8 (.len false (.tmp 7)), q0 9 (.mv (ki 0))]
def s59_3 : List CI := [q0 10 (.bin .lss (.tmp 9) (.tmp 8))]
def s59_4 : List CI := [q0 11 (.iaddr 2 (.tmp 7) (.tmp 9)), q0 12 (.load true 2 (.tmp 11)), q0 5 (.alloc 53 (.agg #[.string ⟨#[]⟩, .int .i64 0])), .mk none (.store 2 (.tmp 5) (.tmp 12)) none]
def s59_5 : List CI := [q0 13 (.faddr 0 (.tmp 5)), q0 14 (.load false 1 (.tmp 13)), q0 6 (.mv (.tmp 14))]
def s59_6 : List CI := [q0 15 (.faddr 1 (.tmp 5)), q0 16 (.load false 1 (.tmp 15)), q0 17 (.bin .neq (.tmp 16) (ki 1))]
def s59_7 : List CI := [q0 18 (.mv (.tmp 6)), q0 19 (.faddr 1 (.tmp 5)), q0 20 (.load false 1 (.tmp 19)), q0 21 (.call 26 [.tmp 20]), q0 22 (.bin .add (ks ⟨#[94]⟩) (.tmp 21)), q0 23 (.bin .add (.tmp 18) (.tmp 22)), q0 6 (.mv (.tmp 23))]
def s59_8 : List CI := [q0 24 (.mv (.tmp 3)), q0 25 (.mv (.tmp 6)), q0 26 (.mksl 9 1 [.tmp 25]), q0 27 (.append 9 1 16 [.string ⟨#[]⟩] (.tmp 24) (.tmp 26)), q0 3 (.mv (.tmp 27))]
def s59_9 : List CI := [q0 28 (.bin .add (.tmp 9) (ki 1)), q0 9 (.mv (.tmp 28))]
def s59_10 : List CI := [q0 29 (.mv (.tmp 3)), q0 30 (.call 25 [.tmp 29, ks ⟨#[42]⟩]), q0 2 (.mv (.tmp 30))]
def a59 : AC := (.seq (.reg s59_0) (.keep [0] (.seq (.reg s59_1) (.keep [0, 3] (.seq (.seq (.reg s59_2) (.keep [3, 7, 8, 9] (.block 0 (.loop (.keep [3, 7, 8, 9] (.seq (.reg s59_3) (.keep [3, 7, 8, 9, 10] (.seq (.cond (.tmp 10) .skip (.exit 0)) (.keep [3, 7, 8, 9] (.seq (.block 1 (.seq (.reg s59_4) (.keep [3, 5, 7, 8, 9] (.seq (.reg s59_5) (.keep [3, 5, 6, 7, 8, 9] (.seq (.seq (.reg s59_6) (.keep [3, 5, 6, 7, 8, 9, 17] (.cond (.tmp 17) (.reg s59_7) .skip))) (.keep [3, 6, 7, 8, 9] (.reg s59_8)))))))) (.keep [3, 7, 8, 9] (.reg s59_9)))))))))))) (.keep [3] (.seq (.reg s59_10) .ret)))))))
def c59 : FC := ⟨31, a59.erase, [.tmp 2]⟩
theorem comp59 : compF Tryd.prog Tryd.f59 = some c59 := by kernel_rfl
theorem era59 : c59.code = a59.erase := rfl
def s63_0 : List CI := [q0 1 (.box 29 (.tmp 0)), q0 2 (.mv (ks ⟨#[]⟩))]
def s63_1 : List CI := [q0 5 (.load true 3 (.tmp 1)), q0 6 (.call 55 [.tmp 5]), q0 7 (.bin .neq (.tmp 6) (ki 0))]
def s63_2 : List CI := [q0 2 (.mv (ks ⟨#[]⟩))]
def s63_3 : List CI := [q0 8 (.load true 3 (.tmp 1)), q0 9 (.build [.int .i64 0, .int .i64 0, .string ⟨#[]⟩] [(0, 3, .tmp 8)]), q0 3 (.alloc 114 (.agg #[.int .i64 0, .int .i64 0, .string ⟨#[]⟩])), .mk none (.store 3 (.tmp 3) (.tmp 9)) none]
def s63_4 : List CI := [q0 10 (.exts (.makeMap 115 none) 115 [] []), q0 11 (.load true 3 (.tmp 3)), q0 12 (.mkfn (Fn.func 76) [.tmp 11] []), .mk none (.exts (.insert 115 (.tmp 10) (ki 0) (.tmp 12)) 0 [.mp 3 69, .int .i64] [.tmp 10, ki 0, .tmp 12]) none, q0 13 (.load true 3 (.tmp 3)), q0 14 (.mkfn (Fn.func 77) [.tmp 13] []), .mk none (.exts (.insert 115 (.tmp 10) (ki 1) (.tmp 14)) 0 [.mp 3 69, .int .i64] [.tmp 10, ki 1, .tmp 14]) none, q0 15 (.load true 3 (.tmp 3)), q0 16 (.mkfn (Fn.func 78) [.tmp 15] []), .mk none (.exts (.insert 115 (.tmp 10) (ki 2) (.tmp 16)) 0 [.mp 3 69, .int .i64] [.tmp 10, ki 2, .tmp 16]) none, q0 17 (.load true 3 (.tmp 3)), q0 18 (.mkfn (Fn.func 79) [.tmp 17] []), .mk none (.exts (.insert 115 (.tmp 10) (ki 3) (.tmp 18)) 0 [.mp 3 69, .int .i64] [.tmp 10, ki 3, .tmp 18]) none, q0 19 (.load true 3 (.tmp 3)), q0 20 (.mkfn (Fn.func 80) [.tmp 19] []), .mk none (.exts (.insert 115 (.tmp 10) (ki 4) (.tmp 20)) 0 [.mp 3 69, .int .i64] [.tmp 10, ki 4, .tmp 20]) none, q0 21 (.load true 3 (.tmp 3)), q0 22 (.mkfn (Fn.func 81) [.tmp 21] []), .mk none (.exts (.insert 115 (.tmp 10) (ki 5) (.tmp 22)) 0 [.mp 3 69, .int .i64] [.tmp 10, ki 5, .tmp 22]) none, q0 23 (.mv (.tmp 10)), q0 4 (.mv (.tmp 23))]
def s63_5 : List CI := [q0 24 (.mv (.tmp 4)), q0 25 (.faddr 0 (.tmp 1)), q0 26 (.load false 1 (.tmp 25)), q0 27 (.extq (.lookup 115 (.tmp 24) (.tmp 26) false) 69 [.mp 3 69, .int .i64] [.tmp 24, .tmp 26]), q0 28 (.callv (.tmp 27) []), q0 2 (.mv (.tmp 28))]
def a63 : AC := (.seq (.reg s63_0) (.keep [1] (.seq (.seq (.reg s63_1) (.keep [1, 7] (.cond (.tmp 7) (.seq (.reg s63_2) .ret) .skip))) (.keep [1] (.seq (.reg s63_3) (.keep [1, 3] (.seq (.reg s63_4) (.keep [1, 4] (.seq (.reg s63_5) .ret)))))))))
def c63 : FC := ⟨29, a63.erase, [.tmp 2]⟩
theorem comp63 : compF Tryd.prog Tryd.f63 = some c63 := by kernel_rfl
theorem era63 : c63.code = a63.erase := rfl
def s64_0 : List CI := [q0 3 (.box 68 (.tmp 0)), q0 6 (.mv (ks ⟨#[]⟩))]
def s64_1 : List CI := [q0 8 (.faddr 0 (.tmp 3)), q0 9 (.faddr 11 (.tmp 8)), q0 10 (.load false 1 (.tmp 9)), q0 11 (.mv (.tmp 1)), q0 12 (.iaddr 12 (.tmp 10) (.tmp 11)), q0 13 (.load true 12 (.tmp 12)), q0 14 (.build [.int .i64 0, .string ⟨#[]⟩, .string ⟨#[]⟩, .string ⟨#[]⟩, .int .i64 0, .int .i64 0, .string ⟨#[]⟩, .slice none 0 0, .int .i64 0, .int .i64 0, .int .i64 0, .slice none 0 0] [(0, 12, .tmp 13)]), q0 7 (.alloc 68 (.agg #[.int .i64 0, .string ⟨#[]⟩, .string ⟨#[]⟩, .string ⟨#[]⟩, .int .i64 0, .int .i64 0, .string ⟨#[]⟩, .slice none 0 0, .int .i64 0, .int .i64 0, .int .i64 0, .slice none 0 0])), .mk none (.store 12 (.tmp 7) (.tmp 14)) none]
def s64_2 : List CI := [q0 15 (.load true 12 (.tmp 7)), q0 16 (.call 66 [.tmp 15]), q0 17 (.mv (.tmp 2)), q0 18 (.bin .lss (.tmp 16) (.tmp 17))]
def s64_3 : List CI := [q0 19 (.load true 12 (.tmp 7)), q0 20 (.call 27 [.tmp 19]), q0 21 (.mksl 9 1 [ks ⟨#[40]⟩, .tmp 20, ks ⟨#[41]⟩]), q0 22 (.call 23 [.tmp 21]), q0 6 (.mv (.tmp 22))]
def s64_4 : List CI := [q0 23 (.load true 12 (.tmp 7)), q0 24 (.call 27 [.tmp 23]), q0 6 (.mv (.tmp 24))]
def a64 : AC := (.seq (.reg s64_0) (.keep [1, 2, 3] (.seq (.reg s64_1) (.keep [2, 7] (.seq (.seq (.reg s64_2) (.keep [7, 18] (.cond (.tmp 18) (.seq (.reg s64_3) .ret) .skip))) (.keep [7] (.seq (.reg s64_4) .ret)))))))
def c64 : FC := ⟨25, a64.erase, [.tmp 6]⟩
theorem comp64 : compF Tryd.prog Tryd.f64 = some c64 := by kernel_rfl
theorem era64 : c64.code = a64.erase := rfl
def s65_0 : List CI := [q0 1 (.box 68 (.tmp 0)), q0 2 (.mv (ks ⟨#[]⟩))]
def s65_1 : List CI := [q0 4 (.faddr 0 (.tmp 1)), q0 5 (.faddr 9 (.tmp 4)), q0 6 (.faddr 1 (.tmp 5)), q0 7 (.load false 1 (.tmp 6)), q0 8 (.call 26 [.tmp 7]), q0 3 (.mv (.tmp 8))]
def s65_2 : List CI := [q0 9 (.faddr 0 (.tmp 1)), q0 10 (.faddr 9 (.tmp 9)), q0 11 (.faddr 0 (.tmp 10)), q0 12 (.load false 1 (.tmp 11))]
def s65_3 : List CI := [q0 14 (.bin .eql (.tmp 12) (ki 2)), q0 13 (.mv (.tmp 14))]
def s65_4 : List CI := [q0 15 (.mv (.tmp 3)), q0 16 (.mksl 9 1 [ks ⟨#[115, 108, 105, 100, 105, 110, 103, 32]⟩, .tmp 15]), q0 17 (.call 23 [.tmp 16]), q0 2 (.mv (.tmp 17))]
def s65_5 : List CI := [q0 19 (.bin .eql (.tmp 12) (ki 3)), q0 18 (.mv (.tmp 19))]
def s65_6 : List CI := [q0 20 (.mv (.tmp 3)), q0 21 (.mksl 9 1 [ks ⟨#[116, 117, 109, 98, 108, 105, 110, 103, 32]⟩, .tmp 20]), q0 22 (.call 23 [.tmp 21]), q0 2 (.mv (.tmp 22))]
def s65_7 : List CI := [q0 24 (.bin .eql (.tmp 12) (ki 4)), q0 23 (.mv (.tmp 24))]
def s65_8 : List CI := [q0 25 (.mv (.tmp 3)), q0 26 (.mksl 9 1 [ks ⟨#[115, 101, 115, 115, 105, 111, 110, 32]⟩, .tmp 25]), q0 27 (.call 23 [.tmp 26]), q0 2 (.mv (.tmp 27))]
def s65_9 : List CI := [q0 2 (.mv (ks ⟨#[97, 108, 108]⟩))]
def a65 : AC := (.seq (.reg s65_0) (.keep [1] (.seq (.seq (.reg s65_1) (.keep [1, 3] (.seq (.reg s65_2) (.keep [3, 12] (.block 0 (.seq (.reg s65_3) (.keep [3, 12, 13] (.cond (.tmp 13) (.seq (.reg s65_4) .ret) (.seq (.reg s65_5) (.keep [3, 12, 18] (.cond (.tmp 18) (.seq (.reg s65_6) .ret) (.seq (.reg s65_7) (.keep [3, 23] (.cond (.tmp 23) (.seq (.reg s65_8) .ret) .skip)))))))))))))) (.keep [] (.seq (.reg s65_9) .ret)))))
def c65 : FC := ⟨28, a65.erase, [.tmp 2]⟩
theorem comp65 : compF Tryd.prog Tryd.f65 = some c65 := by kernel_rfl
theorem era65 : c65.code = a65.erase := rfl
def s66_0 : List CI := [q0 1 (.box 68 (.tmp 0)), q0 2 (.mv (ki 0))]
def s66_1 : List CI := [q0 3 (.faddr 0 (.tmp 1)), q0 4 (.faddr 0 (.tmp 3)), q0 5 (.load false 1 (.tmp 4))]
def s66_2 : List CI := [q0 7 (.bin .eql (.tmp 5) (ki 8)), q0 6 (.mv (.tmp 7))]
def s66_3 : List CI := [q0 2 (.mv (ki 0))]
def s66_4 : List CI := [q0 9 (.bin .eql (.tmp 5) (ki 9)), q0 8 (.mv (.tmp 9))]
def s66_5 : List CI := [q0 2 (.mv (ki 1))]
def s66_6 : List CI := [q0 11 (.bin .eql (.tmp 5) (ki 6)), q0 10 (.mv (.tmp 11))]
def s66_7 : List CI := [q0 12 (.faddr 0 (.tmp 1)), q0 13 (.faddr 1 (.tmp 12)), q0 14 (.load false 1 (.tmp 13))]
def s66_8 : List CI := [q0 16 (.bin .eql (.tmp 14) (ks ⟨#[45]⟩)), q0 15 (.mv (.tmp 16))]
def s66_9 : List CI := [q0 2 (.mv (ki 8))]
def s66_10 : List CI := [q0 18 (.bin .eql (.tmp 14) (ks ⟨#[110, 111, 116]⟩)), q0 17 (.mv (.tmp 18))]
def s66_11 : List CI := [q0 2 (.mv (ki 4))]
def s66_12 : List CI := [q0 2 (.mv (ki 9))]
def s66_13 : List CI := [q0 20 (.bin .eql (.tmp 5) (ki 7)), q0 19 (.mv (.tmp 20))]
def s66_14 : List CI := [q0 21 (.faddr 0 (.tmp 1)), q0 22 (.faddr 1 (.tmp 21)), q0 23 (.load false 1 (.tmp 22))]
def s66_15 : List CI := [q0 25 (.bin .eql (.tmp 23) (ks ⟨#[111, 114]⟩)), q0 24 (.mv (.tmp 25))]
def s66_16 : List CI := [q0 2 (.mv (ki 2))]
def s66_17 : List CI := [q0 27 (.bin .eql (.tmp 23) (ks ⟨#[97, 110, 100]⟩)), q0 26 (.mv (.tmp 27))]
def s66_18 : List CI := [q0 2 (.mv (ki 3))]
def s66_19 : List CI := [q0 29 (.bin .eql (.tmp 23) (ks ⟨#[43]⟩)), q0 28 (.mv (.tmp 29))]
def s66_20 : List CI := [q0 30 (.bin .eql (.tmp 23) (ks ⟨#[45]⟩)), q0 28 (.mv (.tmp 30))]
def s66_21 : List CI := [q0 2 (.mv (ki 6))]
def s66_22 : List CI := [q0 32 (.bin .eql (.tmp 23) (ks ⟨#[42]⟩)), q0 31 (.mv (.tmp 32))]
def s66_23 : List CI := [q0 33 (.bin .eql (.tmp 23) (ks ⟨#[47]⟩)), q0 31 (.mv (.tmp 33))]
def s66_24 : List CI := [q0 2 (.mv (ki 7))]
def s66_25 : List CI := [q0 2 (.mv (ki 5))]
def s66_26 : List CI := [q0 2 (.mv (ki 9))]
def a66 : AC := (.seq (.reg s66_0) (.keep [1] (.seq (.seq (.reg s66_1) (.keep [1, 5] (.block 0 (.seq (.reg s66_2) (.keep [1, 5, 6] (.cond (.tmp 6) (.seq (.reg s66_3) .ret) (.seq (.reg s66_4) (.keep [1, 5, 8] (.cond (.tmp 8) (.seq (.reg s66_5) .ret) (.seq (.reg s66_6) (.keep [1, 5, 10] (.cond (.tmp 10) (.seq (.seq (.reg s66_7) (.keep [14] (.block 1 (.seq (.reg s66_8) (.keep [14, 15] (.cond (.tmp 15) (.seq (.reg s66_9) .ret) (.seq (.reg s66_10) (.keep [17] (.cond (.tmp 17) (.seq (.reg s66_11) .ret) .skip))))))))) (.keep [] (.seq (.reg s66_12) .ret))) (.seq (.reg s66_13) (.keep [1, 19] (.cond (.tmp 19) (.seq (.seq (.reg s66_14) (.keep [23] (.block 2 (.seq (.reg s66_15) (.keep [23, 24] (.cond (.tmp 24) (.seq (.reg s66_16) .ret) (.seq (.reg s66_17) (.keep [23, 26] (.cond (.tmp 26) (.seq (.reg s66_18) .ret) (.seq (.seq (.reg s66_19) (.keep [23, 28] (.cond (.tmp 28) .skip (.reg s66_20)))) (.keep [23, 28] (.cond (.tmp 28) (.seq (.reg s66_21) .ret) (.seq (.seq (.reg s66_22) (.keep [23, 31] (.cond (.tmp 31) .skip (.reg s66_23)))) (.keep [31] (.cond (.tmp 31) (.seq (.reg s66_24) .ret) .skip))))))))))))))) (.keep [] (.seq (.reg s66_25) .ret))) .skip))))))))))))))) (.keep [] (.seq (.reg s66_26) .ret)))))
def c66 : FC := ⟨34, a66.erase, [.tmp 2]⟩
theorem comp66 : compF Tryd.prog Tryd.f66 = some c66 := by kernel_rfl
theorem era66 : c66.code = a66.erase := rfl
def s67_0 : List CI := [q0 4 (.mv (ki 0))]
def s67_1 : List CI := [q0 6 (.mv (.tmp 0)), q0 7 (.len false (.tmp 6)), q0 8 (.mv (ki 0))]
def s67_2 : List CI := [q0 9 (.bin .lss (.tmp 8) (.tmp 7))]
def s67_3 : List CI := [q0 10 (.mv (.tmp 8)), q0 5 (.mv (.tmp 10))]
def s67_4 : List CI := [q0 11 (.mv (.tmp 1)), q0 12 (.mv (.tmp 0)), q0 13 (.mv (.tmp 5)), q0 14 (.iaddr 1 (.tmp 12) (.tmp 13)), q0 15 (.load false 1 (.tmp 14)), q0 16 (.bin .eql (.tmp 11) (.tmp 15))]
def s67_5 : List CI := [q0 17 (.mv (.tmp 5)), q0 4 (.mv (.tmp 17))]
def s67_6 : List CI := [q0 18 (.bin .add (.tmp 8) (ki 1)), q0 8 (.mv (.tmp 18))]
def s67_7 : List CI := [q0 4 (.mv (.const (.int .i64 (-1))))]
def a67 : AC := (.seq (.reg s67_0) (.keep [0, 1] (.seq (.seq (.reg s67_1) (.keep [0, 1, 7, 8] (.block 0 (.loop (.keep [0, 1, 7, 8] (.seq (.reg s67_2) (.keep [0, 1, 7, 8, 9] (.seq (.cond (.tmp 9) .skip (.exit 0)) (.keep [0, 1, 7, 8] (.seq (.block 1 (.seq (.reg s67_3) (.keep [0, 1, 5, 7, 8] (.seq (.reg s67_4) (.keep [0, 1, 5, 7, 8, 16] (.cond (.tmp 16) (.seq (.reg s67_5) .ret) .skip)))))) (.keep [0, 1, 7, 8] (.reg s67_6)))))))))))) (.keep [] (.seq (.reg s67_7) .ret)))))
def c67 : FC := ⟨19, a67.erase, [.tmp 4]⟩
theorem comp67 : compF Tryd.prog Tryd.f67 = some c67 := by kernel_rfl
theorem era67 : c67.code = a67.erase := rfl
def s68_0 : List CI := [q0 4 (.mv kF)]
def s68_1 : List CI := [q0 6 (.mv (.tmp 0)), q0 7 (.len false (.tmp 6)), q0 8 (.mv (.tmp 1)), q0 9 (.len false (.tmp 8)), q0 10 (.bin .neq (.tmp 7) (.tmp 9))]
def s68_2 : List CI := [q0 4 (.mv kF)]
def s68_3 : List CI := [q0 11 (.mv (.tmp 0)), q0 12 (.len false (.tmp 11)), q0 13 (.mv (ki 0))]
def s68_4 : List CI := [q0 14 (.bin .lss (.tmp 13) (.tmp 12))]
def s68_5 : List CI := [q0 15 (.mv (.tmp 13)), q0 5 (.mv (.tmp 15))]
def s68_6 : List CI := [q0 16 (.mv (.tmp 0)), q0 17 (.mv (.tmp 5)), q0 18 (.iaddr 2 (.tmp 16) (.tmp 17)), q0 19 (.load true 2 (.tmp 18)), q0 20 (.mv (.tmp 1)), q0 21 (.mv (.tmp 5)), q0 22 (.iaddr 2 (.tmp 20) (.tmp 21)), q0 23 (.load true 2 (.tmp 22)), q0 24 (.eqs true [.str, .int] (.tmp 19) (.tmp 23))]
def s68_7 : List CI := [q0 4 (.mv kF)]
def s68_8 : List CI := [q0 25 (.bin .add (.tmp 13) (ki 1)), q0 13 (.mv (.tmp 25))]
def s68_9 : List CI := [q0 4 (.mv kT)]
def a68 : AC := (.seq (.reg s68_0) (.keep [0, 1] (.seq (.seq (.reg s68_1) (.keep [0, 1, 10] (.cond (.tmp 10) (.seq (.reg s68_2) .ret) .skip))) (.keep [0, 1] (.seq (.seq (.reg s68_3) (.keep [0, 1, 12, 13] (.block 0 (.loop (.keep [0, 1, 12, 13] (.seq (.reg s68_4) (.keep [0, 1, 12, 13, 14] (.seq (.cond (.tmp 14) .skip (.exit 0)) (.keep [0, 1, 12, 13] (.seq (.block 1 (.seq (.reg s68_5) (.keep [0, 1, 5, 12, 13] (.seq (.dreg s68_6) (.keep [0, 1, 12, 13, 24] (.cond (.tmp 24) (.seq (.reg s68_7) .ret) .skip)))))) (.keep [0, 1, 12, 13] (.reg s68_8)))))))))))) (.keep [] (.seq (.reg s68_9) .ret)))))))
def c68 : FC := ⟨26, a68.erase, [.tmp 4]⟩
theorem comp68 : compF Tryd.prog Tryd.f68 = some c68 := by kernel_rfl
theorem era68 : c68.code = a68.erase := rfl
def s76_0 : List CI := [q0 1 (.box 114 (.tmp 0)), q0 2 (.mv (ks ⟨#[]⟩))]
def s76_1 : List CI := [q0 2 (.mv (ks ⟨#[110, 117, 108, 108]⟩))]
def a76 : AC := (.seq (.reg s76_0) (.keep [] (.seq (.reg s76_1) .ret)))
def c76 : FC := ⟨3, a76.erase, [.tmp 2]⟩
theorem comp76 : compF Tryd.prog Tryd.f76 = some c76 := by kernel_rfl
theorem era76 : c76.code = a76.erase := rfl
def s77_0 : List CI := [q0 1 (.box 114 (.tmp 0)), q0 2 (.mv (ks ⟨#[]⟩))]
def s77_1 : List CI := [q0 3 (.faddr 0 (.tmp 1)), q0 4 (.faddr 1 (.tmp 3)), q0 5 (.load false 1 (.tmp 4)), q0 6 (.bin .eql (.tmp 5) (ki 1)), q0 7 (.call 88 [.tmp 6]), q0 2 (.mv (.tmp 7))]
def a77 : AC := (.seq (.reg s77_0) (.keep [1] (.seq (.reg s77_1) .ret)))
def c77 : FC := ⟨8, a77.erase, [.tmp 2]⟩
theorem comp77 : compF Tryd.prog Tryd.f77 = some c77 := by kernel_rfl
theorem era77 : c77.code = a77.erase := rfl
def s78_0 : List CI := [q0 1 (.box 114 (.tmp 0)), q0 2 (.mv (ks ⟨#[]⟩))]
def s78_1 : List CI := [q0 3 (.faddr 0 (.tmp 1)), q0 4 (.faddr 1 (.tmp 3)), q0 5 (.load false 1 (.tmp 4)), q0 6 (.call 26 [.tmp 5]), q0 2 (.mv (.tmp 6))]
def a78 : AC := (.seq (.reg s78_0) (.keep [1] (.seq (.reg s78_1) .ret)))
def c78 : FC := ⟨7, a78.erase, [.tmp 2]⟩
theorem comp78 : compF Tryd.prog Tryd.f78 = some c78 := by kernel_rfl
theorem era78 : c78.code = a78.erase := rfl
def s79_0 : List CI := [q0 1 (.box 114 (.tmp 0)), q0 2 (.mv (ks ⟨#[]⟩))]
def s79_1 : List CI := [q0 3 (.faddr 0 (.tmp 1)), q0 4 (.faddr 1 (.tmp 3)), q0 5 (.load false 1 (.tmp 4)), q0 6 (.call 89 [.tmp 5]), q0 2 (.mv (.tmp 6))]
def a79 : AC := (.seq (.reg s79_0) (.keep [1] (.seq (.reg s79_1) .ret)))
def c79 : FC := ⟨7, a79.erase, [.tmp 2]⟩
theorem comp79 : compF Tryd.prog Tryd.f79 = some c79 := by kernel_rfl
theorem era79 : c79.code = a79.erase := rfl
def s80_0 : List CI := [q0 1 (.box 114 (.tmp 0)), q0 2 (.mv (ks ⟨#[]⟩))]
def s80_1 : List CI := [q0 3 (.faddr 0 (.tmp 1)), q0 4 (.faddr 2 (.tmp 3)), q0 5 (.load false 1 (.tmp 4)), q0 6 (.bin .add (ks ⟨#[34]⟩) (.tmp 5)), q0 7 (.bin .add (.tmp 6) (ks ⟨#[34]⟩)), q0 2 (.mv (.tmp 7))]
def a80 : AC := (.seq (.reg s80_0) (.keep [1] (.seq (.reg s80_1) .ret)))
def c80 : FC := ⟨8, a80.erase, [.tmp 2]⟩
theorem comp80 : compF Tryd.prog Tryd.f80 = some c80 := by kernel_rfl
theorem era80 : c80.code = a80.erase := rfl
def s81_0 : List CI := [q0 1 (.box 114 (.tmp 0)), q0 2 (.mv (ks ⟨#[]⟩))]
def s81_1 : List CI := [q0 3 (.faddr 0 (.tmp 1)), q0 4 (.faddr 2 (.tmp 3)), q0 5 (.load false 1 (.tmp 4)), q0 6 (.bin .add (ks ⟨#[64]⟩) (.tmp 5)), q0 2 (.mv (.tmp 6))]
def a81 : AC := (.seq (.reg s81_0) (.keep [1] (.seq (.reg s81_1) .ret)))
def c81 : FC := ⟨7, a81.erase, [.tmp 2]⟩
theorem comp81 : compF Tryd.prog Tryd.f81 = some c81 := by kernel_rfl
theorem era81 : c81.code = a81.erase := rfl
def s89_0 : List CI := [q0 2 (.mv (ks ⟨#[]⟩))]
def s89_1 : List CI := [q0 6 (.mv (.tmp 0)), q0 7 (.call 26 [.tmp 6]), q0 3 (.mv (.tmp 7))]
def s89_2 : List CI := [q0 4 (.mv (ks ⟨#[]⟩))]
def s89_3 : List CI := [q0 8 (.mv (.tmp 0)), q0 9 (.bin .lss (.tmp 8) (ki 0))]
def s89_4 : List CD := [.mk 0 (q0 10 (.mv (.tmp 3))) [], .mk 1 (q0 11 (.extq (.slice 9 (.tmp 10) (some (ki 1)) none none) 9 [.str] [.tmp 10, ki 1])) [], .mk 2 (q0 4 (.mv (ks ⟨#[45]⟩))) [], .mk 3 (q0 3 (.mv (.tmp 11))) []]
def s89_5 : List CI := [q0 12 (.mv (.tmp 3)), q0 13 (.len true (.tmp 12)), q0 14 (.bin .leq (.tmp 13) (ki 6))]
def s89_6 : List CI := [q0 15 (.mv (.tmp 3)), q0 16 (.bin .add (ks ⟨#[48]⟩) (.tmp 15)), q0 3 (.mv (.tmp 16))]
def s89_7 : List CI := [q0 17 (.mv (.tmp 3)), q0 18 (.len true (.tmp 17)), q0 19 (.bin .sub (.tmp 18) (ki 6)), q0 5 (.mv (.tmp 19))]
def s89_8 : List CI := [q0 20 (.mv (.tmp 4)), q0 21 (.mv (.tmp 3)), q0 22 (.mv (.tmp 5)), q0 23 (.extq (.slice 9 (.tmp 21) none (some (.tmp 22)) none) 9 [.str] [.tmp 21, .tmp 22]), q0 24 (.bin .add (.tmp 20) (.tmp 23)), q0 25 (.bin .add (.tmp 24) (ks ⟨#[46]⟩)), q0 26 (.mv (.tmp 3)), q0 27 (.mv (.tmp 5)), q0 28 (.extq (.slice 9 (.tmp 26) (some (.tmp 27)) none none) 9 [.str] [.tmp 26, .tmp 27]), q0 29 (.bin .add (.tmp 25) (.tmp 28)), q0 2 (.mv (.tmp 29))]
def a89 : AC := (.seq (.reg s89_0) (.keep [0] (.seq (.reg s89_1) (.keep [0, 3] (.seq (.reg s89_2) (.keep [0, 3, 4] (.seq (.seq (.reg s89_3) (.keep [3, 4, 9] (.cond (.tmp 9) (.mreg [] s89_4) .skip))) (.keep [3, 4] (.seq (.block 0 (.loop (.keep [3, 4] (.seq (.seq (.reg s89_5) (.keep [3, 4, 14] (.cond (.tmp 14) .skip (.exit 0)))) (.keep [3, 4] (.block 1 (.reg s89_6))))))) (.keep [3, 4] (.seq (.reg s89_7) (.keep [3, 4, 5] (.seq (.dreg s89_8) .ret)))))))))))))
def c89 : FC := ⟨30, a89.erase, [.tmp 2]⟩
theorem comp89 : compF Tryd.prog Tryd.f89 = some c89 := by kernel_rfl
theorem era89 : c89.code = a89.erase := rfl
end Go.Proofs.YtklncofkcfjkeaaDoor
