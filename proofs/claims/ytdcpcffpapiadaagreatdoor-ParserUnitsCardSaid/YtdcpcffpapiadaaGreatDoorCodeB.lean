/- The compiled code of functions, printed by a program of mine. -/
import Derived.Test.YtdcpcffpapiadaaGreatDoorCodeA
import Derived.Test.YtdcpcffpapiadaaGreatDoorRows
set_option linter.unusedVariables false
namespace Go.Proofs.YtdcpcffpapiadaaGreatDoor
open Go.Sx
def s74_0:=[zk 2 0]
def s74_1:=[za 5 0,zx 6 5,za3 7 6 64]
def s74_2:=[zk 2 2]
def s74_3:=[za 8 0,zx 9 8,zk 10 0]
def s74_4:=[zr 11 10 9]
def s74_5:=[zf 12 1 8 10,ze 13 1 12,za 4 13]
def s74_6:=[za 14 4,q0 15 (.bin .lss (.tmp 14) (.const (.int .u8 32))),za 16 15,zq 17 4 16,q1 18 (.bin .gtr (.tmp 17) (.const (.int .u8 126))) 16 false,zm 19 16 18,za 20 19,zq 21 4 20,q1 22 (.bin .eql (.tmp 21) (.const (.int .u8 92))) 20 false,zm 23 20 22]
def s74_7:=[zk 2 3]
def s74_8:=[zn 24 10 1,za 10 24]
def s74_9:=[zk 2 0]
def a74:AC:=Z.r s74_0 [0] (Z.s (Z.r s74_1 [0,7] (Z.c 7 (Z.e s74_2) .skip)) [0] (Z.s (Z.r s74_3 [8,9,10] (Z.b 0 (Z.l [8,9,10] (Z.r s74_4 [8,9,10,11] (Z.s (Z.c 11 .skip (.exit 0)) [8,9,10] (Z.s (Z.b 1 (Z.r s74_5 [4,8,9,10] (Z.r s74_6 [8,9,10,23] (Z.c 23 (Z.e s74_7) .skip)))) [8,9,10] (Z.g s74_8))))))) [] (Z.e s74_9)))
def c74:FC:=⟨25,a74.erase,[.tmp 2]⟩
theorem comp74:compF Tryz.prog Tryz.f74=some c74:=by kernel_rfl
theorem era74:c74.code=a74.erase:=rfl
def s89_0:=[zc2 2,zc2 3]
def s89_1:=[za 4 0,zu 5 4,zg 6 0 5,zl 7 67 6,za 2 7]
def s89_2:=[za 8 0,zu 9 8,zg 10 0 9,q0 11 (.call 65 [.tmp 10,ks ⟨#[111,102]⟩])]
def s89_3:=[za 12 2,za 13 0,zu 14 13,zg 15 0 14,zl 16 67 15,za 2 12,za 3 16]
def a89:AC:=Z.r s89_0 [0] (Z.r s89_1 [0,2] (Z.r s89_2 [0,2] (Z.e s89_3)))
def c89:FC:=⟨17,a89.erase,[.tmp 2,.tmp 3]⟩
theorem comp89:compF Tryz.prog Tryz.f89=some c89:=by kernel_rfl
theorem era89:c89.code=a89.erase:=rfl
def s90_0:=[za 4 0,za 5 1,q0 6 (.call 64 [.tmp 4,ki 5,.tmp 5]),za6 7 6]
def s90_1:=[za 8 0,zl 9 61 8]
def a90:AC:=Z.r s90_0 [0,7] (Z.c 7 (Z.g s90_1) .skip)
def c90:FC:=⟨10,a90.erase,[]⟩
theorem comp90:compF Tryz.prog Tryz.f90=some c90:=by kernel_rfl
theorem era90:c90.code=a90.erase:=rfl
def s91_0:=[za 6 2,q0 7 (.callv (.tmp 6) [])]
def s91_1:=[za 8 0,za 9 1,q0 10 (.call 64 [.tmp 8,ki 5,.tmp 9])]
def s91_2:=[za 11 2,q0 12 (.callv (.tmp 11) [])]
def a91:AC:=Z.r s91_0 [0,1,2] (Z.b 0 (Z.l [0,1,2] (Z.s (Z.r s91_1 [0,1,2,10] (Z.c 10 .skip (.exit 0))) [0,1,2] (Z.b 1 (Z.g s91_2)))))
def c91:FC:=⟨13,a91.erase,[]⟩
theorem comp91:compF Tryz.prog Tryz.f91=some c91:=by kernel_rfl
theorem era91:c91.code=a91.erase:=rfl
def s92_0:=[ze 3 1 0,zu 4 3,zg 5 0 4,zl 6 67 5,q0 7 (.build [.string ⟨#[]⟩,.int .i64 0,.slice none 0 0,.string ⟨#[]⟩] [(0,1,.tmp 6)]),q0 2 (.alloc 138 (.agg #[.string ⟨#[]⟩,.int .i64 0,.slice none 0 0,.string ⟨#[]⟩])),zc 4 2 7]
def s92_1:=[ze 8 1 0,zu 9 8,zg 10 0 9,q0 11 (.call 90 [.tmp 10,ks ⟨#[58]⟩])]
def s92_2:=[ze 12 1 0,zu 13 12,zg 14 0 13,zl 15 32 14,zg 16 1 2,zc 3 16 15]
def s92_3:=[zg 17 2 1,ze 18 1 17,zp 19 4 2,q0 20 (.mksl 138 4 [.tmp 19]),q0 21 (.append 138 4 64 [.string ⟨#[]⟩,.int .i64 0,.slice none 0 0,.string ⟨#[]⟩] (.tmp 18) (.tmp 20)),zg 22 2 1,zc 1 22 21]
def a92:AC:=Z.r s92_0 [0,1,2] (Z.r s92_1 [0,1,2] (Z.r s92_2 [1,2] (Z.g s92_3)))
def c92:FC:=⟨23,a92.erase,[]⟩
theorem comp92:compF Tryz.prog Tryz.f92=some c92:=by kernel_rfl
theorem era92:c92.code=a92.erase:=rfl
def s93_0:=[zk 2 0]
def s93_1:=[za 6 0,za2 7 99 6 2,zc0 8 7,zl 9 55 8,za 5 9,zh 10 5 0,zh 11 5 1,za 3 10,za 4 11]
def s93_2:=[za 12 3,za 2 12]
def a93:AC:=Z.r s93_0 [0] (Z.r s93_1 [3] (Z.e s93_2))
def c93:FC:=⟨13,a93.erase,[.tmp 2]⟩
theorem comp93:compF Tryz.prog Tryz.f93=some c93:=by kernel_rfl
theorem era93:c93.code=a93.erase:=rfl
def s94_0:=[za 10 1,zn 11 10 1,za 8 11]
def s94_1:=[za 12 8,za 13 2,zr 14 12 13]
def s94_2:=[za 17 8,za 9 17]
def s94_3:=[za 18 9,za 19 1,zbb 20 18 19,za 21 20,zi 22 3 21,zi 23 0 21,zi 24 9 21,zz 25 2 23 24 21,za1 26 2 25 21,zi 27 0 21,zi 28 9 21,zbo 29 28 1 21,zz 30 2 27 29 21,za1 31 2 30 21,q1 32 (.callv (.tmp 22) [.tmp 26,.tmp 31]) 21 true,q1 33 (.bin .lss (.tmp 32) (ki 0)) 21 true,zj 34 21 33]
def s94_4:=[ed 0 (za 37 0) [],ed 1 (za 38 9) [],ed 2 (za 39 0) [],ed 3 (za 40 9) [],ed 4 (zw 41 40 1) [],ed 5 (za 42 0) [],ed 6 (za 43 9) [],ed 7 (zw 44 43 1) [],ed 8 (zf 45 2 42 44) [],ed 9 (zp 46 2 45) [],ed 10 (za 47 0) [],ed 11 (za 48 9) [],ed 12 (zf 49 2 47 48) [],ed 13 (zp 50 2 49) [],ed 14 (zf 51 2 37 38) [],ed 15 (zc 2 51 46) [0],ed 16 (zf 52 2 39 41) [],ed 17 (zc 2 52 50) [0]]
def s94_5:=[za 35 9,zw 36 35 1,za 9 36]
def s94_6:=[za 15 8,zn 16 15 1,za 8 16]
def a94:AC:=Z.r s94_0 [0,1,2,3,8] (Z.b 0 (Z.l [0,1,2,3,8] (Z.s (Z.r s94_1 [0,1,2,3,8,14] (Z.c 14 .skip (.exit 0))) [0,1,2,3,8] (Z.s (Z.b 1 (Z.r s94_2 [0,1,2,3,8,9] (Z.b 2 (Z.l [0,1,2,3,8,9] (Z.s (Z.d s94_3 [0,1,2,3,8,9,34] (Z.c 34 .skip (.exit 2))) [0,1,2,3,8,9] (Z.s (Z.b 3 (.mreg [] s94_4)) [0,1,2,3,8,9] (Z.g s94_5))))))) [0,1,2,3,8] (Z.g s94_6)))))
def c94:FC:=⟨53,a94.erase,[]⟩
theorem comp94:compF Tryz.prog Tryz.f94=some c94:=by kernel_rfl
theorem era94:c94.code=a94.erase:=rfl
def s95_0:=[za 25 2,za 26 1,zac 27 25 26,zab 28 27 1]
def s95_1:=[za 29 2,za 10 29]
def s95_2:=[za 30 3,za 11 30]
def s95_3:=[za 31 10,za 32 11,zr 33 31 32]
def s95_4:=[za 34 10,za 35 11,zy 36 34 35,zb8 37 36,zco 38 37,zbr 39 38,za 12 39]
def s95_5:=[za 40 4,za 41 0,za 42 12,zf 43 2 41 42,zp 44 2 43,za 45 0,za 46 1,zf 47 2 45 46,zp 48 2 47,zbz 49 40 44 48,za8 50 49 0]
def s95_6:=[za 51 12,zn 52 51 1,za 10 52]
def s95_7:=[za 53 12,za 11 53]
def s95_8:=[za 54 1,za 13 54]
def s95_9:=[za 55 13,za 56 10,zw 57 56 1,zr 58 55 57]
def s95_10:=[ed 0 (za 61 0) [],ed 1 (za 62 13) [],ed 2 (za 63 0) [],ed 3 (za 64 13) [],ed 4 (zn 65 64 1) [],ed 5 (za 66 0) [],ed 6 (za 67 13) [],ed 7 (zn 68 67 1) [],ed 8 (zf 69 2 66 68) [],ed 9 (zp 70 2 69) [],ed 10 (za 71 0) [],ed 11 (za 72 13) [],ed 12 (zf 73 2 71 72) [],ed 13 (zp 74 2 73) [],ed 14 (zf 75 2 61 62) [],ed 15 (zc 2 75 70) [0],ed 16 (zf 76 2 63 65) [],ed 17 (zc 2 76 74) [0]]
def s95_11:=[za 59 13,zn 60 59 1,za 13 60]
def s95_12:=[za 77 3,za 78 2,zac 79 77 78,zab 80 79 1]
def s95_13:=[za 81 1,za 14 81]
def s95_14:=[za 82 2,za 15 82]
def s95_15:=[za 83 14,za 84 15,zr 85 83 84]
def s95_16:=[za 86 14,za 87 15,zy 88 86 87,zb8 89 88,zco 90 89,zbr 91 90,za 16 91]
def s95_17:=[za 92 4,za 93 0,za 94 2,zf 95 2 93 94,zp 96 2 95,za 97 0,za 98 16,zf 99 2 97 98,zp 100 2 99,zbz 101 92 96 100,za8 102 101 0,za6 103 102]
def s95_18:=[za 104 16,zn 105 104 1,za 14 105]
def s95_19:=[za 106 16,za 15 106]
def s95_20:=[za 107 2,za 17 107]
def s95_21:=[za 108 17,za 109 14,zbb 110 108 109]
def s95_22:=[ed 0 (za 113 0) [],ed 1 (za 114 17) [],ed 2 (za 115 0) [],ed 3 (za 116 17) [],ed 4 (zw 117 116 1) [],ed 5 (za 118 0) [],ed 6 (za 119 17) [],ed 7 (zw 120 119 1) [],ed 8 (zf 121 2 118 120) [],ed 9 (zp 122 2 121) [],ed 10 (za 123 0) [],ed 11 (za 124 17) [],ed 12 (zf 125 2 123 124) [],ed 13 (zp 126 2 125) [],ed 14 (zf 127 2 113 114) [],ed 15 (zc 2 127 122) [0],ed 16 (zf 128 2 115 117) [],ed 17 (zc 2 128 126) [0]]
def s95_23:=[za 111 17,zw 112 111 1,za 17 112]
def s95_24:=[za 129 1,za 130 3,zy 131 129 130,zb8 132 131,zco 133 132,zbr 134 133,za 18 134]
def s95_25:=[za 135 18,za 136 2,zy 137 135 136,za 19 137]
def s95_26:=[zk 20 0,zk 21 0]
def s95_27:=[za 138 2,za 139 18,zbb 140 138 139]
def s95_28:=[za 141 19,za 142 3,zac 143 141 142,za 20 143]
def s95_29:=[za 144 18,za 21 144]
def s95_30:=[za 145 1,za 20 145]
def s95_31:=[za 146 2,za 21 146]
def s95_32:=[za 147 19,zw 148 147 1,za 22 148]
def s95_33:=[za 149 20,za 150 21,zr 151 149 150]
def s95_34:=[za 152 20,za 153 21,zy 154 152 153,zb8 155 154,zco 156 155,zbr 157 156,za 23 157]
def s95_35:=[za 158 4,za 159 0,za 160 22,za 161 23,zac 162 160 161,zf 163 2 159 162,zp 164 2 163,za 165 0,za 166 23,zf 167 2 165 166,zp 168 2 167,zbz 169 158 164 168,za8 170 169 0,za6 171 170]
def s95_36:=[za 172 23,zn 173 172 1,za 20 173]
def s95_37:=[za 174 23,za 21 174]
def s95_38:=[za 175 19,za 176 20,zac 177 175 176,za 24 177]
def s95_39:=[za 178 20,za 179 2,zr 180 178 179,za 181 180,zi 182 2 181,zi 183 24 181,zcc 184 182 183 181,zj 185 181 184]
def s95_40:=[za 186 0,za 187 20,za 188 2,za 189 24,za 190 4,zau 191 127 186 187 188 189 190]
def s95_41:=[za 192 1,za 193 20,zr 194 192 193,za 195 194,zi 196 20 195,zi 197 18 195,zcc 198 196 197 195,zj 199 195 198]
def s95_42:=[za 200 0,za 201 1,za 202 20,za 203 18,za 204 4,zau 205 95 200 201 202 203 204]
def s95_43:=[za 206 18,za 207 24,zr 208 206 207,za 209 208,zi 210 24 209,zi 211 3 209,zcc 212 210 211 209,zj 213 209 212]
def s95_44:=[za 214 0,za 215 18,za 216 24,za 217 3,za 218 4,zau 219 95 214 215 216 217 218]
def a95:AC:=Z.s (Z.r s95_0 [0,1,2,3,4,28] (Z.c 28 (Z.r s95_1 [0,1,3,4,10] (Z.r s95_2 [0,1,4,10,11] (Z.s (Z.b 0 (Z.l [0,1,4,10,11] (Z.s (Z.r s95_3 [0,1,4,10,11,33] (Z.c 33 .skip (.exit 0))) [0,1,4,10,11] (Z.b 1 (Z.r s95_4 [0,1,4,10,11,12] (Z.d s95_5 [0,1,4,10,11,12,50] (Z.c 50 (Z.g s95_6) (Z.g s95_7)))))))) [0,1,10] (.seq (Z.r s95_8 [0,10,13] (Z.b 2 (Z.l [0,10,13] (Z.s (Z.r s95_9 [0,10,13,58] (Z.c 58 .skip (.exit 2))) [0,10,13] (Z.s (Z.b 3 (.mreg [] s95_10)) [0,10,13] (Z.g s95_11)))))) .ret)))) .skip)) [0,1,2,3,4] (Z.s (Z.r s95_12 [0,1,2,3,4,80] (Z.c 80 (Z.r s95_13 [0,2,4,14] (Z.r s95_14 [0,2,4,14,15] (Z.s (Z.b 4 (Z.l [0,2,4,14,15] (Z.s (Z.r s95_15 [0,2,4,14,15,85] (Z.c 85 .skip (.exit 4))) [0,2,4,14,15] (Z.b 5 (Z.r s95_16 [0,2,4,14,15,16] (Z.d s95_17 [0,2,4,14,15,16,103] (Z.c 103 (Z.g s95_18) (Z.g s95_19)))))))) [0,2,14] (.seq (Z.r s95_20 [0,14,17] (Z.b 6 (Z.l [0,14,17] (Z.s (Z.r s95_21 [0,14,17,110] (Z.c 110 .skip (.exit 6))) [0,14,17] (Z.s (Z.b 7 (.mreg [] s95_22)) [0,14,17] (Z.g s95_23)))))) .ret)))) .skip)) [0,1,2,3,4] (Z.r s95_24 [0,1,2,3,4,18] (Z.r s95_25 [0,1,2,3,4,18,19] (Z.r s95_26 [0,1,2,3,4,18,19] (Z.s (Z.r s95_27 [0,1,2,3,4,18,19,140] (Z.c 140 (Z.r s95_28 [0,1,2,3,4,18,19,20] (Z.g s95_29)) (Z.r s95_30 [0,1,2,3,4,18,19,20] (Z.g s95_31)))) [0,1,2,3,4,18,19,20,21] (Z.r s95_32 [0,1,2,3,4,18,19,20,21,22] (Z.s (Z.b 8 (Z.l [0,1,2,3,4,18,19,20,21,22] (Z.s (Z.r s95_33 [0,1,2,3,4,18,19,20,21,22,151] (Z.c 151 .skip (.exit 8))) [0,1,2,3,4,18,19,20,21,22] (Z.b 9 (Z.r s95_34 [0,1,2,3,4,18,19,20,21,22,23] (Z.d s95_35 [0,1,2,3,4,18,19,20,21,22,23,171] (Z.c 171 (Z.g s95_36) (Z.g s95_37)))))))) [0,1,2,3,4,18,19,20] (Z.r s95_38 [0,1,2,3,4,18,20,24] (Z.s (Z.r s95_39 [0,1,2,3,4,18,20,24,185] (Z.c 185 (Z.g s95_40) .skip)) [0,1,3,4,18,20,24] (Z.s (Z.r s95_41 [0,1,3,4,18,20,24,199] (Z.c 199 (Z.g s95_42) .skip)) [0,3,4,18,24] (Z.r s95_43 [0,3,4,18,24,213] (Z.c 213 (Z.g s95_44) .skip))))))))))))
def c95:FC:=⟨220,a95.erase,[]⟩
theorem comp95:compF Tryz.prog Tryz.f95=some c95:=by kernel_rfl
theorem era95:c95.code=a95.erase:=rfl
def s96_0:=[zag 6]
def s96_1:=[za 7 0,zu 8 7,zg 9 0 8,ze 10 1 9,zaa 11 3 10 0,zg 12 0 11,ze 13 1 12,za 14 1,zby 15 13 14,za 16 15,zi 17 0 16,q1 18 (.nilck (.tmp 17)) 16 true,zaj 19 0 18 16,zo 20 1 19 16,zbn 21 3 20 0 16,zaj 22 1 21 16,zo 23 1 22 16,zi 24 2 16,zcd 25 23 24 16,zj 26 16 25,za 6 26]
def a96:AC:=Z.r s96_0 [0,1,2] (Z.e s96_1)
def c96:FC:=⟨27,a96.erase,[.tmp 6]⟩
theorem comp96:compF Tryz.prog Tryz.f96=some c96:=by kernel_rfl
theorem era96:c96.code=a96.erase:=rfl
def s97_0:=[zd 4 38]
def s97_1:=[za 6 1,zb3 7 6 3,za 8 7,zi 9 0 8,q1 10 (.call 64 [.tmp 9,ki 1,ks ⟨#[110,111,116]⟩]) 8 true,zj 11 8 10,za 5 11]
def s97_2:=[za 12 0,za2 13 66 12 3,q0 14 (.mksl 38 12 [.tmp 13]),q0 15 (.build [.int .i64 0,.string ⟨#[]⟩,.string ⟨#[]⟩,.string ⟨#[]⟩,.int .i64 0,.int .i64 0,.string ⟨#[]⟩,.slice none 0 0,.int .i64 0,.int .i64 0,.int .i64 0,.slice none 0 0] [(0,1,ki 6),(1,1,ks ⟨#[110,111,116]⟩),(11,1,.tmp 14)]),zc 12 4 15]
def s97_3:=[za 17 0,q0 18 (.call 64 [.tmp 17,ki 5,ks ⟨#[45]⟩]),za 16 18]
def s97_4:=[za 19 0,za2 20 97 19 7,q0 21 (.mksl 38 12 [.tmp 20]),q0 22 (.build [.int .i64 0,.string ⟨#[]⟩,.string ⟨#[]⟩,.string ⟨#[]⟩,.int .i64 0,.int .i64 0,.string ⟨#[]⟩,.slice none 0 0,.int .i64 0,.int .i64 0,.int .i64 0,.slice none 0 0] [(0,1,ki 6),(1,1,ks ⟨#[45]⟩),(11,1,.tmp 21)]),zc 12 4 22]
def s97_5:=[za 23 0,zl 24 128 23,zc 12 4 24]
def a97:AC:=Z.r s97_0 [0,1,4] (Z.s (Z.b 0 (Z.r s97_1 [0,4,5] (Z.c 5 (Z.e s97_2) (Z.r s97_3 [0,4,16] (Z.c 16 (Z.e s97_4) .skip))))) [0,4] (Z.e s97_5))
def c97:FC:=⟨25,a97.erase,[.cell 4 true 12]⟩
theorem comp97:compF Tryz.prog Tryz.f97=some c97:=by kernel_rfl
theorem era97:c97.code=a97.erase:=rfl
def s98_0:=[zk 2 0]
def s98_1:=[za 4 0,zu 5 4,zg 6 0 5,ze 7 1 6,zaa 8 3 7 0,zp 9 3 8,zbk 3 80,zc 3 3 9]
def s98_2:=[zg 11 0 3,ze 12 1 11,zab 13 12 1,za 14 13,zaj 15 1 3 14,zo 16 1 15 14,q1 17 (.bin .eql (.tmp 16) (ks ⟨#[111,114]⟩)) 14 true,zj 18 14 17,za 10 18]
def s98_3:=[zk 2 1]
def s98_4:=[zg 20 0 3,ze 21 1 20,zab 22 21 1,za 23 22,zaj 24 1 3 23,zo 25 1 24 23,q1 26 (.bin .eql (.tmp 25) (ks ⟨#[97,110,100]⟩)) 23 true,zj 27 23 26,za 19 27]
def s98_5:=[zk 2 2]
def s98_6:=[zg 29 0 3,ze 30 1 29,zat 31 30 5,za 28 31]
def s98_7:=[zk 2 0]
def s98_8:=[zg 32 1 3,ze 33 1 32]
def s98_9:=[q0 35 (.bin .eql (.tmp 33) (ks ⟨#[61,61]⟩)),za 34 35]
def s98_10:=[q0 36 (.bin .eql (.tmp 33) (ks ⟨#[33,61]⟩)),za 34 36]
def s98_11:=[q0 37 (.bin .eql (.tmp 33) (ks ⟨#[60]⟩)),za 34 37]
def s98_12:=[q0 38 (.bin .eql (.tmp 33) (ks ⟨#[60,61]⟩)),za 34 38]
def s98_13:=[zk 2 4]
def s98_14:=[q0 40 (.bin .eql (.tmp 33) (ks ⟨#[43]⟩)),za 39 40]
def s98_15:=[q0 41 (.bin .eql (.tmp 33) (ks ⟨#[45]⟩)),za 39 41]
def s98_16:=[zk 2 5]
def s98_17:=[q0 43 (.bin .eql (.tmp 33) (ks ⟨#[42]⟩)),za 42 43]
def s98_18:=[q0 44 (.bin .eql (.tmp 33) (ks ⟨#[47]⟩)),za 42 44]
def s98_19:=[zk 2 6]
def s98_20:=[zk 2 0]
def a98:AC:=Z.r s98_0 [0] (Z.r s98_1 [3] (Z.s (Z.b 0 (Z.r s98_2 [3,10] (Z.c 10 (Z.e s98_3) (Z.r s98_4 [3,19] (Z.c 19 (Z.e s98_5) (Z.r s98_6 [3,28] (Z.c 28 (Z.e s98_7) .skip))))))) [3] (Z.s (Z.r s98_8 [33] (Z.b 1 (Z.s (Z.r s98_9 [33,34] (Z.c 34 .skip (Z.r s98_10 [33,34] (Z.c 34 .skip (Z.r s98_11 [33,34] (Z.c 34 .skip (Z.g s98_12))))))) [33,34] (Z.c 34 (Z.e s98_13) (Z.s (Z.r s98_14 [33,39] (Z.c 39 .skip (Z.g s98_15))) [33,39] (Z.c 39 (Z.e s98_16) (Z.s (Z.r s98_17 [33,42] (Z.c 42 .skip (Z.g s98_18))) [42] (Z.c 42 (Z.e s98_19) .skip)))))))) [] (Z.e s98_20))))
def c98:FC:=⟨45,a98.erase,[.tmp 2]⟩
theorem comp98:compF Tryz.prog Tryz.f98=some c98:=by kernel_rfl
theorem era98:c98.code=a98.erase:=rfl
def s99_0:=[zbk 4 80]
def s99_1:=[za 6 0,zu 7 6,zg 8 0 7,ze 9 1 8,zaa 10 3 9 0,zp 11 3 10,zbk 5 80,zc 3 5 11]
def s99_2:=[zg 12 0 5,ze 13 1 12,za 14 1,zbc 15 13 14]
def s99_3:=[za 16 0,zl 17 61 16]
def s99_4:=[za 18 0,za 19 0,zu 20 19,zg 21 0 20,ze 22 1 21,zbf 23 22 1,zu 24 18,zg 25 0 24,zc 1 25 23]
def s99_5:=[zp 26 3 5,zc 3 4 26]
def a99:AC:=Z.r s99_0 [0,1,4] (Z.r s99_1 [0,1,4,5] (Z.s (Z.r s99_2 [0,4,5,15] (Z.c 15 (Z.g s99_3) .skip)) [0,4,5] (Z.r s99_4 [4,5] (Z.e s99_5))))
def c99:FC:=⟨27,a99.erase,[.cell 4 true 3]⟩
theorem comp99:compF Tryz.prog Tryz.f99=some c99:=by kernel_rfl
theorem era99:c99.code=a99.erase:=rfl
def s100_0:=[ze 4 1 0,zl 5 67 4,q0 6 (.build [.string ⟨#[]⟩,.int .i64 0] [(0,1,.tmp 5),(1,1,ki 1)]),zbx 2 67,zc 2 2 6]
def s100_1:=[ze 7 1 0,q0 8 (.call 64 [.tmp 7,ki 5,ks ⟨#[94]⟩])]
def s100_2:=[zk 3 1]
def s100_3:=[ze 9 1 0,q0 10 (.call 64 [.tmp 9,ki 5,ks ⟨#[45]⟩])]
def s100_4:=[zce 3]
def s100_5:=[za 11 3,ze 12 1 0,zl 13 93 12,q0 14 (.min2 (.tmp 13) (ki 1099511627776)),q0 15 (.bin .mul (.tmp 11) (.tmp 14)),zg 16 1 2,zc 1 16 15]
def s100_6:=[ze 17 1 1,zp 18 2 2,zcu 19 67 18,zcj 20 67 17 19,zc 1 1 20]
def a100:AC:=Z.r s100_0 [0,1,2] (Z.s (Z.r s100_1 [0,1,2,8] (Z.c 8 (Z.r s100_2 [0,1,2,3] (Z.s (Z.r s100_3 [0,1,2,3,10] (Z.c 10 (Z.g s100_4) .skip)) [0,1,2,3] (Z.g s100_5))) .skip)) [1,2] (Z.g s100_6))
def c100:FC:=⟨21,a100.erase,[]⟩
theorem comp100:compF Tryz.prog Tryz.f100=some c100:=by kernel_rfl
theorem era100:c100.code=a100.erase:=rfl
def s102_0:=[zk 2 0,zk 3 0]
def s102_1:=[za 13 0,za 4 13,zag 5]
def s102_2:=[za 14 4,zc4 15 14,za 16 15,zi 17 4 16,q1 18 (.idxs (.tmp 17) (ki 0)) 16 true,q1 19 (.bin .eql (.tmp 18) (.const (.int .u8 45))) 16 true,zj 20 16 19]
def s102_3:=[za 21 4,q0 22 (.extq (.slice 9 (.tmp 21) (some (ki 1)) none none) 9 [.str] [.tmp 21,ki 1]),za 4 22,zbs 5]
def s102_4:=[zce 6,zag 7]
def s102_5:=[zk 8 0]
def s102_6:=[za 23 8,za 24 4,zbw 25 24,zr 26 23 25]
def s102_7:=[za 29 4,za 30 8,zcv 31 29 30,za 9 31]
def s102_8:=[za 33 9,q0 34 (.bin .eql (.tmp 33) (.const (.int .u8 46))),za 35 34,zi 36 6 35,q1 37 (.bin .lss (.tmp 36) (ki 0)) 35 true,zj 38 35 37,za 39 38,zi 40 8 39,q1 41 (.bin .gtr (.tmp 40) (ki 0)) 39 true,zj 42 39 41,za 32 42]
def s102_9:=[za 43 8,za 6 43]
def s102_10:=[za 45 9,q0 46 (.bin .lss (.tmp 45) (.const (.int .u8 48))),za 47 46,zq 48 9 47,q1 49 (.bin .gtr (.tmp 48) (.const (.int .u8 57))) 47 false,zm 50 47 49,za 44 50]
def s102_11:=[zk 2 0,zk 3 3]
def s102_12:=[za 51 7]
def s102_13:=[za 52 9,q0 53 (.bin .sub (.tmp 52) (.const (.int .u8 48))),zbr 54 53,za 10 54]
def s102_14:=[za 55 2,za 56 10,q0 57 (.bin .sub (ki 1152921504606846976) (.tmp 56)),zbt 58 57 10,zbb 59 55 58]
def s102_15:=[zbs 7]
def s102_16:=[za 60 2,q0 61 (.bin .mul (ki 10) (.tmp 60)),za 62 10,zy 63 61 62,za 2 63]
def s102_17:=[za 27 8,zn 28 27 1,za 8 28]
def s102_18:=[zk 11 0]
def s102_19:=[za 64 6,zbd 65 64 0]
def s102_20:=[za 66 4,zbw 67 66,za 68 6,zac 69 67 68,zw 70 69 1,za 11 70]
def s102_21:=[za 71 11,zab 72 71 0,za 73 72,zq 74 11 73,za9 75 74 6 73,zm 76 73 75]
def s102_22:=[zk 2 0,zk 3 3]
def s102_23:=[za 77 4,zc3 78 77]
def s102_24:=[zk 2 0,zk 3 3]
def s102_25:=[za 79 11,q0 80 (.bin .sub (ki 6) (.tmp 79)),q0 81 (.iaddrA 7 1 (.global 3) (.tmp 80)),ze 82 1 81,za 12 82]
def s102_26:=[za 83 7,za 84 83,zq 85 2 84,zq 86 12 84,q1 87 (.bin .quo (ki 1152921504606846976) (.tmp 86)) 84 false,q1 88 (.bin .gtr (.tmp 85) (.tmp 87)) 84 false,zm 89 84 88]
def s102_27:=[zk 2 0,zk 3 2]
def s102_28:=[za 90 2,za 91 12,q0 92 (.bin .mul (.tmp 90) (.tmp 91)),za 2 92]
def s102_29:=[za 93 5]
def s102_30:=[za 94 2,q0 95 (.un .neg (.tmp 94)),za 2 95]
def s102_31:=[za 96 2,za 2 96,zk 3 0]
def a102:AC:=Z.r s102_0 [0,2] (.scope (Z.r s102_1 [2,4,5] (Z.s (Z.r s102_2 [2,4,5,20] (Z.c 20 (Z.g s102_3) .skip)) [2,4,5] (Z.r s102_4 [2,4,5,6,7] (Z.s (.label 0) [2,4,5,6,7] (Z.s (Z.r s102_5 [2,4,5,6,7,8] (Z.b 0 (Z.l [2,4,5,6,7,8] (Z.s (Z.r s102_6 [2,4,5,6,7,8,26] (Z.c 26 .skip (.exit 0))) [2,4,5,6,7,8] (Z.s (Z.b 1 (Z.r s102_7 [2,4,5,6,7,8,9] (Z.s (Z.b 2 (Z.r s102_8 [2,4,5,6,7,8,9,32] (Z.c 32 (.seq (Z.g s102_9) (.exit 1)) (Z.r s102_10 [2,4,5,6,7,8,9,44] (Z.c 44 (Z.e s102_11) .skip))))) [2,4,5,6,7,8,9] (Z.s (Z.r s102_12 [2,4,5,6,7,8,9,51] (Z.c 51 (.exit 1) .skip)) [2,4,5,6,7,8,9] (Z.r s102_13 [2,4,5,6,7,8,10] (Z.r s102_14 [2,4,5,6,7,8,10,59] (Z.c 59 (Z.g s102_15) (Z.g s102_16)))))))) [2,4,5,6,7,8] (Z.g s102_17)))))) [2,4,5,6,7] (Z.r s102_18 [2,4,5,6,7,11] (Z.s (Z.r s102_19 [2,4,5,6,7,11,65] (Z.c 65 (Z.r s102_20 [2,4,5,7,11] (Z.r s102_21 [2,4,5,7,11,76] (Z.c 76 (Z.e s102_22) .skip))) .skip)) [2,4,5,7,11] (Z.s (Z.r s102_23 [2,5,7,11,78] (Z.c 78 (Z.e s102_24) .skip)) [2,5,7,11] (Z.s (Z.r s102_25 [2,5,7,12] (Z.r s102_26 [2,5,12,89] (Z.c 89 (Z.e s102_27) (Z.g s102_28)))) [2,5] (Z.s (Z.r s102_29 [2,93] (Z.c 93 (Z.g s102_30) .skip)) [2] (Z.e s102_31))))))))))))
def c102:FC:=⟨97,a102.erase,[.tmp 2,.tmp 3]⟩
theorem comp102:compF Tryz.prog Tryz.f102=some c102:=by kernel_rfl
theorem era102:c102.code=a102.erase:=rfl
def s106_0:=[q0 2 (.alloc 172 (.agg (List.toArray (List.append (List.append [.bool false,.bool false,.bool false,.bool false,.bool false,.bool false,.bool false,.bool false,.bool false,.bool false,.bool false,.bool false,.bool false,.bool false,.bool false,.bool false,.bool false,.bool false,.bool false,.bool false,.bool false,.bool false,.bool false,.bool false,.bool false,.bool false,.bool false,.bool false,.bool false,.bool false,.bool false,.bool false,.bool false,.bool false,.bool false,.bool false,.bool false,.bool false,.bool false,.bool false,.bool false,.bool false,.bool false,.bool false,.bool false,.bool false,.bool false,.bool false,.bool false,.bool false,.bool false,.bool false,.bool false,.bool false,.bool false,.bool false,.bool false,.bool false,.bool false,.bool false,.bool false,.bool false,.bool false,.bool false] [.bool false,.bool false,.bool false,.bool false,.bool false,.bool false,.bool false,.bool false,.bool false,.bool false,.bool false,.bool false,.bool false,.bool false,.bool false,.bool false,.bool false,.bool false,.bool false,.bool false,.bool false,.bool false,.bool false,.bool false,.bool false,.bool false,.bool false,.bool false,.bool false,.bool false,.bool false,.bool false,.bool false,.bool false,.bool false,.bool false,.bool false,.bool false,.bool false,.bool false,.bool false,.bool false,.bool false,.bool false,.bool false,.bool false,.bool false,.bool false,.bool false,.bool false,.bool false,.bool false,.bool false,.bool false,.bool false,.bool false,.bool false,.bool false,.bool false,.bool false,.bool false,.bool false,.bool false,.bool false]) (List.append [.bool false,.bool false,.bool false,.bool false,.bool false,.bool false,.bool false,.bool false,.bool false,.bool false,.bool false,.bool false,.bool false,.bool false,.bool false,.bool false,.bool false,.bool false,.bool false,.bool false,.bool false,.bool false,.bool false,.bool false,.bool false,.bool false,.bool false,.bool false,.bool false,.bool false,.bool false,.bool false,.bool false,.bool false,.bool false,.bool false,.bool false,.bool false,.bool false,.bool false,.bool false,.bool false,.bool false,.bool false,.bool false,.bool false,.bool false,.bool false,.bool false,.bool false,.bool false,.bool false,.bool false,.bool false,.bool false,.bool false,.bool false,.bool false,.bool false,.bool false,.bool false,.bool false,.bool false,.bool false] [.bool false,.bool false,.bool false,.bool false,.bool false,.bool false,.bool false,.bool false,.bool false,.bool false,.bool false,.bool false,.bool false,.bool false,.bool false,.bool false,.bool false,.bool false,.bool false,.bool false,.bool false,.bool false,.bool false,.bool false,.bool false,.bool false,.bool false,.bool false,.bool false,.bool false,.bool false,.bool false,.bool false,.bool false,.bool false,.bool false,.bool false,.bool false,.bool false,.bool false,.bool false,.bool false,.bool false,.bool false,.bool false,.bool false,.bool false,.bool false,.bool false,.bool false,.bool false,.bool false,.bool false,.bool false,.bool false,.bool false,.bool false,.bool false,.bool false,.bool false,.bool false,.bool false,.bool false,.bool false]))))),zag 3]
def s106_1:=[zk 4 0]
def s106_2:=[za 6 4,za 7 0,zbw 8 7,zr 9 6 8]
def s106_3:=[za 12 0,za 13 4,zcv 14 12 13,za 5 14]
def s106_4:=[za 15 5,q0 16 (.bin .geq (.tmp 15) (.const (.int .u8 128)))]
def s106_5:=[zp 17 256 2,zc 256 2 17,zag 3]
def s106_6:=[za 18 5,zcw 19 2 18,.mk none (.store 1 (.tmp 19) kT) none]
def s106_7:=[za 10 4,zn 11 10 1,za 4 11]
def s106_8:=[zp 20 256 2,zc 256 2 20,zbs 3]
def a106:AC:=Z.r s106_0 [0,2] (Z.s (Z.r s106_1 [0,2,4] (Z.b 0 (Z.l [0,2,4] (Z.s (Z.r s106_2 [0,2,4,9] (Z.c 9 .skip (.exit 0))) [0,2,4] (Z.s (Z.b 1 (Z.r s106_3 [0,2,4,5] (Z.s (Z.r s106_4 [0,2,4,5,16] (Z.c 16 (Z.e s106_5) .skip)) [0,2,4,5] (Z.g s106_6)))) [0,2,4] (Z.g s106_7)))))) [2] (Z.e s106_8))
def c106:FC:=⟨21,a106.erase,[.cell 2 true 256,.tmp 3]⟩
theorem comp106:compF Tryz.prog Tryz.f106=some c106:=by kernel_rfl
theorem era106:c106.code=a106.erase:=rfl
def s127_0:=[za 12 2,za 13 1,zac 14 12 13,za 10 14]
def s127_1:=[za 15 3,za 16 2,zac 17 15 16,za 11 17]
def s127_2:=[za 18 10,za 19 11,zbc 20 18 19]
def s127_3:=[za 21 10,za 22 11,zbb 23 21 22]
def s127_4:=[za 24 0,za 25 2,za 26 10,zac 27 25 26,za 28 2,za 29 11,za 30 4,zau 31 159 24 27 28 29 30]
def s127_5:=[za 32 10,za 33 11,zac 34 32 33,za 10 34]
def s127_6:=[za 35 0,za 36 2,za 37 10,zac 38 36 37,za 39 2,za 40 11,zy 41 39 40,za 42 10,zac 43 41 42,za 44 10,za 45 4,zau 46 159 35 38 43 44 45]
def s127_7:=[za 47 11,za 48 10,zac 49 47 48,za 11 49]
def s127_8:=[za 50 0,za 51 2,za 52 10,zac 53 51 52,za 54 2,za 55 10,za 56 4,zau 57 159 50 53 54 55 56]
def a127:AC:=Z.r s127_0 [0,2,3,4,10] (Z.r s127_1 [0,2,4,10,11] (Z.s (Z.b 0 (Z.l [0,2,4,10,11] (Z.s (Z.r s127_2 [0,2,4,10,11,20] (Z.c 20 .skip (.exit 0))) [0,2,4,10,11] (Z.b 1 (Z.r s127_3 [0,2,4,10,11,23] (Z.c 23 (Z.r s127_4 [0,2,4,10,11] (Z.g s127_5)) (Z.r s127_6 [0,2,4,10,11] (Z.g s127_7)))))))) [0,2,4,10] (Z.g s127_8)))
def c127:FC:=⟨58,a127.erase,[]⟩
theorem comp127:compF Tryz.prog Tryz.f127=some c127:=by kernel_rfl
theorem era127:c127.code=a127.erase:=rfl
def s128_0:=[zd 2 38]
def s128_1:=[q0 6 (.build [.int .i64 0,.string ⟨#[]⟩,.string ⟨#[]⟩,.string ⟨#[]⟩,.int .i64 0,.int .i64 0,.string ⟨#[]⟩,.slice none 0 0,.int .i64 0,.int .i64 0,.int .i64 0,.slice none 0 0] [(0,1,ki 1)]),zd 3 38,zc 12 3 6]
def s128_2:=[za 7 0,zu 8 7,zg 9 0 8,ze 10 1 9,zaa 11 3 10 0,zg 12 0 11,ze 13 1 12]
def s128_3:=[zab 15 13 2,za 14 15]
def s128_4:=[za 16 0,zl 17 93 16,zbh 18 2 17,zg 19 4 3,zc 3 19 18]
def s128_5:=[za 20 0,zl 21 68 20,zg 22 7 3,zc 1 22 21]
def s128_6:=[zp 23 12 3,zc 12 2 23]
def s128_7:=[zab 25 13 3,za 24 25]
def s128_8:=[za 27 0,za2 28 99 27 3,zc0 29 28,zl 30 102 29,za 26 30,zh 31 26 0,zh 32 26 1,za 4 31,za 5 32]
def s128_9:=[za 33 4,zbh 34 3 33,zg 35 4 3,zc 3 35 34]
def s128_10:=[za 36 0,zl 37 68 36,zg 38 7 3,zc 1 38 37]
def s128_11:=[zp 39 12 3,zc 12 2 39]
def s128_12:=[zab 41 13 4,za 40 41]
def s128_13:=[za 42 0,za2 43 99 42 4,zc0 44 43,q0 45 (.build [.int .i64 0,.int .i64 0,.string ⟨#[]⟩] [(0,1,ki 4),(2,1,.tmp 44)]),zg 46 4 3,zc 3 46 45]
def s128_14:=[zp 47 12 3,zc 12 2 47]
def s128_15:=[zab 49 13 1,za 48 49]
def s128_16:=[za 50 0,zl 51 160 50,zc 12 2 51]
def s128_17:=[za 52 0,q0 53 (.call 64 [.tmp 52,ki 5,ks ⟨#[64]⟩])]
def s128_18:=[za 54 0,zl 55 161 54,zc 12 2 55]
def s128_19:=[za 56 0,zl 57 162 56,zc 12 2 57]
def a128:AC:=Z.r s128_0 [0,2] (Z.r s128_1 [0,2,3] (Z.s (Z.r s128_2 [0,2,3,13] (Z.b 0 (Z.r s128_3 [0,2,3,13,14] (Z.c 14 (Z.r s128_4 [0,2,3] (Z.r s128_5 [2,3] (Z.e s128_6))) (Z.r s128_7 [0,2,3,13,24] (Z.c 24 (Z.r s128_8 [0,2,3,4] (Z.r s128_9 [0,2,3] (Z.r s128_10 [2,3] (Z.e s128_11)))) (Z.r s128_12 [0,2,3,13,40] (Z.c 40 (Z.r s128_13 [2,3] (Z.e s128_14)) (Z.r s128_15 [0,2,48] (Z.c 48 (Z.e s128_16) .skip)))))))))) [0,2] (Z.s (Z.r s128_17 [0,2,53] (Z.c 53 (Z.e s128_18) .skip)) [0,2] (Z.e s128_19))))
def c128:FC:=⟨58,a128.erase,[.cell 2 true 12]⟩
theorem comp128:compF Tryz.prog Tryz.f128=some c128:=by kernel_rfl
theorem era128:c128.code=a128.erase:=rfl
def s143_0:=[zk 6 0,zk 7 0]
def s143_1:=[za 13 2,za 14 1,zac 15 13 14,za 8 15]
def s143_2:=[q0 9 (.alloc 3 (.int .i64 0))]
def s143_3:=[za 16 1,za 17 8,zbt 18 17 4,zcl 19 18 1,zy 20 16 19,za 10 20]
def s143_4:=[za 21 1,za 22 8,zbt 23 22 4,zcl 24 23 2,zy 25 21 24,za 11 25]
def s143_5:=[za 26 1,za 27 8,zbt 28 27 4,zcl 29 28 3,zy 30 26 29,za 12 30]
def s143_6:=[za 31 8,zbd 32 31 8]
def s143_7:=[za 33 8,zbd 34 33 50]
def s143_8:=[za 35 0,za 36 10,zay 37 171 35 36 9,za 10 37]
def s143_9:=[za 38 0,za 39 11,zay 40 171 38 39 9,za 11 40]
def s143_10:=[za 41 0,za 42 12,zay 43 171 41 42 9,za 12 43]
def s143_11:=[za 44 0,za 45 10,za 46 11,za 47 12,zau 48 172 44 45 46 47 9,za 11 48]
def s143_12:=[ze 49 1 9]
def s143_13:=[zab 52 49 0,za 51 52]
def s143_14:=[za 53 11,za 6 53,zk 7 1]
def s143_15:=[zab 55 49 12,za 54 55]
def s143_16:=[za 56 11,za 6 56,zk 7 2]
def s143_17:=[za 50 11,za 6 50,zk 7 0]
def a143:AC:=Z.r s143_0 [0,1,2] (Z.r s143_1 [0,1,8] (Z.r s143_2 [0,1,8,9] (Z.r s143_3 [0,1,8,9,10] (Z.r s143_4 [0,1,8,9,10,11] (Z.r s143_5 [0,8,9,10,11,12] (Z.s (Z.r s143_6 [0,8,9,10,11,12,32] (Z.c 32 (Z.s (Z.r s143_7 [0,9,10,11,12,34] (Z.c 34 (Z.r s143_8 [0,9,10,11,12] (Z.r s143_9 [0,9,10,11,12] (Z.g s143_10))) .skip)) [0,9,10,11,12] (Z.g s143_11)) .skip)) [9,11] (Z.r s143_12 [11,49] (Z.b 0 (Z.r s143_13 [11,49,51] (Z.c 51 (Z.e s143_14) (Z.r s143_15 [11,54] (Z.c 54 (Z.e s143_16) (Z.e s143_17)))))))))))))
def c143:FC:=⟨57,a143.erase,[.tmp 6,.tmp 7]⟩
def s145_0:=[zag 6]
def s145_1:=[za 11 1,zn 12 11 1,za 7 12]
def s145_2:=[zk 8 0]
def s145_3:=[za 13 8,za8 14 13 5]
def s145_4:=[za 17 7,za 18 2,zr 19 17 18,za 20 19,zi 21 0 20,zi 22 7 20,zz 23 1 21 22 20,zo 24 1 23 20,zi 25 0 20,zi 26 7 20,zbo 27 26 1 20,zz 28 1 25 27 20,zo 29 1 28 20,zak 30 146 24 29 20,zb7 31 30 20,zj 32 20 31]
def s145_5:=[za 33 7,zn 34 33 1,za 7 34]
def s145_6:=[za 35 7,za 36 2,zby 37 35 36]
def s145_7:=[zbs 6]
def s145_8:=[za 38 2,za 39 1,zac 40 38 39,za8 41 40 50]
def s145_9:=[zag 6]
def s145_10:=[ed 0 (za 42 0) [],ed 1 (za 43 7) [],ed 2 (za 44 0) [],ed 3 (za 45 7) [],ed 4 (zw 46 45 1) [],ed 5 (za 47 0) [],ed 6 (za 48 7) [],ed 7 (zw 49 48 1) [],ed 8 (zf 50 1 47 49) [],ed 9 (ze 51 1 50) [],ed 10 (za 52 0) [],ed 11 (za 53 7) [],ed 12 (zf 54 1 52 53) [],ed 13 (ze 55 1 54) [],ed 14 (zf 56 1 42 43) [],ed 15 (zc 1 56 51) [0],ed 16 (zf 57 1 44 46) [],ed 17 (zc 1 57 55) [0]]
def s145_11:=[za 58 7,za 59 1,zac 60 58 59,zbd 61 60 2]
def s145_12:=[za 62 7,zw 63 62 1,za 9 63]
def s145_13:=[za 64 9,zbd 65 64 1]
def s145_14:=[za 68 0,za 69 9,zf 70 1 68 69,ze 71 1 70,za 72 0,za 73 9,zw 74 73 1,zf 75 1 72 74,ze 76 1 75,zar 77 146 71 76,za6 78 77]
def s145_15:=[ed 0 (za 79 0) [],ed 1 (za 80 9) [],ed 2 (za 81 0) [],ed 3 (za 82 9) [],ed 4 (zw 83 82 1) [],ed 5 (za 84 0) [],ed 6 (za 85 9) [],ed 7 (zw 86 85 1) [],ed 8 (zf 87 1 84 86) [],ed 9 (ze 88 1 87) [],ed 10 (za 89 0) [],ed 11 (za 90 9) [],ed 12 (zf 91 1 89 90) [],ed 13 (ze 92 1 91) [],ed 14 (zf 93 1 79 80) [],ed 15 (zc 1 93 88) [0],ed 16 (zf 94 1 81 83) [],ed 17 (zc 1 94 92) [0]]
def s145_16:=[za 66 9,zw 67 66 1,za 9 67]
def s145_17:=[za 95 2,za 96 7,zac 97 95 96,zbd 98 97 2]
def s145_18:=[za 99 7,zn 100 99 1,za 10 100]
def s145_19:=[za 101 10,za 102 2,zr 103 101 102]
def s145_20:=[za 106 0,za 107 10,zf 108 1 106 107,ze 109 1 108,za 110 0,za 111 10,zw 112 111 1,zf 113 1 110 112,ze 114 1 113,zar 115 146 109 114,za6 116 115]
def s145_21:=[ed 0 (za 117 0) [],ed 1 (za 118 10) [],ed 2 (za 119 0) [],ed 3 (za 120 10) [],ed 4 (zw 121 120 1) [],ed 5 (za 122 0) [],ed 6 (za 123 10) [],ed 7 (zw 124 123 1) [],ed 8 (zf 125 1 122 124) [],ed 9 (ze 126 1 125) [],ed 10 (za 127 0) [],ed 11 (za 128 10) [],ed 12 (zf 129 1 127 128) [],ed 13 (ze 130 1 129) [],ed 14 (zf 131 1 117 118) [],ed 15 (zc 1 131 126) [0],ed 16 (zf 132 1 119 121) [],ed 17 (zc 1 132 130) [0]]
def s145_22:=[za 104 10,zn 105 104 1,za 10 105]
def s145_23:=[za 15 8,zn 16 15 1,za 8 16]
def s145_24:=[zag 6]
def a145:AC:=Z.r s145_0 [0,1,2] (Z.r s145_1 [0,1,2,7] (Z.s (Z.r s145_2 [0,1,2,7,8] (Z.b 0 (Z.l [0,1,2,7,8] (Z.s (Z.r s145_3 [0,1,2,7,8,14] (Z.c 14 .skip (.exit 0))) [0,1,2,7,8] (Z.s (Z.b 1 (Z.s (Z.b 2 (Z.l [0,1,2,7,8] (Z.s (Z.d s145_4 [0,1,2,7,8,32] (Z.c 32 .skip (.exit 2))) [0,1,2,7,8] (Z.b 3 (Z.g s145_5))))) [0,1,2,7,8] (Z.s (Z.r s145_6 [0,1,2,7,8,37] (Z.c 37 (Z.e s145_7) .skip)) [0,1,2,7,8] (Z.s (Z.r s145_8 [0,1,2,7,8,41] (Z.c 41 (Z.e s145_9) .skip)) [0,1,2,7,8] (Z.s (.mreg [] s145_10) [0,1,2,7,8] (Z.s (Z.r s145_11 [0,1,2,7,8,61] (Z.c 61 (Z.r s145_12 [0,1,2,7,8,9] (Z.b 4 (Z.l [0,1,2,7,8,9] (Z.s (Z.r s145_13 [0,1,2,7,8,9,65] (Z.c 65 .skip (.exit 4))) [0,1,2,7,8,9] (Z.s (Z.b 5 (Z.s (Z.d s145_14 [0,1,2,7,8,9,78] (Z.c 78 (.exit 4) .skip)) [0,1,2,7,8,9] (.mreg [] s145_15))) [0,1,2,7,8,9] (Z.g s145_16)))))) .skip)) [0,1,2,7,8] (Z.r s145_17 [0,1,2,7,8,98] (Z.c 98 (Z.r s145_18 [0,1,2,7,8,10] (Z.b 6 (Z.l [0,1,2,7,8,10] (Z.s (Z.r s145_19 [0,1,2,7,8,10,103] (Z.c 103 .skip (.exit 6))) [0,1,2,7,8,10] (Z.s (Z.b 7 (Z.s (Z.d s145_20 [0,1,2,7,8,10,116] (Z.c 116 (.exit 6) .skip)) [0,1,2,7,8,10] (.mreg [] s145_21))) [0,1,2,7,8,10] (Z.g s145_22)))))) .skip)))))))) [0,1,2,7,8] (Z.g s145_23)))))) [] (Z.e s145_24)))
def c145:FC:=⟨133,a145.erase,[.tmp 6]⟩
def s146_0:=[zag 4]
def s146_1:=[za 5 0,zl 6 173 5,za 7 6,zi 8 1 7,q1 9 (.call 173 [.tmp 8]) 7 true,zb7 10 9 7,zj 11 7 10,za 12 11,zq 13 0 12,zq 14 1 12,zcr 15 13 14 12,zm 16 12 15,za 4 16]
def a146:AC:=Z.r s146_0 [0,1] (Z.e s146_1)
def s159_0:=[zk 10 0]
def s159_1:=[za 11 10,za 12 3,zr 13 11 12]
def s159_2:=[ed 0 (za 16 0) [],ed 1 (za 17 1) [],ed 2 (za 18 10) [],ed 3 (zy 19 17 18) [],ed 4 (za 20 0) [],ed 5 (za 21 2) [],ed 6 (za 22 10) [],ed 7 (zy 23 21 22) [],ed 8 (za 24 0) [],ed 9 (za 25 2) [],ed 10 (za 26 10) [],ed 11 (zy 27 25 26) [],ed 12 (zf 28 2 24 27) [],ed 13 (zp 29 2 28) [],ed 14 (za 30 0) [],ed 15 (za 31 1) [],ed 16 (za 32 10) [],ed 17 (zy 33 31 32) [],ed 18 (zf 34 2 30 33) [],ed 19 (zp 35 2 34) [],ed 20 (zf 36 2 16 19) [],ed 21 (zc 2 36 29) [0],ed 22 (zf 37 2 20 23) [],ed 23 (zc 2 37 35) [0]]
def s159_3:=[za 14 10,zn 15 14 1,za 10 15]
def a159:AC:=Z.r s159_0 [0,1,2,3,10] (Z.b 0 (Z.l [0,1,2,3,10] (Z.s (Z.r s159_1 [0,1,2,3,10,13] (Z.c 13 .skip (.exit 0))) [0,1,2,3,10] (Z.s (Z.b 1 (.mreg [] s159_2)) [0,1,2,3,10] (Z.g s159_3)))))
def c159:FC:=⟨38,a159.erase,[]⟩
theorem comp159:compF Tryz.prog Tryz.f159=some c159:=by kernel_rfl
theorem era159:c159.code=a159.erase:=rfl
def s160_0:=[zd 2 38]
def s160_1:=[za 5 0,zu 6 5,zg 7 0 6,ze 8 1 7,zaa 9 3 8 0,zg 10 1 9,ze 11 1 10,za 3 11]
def s160_2:=[za 12 3]
def s160_3:=[q0 14 (.bin .eql (.tmp 12) (ks ⟨#[116,114,117,101]⟩)),za 13 14]
def s160_4:=[q0 15 (.bin .eql (.tmp 12) (ks ⟨#[102,97,108,115,101]⟩)),za 13 15]
def s160_5:=[za 16 0,za 17 0,zu 18 17,zg 19 0 18,ze 20 1 19,zbf 21 20 1,zu 22 16,zg 23 0 22,zc 1 23 21]
def s160_6:=[za 24 3,zbw 25 24,q0 26 (.bin .sub (ki 5) (.tmp 25)),zl 27 179 26,zc 12 2 27]
def s160_7:=[q0 29 (.bin .eql (.tmp 12) (ks ⟨#[110,117,108,108]⟩)),za 28 29]
def s160_8:=[za 30 0,za 31 0,zu 32 31,zg 33 0 32,ze 34 1 33,zbf 35 34 1,zu 36 30,zg 37 0 36,zc 1 37 35]
def s160_9:=[za 38 3,za 39 0,zl 40 162 39,q0 41 (.mksl 38 12 [.tmp 40]),zad 42 6 38 41,zc 12 2 42]
def s160_10:=[q0 44 (.bin .eql (.tmp 12) (ks ⟨#[99,111,117,110,116]⟩)),za 43 44]
def s160_11:=[q0 45 (.bin .eql (.tmp 12) (ks ⟨#[115,117,109]⟩)),za 43 45]
def s160_12:=[q0 46 (.bin .eql (.tmp 12) (ks ⟨#[109,101,97,110]⟩)),za 43 46]
def s160_13:=[q0 47 (.bin .eql (.tmp 12) (ks ⟨#[109,105,110]⟩)),za 43 47]
def s160_14:=[q0 48 (.bin .eql (.tmp 12) (ks ⟨#[109,97,120]⟩)),za 43 48]
def s160_15:=[q0 49 (.bin .eql (.tmp 12) (ks ⟨#[102,105,114,115,116]⟩)),za 43 49]
def s160_16:=[q0 50 (.bin .eql (.tmp 12) (ks ⟨#[108,97,115,116]⟩)),za 43 50]
def s160_17:=[q0 51 (.bin .eql (.tmp 12) (ks ⟨#[100,105,115,116,105,110,99,116]⟩)),za 43 51]
def s160_18:=[zcy 52 12,za 43 52]
def s160_19:=[q0 53 (.bin .eql (.tmp 12) (ks ⟨#[100,101,99,97,121]⟩)),za 43 53]
def s160_20:=[za 54 0,zu 55 54,zg 56 1 55,ze 57 1 56,za6 58 57]
def s160_21:=[za 59 0,za 60 0,zu 61 60,zg 62 0 61,ze 63 1 62,zbf 64 63 1,zu 65 59,zg 66 0 65,zc 1 66 64]
def s160_22:=[za 67 0,za 68 3,zar 69 180 67 68,zc 12 2 69]
def s160_23:=[za 70 0,zl 71 67 70,za 4 71]
def s160_24:=[za 73 0,zu 74 73,zg 75 1 74,ze 76 1 75,za 72 76]
def s160_25:=[za 77 4,zai 78 2 77,zc 12 2 78]
def s160_26:=[za 80 0,q0 81 (.call 64 [.tmp 80,ki 1,ks ⟨#[111,102]⟩]),za 79 81]
def s160_27:=[za 82 4,za 83 0,zl 84 162 83,q0 85 (.mksl 38 12 [.tmp 84]),q0 86 (.build [.int .i64 0,.string ⟨#[]⟩,.string ⟨#[]⟩,.string ⟨#[]⟩,.int .i64 0,.int .i64 0,.string ⟨#[]⟩,.slice none 0 0,.int .i64 0,.int .i64 0,.int .i64 0,.slice none 0 0] [(0,1,ki 4),(2,1,.tmp 82),(11,1,.tmp 85)]),zc 12 2 86]
def s160_28:=[za 87 4,zai 88 3 87,zc 12 2 88]
def a160:AC:=Z.r s160_0 [0,2] (Z.s (Z.r s160_1 [0,2,3] (Z.r s160_2 [0,2,3,12] (Z.b 0 (Z.s (Z.r s160_3 [0,2,3,12,13] (Z.c 13 .skip (Z.g s160_4))) [0,2,3,12,13] (Z.c 13 (Z.r s160_5 [2,3] (Z.e s160_6)) (Z.r s160_7 [0,2,3,12,28] (Z.c 28 (Z.r s160_8 [0,2,3] (Z.e s160_9)) (Z.s (Z.r s160_10 [0,2,3,12,43] (Z.c 43 .skip (Z.r s160_11 [0,2,3,12,43] (Z.c 43 .skip (Z.r s160_12 [0,2,3,12,43] (Z.c 43 .skip (Z.r s160_13 [0,2,3,12,43] (Z.c 43 .skip (Z.r s160_14 [0,2,3,12,43] (Z.c 43 .skip (Z.r s160_15 [0,2,3,12,43] (Z.c 43 .skip (Z.r s160_16 [0,2,3,12,43] (Z.c 43 .skip (Z.r s160_17 [0,2,3,12,43] (Z.c 43 .skip (Z.r s160_18 [0,2,3,12,43] (Z.c 43 .skip (Z.g s160_19))))))))))))))))))) [0,2,3,43] (Z.c 43 (Z.r s160_20 [0,2,3,58] (Z.c 58 (Z.r s160_21 [0,2,3] (Z.e s160_22)) .skip)) .skip))))))))) [0,2] (Z.r s160_23 [0,2,4] (Z.s (Z.b 1 (Z.r s160_24 [0,2,4,72] (Z.c 72 (Z.e s160_25) (Z.r s160_26 [0,2,4,79] (Z.c 79 (Z.e s160_27) .skip))))) [2,4] (Z.e s160_28))))
def c160:FC:=⟨89,a160.erase,[.cell 2 true 12]⟩
theorem comp160:compF Tryz.prog Tryz.f160=some c160:=by kernel_rfl
theorem era160:c160.code=a160.erase:=rfl
def s161_0:=[zd 2 38]
def s161_1:=[za 5 0,zl 6 67 5,zai 7 1 6,zd 3 38,zc 12 3 7]
def s161_2:=[za 8 0,za2 9 99 8 4,zbk 4 80,zc 3 4 9]
def s161_3:=[zg 10 1 4,ze 11 1 10,zbw 12 11,za8 13 12 1,za 14 13,zs 15 1 4 14,zt 16 1 15 14,q1 17 (.len true (.tmp 16)) 14 false,za9 18 17 32 14,zm 19 14 18,za 20 19,zs 21 1 4 20,zt 22 1 21 20,q1 23 (.extq (.convert 9 22 (.tmp 22)) 22 [.str,.other,.sl 5,.int .u8] [.tmp 22]) 20 false,q1 24 (.call 181 [.tmp 23,.const (.int .u8 32)]) 20 false,zm 25 20 24]
def s161_4:=[zg 26 2 4,ze 27 1 26,q0 28 (.build [.int .i64 0,.int .i64 0] [(0,1,.tmp 27),(1,1,ki 3)]),zcs 29 28,q0 30 (.mkifc 128 (.tmp 29)),.mk none (.panic (.tmp 30)) none]
def s161_5:=[zg 31 1 4,ze 32 1 31,q0 33 (.build [.int .i64 0,.int .i64 0,.string ⟨#[]⟩] [(0,1,ki 5),(2,1,.tmp 32)]),zg 34 4 3,zc 3 34 33]
def s161_6:=[zp 35 12 3,zc 12 2 35]
def a161:AC:=Z.r s161_0 [0,2] (Z.r s161_1 [0,2,3] (Z.r s161_2 [2,3,4] (Z.s (Z.r s161_3 [2,3,4,25] (Z.c 25 (Z.g s161_4) .skip)) [2,3,4] (Z.r s161_5 [2,3] (Z.e s161_6)))))
def c161:FC:=⟨36,a161.erase,[.cell 2 true 12]⟩
theorem comp161:compF Tryz.prog Tryz.f161=some c161:=by kernel_rfl
theorem era161:c161.code=a161.erase:=rfl
def s162_0:=[zd 2 38]
def s162_1:=[za 4 0,q0 5 (.call 90 [.tmp 4,ks ⟨#[40]⟩])]
def s162_2:=[za 6 0,zl 7 30 6,zd 3 38,zc 12 3 7]
def s162_3:=[za 8 0,q0 9 (.call 90 [.tmp 8,ks ⟨#[41]⟩])]
def s162_4:=[zp 10 12 3,zc 12 2 10]
def a162:AC:=Z.r s162_0 [0,2] (Z.r s162_1 [0,2] (Z.r s162_2 [0,2,3] (Z.r s162_3 [2,3] (Z.e s162_4))))
def c162:FC:=⟨11,a162.erase,[.cell 2 true 12]⟩
theorem comp162:compF Tryz.prog Tryz.f162=some c162:=by kernel_rfl
theorem era162:c162.code=a162.erase:=rfl
def s168_0:=[za 10 1,za 8 10]
def s168_1:=[za 11 8,q0 12 (.bin .mul (ki 2) (.tmp 11)),zn 13 12 1,za 9 13]
def s168_2:=[za 14 9,za 15 2,zcf 16 14 15]
def s168_3:=[za 17 9,zn 18 17 1,za 19 2,zr 20 18 19,za 21 20,zi 22 0 21,zi 23 3 21,zi 24 9 21,q1 25 (.bin .add (.tmp 23) (.tmp 24)) 21 true,zz 26 1 22 25 21,zo 27 1 26 21,zi 28 0 21,zi 29 3 21,zi 30 9 21,q1 31 (.bin .add (.tmp 29) (.tmp 30)) 21 true,q1 32 (.bin .add (.tmp 31) (ki 1)) 21 true,zz 33 1 28 32 21,zo 34 1 33 21,zak 35 146 27 34 21,zj 36 21 35]
def s168_4:=[za 37 9,zn 38 37 1,za 9 38]
def s168_5:=[za 39 0,za 40 3,za 41 8,zy 42 40 41,zf 43 1 39 42,ze 44 1 43,za 45 0,za 46 3,za 47 9,zy 48 46 47,zf 49 1 45 48,ze 50 1 49,zar 51 146 44 50,za6 52 51]
def s168_6:=[ed 0 (za 53 0) [],ed 1 (za 54 3) [],ed 2 (za 55 8) [],ed 3 (zy 56 54 55) [],ed 4 (za 57 0) [],ed 5 (za 58 3) [],ed 6 (za 59 9) [],ed 7 (zy 60 58 59) [],ed 8 (za 61 0) [],ed 9 (za 62 3) [],ed 10 (za 63 9) [],ed 11 (zy 64 62 63) [],ed 12 (zf 65 1 61 64) [],ed 13 (ze 66 1 65) [],ed 14 (za 67 0) [],ed 15 (za 68 3) [],ed 16 (za 69 8) [],ed 17 (zy 70 68 69) [],ed 18 (zf 71 1 67 70) [],ed 19 (ze 72 1 71) [],ed 20 (zf 73 1 53 56) [],ed 21 (zc 1 73 66) [0],ed 22 (zf 74 1 57 60) [],ed 23 (zc 1 74 72) [0]]
def s168_7:=[za 75 9,za 8 75]
def a168:AC:=Z.r s168_0 [0,2,3,8] (Z.b 0 (Z.l [0,2,3,8] (Z.b 1 (Z.r s168_1 [0,2,3,8,9] (Z.s (Z.r s168_2 [0,2,3,8,9,16] (Z.c 16 (.exit 0) .skip)) [0,2,3,8,9] (Z.s (Z.d s168_3 [0,2,3,8,9,36] (Z.c 36 (Z.g s168_4) .skip)) [0,2,3,8,9] (Z.s (Z.d s168_5 [0,2,3,8,9,52] (Z.c 52 .ret .skip)) [0,2,3,8,9] (Z.s (.mreg [] s168_6) [0,2,3,9] (Z.g s168_7)))))))))
def c168:FC:=⟨76,a168.erase,[]⟩
def s171_0:=[zk 6 0]
def s171_1:=[za 7 0,za 8 1,zw 9 8 1,za 10 1,za 11 1,zn 12 11 1,za 13 2,zau 14 172 7 9 10 12 13,za 6 14]
def a171:AC:=Z.r s171_0 [0,1,2] (Z.e s171_1)
def c171:FC:=⟨15,a171.erase,[.tmp 6]⟩
def s173_0:=[zag 2]
def s173_1:=[za 3 0,za 4 0,zbc 5 3 4,za 2 5]
def a173:AC:=Z.r s173_0 [0] (Z.e s173_1)
def c173:FC:=⟨6,a173.erase,[.tmp 2]⟩
def s175_0:=[zc1 2,zk 3 0]
def s175_1:=[za 13 0,zbw 14 13,za 4 14]
def s175_2:=[za 15 4,za8 16 15 1]
def s175_3:=[zbe 2,zk 3 0]
def s175_4:=[za 17 0,zcq 18 17 0,za 5 18]
def s175_5:=[za 19 5,q0 20 (.iaddrA 256 1 (.global 6) (.tmp 19)),ze 21 1 20,za 6 21]
def s175_6:=[za 22 6,q0 23 (.bin .geq (.tmp 22) (.const (.int .u8 240)))]
def s175_7:=[za 24 6,zaq 25 24,q0 26 (.bin .shl (.tmp 25) (.const (.int .u64 31))),q0 27 (.bin .shr (.tmp 26) (.const (.int .u64 31))),za 7 27]
def s175_8:=[za 28 0,zcq 29 28 0,zaq 30 29,za 31 7,q0 32 (.bin .andNot (.tmp 30) (.tmp 31)),za 33 7,q0 34 (.bin .and (.const (.int .i32 65533)) (.tmp 33)),za7 35 32 34,za 2 35,zk 3 1]
def s175_9:=[za 36 6,zcp 37 36,zbr 38 37,za 8 38]
def s175_10:=[za 39 6,q0 40 (.bin .shr (.tmp 39) (.const (.int .u64 4))),q0 41 (.iaddrA 16 2 (.global 7) (.tmp 40)),zp 42 2 41,q0 9 (.alloc 222 (.agg #[.int .u8 0,.int .u8 0])),zc 2 9 42]
def s175_11:=[za 43 4,za 44 8,zr 45 43 44]
def s175_12:=[zbe 2,zk 3 1]
def s175_13:=[za 46 0,zcq 47 46 1,za 10 47]
def s175_14:=[za 48 10,zg 49 0 9,ze 50 1 49,zr 51 48 50,za 52 51,zs 53 1 9 52,zt 54 1 53 52,zq 55 10 52,zcr 56 54 55 52,zm 57 52 56]
def s175_15:=[zbe 2,zk 3 1]
def s175_16:=[za 58 8,zb3 59 58 2]
def s175_17:=[za 60 5,q0 61 (.bin .and (.tmp 60) (.const (.int .u8 31))),zaq 62 61,zbp 63 62,za 64 10,zaf 65 64,zaq 66 65,za7 67 63 66,za 2 67,zk 3 2]
def s175_18:=[za 68 0,zcq 69 68 2,za 11 69]
def s175_19:=[za 70 11,zb1 71 70,za 72 71,zq 73 11 72,zb6 74 73 72,zm 75 72 74]
def s175_20:=[zbe 2,zk 3 1]
def s175_21:=[za 76 8,zb3 77 76 3]
def s175_22:=[za 78 5,q0 79 (.bin .and (.tmp 78) (.const (.int .u8 15))),zaq 80 79,zcn 81 80,za 82 10,zaf 83 82,zaq 84 83,zbp 85 84,za7 86 81 85,za 87 11,zaf 88 87,zaq 89 88,za7 90 86 89,za 2 90,zk 3 3]
def s175_23:=[za 91 0,zcq 92 91 3,za 12 92]
def s175_24:=[za 93 12,zb1 94 93,za 95 94,zq 96 12 95,zb6 97 96 95,zm 98 95 97]
def s175_25:=[zbe 2,zk 3 1]
def s175_26:=[za 99 5,zcp 100 99,zaq 101 100,q0 102 (.bin .shl (.tmp 101) (.const (.int .u64 18))),za 103 10,zaf 104 103,zaq 105 104,zcn 106 105,za7 107 102 106,za 108 11,zaf 109 108,zaq 110 109,zbp 111 110,za7 112 107 111,za 113 12,zaf 114 113,zaq 115 114,za7 116 112 115,za 2 116,zk 3 4]
def a175:AC:=Z.r s175_0 [0] (Z.r s175_1 [0,4] (Z.s (Z.r s175_2 [0,4,16] (Z.c 16 (Z.e s175_3) .skip)) [0,4] (Z.r s175_4 [0,4,5] (Z.r s175_5 [0,4,5,6] (Z.s (Z.r s175_6 [0,4,5,6,23] (Z.c 23 (Z.r s175_7 [0,7] (Z.e s175_8)) .skip)) [0,4,5,6] (Z.r s175_9 [0,4,5,6,8] (Z.r s175_10 [0,4,5,8,9] (Z.s (Z.r s175_11 [0,5,8,9,45] (Z.c 45 (Z.e s175_12) .skip)) [0,5,8,9] (Z.r s175_13 [0,5,8,9,10] (Z.s (Z.r s175_14 [0,5,8,10,57] (Z.c 57 (Z.e s175_15) .skip)) [0,5,8,10] (Z.s (Z.r s175_16 [0,5,8,10,59] (Z.c 59 (Z.e s175_17) .skip)) [0,5,8,10] (Z.r s175_18 [0,5,8,10,11] (Z.s (Z.r s175_19 [0,5,8,10,11,75] (Z.c 75 (Z.e s175_20) .skip)) [0,5,8,10,11] (Z.s (Z.r s175_21 [0,5,10,11,77] (Z.c 77 (Z.e s175_22) .skip)) [0,5,10,11] (Z.r s175_23 [5,10,11,12] (Z.s (Z.r s175_24 [5,10,11,12,98] (Z.c 98 (Z.e s175_25) .skip)) [5,10,11,12] (Z.e s175_26)))))))))))))))))
def c175:FC:=⟨117,a175.erase,[.tmp 2,.tmp 3]⟩
def s179_0:=[zd 2 38]
def s179_1:=[za 3 0,zbh 4 1 3,zah 5 1 4,zc 12 2 5]
def a179:AC:=Z.r s179_0 [0,2] (Z.e s179_1)
def c179:FC:=⟨6,a179.erase,[.cell 2 true 12]⟩
theorem comp179:compF Tryz.prog Tryz.f179=some c179:=by kernel_rfl
theorem era179:c179.code=a179.erase:=rfl
def s180_0:=[zd 4 38]
def s180_1:=[za 6 1,q0 7 (.call 179 [ki 1]),q0 8 (.call 179 [ki 1]),zcb 9 38 7 8,zad 10 5 6 9,zd 5 38,zc 12 5 10]
def s180_2:=[za 11 0,q0 12 (.call 90 [.tmp 11,ks ⟨#[40]⟩])]
def s180_3:=[za 13 0,zl 14 67 13,zg 15 3 5,zc 1 15 14]
def s180_4:=[za 16 0,q0 17 (.call 90 [.tmp 16,ks ⟨#[44]⟩])]
def s180_5:=[za 18 0,zu 19 18,zg 20 1 19,.mk none (.store 1 (.tmp 20) kT) none]
def s180_6:=[za 21 1,q0 22 (.bin .neq (.tmp 21) (ks ⟨#[99,111,117,110,116]⟩))]
def s180_7:=[ed 0 (zg 23 11 5) [],ed 1 (ze 24 1 23) [],ed 2 (za 25 0) [],ed 3 (zl 26 30 25) [],ed 4 (zaa 27 12 24 0) [26],ed 5 (zc 12 27 26) []]
def s180_8:=[za 28 0,q0 29 (.call 90 [.tmp 28,ks ⟨#[44]⟩])]
def s180_9:=[za 30 1,zcy 31 30,za 32 31,zq 33 1 32,q1 34 (.bin .eql (.tmp 33) (ks ⟨#[100,101,99,97,121]⟩)) 32 false,zm 35 32 34]
def s180_10:=[za 36 0,zl 37 93 36,zg 38 8 5,zc 1 38 37]
def s180_11:=[za 39 0,q0 40 (.call 90 [.tmp 39,ks ⟨#[44]⟩])]
def s180_12:=[za 41 0,zl 42 185 41,zg 43 9 5,zc 2 43 42]
def s180_13:=[za 44 0,q0 45 (.call 64 [.tmp 44,ki 1,ks ⟨#[119,104,101,114,101]⟩])]
def s180_14:=[ed 0 (zg 46 11 5) [],ed 1 (ze 47 1 46) [],ed 2 (za 48 0) [],ed 3 (zl 49 30 48) [],ed 4 (zaa 50 12 47 1) [49],ed 5 (zc 12 50 49) []]
def s180_15:=[za 51 0,zu 52 51,zg 53 1 52,.mk none (.store 1 (.tmp 53) kF) none]
def s180_16:=[za 54 0,q0 55 (.call 90 [.tmp 54,ks ⟨#[41]⟩])]
def s180_17:=[zp 56 12 5,zc 12 4 56]
def a180:AC:=Z.r s180_0 [0,1,4] (Z.r s180_1 [0,1,4,5] (Z.r s180_2 [0,1,4,5] (Z.r s180_3 [0,1,4,5] (Z.r s180_4 [0,1,4,5] (Z.r s180_5 [0,1,4,5] (Z.s (Z.r s180_6 [0,1,4,5,22] (Z.c 22 (Z.s (.mreg [] s180_7) [0,1,4,5] (Z.g s180_8)) .skip)) [0,1,4,5] (Z.s (Z.r s180_9 [0,4,5,35] (Z.c 35 (Z.r s180_10 [0,4,5] (Z.g s180_11)) .skip)) [0,4,5] (Z.r s180_12 [0,4,5] (Z.s (Z.r s180_13 [0,4,5,45] (Z.c 45 (.mreg [] s180_14) .skip)) [0,4,5] (Z.r s180_15 [0,4,5] (Z.r s180_16 [4,5] (Z.e s180_17))))))))))))
def c180:FC:=⟨57,a180.erase,[.cell 4 true 12]⟩
theorem comp180:compF Tryz.prog Tryz.f180=some c180:=by kernel_rfl
theorem era180:c180.code=a180.erase:=rfl
def s181_0:=[zag 4]
def s181_1:=[za 5 0,za 6 1,zar 7 186 5 6,zbd 8 7 0,za 4 8]
def a181:AC:=Z.r s181_0 [0,1] (Z.e s181_1)
def c181:FC:=⟨9,a181.erase,[.tmp 4]⟩
theorem comp181:compF Tryz.prog Tryz.f181=some c181:=by kernel_rfl
theorem era181:c181.code=a181.erase:=rfl
def s185_0:=[zcm 2 35]
def s185_1:=[za 4 0,q0 5 (.call 64 [.tmp 4,ki 1,ks ⟨#[97,108,108]⟩]),za 3 5]
def s185_2:=[q0 6 (.build [.int .i64 0,.int .i64 0] [(0,1,ki 1)]),zc 2 2 6]
def s185_3:=[za 8 0,q0 9 (.call 64 [.tmp 8,ki 1,ks ⟨#[115,108,105,100,105,110,103]⟩]),za 7 9]
def s185_4:=[za 10 0,zl 11 93 10,zcg 12 2 11,zc 2 2 12]
def s185_5:=[za 14 0,q0 15 (.call 64 [.tmp 14,ki 1,ks ⟨#[116,117,109,98,108,105,110,103]⟩]),za 13 15]
def s185_6:=[za 16 0,zl 17 93 16,zcg 18 3 17,zc 2 2 18]
def s185_7:=[za 19 0,q0 20 (.call 65 [.tmp 19,ks ⟨#[115,101,115,115,105,111,110]⟩])]
def s185_8:=[za 21 0,zl 22 93 21,zcg 23 4 22,zc 2 2 23]
def a185:AC:=Z.r s185_0 [0,2] (Z.s (Z.b 0 (Z.r s185_1 [0,2,3] (Z.c 3 (Z.e s185_2) (Z.r s185_3 [0,2,7] (Z.c 7 (Z.e s185_4) (Z.r s185_5 [0,2,13] (Z.c 13 (Z.e s185_6) .skip))))))) [0,2] (Z.r s185_7 [0,2] (Z.e s185_8)))
def c185:FC:=⟨24,a185.erase,[.cell 2 true 2]⟩
theorem comp185:compF Tryz.prog Tryz.f185=some c185:=by kernel_rfl
theorem era185:c185.code=a185.erase:=rfl
def s186_0:=[zk 4 0]
def s186_1:=[za 6 0,zx 7 6,zk 8 0]
def s186_2:=[zr 9 8 7]
def s186_3:=[za 10 8,za 5 10]
def s186_4:=[za 11 1,za 12 0,za 13 5,zf 14 1 12 13,ze 15 1 14,zby 16 11 15]
def s186_5:=[za 17 5,za 4 17]
def s186_6:=[zn 18 8 1,za 8 18]
def s186_7:=[zce 4]
def a186:AC:=Z.r s186_0 [0,1] (Z.s (Z.r s186_1 [0,1,7,8] (Z.b 0 (Z.l [0,1,7,8] (Z.r s186_2 [0,1,7,8,9] (Z.s (Z.c 9 .skip (.exit 0)) [0,1,7,8] (Z.s (Z.b 1 (Z.r s186_3 [0,1,5,7,8] (Z.r s186_4 [0,1,5,7,8,16] (Z.c 16 (Z.e s186_5) .skip)))) [0,1,7,8] (Z.g s186_6))))))) [] (Z.e s186_7))
def c186:FC:=⟨19,a186.erase,[.tmp 4]⟩
theorem comp186:compF Tryz.prog Tryz.f186=some c186:=by kernel_rfl
theorem era186:c186.code=a186.erase:=rfl
end Go.Proofs.YtdcpcffpapiadaaGreatDoor
