/- The compiled code of functions, printed by a program of mine. -/
import Derived.Test.YtbihckigennlhaaGreatDoorCodeA
import Derived.Test.YtbihckigennlhaaGreatDoorRows
set_option linter.unusedVariables false
namespace Go.Proofs.YtbihckigennlhaaGreatDoor
open Go.Sx
def s110_0:=[zan 2]
def s110_1:=[za 3 0,zac 4 3,zd 5 0 4,zb 6 1 5,zaf 7 3 6 0,zd 8 1 7,zb 9 1 8,zk 10 72 9,zad 11 10]
def s110_2:=[za 12 0,zk 13 76 12]
def s110_3:=[za 14 0,zbf 15 151 14 1,zdn 16 15,za 2 16]
def a110:AC:=Z.r s110_0 [0] (Z.s (Z.r s110_1 [0,11] (Z.c 11 (Z.g s110_2) .skip)) [0] (Z.e s110_3))
def c110:FC:=⟨17,a110.erase,[.tmp 2]⟩
theorem comp110:compF Tryz.prog Tryz.f110=some c110:=by kernel_rfl
theorem era110:c110.code=a110.erase:=rfl
def s111_0:=[zw 1 87 0,zaz 2]
def s111_1:=[zb 7 1 1,zac 8 7,zd 9 0 8,zb 10 1 9,zaf 11 3 10 0,zd 12 2 11,zb 13 1 12,za 3 13]
def s111_2:=[zb 14 1 1,q0 15 (.call 77 [.tmp 14,ki 5,ks ⟨#[91]⟩]),zad 16 15]
def s111_3:=[zaz 2]
def s111_4:=[q0 4 (.alloc 26 (.slice none 0 0))]
def s111_5:=[zb 17 1 1,q0 18 (.mkfn (Fn.func 153) [] [.tmp 1,.tmp 4]),q0 19 (.call 152 [.tmp 17,ks ⟨#[42]⟩,.tmp 18])]
def s111_6:=[zb 20 1 1,q0 21 (.call 155 [.tmp 20,ks ⟨#[93]⟩])]
def s111_7:=[zb 23 1 4,zk 24 156 23,za 22 24,zq 25 22 0,zq 26 22 1,za 5 25,za 6 26]
def s111_8:=[za 27 6,zag 28 27 0]
def s111_9:=[za 29 3,za 30 6,q0 31 (.build [.int .i64 0,.int .i64 0] [(0,1,.tmp 29),(1,1,.tmp 30)]),zc6 32 31,q0 33 (.mkifc 135 (.tmp 32)),.mk none (.panic (.tmp 33)) none]
def s111_10:=[za 34 5,za 2 34]
def a111:AC:=Z.r s111_0 [1] (Z.r s111_1 [1,3] (Z.s (Z.r s111_2 [1,3,16] (Z.c 16 (Z.e s111_3) .skip)) [1,3] (Z.r s111_4 [1,3,4] (Z.r s111_5 [1,3,4] (Z.r s111_6 [3,4] (Z.r s111_7 [3,5,6] (Z.s (Z.r s111_8 [3,5,6,28] (Z.c 28 (Z.g s111_9) .skip)) [5] (Z.e s111_10))))))))
def c111:FC:=⟨35,a111.erase,[.tmp 2]⟩
theorem comp111:compF Tryz.prog Tryz.f111=some c111:=by kernel_rfl
theorem era111:c111.code=a111.erase:=rfl
def s117_0:=[zy 4]
def s117_1:=[za 5 0,za 6 1,zae 7 162 5 6,za8 8 7 0,za 4 8]
def a117:AC:=Z.r s117_0 [0,1] (Z.e s117_1)
def c117:FC:=⟨9,a117.erase,[.tmp 4]⟩
theorem comp117:compF Tryz.prog Tryz.f117=some c117:=by kernel_rfl
theorem era117:c117.code=a117.erase:=rfl
def s118_0:=[zw 2 83 0,zy 3]
def s118_1:=[zd 4 0 2,zb 5 1 4,zd 6 0 1,zb 7 1 6,zbg 8 5 7,za 3 8]
def a118:AC:=Z.r s118_0 [1,2] (Z.e s118_1)
def c118:FC:=⟨9,a118.erase,[.tmp 3]⟩
theorem comp118:compF Tryz.prog Tryz.f118=some c118:=by kernel_rfl
theorem era118:c118.code=a118.erase:=rfl
def s121_0:=[zy 2]
def s121_1:=[za 3 0,zcw 4 3,za 5 4,zl 6 0 5,q1 7 (.call 165 [.tmp 6,ks ⟨#[32]⟩]) 5 true,zbd 8 7 5,zj 9 5 8,za 10 9,zl 11 0 10,q1 12 (.bin .add (ks ⟨#[32]⟩) (.tmp 11)) 10 true,q1 13 (.bin .add (.tmp 12) (ks ⟨#[32]⟩)) 10 true,q1 14 (.call 165 [.const (.string (ByteArray.mk (List.toArray (List.append (List.append [32,116,97,98,108,101,32,102,101,97,116,117,114,101,32,111,102,32,107,101,101,112,32,98,111,111,108,32,116,101,120,116,32,107,101,121,32,105,110,116,32,100,101,99,32,105] [102,32,116,104,101,110,32,101,108,115,101,32,100,101,102,97,117,108,116,32,111,114,32,97,110,100,32,110,111,116,32,116,114,117,101,32,102,97,108,115,101,32,110,117,108,108,32]) (List.append [99,111,117,110,116,32,115,117,109,32,109,101,97,110,32,109,105,110,32,109,97,120,32,102,105,114,115,116,32,108,97,115,116,32,100,105,115,116,105,110,99,116,32,113,117,97] [110,116,105,108,101,32,100,101,99,97,121,32,97,108,108,32,115,108,105,100,105,110,103,32,116,117,109,98,108,105,110,103,32,115,101,115,115,105,111,110,32,119,104,101,114,101,32]))))),.tmp 13]) 10 true,zj 15 10 14,za 2 15]
def a121:AC:=Z.r s121_0 [0] (Z.e s121_1)
def c121:FC:=⟨16,a121.erase,[.tmp 2]⟩
theorem comp121:compF Tryz.prog Tryz.f121=some c121:=by kernel_rfl
theorem era121:c121.code=a121.erase:=rfl
def s122_0:=[zy 6]
def s122_1:=[za 7 0,zac 8 7,zd 9 0 8,zb 10 1 9,zaf 11 3 10 0,zd 12 0 11,zb 13 1 12,za 14 1,zbg 15 13 14,za 16 15,zl 17 0 16,q1 18 (.nilck (.tmp 17)) 16 true,zt 19 0 18 16,zm 20 1 19 16,q1 21 (.iaddr 3 (.tmp 20) (ki 0)) 16 true,zt 22 1 21 16,zm 23 1 22 16,zl 24 2 16,zav 25 23 24 16,zj 26 16 25,za 6 26]
def a122:AC:=Z.r s122_0 [0,1,2] (Z.e s122_1)
def c122:FC:=⟨27,a122.erase,[.tmp 6]⟩
theorem comp122:compF Tryz.prog Tryz.f122=some c122:=by kernel_rfl
theorem era122:c122.code=a122.erase:=rfl
def s123_0:=[zf 4 31]
def s123_1:=[za 6 1,zbr 7 6 3,za 8 7,zl 9 0 8,q1 10 (.call 77 [.tmp 9,ki 1,ks ⟨#[110,111,116]⟩]) 8 true,zj 11 8 10,za 5 11]
def s123_2:=[za 12 0,zbf 13 79 12 3,q0 14 (.mksl 31 12 [.tmp 13]),q0 15 (.build [.int .i64 0,.string ⟨#[]⟩,.string ⟨#[]⟩,.string ⟨#[]⟩,.int .i64 0,.int .i64 0,.string ⟨#[]⟩,.slice none 0 0,.int .i64 0,.int .i64 0,.int .i64 0,.slice none 0 0] [(0,1,ki 6),(1,1,ks ⟨#[110,111,116]⟩),(11,1,.tmp 14)]),ze 12 4 15]
def s123_3:=[za 17 0,q0 18 (.call 77 [.tmp 17,ki 5,ks ⟨#[45]⟩]),za 16 18]
def s123_4:=[za 19 0,zbf 20 123 19 7,q0 21 (.mksl 31 12 [.tmp 20]),q0 22 (.build [.int .i64 0,.string ⟨#[]⟩,.string ⟨#[]⟩,.string ⟨#[]⟩,.int .i64 0,.int .i64 0,.string ⟨#[]⟩,.slice none 0 0,.int .i64 0,.int .i64 0,.int .i64 0,.slice none 0 0] [(0,1,ki 6),(1,1,ks ⟨#[45]⟩),(11,1,.tmp 21)]),ze 12 4 22]
def s123_5:=[za 23 0,zk 24 166 23,ze 12 4 24]
def a123:AC:=Z.r s123_0 [0,1,4] (Z.s (Z.b 0 (Z.r s123_1 [0,4,5] (Z.c 5 (Z.e s123_2) (Z.r s123_3 [0,4,16] (Z.c 16 (Z.e s123_4) .skip))))) [0,4] (Z.e s123_5))
def c123:FC:=⟨25,a123.erase,[.cell 4 true 12]⟩
theorem comp123:compF Tryz.prog Tryz.f123=some c123:=by kernel_rfl
theorem era123:c123.code=a123.erase:=rfl
def s124_0:=[zg 2 0]
def s124_1:=[za 4 0,zac 5 4,zd 6 0 5,zb 7 1 6,zaf 8 3 7 0,zh 9 3 8,zbu 3 98,ze 3 3 9]
def s124_2:=[zd 11 0 3,zb 12 1 11,zr 13 12 1,za 14 13,zt 15 1 3 14,zm 16 1 15 14,q1 17 (.bin .eql (.tmp 16) (ks ⟨#[111,114]⟩)) 14 true,zj 18 14 17,za 10 18]
def s124_3:=[zg 2 1]
def s124_4:=[zd 20 0 3,zb 21 1 20,zr 22 21 1,za 23 22,zt 24 1 3 23,zm 25 1 24 23,q1 26 (.bin .eql (.tmp 25) (ks ⟨#[97,110,100]⟩)) 23 true,zj 27 23 26,za 19 27]
def s124_5:=[zg 2 2]
def s124_6:=[zd 29 0 3,zb 30 1 29,zag 31 30 5,za 28 31]
def s124_7:=[zg 2 0]
def s124_8:=[zd 32 1 3,zb 33 1 32]
def s124_9:=[q0 35 (.bin .eql (.tmp 33) (ks ⟨#[61,61]⟩)),za 34 35]
def s124_10:=[q0 36 (.bin .eql (.tmp 33) (ks ⟨#[33,61]⟩)),za 34 36]
def s124_11:=[q0 37 (.bin .eql (.tmp 33) (ks ⟨#[60]⟩)),za 34 37]
def s124_12:=[q0 38 (.bin .eql (.tmp 33) (ks ⟨#[60,61]⟩)),za 34 38]
def s124_13:=[zg 2 4]
def s124_14:=[q0 40 (.bin .eql (.tmp 33) (ks ⟨#[43]⟩)),za 39 40]
def s124_15:=[zdd 41 33,za 39 41]
def s124_16:=[zg 2 5]
def s124_17:=[q0 43 (.bin .eql (.tmp 33) (ks ⟨#[42]⟩)),za 42 43]
def s124_18:=[q0 44 (.bin .eql (.tmp 33) (ks ⟨#[47]⟩)),za 42 44]
def s124_19:=[zg 2 6]
def s124_20:=[zg 2 0]
def a124:AC:=Z.r s124_0 [0] (Z.r s124_1 [3] (Z.s (Z.b 0 (Z.r s124_2 [3,10] (Z.c 10 (Z.e s124_3) (Z.r s124_4 [3,19] (Z.c 19 (Z.e s124_5) (Z.r s124_6 [3,28] (Z.c 28 (Z.e s124_7) .skip))))))) [3] (Z.s (Z.r s124_8 [33] (Z.b 1 (Z.s (Z.r s124_9 [33,34] (Z.c 34 .skip (Z.r s124_10 [33,34] (Z.c 34 .skip (Z.r s124_11 [33,34] (Z.c 34 .skip (Z.g s124_12))))))) [33,34] (Z.c 34 (Z.e s124_13) (Z.s (Z.r s124_14 [33,39] (Z.c 39 .skip (Z.g s124_15))) [33,39] (Z.c 39 (Z.e s124_16) (Z.s (Z.r s124_17 [33,42] (Z.c 42 .skip (Z.g s124_18))) [42] (Z.c 42 (Z.e s124_19) .skip)))))))) [] (Z.e s124_20))))
def c124:FC:=⟨45,a124.erase,[.tmp 2]⟩
theorem comp124:compF Tryz.prog Tryz.f124=some c124:=by kernel_rfl
theorem era124:c124.code=a124.erase:=rfl
def s125_0:=[zw 1 25 0,zan 2]
def s125_1:=[zh 5 3 1,zk 6 88 5,zag 7 6 0]
def s125_2:=[zan 2]
def s125_3:=[zh 8 3 1,q0 9 (.build [.int .i64 0,.int .i64 0,.string ⟨#[]⟩] [(0,3,.tmp 8)]),q0 3 (.alloc 198 (.agg #[.int .i64 0,.int .i64 0,.string ⟨#[]⟩])),ze 3 3 9]
def s125_4:=[q0 10 (.exts (.makeMap 199 none) 199 [] []),zh 11 3 3,q0 12 (.mkfn (Fn.func 167) [.tmp 11] []),zax 10 0 12 0 10 0 12,zh 13 3 3,q0 14 (.mkfn (Fn.func 168) [.tmp 13] []),zax 10 1 14 0 10 1 14,zh 15 3 3,q0 16 (.mkfn (Fn.func 169) [.tmp 15] []),zax 10 2 16 0 10 2 16,zh 17 3 3,q0 18 (.mkfn (Fn.func 170) [.tmp 17] []),zax 10 3 18 0 10 3 18,zh 19 3 3,q0 20 (.mkfn (Fn.func 171) [.tmp 19] []),zax 10 4 20 0 10 4 20,zh 21 3 3,q0 22 (.mkfn (Fn.func 172) [.tmp 21] []),zax 10 5 22 0 10 5 22,za 23 10,za 4 23]
def s125_5:=[za 24 4,zd 25 0 1,zb 26 1 25,q0 27 (.extq (.lookup 199 (.tmp 24) (.tmp 26) false) 91 [.mp 3 91,.int .i64] [.tmp 24,.tmp 26]),q0 28 (.callv (.tmp 27) []),za 2 28]
def a125:AC:=Z.r s125_0 [1] (Z.s (Z.r s125_1 [1,7] (Z.c 7 (Z.e s125_2) .skip)) [1] (Z.r s125_3 [1,3] (Z.r s125_4 [1,4] (Z.e s125_5))))
def c125:FC:=⟨29,a125.erase,[.tmp 2]⟩
theorem comp125:compF Tryz.prog Tryz.f125=some c125:=by kernel_rfl
theorem era125:c125.code=a125.erase:=rfl
def s126_0:=[zw 3 90 0,zan 6]
def s126_1:=[zd 8 0 3,zd 9 11 8,zb 10 1 9,za 11 1,zi 12 12 10 11,zh 13 12 12,zbj 14 13,zf 7 90,ze 12 7 14]
def s126_2:=[zh 15 12 7,zk 16 128 15,za 17 2,zu 18 16 17]
def s126_3:=[zh 19 12 7,zk 20 39 19,q0 21 (.mksl 9 1 [ks ⟨#[40]⟩,.tmp 20,ks ⟨#[41]⟩]),zk 22 69 21,za 6 22]
def s126_4:=[zh 23 12 7,zk 24 39 23,za 6 24]
def a126:AC:=Z.r s126_0 [1,2,3] (Z.r s126_1 [2,7] (Z.s (Z.r s126_2 [7,18] (Z.c 18 (Z.e s126_3) .skip)) [7] (Z.e s126_4)))
def c126:FC:=⟨25,a126.erase,[.tmp 6]⟩
theorem comp126:compF Tryz.prog Tryz.f126=some c126:=by kernel_rfl
theorem era126:c126.code=a126.erase:=rfl
def s127_0:=[zw 1 90 0,zan 2]
def s127_1:=[zd 4 0 1,zd 5 9 4,zd 6 1 5,zb 7 1 6,zk 8 71 7,za 3 8]
def s127_2:=[zd 9 0 1,zd 10 9 9,zd 11 0 10,zb 12 1 11]
def s127_3:=[zr 14 12 2,za 13 14]
def s127_4:=[za 15 3,q0 16 (.mksl 9 1 [ks ⟨#[115,108,105,100,105,110,103,32]⟩,.tmp 15]),zk 17 69 16,za 2 17]
def s127_5:=[zr 19 12 3,za 18 19]
def s127_6:=[za 20 3,q0 21 (.mksl 9 1 [ks ⟨#[116,117,109,98,108,105,110,103,32]⟩,.tmp 20]),zk 22 69 21,za 2 22]
def s127_7:=[zr 24 12 4,za 23 24]
def s127_8:=[za 25 3,q0 26 (.mksl 9 1 [ks ⟨#[115,101,115,115,105,111,110,32]⟩,.tmp 25]),zk 27 69 26,za 2 27]
def s127_9:=[q0 2 (.mv (ks ⟨#[97,108,108]⟩))]
def a127:AC:=Z.r s127_0 [1] (Z.s (Z.r s127_1 [1,3] (Z.r s127_2 [3,12] (Z.b 0 (Z.r s127_3 [3,12,13] (Z.c 13 (Z.e s127_4) (Z.r s127_5 [3,12,18] (Z.c 18 (Z.e s127_6) (Z.r s127_7 [3,23] (Z.c 23 (Z.e s127_8) .skip))))))))) [] (Z.e s127_9))
def c127:FC:=⟨28,a127.erase,[.tmp 2]⟩
theorem comp127:compF Tryz.prog Tryz.f127=some c127:=by kernel_rfl
theorem era127:c127.code=a127.erase:=rfl
def s128_0:=[zw 1 90 0,zg 2 0]
def s128_1:=[zd 3 0 1,zd 4 0 3,zb 5 1 4]
def s128_2:=[zr 7 5 8,za 6 7]
def s128_3:=[zg 2 0]
def s128_4:=[zr 9 5 9,za 8 9]
def s128_5:=[zg 2 1]
def s128_6:=[zr 11 5 6,za 10 11]
def s128_7:=[zd 12 0 1,zd 13 1 12,zb 14 1 13]
def s128_8:=[zdd 16 14,za 15 16]
def s128_9:=[zg 2 8]
def s128_10:=[zdf 18 14,za 17 18]
def s128_11:=[zg 2 4]
def s128_12:=[zg 2 9]
def s128_13:=[zr 20 5 7,za 19 20]
def s128_14:=[zd 21 0 1,zd 22 1 21,zb 23 1 22]
def s128_15:=[q0 25 (.bin .eql (.tmp 23) (ks ⟨#[111,114]⟩)),za 24 25]
def s128_16:=[zg 2 2]
def s128_17:=[q0 27 (.bin .eql (.tmp 23) (ks ⟨#[97,110,100]⟩)),za 26 27]
def s128_18:=[zg 2 3]
def s128_19:=[q0 29 (.bin .eql (.tmp 23) (ks ⟨#[43]⟩)),za 28 29]
def s128_20:=[zdd 30 23,za 28 30]
def s128_21:=[zg 2 6]
def s128_22:=[q0 32 (.bin .eql (.tmp 23) (ks ⟨#[42]⟩)),za 31 32]
def s128_23:=[q0 33 (.bin .eql (.tmp 23) (ks ⟨#[47]⟩)),za 31 33]
def s128_24:=[zg 2 7]
def s128_25:=[zg 2 5]
def s128_26:=[zg 2 9]
def a128:AC:=Z.r s128_0 [1] (Z.s (Z.r s128_1 [1,5] (Z.b 0 (Z.r s128_2 [1,5,6] (Z.c 6 (Z.e s128_3) (Z.r s128_4 [1,5,8] (Z.c 8 (Z.e s128_5) (Z.r s128_6 [1,5,10] (Z.c 10 (Z.s (Z.r s128_7 [14] (Z.b 1 (Z.r s128_8 [14,15] (Z.c 15 (Z.e s128_9) (Z.r s128_10 [17] (Z.c 17 (Z.e s128_11) .skip)))))) [] (Z.e s128_12)) (Z.r s128_13 [1,19] (Z.c 19 (Z.s (Z.r s128_14 [23] (Z.b 2 (Z.r s128_15 [23,24] (Z.c 24 (Z.e s128_16) (Z.r s128_17 [23,26] (Z.c 26 (Z.e s128_18) (Z.s (Z.r s128_19 [23,28] (Z.c 28 .skip (Z.g s128_20))) [23,28] (Z.c 28 (Z.e s128_21) (Z.s (Z.r s128_22 [23,31] (Z.c 31 .skip (Z.g s128_23))) [31] (Z.c 31 (Z.e s128_24) .skip)))))))))) [] (Z.e s128_25)) .skip)))))))))) [] (Z.e s128_26))
def c128:FC:=⟨34,a128.erase,[.tmp 2]⟩
theorem comp128:compF Tryz.prog Tryz.f128=some c128:=by kernel_rfl
theorem era128:c128.code=a128.erase:=rfl
def s129_0:=[zg 4 0]
def s129_1:=[za 6 0,zx 7 6,zg 8 0]
def s129_2:=[zu 9 8 7]
def s129_3:=[za 10 8,za 5 10]
def s129_4:=[za 11 1,za 12 0,za 13 5,zi 14 1 12 13,zb 15 1 14,zbg 16 11 15]
def s129_5:=[za 17 5,za 4 17]
def s129_6:=[zo 18 8 1,za 8 18]
def s129_7:=[zbc 4]
def a129:AC:=Z.r s129_0 [0,1] (Z.s (Z.r s129_1 [0,1,7,8] (Z.b 0 (Z.l [0,1,7,8] (Z.r s129_2 [0,1,7,8,9] (Z.s (Z.c 9 .skip (.exit 0)) [0,1,7,8] (Z.s (Z.b 1 (Z.r s129_3 [0,1,5,7,8] (Z.r s129_4 [0,1,5,7,8,16] (Z.c 16 (Z.e s129_5) .skip)))) [0,1,7,8] (Z.g s129_6))))))) [] (Z.e s129_7))
def c129:FC:=⟨19,a129.erase,[.tmp 4]⟩
theorem comp129:compF Tryz.prog Tryz.f129=some c129:=by kernel_rfl
theorem era129:c129.code=a129.erase:=rfl
def s130_0:=[zy 4]
def s130_1:=[za 6 0,zx 7 6,za 8 1,zx 9 8,zbv 10 7 9]
def s130_2:=[zy 4]
def s130_3:=[za 11 0,zx 12 11,zg 13 0]
def s130_4:=[zu 14 13 12]
def s130_5:=[za 15 13,za 5 15]
def s130_6:=[za 16 0,za 17 5,zi 18 2 16 17,zh 19 2 18,za 20 1,za 21 5,zi 22 2 20 21,zh 23 2 22,q0 24 (.eqs true [.str,.int] (.tmp 19) (.tmp 23))]
def s130_7:=[zy 4]
def s130_8:=[zo 25 13 1,za 13 25]
def s130_9:=[zbe 4]
def a130:AC:=Z.r s130_0 [0,1] (Z.s (Z.r s130_1 [0,1,10] (Z.c 10 (Z.e s130_2) .skip)) [0,1] (Z.s (Z.r s130_3 [0,1,12,13] (Z.b 0 (Z.l [0,1,12,13] (Z.r s130_4 [0,1,12,13,14] (Z.s (Z.c 14 .skip (.exit 0)) [0,1,12,13] (Z.s (Z.b 1 (Z.r s130_5 [0,1,5,12,13] (Z.d s130_6 [0,1,12,13,24] (Z.c 24 (Z.e s130_7) .skip)))) [0,1,12,13] (Z.g s130_8))))))) [] (Z.e s130_9)))
def c130:FC:=⟨26,a130.erase,[.tmp 4]⟩
theorem comp130:compF Tryz.prog Tryz.f130=some c130:=by kernel_rfl
theorem era130:c130.code=a130.erase:=rfl
def s131_0:=[zw 1 31 0,zy 2]
def s131_1:=[zd 4 4 1,zh 5 3 4,zk 6 173 5,zag 7 6 0,za 8 7,zs 9 4 1 8,zs 10 1 9 8,zp 11 1 10 8,zb9 12 11 0 8,zn 13 8 12]
def s131_2:=[zy 2]
def s131_3:=[zd 14 4 1,zd 15 0 14,zb 16 1 15,zd 17 7 1,zb 18 1 17,zd 19 2 1,zb 20 1 19,q0 21 (.build [.int .i64 0,.slice none 0 0,.string ⟨#[]⟩] [(0,1,.tmp 16),(1,1,.tmp 18),(2,1,.tmp 20)]),zb1 3 51,ze 3 3 21]
def s131_4:=[zh 22 3 3,zk 23 20 22,zr 24 23 0,za 25 24,zai 26 12 1 25,zt 27 4 1 25,zai 28 3 27 25,zt 29 7 1 25,zm 30 1 29 25,zt 31 2 1 25,zm 32 1 31 25,q1 33 (.build [.int .i64 0,.string ⟨#[]⟩,.string ⟨#[]⟩,.string ⟨#[]⟩,.int .i64 0,.int .i64 0,.string ⟨#[]⟩,.slice none 0 0,.int .i64 0,.int .i64 0,.int .i64 0,.slice none 0 0] [(0,1,ki 1),(4,3,.tmp 28),(7,1,.tmp 30),(2,1,.tmp 32)]) 25 true,zam 34 43 26 33 25,zj 35 25 34,za 2 35]
def a131:AC:=Z.r s131_0 [1] (Z.s (Z.r s131_1 [1,13] (Z.c 13 (Z.e s131_2) .skip)) [1] (Z.r s131_3 [1,3] (Z.e s131_4)))
def c131:FC:=⟨36,a131.erase,[.tmp 2]⟩
theorem comp131:compF Tryz.prog Tryz.f131=some c131:=by kernel_rfl
theorem era131:c131.code=a131.erase:=rfl
def s132_0:=[zw 1 31 0,zy 2]
def s132_1:=[zg 3 0]
def s132_2:=[zd 4 1 1,zb 5 1 4,zbl 6 5]
def s132_3:=[zg 3 1000]
def s132_4:=[zd 7 1 1,zb 8 1 7,zcj 9 8]
def s132_5:=[zg 3 1073741824]
def s132_6:=[zd 10 1 1,zb 11 1 10,zdh 12 100,zae 13 99 11 12,zad 14 13,za 15 14,zs 16 3 1 15,zp 17 1 16 15,za0 18 52 17 15,zaw 19 18 15,zn 20 15 19,za 21 20,zs 22 9 1 21,zaj 23 2 22 21,za0 24 174 23 21,zaw 25 24 21,zn 26 21 25,za 27 26,zs 28 8 1 27,zp 29 1 28 27,zv 30 3 27,q1 31 (.bin .gtr (.tmp 29) (.tmp 30)) 27 false,zn 32 27 31,za 33 32,zs 34 8 1 33,zp 35 1 34 33,zv 36 3 33,q1 37 (.min2 (.tmp 36) (ki 1)) 33 false,zcl 38 35 37 33,zn 39 33 38]
def s132_7:=[zy 2]
def s132_8:=[zh 40 12 1,zd 41 1 1,zb 42 1 41,zd 43 3 1,zb 44 1 43,zd 45 8 1,zb 46 1 45,zd 47 9 1,zh 48 2 47,q0 49 (.build [.int .i64 0,.string ⟨#[]⟩,.string ⟨#[]⟩,.string ⟨#[]⟩,.int .i64 0,.int .i64 0,.string ⟨#[]⟩,.slice none 0 0,.int .i64 0,.int .i64 0,.int .i64 0,.slice none 0 0] [(0,1,ki 5),(1,1,.tmp 42),(3,1,.tmp 44),(8,1,.tmp 46),(9,2,.tmp 48)]),zae 50 43 40 49,za 2 50]
def a132:AC:=Z.r s132_0 [1] (Z.r s132_1 [1,3] (Z.s (Z.r s132_2 [1,3,6] (Z.c 6 (Z.g s132_3) .skip)) [1,3] (Z.s (Z.r s132_4 [1,3,9] (Z.c 9 (Z.g s132_5) .skip)) [1,3] (Z.s (Z.d s132_6 [1,39] (Z.c 39 (Z.e s132_7) .skip)) [1] (Z.e s132_8)))))
def c132:FC:=⟨51,a132.erase,[.tmp 2]⟩
theorem comp132:compF Tryz.prog Tryz.f132=some c132:=by kernel_rfl
theorem era132:c132.code=a132.erase:=rfl
def s133_0:=[zaz 0]
def s133_1:=[q0 1 (.mksl 9 1 [ks ⟨#[43]⟩,ks ⟨#[45]⟩,ks ⟨#[42]⟩,ks ⟨#[47]⟩,ks ⟨#[61,61]⟩,ks ⟨#[33,61]⟩,ks ⟨#[60]⟩,ks ⟨#[60,61]⟩,ks ⟨#[97,110,100]⟩,ks ⟨#[111,114]⟩]),za 0 1]
def a133:AC:=Z.r s133_0 [] (Z.e s133_1)
def c133:FC:=⟨2,a133.erase,[.tmp 0]⟩
theorem comp133:compF Tryz.prog Tryz.f133=some c133:=by kernel_rfl
theorem era133:c133.code=a133.erase:=rfl
def s135_0:=[zg 2 0,zg 3 0]
def s135_1:=[za 13 0,za 4 13,zy 5]
def s135_2:=[za 14 4,zcw 15 14,za 16 15,zl 17 4 16,q1 18 (.idxs (.tmp 17) (ki 0)) 16 true,q1 19 (.bin .eql (.tmp 18) (.const (.int .u8 45))) 16 true,zj 20 16 19]
def s135_3:=[za 21 4,q0 22 (.extq (.slice 9 (.tmp 21) (some (ki 1)) none none) 9 [.str] [.tmp 21,ki 1]),za 4 22,zbe 5]
def s135_4:=[zbc 6,zy 7]
def s135_5:=[zg 8 0]
def s135_6:=[za 23 8,za 24 4,za7 25 24,zu 26 23 25]
def s135_7:=[za 29 4,za 30 8,zbz 31 29 30,za 9 31]
def s135_8:=[za 33 9,q0 34 (.bin .eql (.tmp 33) (.const (.int .u8 46))),za 35 34,zl 36 6 35,q1 37 (.bin .lss (.tmp 36) (ki 0)) 35 true,zj 38 35 37,za 39 38,zl 40 8 39,q1 41 (.bin .gtr (.tmp 40) (ki 0)) 39 true,zj 42 39 41,za 32 42]
def s135_9:=[za 43 8,za 6 43]
def s135_10:=[za 45 9,q0 46 (.bin .lss (.tmp 45) (.const (.int .u8 48))),za 47 46,zv 48 9 47,q1 49 (.bin .gtr (.tmp 48) (.const (.int .u8 57))) 47 false,zn 50 47 49,za 44 50]
def s135_11:=[zg 2 0,zg 3 3]
def s135_12:=[za 51 7]
def s135_13:=[za 52 9,q0 53 (.bin .sub (.tmp 52) (.const (.int .u8 48))),zcc 54 53,za 10 54]
def s135_14:=[za 55 2,za 56 10,q0 57 (.bin .sub (ki 1152921504606846976) (.tmp 56)),zb2 58 57 10,zbh 59 55 58]
def s135_15:=[zbe 7]
def s135_16:=[za 60 2,q0 61 (.bin .mul (ki 10) (.tmp 60)),za 62 10,zab 63 61 62,za 2 63]
def s135_17:=[za 27 8,zo 28 27 1,za 8 28]
def s135_18:=[zg 11 0]
def s135_19:=[za 64 6,za8 65 64 0]
def s135_20:=[za 66 4,za7 67 66,za 68 6,zal 69 67 68,zz 70 69 1,za 11 70]
def s135_21:=[za 71 11,zr 72 71 0,za 73 72,zv 74 11 73,zaq 75 74 6 73,zn 76 73 75]
def s135_22:=[zg 2 0,zg 3 3]
def s135_23:=[za 77 4,zcv 78 77]
def s135_24:=[zg 2 0,zg 3 3]
def s135_25:=[za 79 11,q0 80 (.bin .sub (ki 6) (.tmp 79)),q0 81 (.iaddrA 7 1 (.global 4) (.tmp 80)),zb 82 1 81,za 12 82]
def s135_26:=[za 83 7,za 84 83,zv 85 2 84,zv 86 12 84,q1 87 (.bin .quo (ki 1152921504606846976) (.tmp 86)) 84 false,q1 88 (.bin .gtr (.tmp 85) (.tmp 87)) 84 false,zn 89 84 88]
def s135_27:=[zg 2 0,zg 3 2]
def s135_28:=[za 90 2,za 91 12,q0 92 (.bin .mul (.tmp 90) (.tmp 91)),za 2 92]
def s135_29:=[za 93 5]
def s135_30:=[za 94 2,q0 95 (.un .neg (.tmp 94)),za 2 95]
def s135_31:=[za 96 2,za 2 96,zg 3 0]
def a135:AC:=Z.r s135_0 [0,2] (.scope (Z.r s135_1 [2,4,5] (Z.s (Z.r s135_2 [2,4,5,20] (Z.c 20 (Z.g s135_3) .skip)) [2,4,5] (Z.r s135_4 [2,4,5,6,7] (Z.s (.label 0) [2,4,5,6,7] (Z.s (Z.r s135_5 [2,4,5,6,7,8] (Z.b 0 (Z.l [2,4,5,6,7,8] (Z.s (Z.r s135_6 [2,4,5,6,7,8,26] (Z.c 26 .skip (.exit 0))) [2,4,5,6,7,8] (Z.s (Z.b 1 (Z.r s135_7 [2,4,5,6,7,8,9] (Z.s (Z.b 2 (Z.r s135_8 [2,4,5,6,7,8,9,32] (Z.c 32 (.seq (Z.g s135_9) (.exit 1)) (Z.r s135_10 [2,4,5,6,7,8,9,44] (Z.c 44 (Z.e s135_11) .skip))))) [2,4,5,6,7,8,9] (Z.s (Z.r s135_12 [2,4,5,6,7,8,9,51] (Z.c 51 (.exit 1) .skip)) [2,4,5,6,7,8,9] (Z.r s135_13 [2,4,5,6,7,8,10] (Z.r s135_14 [2,4,5,6,7,8,10,59] (Z.c 59 (Z.g s135_15) (Z.g s135_16)))))))) [2,4,5,6,7,8] (Z.g s135_17)))))) [2,4,5,6,7] (Z.r s135_18 [2,4,5,6,7,11] (Z.s (Z.r s135_19 [2,4,5,6,7,11,65] (Z.c 65 (Z.r s135_20 [2,4,5,7,11] (Z.r s135_21 [2,4,5,7,11,76] (Z.c 76 (Z.e s135_22) .skip))) .skip)) [2,4,5,7,11] (Z.s (Z.r s135_23 [2,5,7,11,78] (Z.c 78 (Z.e s135_24) .skip)) [2,5,7,11] (Z.s (Z.r s135_25 [2,5,7,12] (Z.r s135_26 [2,5,12,89] (Z.c 89 (Z.e s135_27) (Z.g s135_28)))) [2,5] (Z.s (Z.r s135_29 [2,93] (Z.c 93 (Z.g s135_30) .skip)) [2] (Z.e s135_31))))))))))))
def c135:FC:=⟨97,a135.erase,[.tmp 2,.tmp 3]⟩
theorem comp135:compF Tryz.prog Tryz.f135=some c135:=by kernel_rfl
theorem era135:c135.code=a135.erase:=rfl
def s140_0:=[q0 2 (.alloc 175 (.agg (List.toArray (List.append (List.append [.bool false,.bool false,.bool false,.bool false,.bool false,.bool false,.bool false,.bool false,.bool false,.bool false,.bool false,.bool false,.bool false,.bool false,.bool false,.bool false,.bool false,.bool false,.bool false,.bool false,.bool false,.bool false,.bool false,.bool false,.bool false,.bool false,.bool false,.bool false,.bool false,.bool false,.bool false,.bool false,.bool false,.bool false,.bool false,.bool false,.bool false,.bool false,.bool false,.bool false,.bool false,.bool false,.bool false,.bool false,.bool false,.bool false,.bool false,.bool false,.bool false,.bool false,.bool false,.bool false,.bool false,.bool false,.bool false,.bool false,.bool false,.bool false,.bool false,.bool false,.bool false,.bool false,.bool false,.bool false] [.bool false,.bool false,.bool false,.bool false,.bool false,.bool false,.bool false,.bool false,.bool false,.bool false,.bool false,.bool false,.bool false,.bool false,.bool false,.bool false,.bool false,.bool false,.bool false,.bool false,.bool false,.bool false,.bool false,.bool false,.bool false,.bool false,.bool false,.bool false,.bool false,.bool false,.bool false,.bool false,.bool false,.bool false,.bool false,.bool false,.bool false,.bool false,.bool false,.bool false,.bool false,.bool false,.bool false,.bool false,.bool false,.bool false,.bool false,.bool false,.bool false,.bool false,.bool false,.bool false,.bool false,.bool false,.bool false,.bool false,.bool false,.bool false,.bool false,.bool false,.bool false,.bool false,.bool false,.bool false]) (List.append [.bool false,.bool false,.bool false,.bool false,.bool false,.bool false,.bool false,.bool false,.bool false,.bool false,.bool false,.bool false,.bool false,.bool false,.bool false,.bool false,.bool false,.bool false,.bool false,.bool false,.bool false,.bool false,.bool false,.bool false,.bool false,.bool false,.bool false,.bool false,.bool false,.bool false,.bool false,.bool false,.bool false,.bool false,.bool false,.bool false,.bool false,.bool false,.bool false,.bool false,.bool false,.bool false,.bool false,.bool false,.bool false,.bool false,.bool false,.bool false,.bool false,.bool false,.bool false,.bool false,.bool false,.bool false,.bool false,.bool false,.bool false,.bool false,.bool false,.bool false,.bool false,.bool false,.bool false,.bool false] [.bool false,.bool false,.bool false,.bool false,.bool false,.bool false,.bool false,.bool false,.bool false,.bool false,.bool false,.bool false,.bool false,.bool false,.bool false,.bool false,.bool false,.bool false,.bool false,.bool false,.bool false,.bool false,.bool false,.bool false,.bool false,.bool false,.bool false,.bool false,.bool false,.bool false,.bool false,.bool false,.bool false,.bool false,.bool false,.bool false,.bool false,.bool false,.bool false,.bool false,.bool false,.bool false,.bool false,.bool false,.bool false,.bool false,.bool false,.bool false,.bool false,.bool false,.bool false,.bool false,.bool false,.bool false,.bool false,.bool false,.bool false,.bool false,.bool false,.bool false,.bool false,.bool false,.bool false,.bool false]))))),zy 3]
def s140_1:=[zg 4 0]
def s140_2:=[za 6 4,za 7 0,za7 8 7,zu 9 6 8]
def s140_3:=[za 12 0,za 13 4,zbz 14 12 13,za 5 14]
def s140_4:=[za 15 5,q0 16 (.bin .geq (.tmp 15) (.const (.int .u8 128)))]
def s140_5:=[zh 17 256 2,ze 256 2 17,zy 3]
def s140_6:=[za 18 5,zdb 19 2 18,.mk none (.store 1 (.tmp 19) kT) none]
def s140_7:=[za 10 4,zo 11 10 1,za 4 11]
def s140_8:=[zh 20 256 2,ze 256 2 20,zbe 3]
def a140:AC:=Z.r s140_0 [0,2] (Z.s (Z.r s140_1 [0,2,4] (Z.b 0 (Z.l [0,2,4] (Z.s (Z.r s140_2 [0,2,4,9] (Z.c 9 .skip (.exit 0))) [0,2,4] (Z.s (Z.b 1 (Z.r s140_3 [0,2,4,5] (Z.s (Z.r s140_4 [0,2,4,5,16] (Z.c 16 (Z.e s140_5) .skip)) [0,2,4,5] (Z.g s140_6)))) [0,2,4] (Z.g s140_7)))))) [2] (Z.e s140_8))
def c140:FC:=⟨21,a140.erase,[.cell 2 true 256,.tmp 3]⟩
theorem comp140:compF Tryz.prog Tryz.f140=some c140:=by kernel_rfl
theorem era140:c140.code=a140.erase:=rfl
def s145_0:=[zy 2]
def s145_1:=[za 3 0,zdj 4 3,za 5 4,zl 6 0 5,zc5 7 6 5,zj 8 5 7,za 2 8]
def a145:AC:=Z.r s145_0 [0] (Z.e s145_1)
def c145:FC:=⟨9,a145.erase,[.tmp 2]⟩
theorem comp145:compF Tryz.prog Tryz.f145=some c145:=by kernel_rfl
theorem era145:c145.code=a145.erase:=rfl
def s146_0:=[zy 2]
def s146_1:=[za 3 0,q0 4 (.bin .geq (.tmp 3) (.const (.int .u8 48))),za 5 4,zl 6 0 5,zc8 7 6 5,zj 8 5 7,za 2 8]
def a146:AC:=Z.r s146_0 [0] (Z.e s146_1)
def c146:FC:=⟨9,a146.erase,[.tmp 2]⟩
theorem comp146:compF Tryz.prog Tryz.f146=some c146:=by kernel_rfl
theorem era146:c146.code=a146.erase:=rfl
def s147_0:=[zy 2]
def s147_1:=[za 5 0,za7 6 5,zr 7 6 0,za 8 7,zv 9 0 8,zb0 10 9 8,zaq 11 10 24 8,zn 12 8 11,za 13 12,zv 14 0 13,q1 15 (.idxs (.tmp 14) (ki 0)) 13 false,q1 16 (.bin .lss (.tmp 15) (.const (.int .u8 97))) 13 false,zn 17 13 16,za 18 17,zv 19 0 18,q1 20 (.idxs (.tmp 19) (ki 0)) 18 false,zc4 21 20 18,zn 22 18 21]
def s147_2:=[zy 2]
def s147_3:=[za 23 0,za7 24 23,zg 25 0]
def s147_4:=[zu 26 25 24]
def s147_5:=[za 27 25,za 3 27]
def s147_6:=[za 28 0,za 29 3,zbz 30 28 29,za 4 30]
def s147_7:=[za 31 4,q0 32 (.bin .lss (.tmp 31) (.const (.int .u8 97))),za 33 32,zv 34 4 33,zc4 35 34 33,zn 36 33 35,za 37 36,zl 38 4 37,q1 39 (.bin .lss (.tmp 38) (.const (.int .u8 48))) 37 true,zl 40 39 37,zv 41 4 40,q1 42 (.bin .gtr (.tmp 41) (.const (.int .u8 57))) 40 false,zbb 43 40 42 37,zj 44 37 43,za 45 44,zl 46 4 45,q1 47 (.bin .neq (.tmp 46) (.const (.int .u8 95))) 45 true,zj 48 45 47]
def s147_8:=[zy 2]
def s147_9:=[zo 49 25 1,za 25 49]
def s147_10:=[zbe 2]
def a147:AC:=Z.r s147_0 [0] (Z.s (Z.r s147_1 [0,22] (Z.c 22 (Z.e s147_2) .skip)) [0] (Z.s (Z.r s147_3 [0,24,25] (Z.b 0 (Z.l [0,24,25] (Z.r s147_4 [0,24,25,26] (Z.s (Z.c 26 .skip (.exit 0)) [0,24,25] (Z.s (Z.b 1 (Z.r s147_5 [0,3,24,25] (Z.r s147_6 [0,4,24,25] (Z.r s147_7 [0,24,25,48] (Z.c 48 (Z.e s147_8) .skip))))) [0,24,25] (Z.g s147_9))))))) [] (Z.e s147_10)))
def c147:FC:=⟨50,a147.erase,[.tmp 2]⟩
theorem comp147:compF Tryz.prog Tryz.f147=some c147:=by kernel_rfl
theorem era147:c147.code=a147.erase:=rfl
def s148_0:=[zy 4]
def s148_1:=[za 5 0,za 6 1,zbh 7 5 6,za 8 7,zv 9 0 8,zv 10 1 8,q1 11 (.un .neg (.tmp 10)) 8 false,zcl 12 9 11 8,zn 13 8 12,za 4 13]
def a148:AC:=Z.r s148_0 [0,1] (Z.e s148_1)
def c148:FC:=⟨14,a148.erase,[.tmp 4]⟩
theorem comp148:compF Tryz.prog Tryz.f148=some c148:=by kernel_rfl
theorem era148:c148.code=a148.erase:=rfl
def s149_0:=[zg 4 0]
def s149_1:=[za 6 0,zx 7 6,zg 8 0]
def s149_2:=[zu 9 8 7]
def s149_3:=[za 10 8,za 5 10]
def s149_4:=[za 11 1,za 12 0,za 13 5,zi 14 2 12 13,zh 15 2 14,zda 16 11 15]
def s149_5:=[za 17 5,za 4 17]
def s149_6:=[zo 18 8 1,za 8 18]
def s149_7:=[zbc 4]
def a149:AC:=Z.r s149_0 [0,1] (Z.s (Z.r s149_1 [0,1,7,8] (Z.b 0 (Z.l [0,1,7,8] (Z.r s149_2 [0,1,7,8,9] (Z.s (Z.c 9 .skip (.exit 0)) [0,1,7,8] (Z.s (Z.b 1 (Z.r s149_3 [0,1,5,7,8] (Z.r s149_4 [0,1,5,7,8,16] (Z.c 16 (Z.e s149_5) .skip)))) [0,1,7,8] (Z.g s149_6))))))) [] (Z.e s149_7))
def c149:FC:=⟨19,a149.erase,[.tmp 4]⟩
theorem comp149:compF Tryz.prog Tryz.f149=some c149:=by kernel_rfl
theorem era149:c149.code=a149.erase:=rfl
def s150_0:=[zan 2]
def s150_1:=[zaz 3]
def s150_2:=[za 7 0,zx 8 7,zg 9 0]
def s150_3:=[zu 10 9 8]
def s150_4:=[zi 11 2 7 9,zh 12 2 11,zcq 5 77,ze 2 5 12]
def s150_5:=[zd 13 0 5,zb 14 1 13,za 6 14]
def s150_6:=[zd 15 1 5,zb 16 1 15,zag 17 16 1]
def s150_7:=[za 18 6,zd 19 1 5,zb 20 1 19,zk 21 71 20,q0 22 (.bin .add (ks ⟨#[94]⟩) (.tmp 21)),zab 23 18 22,za 6 23]
def s150_8:=[za 24 3,za 25 6,q0 26 (.mksl 9 1 [.tmp 25]),q0 27 (.append 9 1 16 [.string ⟨#[]⟩] (.tmp 24) (.tmp 26)),za 3 27]
def s150_9:=[zo 28 9 1,za 9 28]
def s150_10:=[za 29 3,q0 30 (.call 70 [.tmp 29,ks ⟨#[42]⟩]),za 2 30]
def a150:AC:=Z.r s150_0 [0] (Z.r s150_1 [0,3] (Z.s (Z.r s150_2 [3,7,8,9] (Z.b 0 (Z.l [3,7,8,9] (Z.r s150_3 [3,7,8,9,10] (Z.s (Z.c 10 .skip (.exit 0)) [3,7,8,9] (Z.s (Z.b 1 (Z.r s150_4 [3,5,7,8,9] (Z.r s150_5 [3,5,6,7,8,9] (Z.s (Z.r s150_6 [3,5,6,7,8,9,17] (Z.c 17 (Z.g s150_7) .skip)) [3,6,7,8,9] (Z.g s150_8))))) [3,7,8,9] (Z.g s150_9))))))) [3] (Z.e s150_10)))
def c150:FC:=⟨31,a150.erase,[.tmp 2]⟩
theorem comp150:compF Tryz.prog Tryz.f150=some c150:=by kernel_rfl
theorem era150:c150.code=a150.erase:=rfl
def s151_0:=[zbu 4 98]
def s151_1:=[za 6 0,zac 7 6,zd 8 0 7,zb 9 1 8,zaf 10 3 9 0,zh 11 3 10,zbu 5 98,ze 3 5 11]
def s151_2:=[zd 12 0 5,zb 13 1 12,za 14 1,zbv 15 13 14]
def s151_3:=[za 16 0,zk 17 76 16]
def s151_4:=[za 18 0,za 19 0,zac 20 19,zd 21 0 20,zb 22 1 21,zbp 23 22 1,zac 24 18,zd 25 0 24,ze 1 25 23]
def s151_5:=[zh 26 3 5,ze 3 4 26]
def a151:AC:=Z.r s151_0 [0,1,4] (Z.r s151_1 [0,1,4,5] (Z.s (Z.r s151_2 [0,4,5,15] (Z.c 15 (Z.g s151_3) .skip)) [0,4,5] (Z.r s151_4 [4,5] (Z.e s151_5))))
def c151:FC:=⟨27,a151.erase,[.cell 4 true 3]⟩
theorem comp151:compF Tryz.prog Tryz.f151=some c151:=by kernel_rfl
theorem era151:c151.code=a151.erase:=rfl
def s152_0:=[za 6 2,q0 7 (.callv (.tmp 6) [])]
def s152_1:=[za 8 0,za 9 1,q0 10 (.call 77 [.tmp 8,ki 5,.tmp 9])]
def s152_2:=[za 11 2,q0 12 (.callv (.tmp 11) [])]
def a152:AC:=Z.r s152_0 [0,1,2] (Z.b 0 (Z.l [0,1,2] (Z.s (Z.r s152_1 [0,1,2,10] (Z.c 10 .skip (.exit 0))) [0,1,2] (Z.b 1 (Z.g s152_2)))))
def c152:FC:=⟨13,a152.erase,[]⟩
theorem comp152:compF Tryz.prog Tryz.f152=some c152:=by kernel_rfl
theorem era152:c152.code=a152.erase:=rfl
def s153_0:=[zb 4 1 0,zk 5 110 4,q0 6 (.build [.string ⟨#[]⟩,.int .i64 0] [(0,1,.tmp 5),(1,1,ki 1)]),zcq 2 77,ze 2 2 6]
def s153_1:=[zb 7 1 0,q0 8 (.call 77 [.tmp 7,ki 5,ks ⟨#[94]⟩])]
def s153_2:=[zg 3 1]
def s153_3:=[zb 9 1 0,q0 10 (.call 77 [.tmp 9,ki 5,ks ⟨#[45]⟩])]
def s153_4:=[zbc 3]
def s153_5:=[za 11 3,zb 12 1 0,zk 13 154 12,q0 14 (.min2 (.tmp 13) (ki 1099511627776)),q0 15 (.bin .mul (.tmp 11) (.tmp 14)),zd 16 1 2,ze 1 16 15]
def s153_6:=[zb 17 1 1,zh 18 2 2,q0 19 (.mksl 77 2 [.tmp 18]),q0 20 (.append 77 2 24 [.string ⟨#[]⟩,.int .i64 0] (.tmp 17) (.tmp 19)),ze 1 1 20]
def a153:AC:=Z.r s153_0 [0,1,2] (Z.s (Z.r s153_1 [0,1,2,8] (Z.c 8 (Z.r s153_2 [0,1,2,3] (Z.s (Z.r s153_3 [0,1,2,3,10] (Z.c 10 (Z.g s153_4) .skip)) [0,1,2,3] (Z.g s153_5))) .skip)) [1,2] (Z.g s153_6))
def c153:FC:=⟨21,a153.erase,[]⟩
theorem comp153:compF Tryz.prog Tryz.f153=some c153:=by kernel_rfl
theorem era153:c153.code=a153.erase:=rfl
def s154_0:=[zg 2 0]
def s154_1:=[za 6 0,zbf 7 151 6 2,zdn 8 7,zk 9 136 8,za 5 9,zq 10 5 0,zq 11 5 1,za 3 10,za 4 11]
def s154_2:=[za 12 3,za 2 12]
def a154:AC:=Z.r s154_0 [0] (Z.r s154_1 [3] (Z.e s154_2))
def c154:FC:=⟨13,a154.erase,[.tmp 2]⟩
theorem comp154:compF Tryz.prog Tryz.f154=some c154:=by kernel_rfl
theorem era154:c154.code=a154.erase:=rfl
def s155_0:=[za 4 0,za 5 1,q0 6 (.call 77 [.tmp 4,ki 5,.tmp 5]),zad 7 6]
def s155_1:=[za 8 0,zk 9 76 8]
def a155:AC:=Z.r s155_0 [0,7] (Z.c 7 (Z.g s155_1) .skip)
def c155:FC:=⟨10,a155.erase,[]⟩
theorem comp155:compF Tryz.prog Tryz.f155=some c155:=by kernel_rfl
theorem era155:c155.code=a155.erase:=rfl
def s156_0:=[zaz 2,zg 3 0]
def s156_1:=[q0 11 (.exts (.makeMap 209 none) 209 [] []),za 4 11]
def s156_2:=[za 12 0,zx 13 12,zg 14 0]
def s156_3:=[zu 15 14 13]
def s156_4:=[zi 16 2 12 14,zh 17 2 16,zcq 6 77,ze 2 6 17]
def s156_5:=[zd 18 0 6,zb 19 1 18,zk 20 147 19,zad 21 20]
def s156_6:=[zaz 2,zg 3 1]
def s156_7:=[za 22 4,zd 23 0 6,zb 24 1 23,za 25 4,zd 26 0 6,zb 27 1 26,q0 28 (.extq (.lookup 209 (.tmp 25) (.tmp 27) false) 212 [.mp 9 212,.str] [.tmp 25,.tmp 27]),zd 29 1 6,zb 30 1 29,zk 31 183 30,zae 32 182 28 31]
def s156_8:List CI:=[.mk none (.exts (.mapUpdate 209 (.tmp 22) (.tmp 24) (.tmp 32)) 0 [.mp 9 212,.str] [.tmp 22,.tmp 24,.tmp 32]) none]
def s156_9:=[zo 33 14 1,za 14 33]
def s156_10:=[za 34 4,zk 35 184 34,zx 36 35,zg 37 0]
def s156_11:=[zu 38 37 36]
def s156_12:=[zi 39 1 35 37,zb 40 1 39,za 8 40]
def s156_13:=[za 42 4,za 43 8,q0 44 (.extq (.lookup 209 (.tmp 42) (.tmp 43) false) 212 [.mp 9 212,.str] [.tmp 42,.tmp 43]),zbf 45 185 44 1,za 41 45,zq 46 41 0,zq 47 41 1,za 9 46,za 10 47]
def s156_14:=[za 48 10,zad 49 48,za 50 49,zv 51 9 50,q1 52 (.call 148 [.tmp 51,ki 8]) 50 false,zn 53 50 52]
def s156_15:=[zaz 2,zg 3 70]
def s156_16:=[za 54 9,zag 55 54 0]
def s156_17:=[za 56 2,za 57 8,za 58 9,q0 59 (.build [.string ⟨#[]⟩,.int .i64 0] [(0,1,.tmp 57),(1,1,.tmp 58)]),q0 60 (.mksl 77 2 [.tmp 59]),q0 61 (.append 77 2 24 [.string ⟨#[]⟩,.int .i64 0] (.tmp 56) (.tmp 60)),za 2 61]
def s156_18:=[zo 62 37 1,za 37 62]
def s156_19:=[za 63 2,zx 64 63,zar 65 64 4]
def s156_20:=[zaz 2,zg 3 2]
def s156_21:=[za 66 2,za 2 66,zg 3 0]
def a156:AC:=Z.r s156_0 [0,2] (Z.r s156_1 [0,2,4] (Z.s (Z.r s156_2 [2,4,12,13,14] (Z.b 0 (Z.l [2,4,12,13,14] (Z.r s156_3 [2,4,12,13,14,15] (Z.s (Z.c 15 .skip (.exit 0)) [2,4,12,13,14] (Z.s (Z.b 1 (Z.r s156_4 [2,4,6,12,13,14] (Z.s (Z.r s156_5 [2,4,6,12,13,14,21] (Z.c 21 (Z.e s156_6) .skip)) [2,4,6,12,13,14] (Z.d s156_7 [2,4,12,13,14,22,24,32] (Z.g s156_8))))) [2,4,12,13,14] (Z.g s156_9))))))) [2,4] (Z.s (Z.r s156_10 [2,4,35,36,37] (Z.b 2 (Z.l [2,4,35,36,37] (Z.r s156_11 [2,4,35,36,37,38] (Z.s (Z.c 38 .skip (.exit 2)) [2,4,35,36,37] (Z.s (Z.b 3 (Z.r s156_12 [2,4,8,35,36,37] (Z.r s156_13 [2,4,8,9,10,35,36,37] (Z.s (Z.r s156_14 [2,4,8,9,35,36,37,53] (Z.c 53 (Z.e s156_15) .skip)) [2,4,8,9,35,36,37] (Z.r s156_16 [2,4,8,9,35,36,37,55] (Z.c 55 (Z.g s156_17) .skip)))))) [2,4,35,36,37] (Z.g s156_18))))))) [2] (Z.s (Z.r s156_19 [2,65] (Z.c 65 (Z.e s156_20) .skip)) [2] (Z.e s156_21)))))
def c156:FC:=⟨67,a156.erase,[.tmp 2,.tmp 3]⟩
theorem comp156:compF Tryz.prog Tryz.f156=some c156:=by kernel_rfl
theorem era156:c156.code=a156.erase:=rfl
def s162_0:=[zg 4 0]
def s162_1:=[za 6 0,zx 7 6,zg 8 0]
def s162_2:=[zu 9 8 7]
def s162_3:=[za 10 8,za 5 10]
def s162_4:=[za 11 1,za 12 0,za 13 5,zi 14 4 12 13,zh 15 4 14,zda 16 11 15]
def s162_5:=[za 17 5,za 4 17]
def s162_6:=[zo 18 8 1,za 8 18]
def s162_7:=[zbc 4]
def a162:AC:=Z.r s162_0 [0,1] (Z.s (Z.r s162_1 [0,1,7,8] (Z.b 0 (Z.l [0,1,7,8] (Z.r s162_2 [0,1,7,8,9] (Z.s (Z.c 9 .skip (.exit 0)) [0,1,7,8] (Z.s (Z.b 1 (Z.r s162_3 [0,1,5,7,8] (Z.r s162_4 [0,1,5,7,8,16] (Z.c 16 (Z.e s162_5) .skip)))) [0,1,7,8] (Z.g s162_6))))))) [] (Z.e s162_7))
def c162:FC:=⟨19,a162.erase,[.tmp 4]⟩
theorem comp162:compF Tryz.prog Tryz.f162=some c162:=by kernel_rfl
theorem era162:c162.code=a162.erase:=rfl
def s166_0:=[zf 2 31]
def s166_1:=[q0 6 (.build [.int .i64 0,.string ⟨#[]⟩,.string ⟨#[]⟩,.string ⟨#[]⟩,.int .i64 0,.int .i64 0,.string ⟨#[]⟩,.slice none 0 0,.int .i64 0,.int .i64 0,.int .i64 0,.slice none 0 0] [(0,1,ki 1)]),zf 3 31,ze 12 3 6]
def s166_2:=[za 7 0,zac 8 7,zd 9 0 8,zb 10 1 9,zaf 11 3 10 0,zd 12 0 11,zb 13 1 12]
def s166_3:=[zr 15 13 2,za 14 15]
def s166_4:=[za 16 0,zk 17 154 16,zb7 18 2 17,zd 19 4 3,ze 3 19 18]
def s166_5:=[za 20 0,zk 21 111 20,zd 22 7 3,ze 1 22 21]
def s166_6:=[zh 23 12 3,ze 12 2 23]
def s166_7:=[zr 25 13 3,za 24 25]
def s166_8:=[za 27 0,zbf 28 151 27 3,zdn 29 28,zk 30 135 29,za 26 30,zq 31 26 0,zq 32 26 1,za 4 31,za 5 32]
def s166_9:=[za 33 4,zb7 34 3 33,zd 35 4 3,ze 3 35 34]
def s166_10:=[za 36 0,zk 37 111 36,zd 38 7 3,ze 1 38 37]
def s166_11:=[zh 39 12 3,ze 12 2 39]
def s166_12:=[zr 41 13 4,za 40 41]
def s166_13:=[za 42 0,zbf 43 151 42 4,zdn 44 43,q0 45 (.build [.int .i64 0,.int .i64 0,.string ⟨#[]⟩] [(0,1,ki 4),(2,1,.tmp 44)]),zd 46 4 3,ze 3 46 45]
def s166_14:=[zh 47 12 3,ze 12 2 47]
def s166_15:=[zr 49 13 1,za 48 49]
def s166_16:=[za 50 0,zk 51 193 50,ze 12 2 51]
def s166_17:=[za 52 0,q0 53 (.call 77 [.tmp 52,ki 5,ks ⟨#[64]⟩])]
def s166_18:=[za 54 0,zk 55 194 54,ze 12 2 55]
def s166_19:=[za 56 0,zk 57 195 56,ze 12 2 57]
def a166:AC:=Z.r s166_0 [0,2] (Z.r s166_1 [0,2,3] (Z.s (Z.r s166_2 [0,2,3,13] (Z.b 0 (Z.r s166_3 [0,2,3,13,14] (Z.c 14 (Z.r s166_4 [0,2,3] (Z.r s166_5 [2,3] (Z.e s166_6))) (Z.r s166_7 [0,2,3,13,24] (Z.c 24 (Z.r s166_8 [0,2,3,4] (Z.r s166_9 [0,2,3] (Z.r s166_10 [2,3] (Z.e s166_11)))) (Z.r s166_12 [0,2,3,13,40] (Z.c 40 (Z.r s166_13 [2,3] (Z.e s166_14)) (Z.r s166_15 [0,2,48] (Z.c 48 (Z.e s166_16) .skip)))))))))) [0,2] (Z.s (Z.r s166_17 [0,2,53] (Z.c 53 (Z.e s166_18) .skip)) [0,2] (Z.e s166_19))))
def c166:FC:=⟨58,a166.erase,[.cell 2 true 12]⟩
theorem comp166:compF Tryz.prog Tryz.f166=some c166:=by kernel_rfl
theorem era166:c166.code=a166.erase:=rfl
def s167_0:=[zw 1 198 0,zan 2]
def s167_1:=[q0 2 (.mv (ks ⟨#[110,117,108,108]⟩))]
def a167:AC:=Z.r s167_0 [] (Z.e s167_1)
def c167:FC:=⟨3,a167.erase,[.tmp 2]⟩
theorem comp167:compF Tryz.prog Tryz.f167=some c167:=by kernel_rfl
theorem era167:c167.code=a167.erase:=rfl
def s168_0:=[zw 1 198 0,zan 2]
def s168_1:=[zd 3 0 1,zd 4 1 3,zb 5 1 4,zr 6 5 1,zk 7 196 6,za 2 7]
def a168:AC:=Z.r s168_0 [1] (Z.e s168_1)
def c168:FC:=⟨8,a168.erase,[.tmp 2]⟩
theorem comp168:compF Tryz.prog Tryz.f168=some c168:=by kernel_rfl
theorem era168:c168.code=a168.erase:=rfl
def s169_0:=[zw 1 198 0,zan 2]
def s169_1:=[zd 3 0 1,zd 4 1 3,zb 5 1 4,zk 6 71 5,za 2 6]
def a169:AC:=Z.r s169_0 [1] (Z.e s169_1)
def c169:FC:=⟨7,a169.erase,[.tmp 2]⟩
theorem comp169:compF Tryz.prog Tryz.f169=some c169:=by kernel_rfl
theorem era169:c169.code=a169.erase:=rfl
def s170_0:=[zw 1 198 0,zan 2]
def s170_1:=[zd 3 0 1,zd 4 1 3,zb 5 1 4,zk 6 197 5,za 2 6]
def a170:AC:=Z.r s170_0 [1] (Z.e s170_1)
def c170:FC:=⟨7,a170.erase,[.tmp 2]⟩
theorem comp170:compF Tryz.prog Tryz.f170=some c170:=by kernel_rfl
theorem era170:c170.code=a170.erase:=rfl
def s171_0:=[zw 1 198 0,zan 2]
def s171_1:=[zd 3 0 1,zd 4 2 3,zb 5 1 4,q0 6 (.bin .add (ks ⟨#[34]⟩) (.tmp 5)),q0 7 (.bin .add (.tmp 6) (ks ⟨#[34]⟩)),za 2 7]
def a171:AC:=Z.r s171_0 [1] (Z.e s171_1)
def c171:FC:=⟨8,a171.erase,[.tmp 2]⟩
theorem comp171:compF Tryz.prog Tryz.f171=some c171:=by kernel_rfl
theorem era171:c171.code=a171.erase:=rfl
def s172_0:=[zw 1 198 0,zan 2]
def s172_1:=[zd 3 0 1,zd 4 2 3,zb 5 1 4,q0 6 (.bin .add (ks ⟨#[64]⟩) (.tmp 5)),za 2 6]
def a172:AC:=Z.r s172_0 [1] (Z.e s172_1)
def c172:FC:=⟨7,a172.erase,[.tmp 2]⟩
theorem comp172:compF Tryz.prog Tryz.f172=some c172:=by kernel_rfl
theorem era172:c172.code=a172.erase:=rfl
def s173_0:=[zw 1 25 0,zg 2 0]
def s173_1:=[zh 3 3 1,zk 4 198 3,zad 5 4]
def s173_2:=[zg 2 1]
def s173_3:=[zd 6 1 1,zb 7 1 6,zk 8 199 7,zad 9 8,za 10 9,zs 11 0 1 10,zp 12 1 11 10,za6 13 12 4 10,zv 14 13 10,zt 15 2 1 14,zm 16 1 15 14,zch 17 16 14,q1 18 (.bin .gtr (.tmp 17) (ki 64)) 14 true,zbq 19 14 18 10,zn 20 10 19,za 21 20,zs 22 0 1 21,zp 23 1 22 21,za6 24 23 5 21,zv 25 24 21,zt 26 2 1 25,zm 27 1 26 25,zch 28 27 25,q1 29 (.bin .gtr (.tmp 28) (ki 32)) 25 true,zbq 30 25 29 21,zn 31 21 30]
def s173_4:=[zg 2 2]
def s173_5:=[zd 32 0 1,zb 33 1 32,zr 34 33 4,za 35 34,zt 36 2 1 35,zm 37 1 36 35,zbm 38 200 37 35,zbd 39 38 35,zj 40 35 39,za 41 40,zs 42 0 1 41,zp 43 1 42 41,za6 44 43 5 41,zv 45 44 41,zt 46 2 1 45,zm 47 1 46 45,zbm 48 201 47 45,zbd 49 48 45,zbq 50 45 49 41,zn 51 41 50]
def s173_6:=[zg 2 3]
def s173_7:=[zg 2 0]
def a173:AC:=Z.r s173_0 [1] (Z.s (Z.r s173_1 [1,5] (Z.c 5 (Z.e s173_2) .skip)) [1] (Z.s (Z.r s173_3 [1,31] (Z.c 31 (Z.e s173_4) .skip)) [1] (Z.s (Z.r s173_5 [51] (Z.c 51 (Z.e s173_6) .skip)) [] (Z.e s173_7))))
def c173:FC:=⟨52,a173.erase,[.tmp 2]⟩
theorem comp173:compF Tryz.prog Tryz.f173=some c173:=by kernel_rfl
theorem era173:c173.code=a173.erase:=rfl
def s174_0:=[zw 1 28 0,zy 2]
def s174_1:=[zd 3 0 1,zb 4 1 3,zr 5 4 1]
def s174_2:=[zd 6 1 1,zb 7 1 6,zr 8 7 0,za 2 8]
def s174_3:=[zd 9 0 1,zb 10 1 9,zar 11 10 1,za 12 11,zt 13 0 1 12,zm 14 1 13 12,zbx 15 14 4 12,zj 16 12 15,za 17 16,zt 18 1 1 17,zm 19 1 18 17,zcr 20 19 1 17,zj 21 17 20,za 22 21,zt 23 1 1 22,zm 24 1 23 22,zbx 25 24 1099511627776 22,zj 26 22 25,za 2 26]
def a174:AC:=Z.r s174_0 [1] (Z.s (Z.r s174_1 [1,5] (Z.c 5 (Z.e s174_2) .skip)) [1] (Z.e s174_3))
def c174:FC:=⟨27,a174.erase,[.tmp 2]⟩
theorem comp174:compF Tryz.prog Tryz.f174=some c174:=by kernel_rfl
theorem era174:c174.code=a174.erase:=rfl
def s183_0:=[q0 2 (.alloc 212 (.agg #[.int .i64 0,.int .u64 0]))]
def s183_1:=[za 3 0,q0 4 (.bin .shr (.tmp 3) (.const (.int .u64 63))),za 5 0,zck 6 5,q0 7 (.build [.int .i64 0,.int .u64 0] [(0,1,.tmp 4),(1,1,.tmp 6)]),ze 2 2 7]
def a183:AC:=Z.r s183_0 [0,2] (Z.e s183_1)
def c183:FC:=⟨8,a183.erase,[.cell 2 true 2]⟩
theorem comp183:compF Tryz.prog Tryz.f183=some c183:=by kernel_rfl
theorem era183:c183.code=a183.erase:=rfl
def s185_0:=[zw 2 212 0,zg 4 0,zy 5]
def s185_1:=[za 10 1,zr 11 10 0]
def s185_2:=[zg 4 0,zy 5]
def s185_3:=[zh 12 2 2,zk 13 210 12,za 14 1,zk 15 183 14,zk 16 210 15,q0 17 (.extq (.index 239 (.tmp 16) (ki 0)) 210 [] [.tmp 16,ki 0]),q0 6 (.alloc 239 (.agg #[.int .u64 0,.int .u64 0])),ze 2 6 13,za 7 17]
def s185_4:=[q0 18 (.iaddrA 2 1 (.tmp 6) (ki 1)),zb 19 1 18,za 20 7,zcn 21 19 20]
def s185_5:=[zg 4 0,zy 5]
def s185_6:=[q0 23 (.iaddrA 2 1 (.tmp 6) (ki 1)),zb 24 1 23,q0 25 (.iaddrA 2 1 (.tmp 6) (ki 0)),zb 26 1 25,za 27 7,za5 28 211 24 26 27,za 22 28,zq 29 22 0,zq 30 22 1,za 8 29,za 9 30]
def s185_7:=[za 31 9,za 32 7,za 33 9,zal 34 32 33,zbh 35 31 34,za 36 35,zv 37 9 36,zv 38 7 36,zv 39 9 36,q1 40 (.bin .sub (.tmp 38) (.tmp 39)) 36 false,q1 41 (.bin .eql (.tmp 37) (.tmp 40)) 36 false,zv 42 41 36,zl 43 8 42,q1 44 (.bin .rem (.tmp 43) (.const (.int .u64 2))) 42 true,q1 45 (.bin .eql (.tmp 44) (.const (.int .u64 1))) 42 true,zbq 46 42 45 36,zn 47 36 46]
def s185_8:=[za 48 8,q0 49 (.bin .eql (.tmp 48) (.const (.int .u64 18446744073709551615)))]
def s185_9:=[zg 4 0,zy 5]
def s185_10:=[za 50 8,q0 51 (.bin .add (.tmp 50) (.const (.int .u64 1))),za 8 51]
def s185_11:=[za 52 8,q0 53 (.bin .gtr (.tmp 52) (.const (.int .u64 1152921504606846976)))]
def s185_12:=[zg 4 0,zy 5]
def s185_13:=[zd 54 0 2,zb 55 1 54,zat 56 55 0,za 57 1,zat 58 57 0,q0 59 (.eqb true .bool (.tmp 56) (.tmp 58))]
def s185_14:=[za 60 8,zcc 61 60,q0 62 (.un .neg (.tmp 61)),za 4 62,zbe 5]
def s185_15:=[za 63 8,zcc 64 63,za 4 64,zbe 5]
def a185:AC:=Z.r s185_0 [1,2] (Z.s (Z.r s185_1 [1,2,11] (Z.c 11 (Z.e s185_2) .skip)) [1,2] (Z.r s185_3 [1,2,6,7] (Z.s (Z.r s185_4 [1,2,6,7,21] (Z.c 21 (Z.e s185_5) .skip)) [1,2,6,7] (Z.r s185_6 [1,2,7,8,9] (Z.s (Z.r s185_7 [1,2,8,47] (Z.c 47 (Z.s (Z.r s185_8 [1,2,8,49] (Z.c 49 (Z.e s185_9) .skip)) [1,2,8] (Z.g s185_10)) .skip)) [1,2,8] (Z.s (Z.r s185_11 [1,2,8,53] (Z.c 53 (Z.e s185_12) .skip)) [1,2,8] (Z.s (Z.r s185_13 [8,59] (Z.c 59 (Z.e s185_14) .skip)) [8] (Z.e s185_15))))))))
def c185:FC:=⟨65,a185.erase,[.tmp 4,.tmp 5]⟩
theorem comp185:compF Tryz.prog Tryz.f185=some c185:=by kernel_rfl
theorem era185:c185.code=a185.erase:=rfl
def s193_0:=[zf 2 31]
def s193_1:=[za 5 0,zac 6 5,zd 7 0 6,zb 8 1 7,zaf 9 3 8 0,zd 10 1 9,zb 11 1 10,za 3 11]
def s193_2:=[za 12 3]
def s193_3:=[q0 14 (.bin .eql (.tmp 12) (ks ⟨#[116,114,117,101]⟩)),za 13 14]
def s193_4:=[q0 15 (.bin .eql (.tmp 12) (ks ⟨#[102,97,108,115,101]⟩)),za 13 15]
def s193_5:=[za 16 0,za 17 0,zac 18 17,zd 19 0 18,zb 20 1 19,zbp 21 20 1,zac 22 16,zd 23 0 22,ze 1 23 21]
def s193_6:=[za 24 3,za7 25 24,q0 26 (.bin .sub (ki 5) (.tmp 25)),zk 27 219 26,ze 12 2 27]
def s193_7:=[q0 29 (.bin .eql (.tmp 12) (ks ⟨#[110,117,108,108]⟩)),za 28 29]
def s193_8:=[za 30 0,za 31 0,zac 32 31,zd 33 0 32,zb 34 1 33,zbp 35 34 1,zac 36 30,zd 37 0 36,ze 1 37 35]
def s193_9:=[za 38 3,za 39 0,zk 40 195 39,q0 41 (.mksl 31 12 [.tmp 40]),zah 42 6 38 41,ze 12 2 42]
def s193_10:=[zc1 44 12,za 43 44]
def s193_11:=[q0 45 (.bin .eql (.tmp 12) (ks ⟨#[115,117,109]⟩)),za 43 45]
def s193_12:=[q0 46 (.bin .eql (.tmp 12) (ks ⟨#[109,101,97,110]⟩)),za 43 46]
def s193_13:=[q0 47 (.bin .eql (.tmp 12) (ks ⟨#[109,105,110]⟩)),za 43 47]
def s193_14:=[q0 48 (.bin .eql (.tmp 12) (ks ⟨#[109,97,120]⟩)),za 43 48]
def s193_15:=[q0 49 (.bin .eql (.tmp 12) (ks ⟨#[102,105,114,115,116]⟩)),za 43 49]
def s193_16:=[q0 50 (.bin .eql (.tmp 12) (ks ⟨#[108,97,115,116]⟩)),za 43 50]
def s193_17:=[zdk 51 12,za 43 51]
def s193_18:=[zbl 52 12,za 43 52]
def s193_19:=[zcj 53 12,za 43 53]
def s193_20:=[za 54 0,zac 55 54,zd 56 1 55,zb 57 1 56,zad 58 57]
def s193_21:=[za 59 0,za 60 0,zac 61 60,zd 62 0 61,zb 63 1 62,zbp 64 63 1,zac 65 59,zd 66 0 65,ze 1 66 64]
def s193_22:=[za 67 0,za 68 3,zae 69 220 67 68,ze 12 2 69]
def s193_23:=[za 70 0,zk 71 110 70,za 4 71]
def s193_24:=[za 73 0,zac 74 73,zd 75 1 74,zb 76 1 75,za 72 76]
def s193_25:=[za 77 4,zak 78 2 77,ze 12 2 78]
def s193_26:=[za 80 0,q0 81 (.call 77 [.tmp 80,ki 1,ks ⟨#[111,102]⟩]),za 79 81]
def s193_27:=[za 82 4,za 83 0,zk 84 195 83,q0 85 (.mksl 31 12 [.tmp 84]),q0 86 (.build [.int .i64 0,.string ⟨#[]⟩,.string ⟨#[]⟩,.string ⟨#[]⟩,.int .i64 0,.int .i64 0,.string ⟨#[]⟩,.slice none 0 0,.int .i64 0,.int .i64 0,.int .i64 0,.slice none 0 0] [(0,1,ki 4),(2,1,.tmp 82),(11,1,.tmp 85)]),ze 12 2 86]
def s193_28:=[za 87 4,zak 88 3 87,ze 12 2 88]
def a193:AC:=Z.r s193_0 [0,2] (Z.s (Z.r s193_1 [0,2,3] (Z.r s193_2 [0,2,3,12] (Z.b 0 (Z.s (Z.r s193_3 [0,2,3,12,13] (Z.c 13 .skip (Z.g s193_4))) [0,2,3,12,13] (Z.c 13 (Z.r s193_5 [2,3] (Z.e s193_6)) (Z.r s193_7 [0,2,3,12,28] (Z.c 28 (Z.r s193_8 [0,2,3] (Z.e s193_9)) (Z.s (Z.r s193_10 [0,2,3,12,43] (Z.c 43 .skip (Z.r s193_11 [0,2,3,12,43] (Z.c 43 .skip (Z.r s193_12 [0,2,3,12,43] (Z.c 43 .skip (Z.r s193_13 [0,2,3,12,43] (Z.c 43 .skip (Z.r s193_14 [0,2,3,12,43] (Z.c 43 .skip (Z.r s193_15 [0,2,3,12,43] (Z.c 43 .skip (Z.r s193_16 [0,2,3,12,43] (Z.c 43 .skip (Z.r s193_17 [0,2,3,12,43] (Z.c 43 .skip (Z.r s193_18 [0,2,3,12,43] (Z.c 43 .skip (Z.g s193_19))))))))))))))))))) [0,2,3,43] (Z.c 43 (Z.r s193_20 [0,2,3,58] (Z.c 58 (Z.r s193_21 [0,2,3] (Z.e s193_22)) .skip)) .skip))))))))) [0,2] (Z.r s193_23 [0,2,4] (Z.s (Z.b 1 (Z.r s193_24 [0,2,4,72] (Z.c 72 (Z.e s193_25) (Z.r s193_26 [0,2,4,79] (Z.c 79 (Z.e s193_27) .skip))))) [2,4] (Z.e s193_28))))
def c193:FC:=⟨89,a193.erase,[.cell 2 true 12]⟩
theorem comp193:compF Tryz.prog Tryz.f193=some c193:=by kernel_rfl
theorem era193:c193.code=a193.erase:=rfl
def s194_0:=[zf 2 31]
def s194_1:=[za 5 0,zk 6 110 5,zak 7 1 6,zf 3 31,ze 12 3 7]
def s194_2:=[za 8 0,zbf 9 151 8 4,zbu 4 98,ze 3 4 9]
def s194_3:=[zd 10 1 4,zb 11 1 10,za7 12 11,zat 13 12 1,za 14 13,zs 15 1 4 14,zp 16 1 15 14,zb0 17 16 14,zaq 18 17 32 14,zn 19 14 18,za 20 19,zs 21 1 4 20,zp 22 1 21 20,q1 23 (.extq (.convert 9 22 (.tmp 22)) 22 [.str,.other,.sl 5,.int .u8] [.tmp 22]) 20 false,q1 24 (.call 221 [.tmp 23,.const (.int .u8 32)]) 20 false,zn 25 20 24]
def s194_4:=[zd 26 2 4,zb 27 1 26,q0 28 (.build [.int .i64 0,.int .i64 0] [(0,1,.tmp 27),(1,1,ki 3)]),zc6 29 28,q0 30 (.mkifc 135 (.tmp 29)),.mk none (.panic (.tmp 30)) none]
def s194_5:=[zd 31 1 4,zb 32 1 31,q0 33 (.build [.int .i64 0,.int .i64 0,.string ⟨#[]⟩] [(0,1,ki 5),(2,1,.tmp 32)]),zd 34 4 3,ze 3 34 33]
def s194_6:=[zh 35 12 3,ze 12 2 35]
def a194:AC:=Z.r s194_0 [0,2] (Z.r s194_1 [0,2,3] (Z.r s194_2 [2,3,4] (Z.s (Z.r s194_3 [2,3,4,25] (Z.c 25 (Z.g s194_4) .skip)) [2,3,4] (Z.r s194_5 [2,3] (Z.e s194_6)))))
def c194:FC:=⟨36,a194.erase,[.cell 2 true 12]⟩
theorem comp194:compF Tryz.prog Tryz.f194=some c194:=by kernel_rfl
theorem era194:c194.code=a194.erase:=rfl
def s195_0:=[zf 2 31]
def s195_1:=[za 4 0,q0 5 (.call 155 [.tmp 4,ks ⟨#[40]⟩])]
def s195_2:=[za 6 0,zk 7 38 6,zf 3 31,ze 12 3 7]
def s195_3:=[za 8 0,q0 9 (.call 155 [.tmp 8,ks ⟨#[41]⟩])]
def s195_4:=[zh 10 12 3,ze 12 2 10]
def a195:AC:=Z.r s195_0 [0,2] (Z.r s195_1 [0,2] (Z.r s195_2 [0,2,3] (Z.r s195_3 [2,3] (Z.e s195_4))))
def c195:FC:=⟨11,a195.erase,[.cell 2 true 12]⟩
theorem comp195:compF Tryz.prog Tryz.f195=some c195:=by kernel_rfl
theorem era195:c195.code=a195.erase:=rfl
def s197_0:=[zan 2]
def s197_1:=[za 6 0,zk 7 71 6,za 3 7]
def s197_2:=[zan 4]
def s197_3:=[za 8 0,zat 9 8 0]
def s197_4:=[ed 0 (za 10 3) [],ed 1 (q0 11 (.extq (.slice 9 (.tmp 10) (some (ki 1)) none none) 9 [.str] [.tmp 10,ki 1])) [],ed 2 (q0 4 (.mv (ks ⟨#[45]⟩))) [],ed 3 (za 3 11) []]
def s197_5:=[za 12 3,za7 13 12,zbr 14 13 6]
def s197_6:=[za 15 3,q0 16 (.bin .add (ks ⟨#[48]⟩) (.tmp 15)),za 3 16]
def s197_7:=[za 17 3,za7 18 17,zz 19 18 6,za 5 19]
def s197_8:=[za 20 4,za 21 3,za 22 5,q0 23 (.extq (.slice 9 (.tmp 21) none (some (.tmp 22)) none) 9 [.str] [.tmp 21,.tmp 22]),zab 24 20 23,q0 25 (.bin .add (.tmp 24) (ks ⟨#[46]⟩)),za 26 3,za 27 5,q0 28 (.extq (.slice 9 (.tmp 26) (some (.tmp 27)) none none) 9 [.str] [.tmp 26,.tmp 27]),zab 29 25 28,za 2 29]
def a197:AC:=Z.r s197_0 [0] (Z.r s197_1 [0,3] (Z.r s197_2 [0,3,4] (Z.s (Z.r s197_3 [3,4,9] (Z.c 9 (.mreg [] s197_4) .skip)) [3,4] (Z.s (Z.b 0 (Z.l [3,4] (Z.s (Z.r s197_5 [3,4,14] (Z.c 14 .skip (.exit 0))) [3,4] (Z.b 1 (Z.g s197_6))))) [3,4] (Z.r s197_7 [3,4,5] (.seq (.dreg s197_8) .ret))))))
def c197:FC:=⟨30,a197.erase,[.tmp 2]⟩
theorem comp197:compF Tryz.prog Tryz.f197=some c197:=by kernel_rfl
theorem era197:c197.code=a197.erase:=rfl
def s198_0:=[zw 1 25 0,zy 2]
def s198_1:=[zd 3 0 1,zb 4 1 3]
def s198_2:=[zr 6 4 0,za 5 6]
def s198_3:=[zd 7 1 1,zb 8 1 7,zr 9 8 0,za 10 9,zt 11 2 1 10,zm 12 1 11 10,zb6 13 12 10,zj 14 10 13,za 2 14]
def s198_4:=[zr 16 4 1,za 15 16]
def s198_5:=[zd 17 1 1,zb 18 1 17,zr 19 18 0,za 20 19,zs 21 1 1 20,zp 22 1 21 20,za6 23 22 1 20,zn 24 20 23,za 25 24,zt 26 2 1 25,zm 27 1 26 25,zb6 28 27 25,zj 29 25 28,za 2 29]
def s198_6:=[zr 31 4 2,za 30 31]
def s198_7:=[zr 32 4 3,za 30 32]
def s198_8:=[zd 33 2 1,zb 34 1 33,zcv 35 34,za 2 35]
def s198_9:=[zr 37 4 4,za 36 37]
def s198_10:=[zr 38 4 5,za 36 38]
def s198_11:=[zd 39 1 1,zb 40 1 39,zr 41 40 0,za 2 41]
def s198_12:=[zy 2]
def a198:AC:=Z.r s198_0 [1] (Z.s (Z.r s198_1 [1,4] (Z.b 0 (Z.r s198_2 [1,4,5] (Z.c 5 (Z.e s198_3) (Z.r s198_4 [1,4,15] (Z.c 15 (Z.e s198_5) (Z.s (Z.r s198_6 [1,4,30] (Z.c 30 .skip (Z.g s198_7))) [1,4,30] (Z.c 30 (Z.e s198_8) (Z.s (Z.r s198_9 [1,4,36] (Z.c 36 .skip (Z.g s198_10))) [1,36] (Z.c 36 (Z.e s198_11) .skip)))))))))) [] (Z.e s198_12))
def c198:FC:=⟨42,a198.erase,[.tmp 2]⟩
theorem comp198:compF Tryz.prog Tryz.f198=some c198:=by kernel_rfl
theorem era198:c198.code=a198.erase:=rfl
def s199_0:=[zy 2]
def s199_1:=[za 3 0,q0 4 (.bin .geq (.tmp 3) (.const (.int .i64 (-1152921504606846976)))),za 5 4,zl 6 0 5,zbx 7 6 1152921504606846976 5,zj 8 5 7,za 2 8]
def a199:AC:=Z.r s199_0 [0] (Z.e s199_1)
def c199:FC:=⟨9,a199.erase,[.tmp 2]⟩
theorem comp199:compF Tryz.prog Tryz.f199=some c199:=by kernel_rfl
theorem era199:c199.code=a199.erase:=rfl
def s200_0:=[zy 2]
def s200_1:=[za 3 0,za7 4 3,zbr 5 4 64,za 6 5,zl 7 0 6,q1 8 (.call 223 [.tmp 7,.const (.int .u8 32)]) 6 true,zj 9 6 8,za 2 9]
def a200:AC:=Z.r s200_0 [0] (Z.e s200_1)
def c200:FC:=⟨10,a200.erase,[.tmp 2]⟩
theorem comp200:compF Tryz.prog Tryz.f200=some c200:=by kernel_rfl
theorem era200:c200.code=a200.erase:=rfl
def s201_0:=[zy 2]
def s201_1:=[za 3 0,zcw 4 3,za 5 4,zl 6 0 5,zch 7 6 5,zbx 8 7 32 5,zj 9 5 8,za 10 9,zl 11 0 10,q1 12 (.call 223 [.tmp 11,.const (.int .u8 33)]) 10 true,zj 13 10 12,za 2 13]
def a201:AC:=Z.r s201_0 [0] (Z.e s201_1)
def c201:FC:=⟨14,a201.erase,[.tmp 2]⟩
theorem comp201:compF Tryz.prog Tryz.f201=some c201:=by kernel_rfl
theorem era201:c201.code=a201.erase:=rfl
def s212_0:=[zg 10 0]
def s212_1:=[za 11 10,za 12 3,zu 13 11 12]
def s212_2:=[ed 0 (za 16 0) [],ed 1 (za 17 1) [],ed 2 (za 18 10) [],ed 3 (zab 19 17 18) [],ed 4 (za 20 0) [],ed 5 (za 21 2) [],ed 6 (za 22 10) [],ed 7 (zab 23 21 22) [],ed 8 (za 24 0) [],ed 9 (za 25 2) [],ed 10 (za 26 10) [],ed 11 (zab 27 25 26) [],ed 12 (zi 28 2 24 27) [],ed 13 (zh 29 2 28) [],ed 14 (za 30 0) [],ed 15 (za 31 1) [],ed 16 (za 32 10) [],ed 17 (zab 33 31 32) [],ed 18 (zi 34 2 30 33) [],ed 19 (zh 35 2 34) [],ed 20 (zi 36 2 16 19) [],ed 21 (ze 2 36 29) [0],ed 22 (zi 37 2 20 23) [],ed 23 (ze 2 37 35) [0]]
def s212_3:=[za 14 10,zo 15 14 1,za 10 15]
def a212:AC:=Z.r s212_0 [0,1,2,3,10] (Z.b 0 (Z.l [0,1,2,3,10] (Z.s (Z.r s212_1 [0,1,2,3,10,13] (Z.c 13 .skip (.exit 0))) [0,1,2,3,10] (Z.s (Z.b 1 (.mreg [] s212_2)) [0,1,2,3,10] (Z.g s212_3)))))
def c212:FC:=⟨38,a212.erase,[]⟩
def s219_0:=[zf 2 31]
def s219_1:=[za 3 0,zb7 4 1 3,zap 5 1 4,ze 12 2 5]
def a219:AC:=Z.r s219_0 [0,2] (Z.e s219_1)
def c219:FC:=⟨6,a219.erase,[.cell 2 true 12]⟩
theorem comp219:compF Tryz.prog Tryz.f219=some c219:=by kernel_rfl
theorem era219:c219.code=a219.erase:=rfl
def s220_0:=[zf 4 31]
def s220_1:=[za 6 1,q0 7 (.call 219 [ki 1]),q0 8 (.call 219 [ki 1]),zb8 9 31 7 8,zah 10 5 6 9,zf 5 31,ze 12 5 10]
def s220_2:=[za 11 0,q0 12 (.call 155 [.tmp 11,ks ⟨#[40]⟩])]
def s220_3:=[za 13 0,zk 14 110 13,zd 15 3 5,ze 1 15 14]
def s220_4:=[za 16 0,zdi 17 155 16]
def s220_5:=[za 18 0,zac 19 18,zd 20 1 19,.mk none (.store 1 (.tmp 20) kT) none]
def s220_6:=[za 21 1,q0 22 (.bin .neq (.tmp 21) (ks ⟨#[99,111,117,110,116]⟩))]
def s220_7:=[ed 0 (zd 23 11 5) [],ed 1 (zb 24 1 23) [],ed 2 (za 25 0) [],ed 3 (zk 26 38 25) [],ed 4 (zaf 27 12 24 0) [26],ed 5 (ze 12 27 26) []]
def s220_8:=[za 28 0,zdi 29 155 28]
def s220_9:=[za 30 1,zbl 31 30,za 32 31,zv 33 1 32,q1 34 (.bin .eql (.tmp 33) (ks ⟨#[100,101,99,97,121]⟩)) 32 false,zn 35 32 34]
def s220_10:=[za 36 0,zk 37 154 36,zd 38 8 5,ze 1 38 37]
def s220_11:=[za 39 0,zdi 40 155 39]
def s220_12:=[za 41 0,zk 42 234 41,zd 43 9 5,ze 2 43 42]
def s220_13:=[za 44 0,q0 45 (.call 77 [.tmp 44,ki 1,ks ⟨#[119,104,101,114,101]⟩])]
def s220_14:=[ed 0 (zd 46 11 5) [],ed 1 (zb 47 1 46) [],ed 2 (za 48 0) [],ed 3 (zk 49 38 48) [],ed 4 (zaf 50 12 47 1) [49],ed 5 (ze 12 50 49) []]
def s220_15:=[za 51 0,zac 52 51,zd 53 1 52,.mk none (.store 1 (.tmp 53) kF) none]
def s220_16:=[za 54 0,q0 55 (.call 155 [.tmp 54,ks ⟨#[41]⟩])]
def s220_17:=[zh 56 12 5,ze 12 4 56]
def a220:AC:=Z.r s220_0 [0,1,4] (Z.r s220_1 [0,1,4,5] (Z.r s220_2 [0,1,4,5] (Z.r s220_3 [0,1,4,5] (Z.r s220_4 [0,1,4,5] (Z.r s220_5 [0,1,4,5] (Z.s (Z.r s220_6 [0,1,4,5,22] (Z.c 22 (Z.s (.mreg [] s220_7) [0,1,4,5] (Z.g s220_8)) .skip)) [0,1,4,5] (Z.s (Z.r s220_9 [0,4,5,35] (Z.c 35 (Z.r s220_10 [0,4,5] (Z.g s220_11)) .skip)) [0,4,5] (Z.r s220_12 [0,4,5] (Z.s (Z.r s220_13 [0,4,5,45] (Z.c 45 (.mreg [] s220_14) .skip)) [0,4,5] (Z.r s220_15 [0,4,5] (Z.r s220_16 [4,5] (Z.e s220_17))))))))))))
def c220:FC:=⟨57,a220.erase,[.cell 4 true 12]⟩
theorem comp220:compF Tryz.prog Tryz.f220=some c220:=by kernel_rfl
theorem era220:c220.code=a220.erase:=rfl
def s221_0:=[zy 4]
def s221_1:=[za 5 0,za 6 1,zae 7 235 5 6,za8 8 7 0,za 4 8]
def a221:AC:=Z.r s221_0 [0,1] (Z.e s221_1)
def c221:FC:=⟨9,a221.erase,[.tmp 4]⟩
theorem comp221:compF Tryz.prog Tryz.f221=some c221:=by kernel_rfl
theorem era221:c221.code=a221.erase:=rfl
def s223_0:=[zy 4]
def s223_1:=[zg 5 0]
def s223_2:=[za 6 5,za 7 0,za7 8 7,zu 9 6 8]
def s223_3:=[za 12 0,za 13 5,zbz 14 12 13,za 15 1,zu 16 14 15,za 17 16,zv 18 0 17,zv 19 5 17,q1 20 (.idxs (.tmp 18) (.tmp 19)) 17 false,zc3 21 20 17,zn 22 17 21,za 23 22,zv 24 0 23,zv 25 5 23,q1 26 (.idxs (.tmp 24) (.tmp 25)) 23 false,q1 27 (.bin .eql (.tmp 26) (.const (.int .u8 34))) 23 false,zn 28 23 27,za 29 28,zv 30 0 29,zv 31 5 29,q1 32 (.idxs (.tmp 30) (.tmp 31)) 29 false,zc7 33 32 29,zn 34 29 33]
def s223_4:=[zy 4]
def s223_5:=[za 10 5,zo 11 10 1,za 5 11]
def s223_6:=[zbe 4]
def a223:AC:=Z.r s223_0 [0,1] (Z.s (Z.r s223_1 [0,1,5] (Z.b 0 (Z.l [0,1,5] (Z.s (Z.r s223_2 [0,1,5,9] (Z.c 9 .skip (.exit 0))) [0,1,5] (Z.s (Z.b 1 (Z.r s223_3 [0,1,5,34] (Z.c 34 (Z.e s223_4) .skip))) [0,1,5] (Z.g s223_5)))))) [] (Z.e s223_6))
def c223:FC:=⟨35,a223.erase,[.tmp 4]⟩
theorem comp223:compF Tryz.prog Tryz.f223=some c223:=by kernel_rfl
theorem era223:c223.code=a223.erase:=rfl
def s229_0:=[zw 1 212 0,q0 2 (.alloc 212 (.agg #[.int .i64 0,.int .u64 0]))]
def s229_1:=[q0 3 (.build [.int .i64 0,.int .u64 0] []),zh 4 2 1,zae 5 248 3 4,ze 2 2 5]
def a229:AC:=Z.r s229_0 [1,2] (Z.e s229_1)
def s234_0:=[zct 2 28]
def s234_1:=[za 4 0,q0 5 (.call 77 [.tmp 4,ki 1,ks ⟨#[97,108,108]⟩]),za 3 5]
def s234_2:=[q0 6 (.build [.int .i64 0,.int .i64 0] [(0,1,ki 1)]),ze 2 2 6]
def s234_3:=[za 8 0,q0 9 (.call 77 [.tmp 8,ki 1,ks ⟨#[115,108,105,100,105,110,103]⟩]),za 7 9]
def s234_4:=[za 10 0,zk 11 154 10,zco 12 2 11,ze 2 2 12]
def s234_5:=[za 14 0,q0 15 (.call 77 [.tmp 14,ki 1,ks ⟨#[116,117,109,98,108,105,110,103]⟩]),za 13 15]
def s234_6:=[za 16 0,zk 17 154 16,zco 18 3 17,ze 2 2 18]
def s234_7:=[za 19 0,q0 20 (.call 78 [.tmp 19,ks ⟨#[115,101,115,115,105,111,110]⟩])]
def s234_8:=[za 21 0,zk 22 154 21,zco 23 4 22,ze 2 2 23]
def a234:AC:=Z.r s234_0 [0,2] (Z.s (Z.b 0 (Z.r s234_1 [0,2,3] (Z.c 3 (Z.e s234_2) (Z.r s234_3 [0,2,7] (Z.c 7 (Z.e s234_4) (Z.r s234_5 [0,2,13] (Z.c 13 (Z.e s234_6) .skip))))))) [0,2] (Z.r s234_7 [0,2] (Z.e s234_8)))
def c234:FC:=⟨24,a234.erase,[.cell 2 true 2]⟩
theorem comp234:compF Tryz.prog Tryz.f234=some c234:=by kernel_rfl
theorem era234:c234.code=a234.erase:=rfl
def s235_0:=[zg 4 0]
def s235_1:=[za 6 0,zx 7 6,zg 8 0]
def s235_2:=[zu 9 8 7]
def s235_3:=[za 10 8,za 5 10]
def s235_4:=[za 11 1,za 12 0,za 13 5,zi 14 1 12 13,zb 15 1 14,zbg 16 11 15]
def s235_5:=[za 17 5,za 4 17]
def s235_6:=[zo 18 8 1,za 8 18]
def s235_7:=[zbc 4]
def a235:AC:=Z.r s235_0 [0,1] (Z.s (Z.r s235_1 [0,1,7,8] (Z.b 0 (Z.l [0,1,7,8] (Z.r s235_2 [0,1,7,8,9] (Z.s (Z.c 9 .skip (.exit 0)) [0,1,7,8] (Z.s (Z.b 1 (Z.r s235_3 [0,1,5,7,8] (Z.r s235_4 [0,1,5,7,8,16] (Z.c 16 (Z.e s235_5) .skip)))) [0,1,7,8] (Z.g s235_6))))))) [] (Z.e s235_7))
def c235:FC:=⟨19,a235.erase,[.tmp 4]⟩
theorem comp235:compF Tryz.prog Tryz.f235=some c235:=by kernel_rfl
theorem era235:c235.code=a235.erase:=rfl
end Go.Proofs.YtbihckigennlhaaGreatDoor
