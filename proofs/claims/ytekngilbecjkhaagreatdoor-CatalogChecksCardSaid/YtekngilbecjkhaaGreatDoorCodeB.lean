/- The compiled code of functions, printed by a program of mine. -/
import Derived.Test.YtekngilbecjkhaaGreatDoorCodeA
import Derived.Test.YtekngilbecjkhaaGreatDoorRows
set_option linter.unusedVariables false
namespace Go.Proofs.YtekngilbecjkhaaGreatDoor
open Go.Sx
def s102_0:=[zt 1 37 0,zh 2 0]
def s102_1:=[zh 3 0]
def s102_2:=[zh 4 0]
def s102_3:=[za 5 4,zc 6 11 1,zb 7 1 6,zu 8 7,zs 9 5 8]
def s102_4:=[za 12 3,zc 13 11 1,zb 14 1 13,za 15 4,zf 16 12 14 15,ze 17 12 16,zw 18 102 17,q0 19 (.max2 (.tmp 12) (.tmp 18)),za 3 19]
def s102_5:=[za 10 4,zn 11 10 1,za 4 11]
def s102_6:=[za 20 3,zn 21 20 1,za 2 21]
def a102:AC:=Z.r s102_0 [1] (Z.r s102_1 [1,3] (Z.s (Z.r s102_2 [1,3,4] (Z.b 0 (Z.l [1,3,4] (Z.s (Z.r s102_3 [1,3,4,9] (Z.c 9 .skip (.exit 0))) [1,3,4] (Z.s (Z.b 1 (Z.g s102_4)) [1,3,4] (Z.g s102_5)))))) [3] (Z.e s102_6)))
def c102:FC:=⟨22,a102.erase,[.tmp 2]⟩
theorem comp102:compF Tryz.prog Tryz.f102=some c102:=by kernel_rfl
theorem era102:c102.code=a102.erase:=rfl
def s103_0:=[zt 2 37 0,zac 4]
def s103_1:=[ze 9 12 2,za 10 1,zq 11 130 9 10,za 8 11,zi 12 8 0,zi 13 8 1,za 5 12,za 6 13]
def s103_2:=[za 14 6,zae 15 14,za 16 15,zp 17 11 2 16,zm 18 1 17 16,zao 19 18 16,zv 20 5 16,za2 21 19 20 16,zk 22 16 21]
def s103_3:=[zac 4]
def s103_4:=[zh 7 0]
def s103_5:=[za 23 7,za 24 5,zs 25 23 24]
def s103_6:=[zc 28 11 2,zb 29 1 28,za 30 7,zf 31 12 29 30,ze 32 12 31,za 33 1,za 34 33,zp 35 0 2 34,zm 36 1 35 34,za8 37 36 5 34,zk 38 34 37,zq 39 103 32 38,zae 40 39]
def s103_7:=[zac 4]
def s103_8:=[za 26 7,zn 27 26 1,za 7 27]
def s103_9:=[zc 41 0 2,zb 42 1 41,zaf 43 42 5,za 44 43,zp 45 1 2 44,zm 46 1 45 44,q1 47 (.bin .neq (.tmp 46) (ks ⟨#[99,111,117,110,116]⟩)) 44 false,zk 48 44 47,za 49 48,zp 50 11 2 49,zm 51 1 50 49,q1 52 (.iaddr 12 (.tmp 51) (ki 0)) 49 false,za0 53 12 52 49,q1 54 (.call 132 []) 49 false,za7 55 131 53 54 49,zk 56 49 55,za 4 56]
def a103:AC:=Z.r s103_0 [1,2] (Z.r s103_1 [1,2,5,6] (Z.s (Z.r s103_2 [1,2,5,22] (Z.c 22 (Z.e s103_3) .skip)) [1,2,5] (Z.s (Z.r s103_4 [1,2,5,7] (Z.b 0 (Z.l [1,2,5,7] (Z.s (Z.r s103_5 [1,2,5,7,25] (Z.c 25 .skip (.exit 0))) [1,2,5,7] (Z.s (Z.b 1 (Z.d s103_6 [1,2,5,7,40] (Z.c 40 (Z.e s103_7) .skip))) [1,2,5,7] (Z.g s103_8)))))) [2] (.seq (.dreg s103_9) .ret))))
def c103:FC:=⟨57,a103.erase,[.tmp 4]⟩
theorem comp103:compF Tryz.prog Tryz.f103=some c103:=by kernel_rfl
theorem era103:c103.code=a103.erase:=rfl
def s104_0:=[zt 2 132 0,zt 3 37 1,zaa 4 47,zh 5 0]
def s104_1:=[ze 13 9 2,za3 6 132,zd 9 6 13]
def s104_2:=[zc 14 0 3,zb 15 1 14,zy 16 15 5]
def s104_3:=[ze 18 9 2,zc 19 3 3,zb 20 1 19,zq 21 133 18 20,za 17 21,zi 22 17 0,zi 23 17 1,za3 7 132,zd 9 7 22,za 8 23]
def s104_4:=[za 24 8,zaf 25 24 0]
def s104_5:=[zaj 26,za 27 8,zd 3 4 26,za 5 27]
def s104_6:=[ze 28 9 7,zd 9 6 28]
def s104_7:=[zx 9]
def s104_8:=[zh 10 0]
def s104_9:=[za 29 10,zc 30 11 3,zb 31 1 30,zu 32 31,zs 33 29 32]
def s104_10:=[ed 0 (ze 37 9 6) [],ed 1 (zc 38 11 3) [],ed 2 (zb 39 1 38) [],ed 3 (za 40 10) [],ed 4 (zf 41 12 39 40) [],ed 5 (ze 42 12 41) [],ed 6 (zq 43 104 37 42) [],ed 7 (za 36 43) [],ed 8 (zi 44 36 0) [],ed 9 (zi 45 36 1) [],ed 10 (zaa 11 47) [],ed 11 (zd 3 11 44) [11],ed 12 (za 12 45) []]
def s104_11:=[za 46 12,zaf 47 46 0]
def s104_12:=[zaj 48,za 49 12,zd 3 4 48,za 5 49]
def s104_13:=[za 50 9,ze 51 3 11,q0 52 (.mksl 47 3 [.tmp 51]),zck 53 47 50 52,za 9 53]
def s104_14:=[za 34 10,zn 35 34 1,za 10 35]
def s104_15:=[ze 54 9 2,ze 55 12 3,za 56 9,zan 57 134 54 55 56,zi 58 57 0,zi 59 57 1,zd 3 4 58,za 5 59]
def a104:AC:=Z.r s104_0 [2,3,4] (Z.r s104_1 [2,3,4,6] (Z.s (Z.r s104_2 [2,3,4,6,16] (Z.c 16 (Z.r s104_3 [2,3,4,6,7,8] (Z.s (Z.r s104_4 [2,3,4,6,7,8,25] (Z.c 25 (Z.e s104_5) .skip)) [2,3,4,6,7] (Z.g s104_6))) .skip)) [2,3,4,6] (Z.r s104_7 [2,3,4,6,9] (Z.s (Z.r s104_8 [2,3,4,6,9,10] (Z.b 0 (Z.l [2,3,4,6,9,10] (Z.s (Z.r s104_9 [2,3,4,6,9,10,33] (Z.c 33 .skip (.exit 0))) [2,3,4,6,9,10] (Z.s (Z.b 1 (Z.s (.mreg [11] s104_10) [2,3,4,6,9,10,11,12] (Z.s (Z.r s104_11 [2,3,4,6,9,10,11,12,47] (Z.c 47 (Z.e s104_12) .skip)) [2,3,4,6,9,10,11] (Z.g s104_13)))) [2,3,4,6,9,10] (Z.g s104_14)))))) [2,3,4,9] (Z.e s104_15)))))
def c104:FC:=⟨60,a104.erase,[.cell 4 true 3,.tmp 5]⟩
theorem comp104:compF Tryz.prog Tryz.f104=some c104:=by kernel_rfl
theorem era104:c104.code=a104.erase:=rfl
def s105_0:=[zac 4]
def s105_1:=[za 6 0,zu 7 6,za 8 1,zu 9 8,zay 10 7 9]
def s105_2:=[zac 4]
def s105_3:=[zh 5 0]
def s105_4:=[za 11 5,za 12 0,zu 13 12,zs 14 11 13]
def s105_5:=[za 17 0,za 18 5,zf 19 2 17 18,ze 20 2 19,za 21 1,za 22 5,zf 23 2 21 22,ze 24 2 23,zcv 25 20 24]
def s105_6:=[zac 4]
def s105_7:=[za 15 5,zn 16 15 1,za 5 16]
def s105_8:=[zbc 4]
def a105:AC:=Z.r s105_0 [0,1] (Z.s (Z.r s105_1 [0,1,10] (Z.c 10 (Z.e s105_2) .skip)) [0,1] (Z.s (Z.r s105_3 [0,1,5] (Z.b 0 (Z.l [0,1,5] (Z.s (Z.r s105_4 [0,1,5,14] (Z.c 14 .skip (.exit 0))) [0,1,5] (Z.s (Z.b 1 (Z.d s105_5 [0,1,5,25] (Z.c 25 (Z.e s105_6) .skip))) [0,1,5] (Z.g s105_7)))))) [] (Z.e s105_8)))
def c105:FC:=⟨26,a105.erase,[.tmp 4]⟩
theorem comp105:compF Tryz.prog Tryz.f105=some c105:=by kernel_rfl
theorem era105:c105.code=a105.erase:=rfl
def s109_0:=[zt 1 31 0,zh 2 0]
def s109_1:=[zc 9 0 1,zb 10 1 9,zy 11 10 2,za 12 11,zp 13 0 1 12,zm 14 1 13 12,za8 15 14 3 12,zk 16 12 15,za 3 16]
def s109_2:=[zc 17 0 1,zb 18 1 17,zy 19 18 4,za 20 19,zp 21 0 1 20,zm 22 1 21 20,za8 23 22 5 20,zk 24 20 23,za 4 24]
def s109_3:=[zc 26 0 1,zb 27 1 26,zau 28 27 0,za 29 28,zp 30 0 1 29,zm 31 1 30 29,zah 32 31 5 29,zk 33 29 32,za 25 33]
def s109_4:=[za 34 4,zae 35 34,za 36 35,zr 37 2 1 36,zj 38 1 37 36,q1 39 (.bin .neq (.tmp 38) (ks ⟨#[]⟩)) 36 true,zo 40 36 39,za 25 40]
def s109_5:=[zh 2 1]
def s109_6:=[za 42 3,zae 43 42,za 44 43,zr 45 1 1 44,zj 46 1 45 44,zcc 47 46 0 44,zo 48 44 47,za 49 48,zr 50 0 1 49,zj 51 1 50 49,zcc 52 51 1 49,zl 53 52 49,zp 54 1 1 53,zm 55 1 54 53,zbp 56 55 1 53,zbl 57 53 56 49,zo 58 49 57,za 41 58]
def s109_7:=[zh 2 1]
def s109_8:=[zc 60 1 1,zb 61 1 60,q0 62 (.bin .lss (.tmp 61) (.const (.int .i64 (-1152921504606846976)))),za 63 62,zp 64 1 1 63,zm 65 1 64 63,zah 66 65 1152921504606846976 63,zk 67 63 66,za 59 67]
def s109_9:=[zh 2 2]
def s109_10:=[za 68 4,zae 69 68]
def s109_11:=[zh 2 0]
def s109_12:=[zh 5 64,q0 6 (.mv (.const (.int .u8 32)))]
def s109_13:=[zc 70 0 1,zb 71 1 70,zy 72 71 5]
def s109_14:=[zh 5 32,q0 6 (.mv (.const (.int .u8 33)))]
def s109_15:=[zc 73 2 1,zb 74 1 73,zb5 75 74,za 76 5,zb2 77 75 76]
def s109_16:=[zh 2 2]
def s109_17:=[zc 78 0 1,zb 79 1 78,zy 80 79 5,za 81 80,zr 82 2 1 81,zj 83 1 82 81,zb8 84 83 81,zo 85 81 84]
def s109_18:=[zh 2 3]
def s109_19:=[zc 86 2 1,zb 87 1 86,zb5 88 87,zh 89 0]
def s109_20:=[zs 90 89 88]
def s109_21:=[za 91 89,za 7 91]
def s109_22:=[zc 92 2 1,zb 93 1 92,za 94 7,zce 95 93 94,za 8 95]
def s109_23:=[za 96 8,za 97 6,zs 98 96 97,za 99 98,zv 100 8 99,q1 101 (.bin .gtr (.tmp 100) (.const (.int .u8 126))) 99 false,zk 102 99 101,za 103 102,zv 104 8 103,q1 105 (.bin .eql (.tmp 104) (.const (.int .u8 34))) 103 false,zk 106 103 105,za 107 106,zv 108 8 107,q1 109 (.bin .eql (.tmp 108) (.const (.int .u8 92))) 107 false,zk 110 107 109]
def s109_24:=[zh 2 3]
def s109_25:=[zn 111 89 1,za 89 111]
def s109_26:=[zh 2 0]
def a109:AC:=Z.r s109_0 [1] (Z.r s109_1 [1,3] (Z.r s109_2 [1,3,4] (Z.s (Z.b 0 (Z.s (Z.r s109_3 [1,3,4,25] (Z.c 25 .skip (Z.g s109_4))) [1,3,4,25] (Z.c 25 (Z.e s109_5) (Z.r s109_6 [1,4,41] (Z.c 41 (Z.e s109_7) (Z.r s109_8 [1,4,59] (Z.c 59 (Z.e s109_9) .skip))))))) [1,4] (Z.s (Z.r s109_10 [1,69] (Z.c 69 (Z.e s109_11) .skip)) [1] (Z.r s109_12 [1,5,6] (Z.s (Z.r s109_13 [1,5,6,72] (Z.c 72 (Z.g s109_14) .skip)) [1,5,6] (Z.s (Z.r s109_15 [1,6,77] (Z.c 77 (Z.e s109_16) .skip)) [1,6] (Z.s (Z.r s109_17 [1,6,85] (Z.c 85 (Z.e s109_18) .skip)) [1,6] (Z.s (Z.r s109_19 [1,6,88,89] (Z.b 1 (Z.l [1,6,88,89] (Z.r s109_20 [1,6,88,89,90] (Z.s (Z.c 90 .skip (.exit 1)) [1,6,88,89] (Z.s (Z.b 2 (Z.r s109_21 [1,6,7,88,89] (Z.r s109_22 [1,6,8,88,89] (Z.r s109_23 [1,6,88,89,110] (Z.c 110 (Z.e s109_24) .skip))))) [1,6,88,89] (Z.g s109_25))))))) [] (Z.e s109_26))))))))))
def c109:FC:=⟨112,a109.erase,[.tmp 2]⟩
theorem comp109:compF Tryz.prog Tryz.f109=some c109:=by kernel_rfl
theorem era109:c109.code=a109.erase:=rfl
def s110_0:=[zac 4]
def s110_1:=[za 5 0,za 6 1,zq 7 146 5 6,zbb 8 7 0,za 4 8]
def a110:AC:=Z.r s110_0 [0,1] (Z.e s110_1)
def c110:FC:=⟨9,a110.erase,[.tmp 4]⟩
theorem comp110:compF Tryz.prog Tryz.f110=some c110:=by kernel_rfl
theorem era110:c110.code=a110.erase:=rfl
def s111_0:=[zt 2 37 0,zt 3 37 1,zac 4]
def s111_1:=[zc 5 0 2,zb 6 1 5,zc 7 0 3,zb 8 1 7,zav 9 6 8,za 10 9,zr 11 1 2 10,zj 12 1 11 10,zr 13 1 3 10,zj 14 1 13 10,zaq 15 12 14 10,zo 16 10 15,za 17 16,zr 18 2 2 17,zj 19 1 18 17,zr 20 2 3 17,zj 21 1 20 17,zaq 22 19 21 17,zo 23 17 22,za 24 23,zr 25 3 2 24,zj 26 1 25 24,zr 27 3 3 24,zj 28 1 27 24,zaq 29 26 28 24,zo 30 24 29,za 31 30,zr 32 4 2 31,zak 33 3 32 31,zr 34 4 3 31,zak 35 3 34 31,q1 36 (.eqs false [.int,.int,.str] (.tmp 33) (.tmp 35)) 31 true,zo 37 31 36,za 38 37,zr 39 7 2 38,zj 40 1 39 38,zr 41 7 3 38,zj 42 1 41 38,zai 43 125 40 42 38,zo 44 38 43,za 45 44,zr 46 8 2 45,zj 47 1 46 45,zr 48 8 3 45,zj 49 1 48 45,zaq 50 47 49 45,zo 51 45 50,za 52 51,zr 53 9 2 52,zak 54 2 53 52,zr 55 9 3 52,zak 56 2 55 52,q1 57 (.eqs false [.int,.int] (.tmp 54) (.tmp 56)) 52 true,zo 58 52 57,za 4 58]
def a111:AC:=Z.r s111_0 [2,3] (Z.e s111_1)
def c111:FC:=⟨59,a111.erase,[.tmp 4]⟩
theorem comp111:compF Tryz.prog Tryz.f111=some c111:=by kernel_rfl
theorem era111:c111.code=a111.erase:=rfl
def s112_0:=[zt 3 92 0,zt 4 37 1,zaa 6 47,zh 7 0]
def s112_1:=[zc 8 4 4,zc 9 0 8,zb 10 1 9,zc 11 7 4,zb 12 1 11,zc 13 2 4,zb 14 1 13,zbs 15 10 12 14,zd 3 6 15,zh 7 0]
def a112:AC:=Z.r s112_0 [4,6] (Z.e s112_1)
def c112:FC:=⟨16,a112.erase,[.cell 6 true 3,.tmp 7]⟩
theorem comp112:compF Tryz.prog Tryz.f112=some c112:=by kernel_rfl
theorem era112:c112.code=a112.erase:=rfl
def s113_0:=[zt 3 92 0,zt 4 37 1,zaa 6 47,zh 7 0]
def s113_1:=[zc 8 5 3,zb 9 1 8,zc 10 2 4,zb 11 1 10,zcq 12 9 11,zi 13 12 0,zi 14 12 1,zd 3 6 13,za 7 14]
def a113:AC:=Z.r s113_0 [3,4,6] (Z.e s113_1)
def c113:FC:=⟨15,a113.erase,[.cell 6 true 3,.tmp 7]⟩
theorem comp113:compF Tryz.prog Tryz.f113=some c113:=by kernel_rfl
theorem era113:c113.code=a113.erase:=rfl
def s114_0:=[zt 3 92 0,zt 4 37 1,zaa 6 47,zh 7 0]
def s114_1:=[ze 8 6 3,zc 9 2 4,zb 10 1 9,zc 11 4 3,zb 12 1 11,zan 13 147 8 10 12,zi 14 13 0,zi 15 13 1,zd 3 6 14,za 7 15]
def a114:AC:=Z.r s114_0 [3,4,6] (Z.e s114_1)
def c114:FC:=⟨16,a114.erase,[.cell 6 true 3,.tmp 7]⟩
theorem comp114:compF Tryz.prog Tryz.f114=some c114:=by kernel_rfl
theorem era114:c114.code=a114.erase:=rfl
def s115_0:=[zt 3 92 0,zt 4 37 1,zaa 6 47,zh 7 0]
def s115_1:=[za 8 2,zal 9 3 8 0,zc 10 0 9,zb 11 1 10,zaf 12 11 5]
def s115_2:=[zbi 13 57 5,zi 14 13 0,zi 15 13 1,zd 3 6 14,za 7 15]
def s115_3:=[ed 0 (ze 16 6 3) [],ed 1 (zc 17 2 4) [],ed 2 (zb 18 1 17) [],ed 3 (za 19 2) [],ed 4 (zal 20 3 19 0) [],ed 5 (zc 21 2 20) [],ed 6 (zb 22 1 21) [],ed 7 (zan 23 147 16 18 22) [],ed 8 (zi 24 23 0) [],ed 9 (zi 25 23 1) [],ed 10 (zd 3 6 24) [6],ed 11 (za 7 25) []]
def a115:AC:=Z.r s115_0 [2,3,4,6] (Z.s (Z.r s115_1 [2,3,4,6,12] (Z.c 12 (Z.e s115_2) .skip)) [2,3,4,6] (.seq (.mreg [] s115_3) .ret))
def c115:FC:=⟨26,a115.erase,[.cell 6 true 3,.tmp 7]⟩
theorem comp115:compF Tryz.prog Tryz.f115=some c115:=by kernel_rfl
theorem era115:c115.code=a115.erase:=rfl
def s116_0:=[zt 3 92 0,zt 4 37 1,zaa 6 47,zh 7 0]
def s116_1:=[za 9 2,zal 10 3 9 1,zc 11 0 10,zb 12 1 11,zaf 13 12 1]
def s116_2:=[zbi 14 57 5,zi 15 14 0,zi 16 14 1,zd 3 6 15,za 7 16]
def s116_3:=[za 17 2,zal 18 3 17 0,zc 19 1 18,zb 20 1 19,q0 21 (.build [.int .i64 0,.slice none 0 0,.string ⟨#[]⟩] [(0,1,ki 3),(1,1,.tmp 20)]),zaa 8 47,zd 3 8 21]
def s116_4:=[zc 22 1 4,zb 23 1 22]
def s116_5:=[zb6 25 23,za 24 25]
def s116_6:=[zca 26 23,za 24 26]
def s116_7:=[zba 27 2,zd 3 6 27,zh 7 0]
def s116_8:=[q0 29 (.bin .eql (.tmp 23) (ks ⟨#[102,105,114,115,116]⟩)),za 28 29]
def s116_9:=[q0 30 (.bin .eql (.tmp 23) (ks ⟨#[108,97,115,116]⟩)),za 28 30]
def s116_10:=[za 31 2,zal 32 3 31 0,ze 33 3 32,zd 3 6 33,zh 7 0]
def s116_11:=[q0 35 (.bin .eql (.tmp 23) (ks ⟨#[109,105,110]⟩)),za 34 35]
def s116_12:=[q0 36 (.bin .eql (.tmp 23) (ks ⟨#[109,97,120]⟩)),za 34 36]
def s116_13:=[za 37 2,zal 38 3 37 0,zc 39 0 38,zb 40 1 39,zy 41 40 4]
def s116_14:=[za 42 2,zal 43 3 42 0,ze 44 3 43,zd 3 6 44,zh 7 0]
def s116_15:=[za 45 2,zal 46 3 45 0,ze 47 3 46,zw 48 92 47,zae 49 48]
def s116_16:=[zbi 50 57 5,zi 51 50 0,zi 52 50 1,zd 3 6 51,za 7 52]
def s116_17:=[zc 53 1 4,zb 54 1 53,zcr 55 54,za 56 55,zp 57 1 4 56,zm 58 1 57 56,q1 59 (.bin .eql (.tmp 58) (ks ⟨#[100,101,99,97,121]⟩)) 56 false,zk 60 56 59]
def s116_18:=[ze 61 3 8,zd 3 6 61,zh 7 0]
def s116_19:=[za 62 2,zal 63 3 62 0,ze 64 3 63,zd 3 6 64,zh 7 0]
def a116:AC:=Z.r s116_0 [2,4,6] (Z.s (Z.r s116_1 [2,4,6,13] (Z.c 13 (Z.e s116_2) .skip)) [2,4,6] (Z.r s116_3 [2,4,6,8] (Z.s (Z.r s116_4 [2,4,6,8,23] (Z.b 0 (Z.s (Z.r s116_5 [2,4,6,8,23,24] (Z.c 24 .skip (Z.g s116_6))) [2,4,6,8,23,24] (Z.c 24 (Z.e s116_7) (Z.s (Z.r s116_8 [2,4,6,8,23,28] (Z.c 28 .skip (Z.g s116_9))) [2,4,6,8,23,28] (Z.c 28 (Z.e s116_10) (Z.s (Z.r s116_11 [2,4,6,8,23,34] (Z.c 34 .skip (Z.g s116_12))) [2,4,6,8,34] (Z.c 34 (Z.r s116_13 [2,4,6,8,41] (Z.c 41 (Z.e s116_14) .skip)) .skip)))))))) [2,4,6,8] (Z.s (Z.r s116_15 [2,4,6,8,49] (Z.c 49 (Z.e s116_16) .skip)) [2,4,6,8] (Z.s (Z.r s116_17 [2,6,8,60] (Z.c 60 (Z.e s116_18) .skip)) [2,6] (Z.e s116_19))))))
def c116:FC:=⟨65,a116.erase,[.cell 6 true 3,.tmp 7]⟩
theorem comp116:compF Tryz.prog Tryz.f116=some c116:=by kernel_rfl
theorem era116:c116.code=a116.erase:=rfl
def s117_0:=[zt 3 92 0,zt 4 37 1,zaa 6 47,zh 7 0]
def s117_1:=[zc 9 1 4,zb 10 1 9,zc0 11 10,za 12 11,zl 13 2 12,q1 14 (.iaddr 3 (.tmp 13) (ki 0)) 12 true,zak 15 3 14 12,za5 16 92 15 12,zo 17 12 16,za 8 17]
def s117_2:=[za 18 2,zal 19 3 18 0,ze 20 3 19,zd 3 6 20,zh 7 0]
def s117_3:=[zc 22 1 4,zb 23 1 22,q0 24 (.bin .eql (.tmp 23) (ks ⟨#[110,117,108,108]⟩)),za 21 24]
def s117_4:=[zc 25 1 4,zb 26 1 25,q0 27 (.bin .eql (.tmp 26) (ks ⟨#[110,111,116]⟩)),za 28 27,zl 29 2 28,q1 30 (.iaddr 3 (.tmp 29) (ki 0)) 28 true,zr 31 0 30 28,zj 32 1 31 28,zbq 33 32 1 28,zo 34 28 33,za 21 34]
def s117_5:=[zba 35 1,zd 3 6 35,zh 7 0]
def s117_6:=[zbi 36 57 5,zi 37 36 0,zi 38 36 1,zd 3 6 37,za 7 38]
def a117:AC:=Z.r s117_0 [2,4,6] (Z.s (Z.b 0 (Z.r s117_1 [2,4,6,8] (Z.c 8 (Z.e s117_2) (Z.s (Z.r s117_3 [2,4,6,21] (Z.c 21 .skip (Z.g s117_4))) [6,21] (Z.c 21 (Z.e s117_5) .skip))))) [6] (Z.e s117_6))
def c117:FC:=⟨39,a117.erase,[.cell 6 true 3,.tmp 7]⟩
theorem comp117:compF Tryz.prog Tryz.f117=some c117:=by kernel_rfl
theorem era117:c117.code=a117.erase:=rfl
def s118_0:=[zt 3 92 0,zt 4 37 1,zaa 6 47,zh 7 0]
def s118_1:=[ed 0 (za 16 2) [],ed 1 (zal 17 3 16 0) [],ed 2 (ze 18 3 17) [],ed 3 (za 19 2) [],ed 4 (zal 20 3 19 1) [],ed 5 (ze 21 3 20) [],ed 6 (zaa 8 47) [],ed 7 (zaa 9 47) [],ed 8 (zd 3 8 18) [8],ed 9 (zd 3 9 21) [9]]
def s118_2:=[ze 22 3 8,zw 23 92 22,za 24 23,zak 25 3 9 24,za5 26 92 25 24,zo 27 24 26,za 10 27]
def s118_3:=[zc 28 1 8,zb 29 1 28,zc 30 1 9,zb 31 1 30,zq 32 96 29 31,za 11 32]
def s118_4:=[zba 33 1,zaa 12 47,zd 3 12 33]
def s118_5:=[zc 34 0 8,zb 35 1 34,zc 36 0 9,zb 37 1 36,q0 38 (.max2 (.tmp 35) (.tmp 37)),zc 39 1 8,zb 40 1 39,zcf 41 38 40,zaa 13 47,zd 3 13 41]
def s118_6:=[zc 42 1 4,zb 43 1 42]
def s118_7:=[zcx 45 43,za 44 45]
def s118_8:=[zcy 46 43,za 44 46]
def s118_9:=[zc 47 0 8,zb 48 1 47,zy 49 48 1,za 50 49,zr 51 0 9 50,zj 52 1 51 50,zbq 53 52 1 50,zo 54 50 53]
def s118_10:=[ze 55 3 12,zd 3 6 55,zh 7 0]
def s118_11:=[zbi 56 57 5,zi 57 56 0,zi 58 56 1,zd 3 6 57,za 7 58]
def s118_12:=[q0 60 (.bin .eql (.tmp 43) (ks ⟨#[61,61]⟩)),za 59 60]
def s118_13:=[q0 61 (.bin .eql (.tmp 43) (ks ⟨#[33,61]⟩)),za 59 61]
def s118_14:=[zcs 62 43,za 59 62]
def s118_15:=[q0 63 (.bin .eql (.tmp 43) (ks ⟨#[60,61]⟩)),za 59 63]
def s118_16:=[zc 64 0 8,zb 65 1 64,zc 66 0 9,zb 67 1 66,zav 68 65 67,za 69 68,zr 70 2 8 69,zj 71 1 70 69,zr 72 2 9 69,zj 73 1 72 69,zaq 74 71 73 69,zo 75 69 74,za 76 75,zl 77 11 76,zo 78 76 77,za 14 78]
def s118_17:=[zc 79 1 4,zb 80 1 79,zcs 81 80,za 82 81,zp 83 1 4 82,zm 84 1 83 82,q1 85 (.bin .eql (.tmp 84) (ks ⟨#[60,61]⟩)) 82 false,zk 86 82 85]
def s118_18:=[zc 87 0 8,zb 88 1 87,zy 89 88 4,za 90 89,zr 91 0 9 90,zj 92 1 91 90,zbq 93 92 4 90,zo 94 90 93,za 14 94]
def s118_19:=[za 96 10,za 97 96,zl 98 11 97,zax 99 98 97,zo 100 97 99,za 95 100]
def s118_20:=[zbi 101 57 70,zi 102 101 0,zi 103 101 1,zd 3 6 102,za 7 103]
def s118_21:=[za 105 10,za 106 105,zv 107 14 106,zk 108 106 107,za 104 108]
def s118_22:=[ze 109 3 12,zd 3 6 109,zh 7 0]
def s118_23:=[zbi 110 57 5,zi 111 110 0,zi 112 110 1,zd 3 6 111,za 7 112]
def s118_24:=[za 113 10,zae 114 113]
def s118_25:=[zbi 115 57 5,zi 116 115 0,zi 117 115 1,zd 3 6 116,za 7 117]
def s118_26:=[zh 15 0]
def s118_27:=[zc 118 1 4,zb 119 1 118]
def s118_28:=[q0 121 (.bin .eql (.tmp 119) (ks ⟨#[42]⟩)),za 120 121]
def s118_29:=[zc 123 1 8,zb 124 1 123,zc 125 1 9,zb 126 1 125,zq 127 148 124 126,za 122 127,zi 128 122 0,zi 129 122 1,zc 130 1 13,zd 1 130 128,za 15 129]
def s118_30:=[q0 132 (.bin .eql (.tmp 119) (ks ⟨#[47]⟩)),za 131 132]
def s118_31:=[zc 133 0 13,.mk none (.store 1 (.tmp 133) (ki 3)) none]
def s118_32:=[zc 135 1 8,zb 136 1 135,zc 137 1 9,zb 138 1 137,zq 139 149 136 138,za 134 139,zi 140 134 0,zi 141 134 1,zc 142 1 13,zd 1 142 140,za 15 141]
def s118_33:=[za 143 15,zaf 144 143 0,za 145 144,zp 146 1 4 145,zm 147 1 146 145,q1 148 (.bin .eql (.tmp 147) (ks ⟨#[43]⟩)) 145 false,zv 149 148 145,zp 150 1 4 149,zm 151 1 150 149,q1 152 (.bin .eql (.tmp 151) (ks ⟨#[45]⟩)) 149 false,q1 153 (.pick (.tmp 149) kT (.tmp 152)) 145 false,zv 154 153 145,zl 155 11 154,zax 156 155 154,zas 157 154 156 145,zk 158 145 157]
def s118_34:=[zbi 159 57 70,zi 160 159 0,zi 161 159 1,zd 3 6 160,za 7 161]
def s118_35:=[ze 162 3 13,zd 3 6 162,zh 7 0]
def a118:AC:=Z.r s118_0 [2,4,6] (Z.s (.mreg [8,9] s118_1) [4,6,8,9] (Z.r s118_2 [4,6,8,9,10] (Z.r s118_3 [4,6,8,9,10,11] (Z.r s118_4 [4,6,8,9,10,11,12] (Z.r s118_5 [4,6,8,9,10,11,12,13] (Z.s (Z.r s118_6 [4,6,8,9,10,11,12,13,43] (Z.b 0 (Z.s (Z.r s118_7 [4,6,8,9,10,11,12,13,43,44] (Z.c 44 .skip (Z.g s118_8))) [4,6,8,9,10,11,12,13,43,44] (Z.c 44 (Z.s (Z.r s118_9 [6,12,54] (Z.c 54 (Z.e s118_10) .skip)) [6] (Z.e s118_11)) (Z.s (Z.r s118_12 [4,6,8,9,10,11,12,13,43,59] (Z.c 59 .skip (Z.r s118_13 [4,6,8,9,10,11,12,13,43,59] (Z.c 59 .skip (Z.r s118_14 [4,6,8,9,10,11,12,13,43,59] (Z.c 59 .skip (Z.g s118_15))))))) [4,6,8,9,10,11,12,13,59] (Z.c 59 (Z.r s118_16 [4,6,8,9,10,11,12,14] (Z.s (Z.r s118_17 [6,8,9,10,11,12,14,86] (Z.c 86 (Z.g s118_18) .skip)) [6,10,11,12,14] (Z.s (Z.b 1 (Z.r s118_19 [6,10,12,14,95] (Z.c 95 (Z.e s118_20) (Z.r s118_21 [6,12,104] (Z.c 104 (Z.e s118_22) .skip))))) [6] (Z.e s118_23)))) .skip)))))) [4,6,8,9,10,11,13] (Z.s (Z.r s118_24 [4,6,8,9,11,13,114] (Z.c 114 (Z.e s118_25) .skip)) [4,6,8,9,11,13] (Z.r s118_26 [4,6,8,9,11,13,15] (Z.s (Z.r s118_27 [4,6,8,9,11,13,15,119] (Z.b 2 (Z.r s118_28 [4,6,8,9,11,13,15,119,120] (Z.c 120 (Z.g s118_29) (Z.r s118_30 [4,6,8,9,11,13,15,131] (Z.c 131 (Z.r s118_31 [4,6,8,9,11,13] (Z.g s118_32)) .skip)))))) [4,6,11,13,15] (Z.s (Z.r s118_33 [6,13,158] (Z.c 158 (Z.e s118_34) .skip)) [6,13] (Z.e s118_35)))))))))))
def c118:FC:=⟨163,a118.erase,[.cell 6 true 3,.tmp 7]⟩
theorem comp118:compF Tryz.prog Tryz.f118=some c118:=by kernel_rfl
theorem era118:c118.code=a118.erase:=rfl
def s119_0:=[zt 3 92 0,zt 4 37 1,zaa 6 47,zh 7 0]
def s119_1:=[za 8 2,zal 9 3 8 0,zc 10 0 9,zb 11 1 10,zaf 12 11 1]
def s119_2:=[zbi 13 57 5,zi 14 13 0,zi 15 13 1,zd 3 6 14,za 7 15]
def s119_3:=[ed 0 (za 16 2) [],ed 1 (zal 17 3 16 1) [],ed 2 (ze 18 3 17) [],ed 3 (za 19 2) [],ed 4 (zal 20 3 19 2) [],ed 5 (ze 21 3 20) [],ed 6 (zq 22 66 18 21) [],ed 7 (zi 23 22 0) [],ed 8 (zi 24 22 1) [],ed 9 (zd 3 6 23) [6],ed 10 (za 7 24) []]
def a119:AC:=Z.r s119_0 [2,6] (Z.s (Z.r s119_1 [2,6,12] (Z.c 12 (Z.e s119_2) .skip)) [2,6] (.seq (.mreg [] s119_3) .ret))
def c119:FC:=⟨25,a119.erase,[.cell 6 true 3,.tmp 7]⟩
theorem comp119:compF Tryz.prog Tryz.f119=some c119:=by kernel_rfl
theorem era119:c119.code=a119.erase:=rfl
def s120_0:=[zt 3 92 0,zt 4 37 1,zaa 6 47,zh 7 0]
def s120_1:=[ed 0 (za 8 2) [],ed 1 (zal 9 3 8 0) [],ed 2 (ze 10 3 9) [],ed 3 (za 11 2) [],ed 4 (zal 12 3 11 1) [],ed 5 (ze 13 3 12) [],ed 6 (zq 14 66 10 13) [],ed 7 (zi 15 14 0) [],ed 8 (zi 16 14 1) [],ed 9 (zd 3 6 15) [6],ed 10 (za 7 16) []]
def a120:AC:=Z.r s120_0 [2,6] (.seq (.mreg [] s120_1) .ret)
def c120:FC:=⟨17,a120.erase,[.cell 6 true 3,.tmp 7]⟩
theorem comp120:compF Tryz.prog Tryz.f120=some c120:=by kernel_rfl
theorem era120:c120.code=a120.erase:=rfl
def s122_0:=[zac 2]
def s122_1:=[za 5 0,zb5 6 5,zy 7 6 0,za 8 7,zv 9 0 8,q1 10 (.len true (.tmp 9)) 8 false,zah 11 10 24 8,zk 12 8 11,za 13 12,zv 14 0 13,q1 15 (.idxs (.tmp 14) (ki 0)) 13 false,q1 16 (.bin .lss (.tmp 15) (.const (.int .u8 97))) 13 false,zk 17 13 16,za 18 17,zv 19 0 18,q1 20 (.idxs (.tmp 19) (ki 0)) 18 false,zcj 21 20 18,zk 22 18 21]
def s122_2:=[zac 2]
def s122_3:=[za 23 0,zb5 24 23,zh 25 0]
def s122_4:=[zs 26 25 24]
def s122_5:=[za 27 25,za 3 27]
def s122_6:=[za 28 0,za 29 3,zce 30 28 29,za 4 30]
def s122_7:=[za 31 4,q0 32 (.bin .lss (.tmp 31) (.const (.int .u8 97))),za 33 32,zv 34 4 33,zcj 35 34 33,zk 36 33 35,za 37 36,zl 38 4 37,q1 39 (.bin .lss (.tmp 38) (.const (.int .u8 48))) 37 true,zl 40 39 37,zv 41 4 40,q1 42 (.bin .gtr (.tmp 41) (.const (.int .u8 57))) 40 false,zbl 43 40 42 37,zo 44 37 43,za 45 44,zl 46 4 45,q1 47 (.bin .neq (.tmp 46) (.const (.int .u8 95))) 45 true,zo 48 45 47]
def s122_8:=[zac 2]
def s122_9:=[zn 49 25 1,za 25 49]
def s122_10:=[zbc 2]
def a122:AC:=Z.r s122_0 [0] (Z.s (Z.r s122_1 [0,22] (Z.c 22 (Z.e s122_2) .skip)) [0] (Z.s (Z.r s122_3 [0,24,25] (Z.b 0 (Z.l [0,24,25] (Z.r s122_4 [0,24,25,26] (Z.s (Z.c 26 .skip (.exit 0)) [0,24,25] (Z.s (Z.b 1 (Z.r s122_5 [0,3,24,25] (Z.r s122_6 [0,4,24,25] (Z.r s122_7 [0,24,25,48] (Z.c 48 (Z.e s122_8) .skip))))) [0,24,25] (Z.g s122_9))))))) [] (Z.e s122_10)))
def c122:FC:=⟨50,a122.erase,[.tmp 2]⟩
theorem comp122:compF Tryz.prog Tryz.f122=some c122:=by kernel_rfl
theorem era122:c122.code=a122.erase:=rfl
def s123_0:=[zac 4]
def s123_1:=[za 5 0,za 6 1,zb2 7 5 6,za 8 7,zv 9 0 8,zv 10 1 8,q1 11 (.un .neg (.tmp 10)) 8 false,zby 12 9 11 8,zk 13 8 12,za 4 13]
def a123:AC:=Z.r s123_0 [0,1] (Z.e s123_1)
def c123:FC:=⟨14,a123.erase,[.tmp 4]⟩
theorem comp123:compF Tryz.prog Tryz.f123=some c123:=by kernel_rfl
theorem era123:c123.code=a123.erase:=rfl
def s124_0:=[zh 4 0]
def s124_1:=[za 6 0,zu 7 6,zh 8 0]
def s124_2:=[zs 9 8 7]
def s124_3:=[za 10 8,za 5 10]
def s124_4:=[za 11 1,za 12 0,za 13 5,zf 14 2 12 13,ze 15 2 14,zcq 16 11 15]
def s124_5:=[za 17 5,za 4 17]
def s124_6:=[zn 18 8 1,za 8 18]
def s124_7:=[zbw 4]
def a124:AC:=Z.r s124_0 [0,1] (Z.s (Z.r s124_1 [0,1,7,8] (Z.b 0 (Z.l [0,1,7,8] (Z.r s124_2 [0,1,7,8,9] (Z.s (Z.c 9 .skip (.exit 0)) [0,1,7,8] (Z.s (Z.b 1 (Z.r s124_3 [0,1,5,7,8] (Z.r s124_4 [0,1,5,7,8,16] (Z.c 16 (Z.e s124_5) .skip)))) [0,1,7,8] (Z.g s124_6))))))) [] (Z.e s124_7))
def c124:FC:=⟨19,a124.erase,[.tmp 4]⟩
theorem comp124:compF Tryz.prog Tryz.f124=some c124:=by kernel_rfl
theorem era124:c124.code=a124.erase:=rfl
def s125_0:=[zac 4]
def s125_1:=[za 6 0,zu 7 6,za 8 1,zu 9 8,zay 10 7 9]
def s125_2:=[zac 4]
def s125_3:=[za 11 0,zu 12 11,zh 13 0]
def s125_4:=[zs 14 13 12]
def s125_5:=[za 15 13,za 5 15]
def s125_6:=[za 16 0,za 17 5,zf 18 2 16 17,ze 19 2 18,za 20 1,za 21 5,zf 22 2 20 21,ze 23 2 22,zcv 24 19 23]
def s125_7:=[zac 4]
def s125_8:=[zn 25 13 1,za 13 25]
def s125_9:=[zbc 4]
def a125:AC:=Z.r s125_0 [0,1] (Z.s (Z.r s125_1 [0,1,10] (Z.c 10 (Z.e s125_2) .skip)) [0,1] (Z.s (Z.r s125_3 [0,1,12,13] (Z.b 0 (Z.l [0,1,12,13] (Z.r s125_4 [0,1,12,13,14] (Z.s (Z.c 14 .skip (.exit 0)) [0,1,12,13] (Z.s (Z.b 1 (Z.r s125_5 [0,1,5,12,13] (Z.d s125_6 [0,1,12,13,24] (Z.c 24 (Z.e s125_7) .skip)))) [0,1,12,13] (Z.g s125_8))))))) [] (Z.e s125_9)))
def c125:FC:=⟨26,a125.erase,[.tmp 4]⟩
theorem comp125:compF Tryz.prog Tryz.f125=some c125:=by kernel_rfl
theorem era125:c125.code=a125.erase:=rfl
def s126_0:=[zac 2]
def s126_1:=[za 3 0,zcw 4 3,za 5 4,zl 6 0 5,zcl 7 6 5,zo 8 5 7,za 2 8]
def a126:AC:=Z.r s126_0 [0] (Z.e s126_1)
def c126:FC:=⟨9,a126.erase,[.tmp 2]⟩
theorem comp126:compF Tryz.prog Tryz.f126=some c126:=by kernel_rfl
theorem era126:c126.code=a126.erase:=rfl
def s127_0:=[zac 2]
def s127_1:=[za 3 0,q0 4 (.bin .geq (.tmp 3) (.const (.int .u8 48))),za 5 4,zl 6 0 5,zco 7 6 5,zo 8 5 7,za 2 8]
def a127:AC:=Z.r s127_0 [0] (Z.e s127_1)
def c127:FC:=⟨9,a127.erase,[.tmp 2]⟩
theorem comp127:compF Tryz.prog Tryz.f127=some c127:=by kernel_rfl
theorem era127:c127.code=a127.erase:=rfl
def s128_0:=[zac 2]
def s128_1:=[za 6 0,zb5 7 6,zau 8 7 1,za 9 8,zv 10 0 9,q1 11 (.len true (.tmp 10)) 9 false,zah 12 11 24 9,zk 13 9 12,za 14 13,zv 15 0 14,q1 16 (.idxs (.tmp 15) (ki 0)) 14 false,q1 17 (.bin .lss (.tmp 16) (.const (.int .u8 97))) 14 false,zk 18 14 17,za 19 18,zv 20 0 19,q1 21 (.idxs (.tmp 20) (ki 0)) 19 false,zcj 22 21 19,zk 23 19 22]
def s128_2:=[zac 2]
def s128_3:=[zh 3 0]
def s128_4:=[za 24 3,za 25 0,zb5 26 25,zs 27 24 26]
def s128_5:=[za 30 0,za 31 3,zce 32 30 31,zcw 33 32,za 34 33,zl 35 0 34,zl 36 3 34,q1 37 (.idxs (.tmp 35) (.tmp 36)) 34 true,zcl 38 37 34,zo 39 34 38,za 4 39]
def s128_6:=[za 40 0,za 41 3,zce 42 40 41,q0 43 (.bin .geq (.tmp 42) (.const (.int .u8 48))),za 44 43,zl 45 0 44,zl 46 3 44,q1 47 (.idxs (.tmp 45) (.tmp 46)) 44 true,zco 48 47 44,zo 49 44 48,za 5 49]
def s128_7:=[za 50 4,zae 51 50,za 52 51,zl 53 5 52,zax 54 53 52,zo 55 52 54,za 56 55,zl 57 0 56,zl 58 3 56,q1 59 (.idxs (.tmp 57) (.tmp 58)) 56 true,q1 60 (.bin .neq (.tmp 59) (.const (.int .u8 95))) 56 true,zo 61 56 60]
def s128_8:=[zac 2]
def s128_9:=[za 28 3,zn 29 28 1,za 3 29]
def s128_10:=[zbc 2]
def a128:AC:=Z.r s128_0 [0] (Z.s (Z.r s128_1 [0,23] (Z.c 23 (Z.e s128_2) .skip)) [0] (Z.s (Z.r s128_3 [0,3] (Z.b 0 (Z.l [0,3] (Z.s (Z.r s128_4 [0,3,27] (Z.c 27 .skip (.exit 0))) [0,3] (Z.s (Z.b 1 (Z.r s128_5 [0,3,4] (Z.r s128_6 [0,3,4,5] (Z.r s128_7 [0,3,61] (Z.c 61 (Z.e s128_8) .skip))))) [0,3] (Z.g s128_9)))))) [] (Z.e s128_10)))
def c128:FC:=⟨62,a128.erase,[.tmp 2]⟩
theorem comp128:compF Tryz.prog Tryz.f128=some c128:=by kernel_rfl
theorem era128:c128.code=a128.erase:=rfl
def s129_0:=[zac 2]
def s129_1:=[za 3 0,zar 4 3 8,za 5 4,zv 6 0 5,q1 7 (.bin .lss (.tmp 6) (.const (.int .i64 (-8)))) 5 false,zk 8 5 7,za 2 8]
def a129:AC:=Z.r s129_0 [0] (Z.e s129_1)
def c129:FC:=⟨9,a129.erase,[.tmp 2]⟩
theorem comp129:compF Tryz.prog Tryz.f129=some c129:=by kernel_rfl
theorem era129:c129.code=a129.erase:=rfl
def s130_0:=[zt 2 37 0,zh 4 0,zac 5]
def s130_1:=[zc 8 2 2,zb 9 1 8,zw 10 68 9,za 11 10,zak 12 12 2 11,zr 13 0 2 11,zj 14 1 13 11,zr 15 2 2 11,zj 16 1 15 11,q1 17 (.build [.int .i64 0,.string ⟨#[]⟩,.string ⟨#[]⟩,.string ⟨#[]⟩,.int .i64 0,.int .i64 0,.string ⟨#[]⟩,.slice none 0 0,.int .i64 0,.int .i64 0,.int .i64 0,.slice none 0 0] [(0,1,.tmp 14),(2,1,.tmp 16)]) 11 true,zai 18 151 12 17 11,zo 19 11 18,za 6 19]
def s130_2:=[ze 20 12 2,zc 21 0 2,zb 22 1 21,zc 23 1 2,zb 24 1 23,q0 25 (.build [.int .i64 0,.string ⟨#[]⟩,.string ⟨#[]⟩,.string ⟨#[]⟩,.int .i64 0,.int .i64 0,.string ⟨#[]⟩,.slice none 0 0,.int .i64 0,.int .i64 0,.int .i64 0,.slice none 0 0] [(0,1,.tmp 22),(1,1,.tmp 24)]),zq 26 151 20 25,za 7 26]
def s130_3:=[zc 27 0 2,zb 28 1 27]
def s130_4:=[zy 30 28 1,za 29 30]
def s130_5:=[ze 31 12 2,zw 32 152 31,zh 4 0,za 5 32]
def s130_6:=[zy 34 28 2,za 33 34]
def s130_7:=[za 35 1,za 36 35,zl 37 6 36,zo 38 36 37,zh 4 0,za 5 38]
def s130_8:=[zy 40 28 3,za 39 40]
def s130_9:=[za 41 1,zae 42 41,za 43 42,zl 44 6 43,zo 45 43 44,zh 4 0,za 5 45]
def s130_10:=[zy 47 28 4,za 46 47]
def s130_11:=[za 48 1,zae 49 48,za 50 49,zl 51 6 50,zo 52 50 51,zh 4 1,za 5 52]
def s130_12:=[zy 54 28 5,za 53 54]
def s130_13:=[za 55 1,zae 56 55,za 57 56,zak 58 12 2 57,za5 59 153 58 57,zo 60 57 59,zh 4 2,za 5 60]
def s130_14:=[zy 62 28 6,za 61 62]
def s130_15:=[za 63 7,za 64 63,zr 65 1 2 64,zj 66 1 65 64,q1 67 (.mksl 9 1 [ks ⟨#[45]⟩,ks ⟨#[110,111,116]⟩,ks ⟨#[110,117,108,108]⟩]) 64 true,zai 68 154 66 67 64,zo 69 64 68,zh 4 1,za 5 69]
def s130_16:=[zy 71 28 7,za 70 71]
def s130_17:=[za 72 7,za 73 72,zr 74 1 2 73,zj 75 1 74 73,q1 76 (.call 155 []) 73 true,zai 77 154 75 76 73,zo 78 73 77,zh 4 2,za 5 78]
def s130_18:=[zy 80 28 8,za 79 80]
def s130_19:=[za 81 7,za 82 81,zr 83 1 2 82,zj 84 1 83 82,zb8 85 84 82,zo 86 82 85,zh 4 3,za 5 86]
def s130_20:=[zy 88 28 9,za 87 88]
def s130_21:=[za 89 7,za 90 89,zr 91 1 2 90,zj 92 1 91 90,zb8 93 92 90,zo 94 90 93,zh 4 2,za 5 94]
def s130_22:=[zh 4 0,zac 5]
def a130:AC:=Z.r s130_0 [1,2] (Z.r s130_1 [1,2,6] (Z.r s130_2 [1,2,6,7] (Z.s (Z.r s130_3 [1,2,6,7,28] (Z.b 0 (Z.r s130_4 [1,2,6,7,28,29] (Z.c 29 (Z.e s130_5) (Z.r s130_6 [1,2,6,7,28,33] (Z.c 33 (Z.e s130_7) (Z.r s130_8 [1,2,6,7,28,39] (Z.c 39 (Z.e s130_9) (Z.r s130_10 [1,2,6,7,28,46] (Z.c 46 (Z.e s130_11) (Z.r s130_12 [1,2,7,28,53] (Z.c 53 (Z.e s130_13) (Z.r s130_14 [2,7,28,61] (Z.c 61 (Z.e s130_15) (Z.r s130_16 [2,7,28,70] (Z.c 70 (.seq (.dreg s130_17) .ret) (Z.r s130_18 [2,7,28,79] (Z.c 79 (.seq (.dreg s130_19) .ret) (Z.r s130_20 [2,7,87] (Z.c 87 (.seq (.dreg s130_21) .ret) .skip)))))))))))))))))))) [] (Z.e s130_22))))
def c130:FC:=⟨95,a130.erase,[.tmp 4,.tmp 5]⟩
theorem comp130:compF Tryz.prog Tryz.f130=some c130:=by kernel_rfl
theorem era130:c130.code=a130.erase:=rfl
def s131_0:=[zt 2 37 0,zt 3 37 1,zac 4]
def s131_1:=[ze 6 12 2,ze 7 12 3,zq 8 151 6 7,zae 9 8,za 10 9,zp 11 11 2 10,zm 12 1 11 10,zao 13 12 10,zp 14 11 3 10,zm 15 1 14 10,zao 16 15 10,za2 17 13 16 10,zk 18 10 17]
def s131_2:=[zac 4]
def s131_3:=[zh 5 0]
def s131_4:=[za 19 5,zc 20 11 2,zb 21 1 20,zu 22 21,zs 23 19 22]
def s131_5:=[zc 26 11 2,zb 27 1 26,za 28 5,zf 29 12 27 28,ze 30 12 29,zc 31 11 3,zb 32 1 31,za 33 5,zf 34 12 32 33,ze 35 12 34,zq 36 131 30 35,zae 37 36]
def s131_6:=[zac 4]
def s131_7:=[za 24 5,zn 25 24 1,za 5 25]
def s131_8:=[zbc 4]
def a131:AC:=Z.r s131_0 [2,3] (Z.s (Z.r s131_1 [2,3,18] (Z.c 18 (Z.e s131_2) .skip)) [2,3] (Z.s (Z.r s131_3 [2,3,5] (Z.b 0 (Z.l [2,3,5] (Z.s (Z.r s131_4 [2,3,5,23] (Z.c 23 .skip (.exit 0))) [2,3,5] (Z.s (Z.b 1 (Z.d s131_5 [2,3,5,37] (Z.c 37 (Z.e s131_6) .skip))) [2,3,5] (Z.g s131_7)))))) [] (Z.e s131_8)))
def c131:FC:=⟨38,a131.erase,[.tmp 4]⟩
theorem comp131:compF Tryz.prog Tryz.f131=some c131:=by kernel_rfl
theorem era131:c131.code=a131.erase:=rfl
def s132_0:=[zab 0 37]
def s132_1:=[zb0 1 1 1,zat 2 1 1,zd 12 0 2]
def a132:AC:=Z.r s132_0 [0] (Z.e s132_1)
def c132:FC:=⟨3,a132.erase,[.cell 0 true 12]⟩
theorem comp132:compF Tryz.prog Tryz.f132=some c132:=by kernel_rfl
theorem era132:c132.code=a132.erase:=rfl
def s133_0:=[zt 2 132 0,za3 4 132,zh 5 0]
def s133_1:=[zh 6 0]
def s133_2:=[za 8 6,zc 9 0 2,zc 10 0 9,zb 11 1 10,zu 12 11,zs 13 8 12]
def s133_3:=[zc 16 0 2,zc 17 0 16,zb 18 1 17,za 19 6,zf 20 4 18 19,ze 21 4 20,zaz 7 58,zd 4 7 21]
def s133_4:=[zc 22 0 7,zb 23 1 22,za 24 1,zay 25 23 24]
def s133_5:=[zc 26 1 7,zb 27 1 26,zc 28 4 2,zb 29 1 28,zay 30 27 29]
def s133_6:=[zbt 31,zd 9 4 31,zh 5 5]
def s133_7:=[zc 32 0 2,ze 33 4 32,ze 34 4 7,q0 35 (.build [.slice none 0 0,.slice none 0 0,.slice none 0 0,.slice none 0 0,.string ⟨#[]⟩,.string ⟨#[]⟩,.string ⟨#[]⟩,.slice none 0 0,.int .i64 0] [(0,4,.tmp 33),(5,4,.tmp 34)]),zd 9 4 35,zh 5 0]
def s133_8:=[za 14 6,zn 15 14 1,za 6 15]
def s133_9:=[zbt 36,zd 9 4 36,zh 5 4]
def a133:AC:=Z.r s133_0 [1,2,4] (Z.s (Z.r s133_1 [1,2,4,6] (Z.b 0 (Z.l [1,2,4,6] (Z.s (Z.r s133_2 [1,2,4,6,13] (Z.c 13 .skip (.exit 0))) [1,2,4,6] (Z.s (Z.b 1 (Z.r s133_3 [1,2,4,6,7] (Z.s (Z.r s133_4 [1,2,4,6,7,25] (Z.c 25 (.exit 1) .skip)) [2,4,7] (Z.s (Z.r s133_5 [2,4,7,30] (Z.c 30 (Z.e s133_6) .skip)) [2,4,7] (Z.e s133_7))))) [1,2,4,6] (Z.g s133_8)))))) [4] (Z.e s133_9))
def c133:FC:=⟨37,a133.erase,[.cell 4 true 9,.tmp 5]⟩
theorem comp133:compF Tryz.prog Tryz.f133=some c133:=by kernel_rfl
theorem era133:c133.code=a133.erase:=rfl
def s134_0:=[zt 3 132 0,zt 4 37 1,zaa 6 47,zh 7 0]
def s134_1:=[zc 10 0 4,zb 11 1 10]
def s134_2:=[zy 13 11 1,za 12 13]
def s134_3:=[zc 14 4 4,zc 15 0 14,zb 16 1 15,zc 17 7 4,zb 18 1 17,zc 19 2 4,zb 20 1 19,zbs 21 16 18 20,zd 3 6 21,zh 7 0]
def s134_4:=[zy 23 11 2,za 22 23]
def s134_5:=[ze 24 9 3,zc 25 2 4,zb 26 1 25,zq 27 156 24 26,zi 28 27 0,zi 29 27 1,zd 3 6 28,za 7 29]
def s134_6:=[zy 31 11 3,za 30 31]
def s134_7:=[ze 32 9 3,zc 33 2 4,zb 34 1 33,zc 35 4 3,zb 36 1 35,zan 37 157 32 34 36,zi 38 37 0,zi 39 37 1,zd 3 6 38,za 7 39]
def s134_8:=[zy 41 11 4,za 40 41]
def s134_9:=[za 42 2,zal 43 3 42 0,zc 44 0 43,zb 45 1 44,zaf 46 45 5]
def s134_10:=[zaj 47,zd 3 6 47,zh 7 5]
def s134_11:=[ed 0 (ze 48 9 3) [],ed 1 (zc 49 2 4) [],ed 2 (zb 50 1 49) [],ed 3 (za 51 2) [],ed 4 (zal 52 3 51 0) [],ed 5 (zc 53 2 52) [],ed 6 (zb 54 1 53) [],ed 7 (zan 55 157 48 50 54) [],ed 8 (zi 56 55 0) [],ed 9 (zi 57 55 1) [],ed 10 (zd 3 6 56) [6],ed 11 (za 7 57) []]
def s134_12:=[zy 59 11 5,za 58 59]
def s134_13:=[ed 0 (ze 60 12 4) [],ed 1 (za 61 2) [],ed 2 (zal 62 3 61 0) [],ed 3 (ze 63 3 62) [],ed 4 (za 64 2) [],ed 5 (zal 65 3 64 1) [],ed 6 (ze 66 3 65) [],ed 7 (zan 67 158 60 63 66) [],ed 8 (zi 68 67 0) [],ed 9 (zi 69 67 1) [],ed 10 (zd 3 6 68) [6],ed 11 (za 7 69) []]
def s134_14:=[zy 71 11 6,za 70 71]
def s134_15:=[zc 72 1 4,zb 73 1 72,zc0 74 73,za 75 74,zl 76 2 75,q1 77 (.iaddr 3 (.tmp 76) (ki 0)) 75 true,zak 78 3 77 75,za5 79 99 78 75,zax 80 79 75,zo 81 75 80,za 82 81,zp 83 1 4 82,zm 84 1 83 82,q1 85 (.bin .eql (.tmp 84) (ks ⟨#[110,111,116]⟩)) 82 false,zv 86 85 82,zl 87 2 86,q1 88 (.iaddr 3 (.tmp 87) (ki 0)) 86 true,zr 89 0 88 86,zj 90 1 89 86,zcc 91 90 1 86,zas 92 86 91 82,zk 93 82 92]
def s134_16:=[zaj 94,zd 3 6 94,zh 7 5]
def s134_17:=[zc 95 1 4,zb 96 1 95,zc0 97 96]
def s134_18:=[za 98 2,zal 99 3 98 0,ze 100 3 99,zd 3 6 100,zh 7 0]
def s134_19:=[zba 101 1,zd 3 6 101,zh 7 0]
def s134_20:=[zy 103 11 7,za 102 103]
def s134_21:=[ed 0 (zc 104 1 4) [],ed 1 (zb 105 1 104) [],ed 2 (za 106 2) [],ed 3 (zal 107 3 106 0) [],ed 4 (ze 108 3 107) [],ed 5 (za 109 2) [],ed 6 (zal 110 3 109 1) [],ed 7 (ze 111 3 110) [],ed 8 (zan 112 159 105 108 111) [],ed 9 (zi 113 112 0) [],ed 10 (zi 114 112 1) [],ed 11 (zd 3 6 113) [6],ed 12 (za 7 114) []]
def s134_22:=[zy 116 11 8,za 115 116]
def s134_23:=[za 117 2,zal 118 3 117 0,zc 119 0 118,zb 120 1 119,zaf 121 120 1]
def s134_24:=[zaj 122,zd 3 6 122,zh 7 5]
def s134_25:=[za 123 2,zu 124 123,zag 125 124 1,za 8 125]
def s134_26:=[za 126 2,za 127 8,zag 128 127 1,zf 129 3 126 128,ze 130 3 129,za 131 2,za 132 8,zf 133 3 131 132,ze 134 3 133,zq 135 72 130 134,za 9 135]
def s134_27:=[za 136 9,zaf 137 136 0]
def s134_28:=[zaj 138,za 139 9,zd 3 6 138,za 7 139]
def s134_29:=[za 140 2,za 141 8,zf 142 3 140 141,ze 143 3 142,zd 3 6 143,zh 7 0]
def a134:AC:=Z.r s134_0 [2,3,4,6] (Z.s (Z.r s134_1 [2,3,4,6,11] (Z.b 0 (Z.r s134_2 [2,3,4,6,11,12] (Z.c 12 (Z.e s134_3) (Z.r s134_4 [2,3,4,6,11,22] (Z.c 22 (Z.e s134_5) (Z.r s134_6 [2,3,4,6,11,30] (Z.c 30 (Z.e s134_7) (Z.r s134_8 [2,3,4,6,11,40] (Z.c 40 (Z.s (Z.r s134_9 [2,3,4,6,46] (Z.c 46 (Z.e s134_10) .skip)) [2,3,4,6] (.seq (.mreg [] s134_11) .ret)) (Z.r s134_12 [2,4,6,11,58] (Z.c 58 (.seq (.mreg [] s134_13) .ret) (Z.r s134_14 [2,4,6,11,70] (Z.c 70 (Z.s (Z.r s134_15 [2,4,6,93] (Z.c 93 (Z.e s134_16) .skip)) [2,4,6] (Z.s (Z.r s134_17 [2,6,97] (Z.c 97 (Z.e s134_18) .skip)) [6] (Z.e s134_19))) (Z.r s134_20 [2,4,6,11,102] (Z.c 102 (.seq (.mreg [] s134_21) .ret) (Z.r s134_22 [2,6,115] (Z.c 115 (Z.r s134_23 [2,6,121] (Z.c 121 (Z.e s134_24) .skip)) .skip)))))))))))))))))) [2,6] (Z.r s134_25 [2,6,8] (Z.d s134_26 [2,6,8,9] (Z.s (Z.r s134_27 [2,6,8,9,137] (Z.c 137 (Z.e s134_28) .skip)) [2,6,8] (Z.e s134_29)))))
def c134:FC:=⟨144,a134.erase,[.cell 6 true 3,.tmp 7]⟩
theorem comp134:compF Tryz.prog Tryz.f134=some c134:=by kernel_rfl
theorem era134:c134.code=a134.erase:=rfl
def s146_0:=[zh 4 0]
def s146_1:=[za 6 0,zu 7 6,zh 8 0]
def s146_2:=[zs 9 8 7]
def s146_3:=[za 10 8,za 5 10]
def s146_4:=[za 11 1,za 12 0,za 13 5,zf 14 1 12 13,zb 15 1 14,zav 16 11 15]
def s146_5:=[za 17 5,za 4 17]
def s146_6:=[zn 18 8 1,za 8 18]
def s146_7:=[zbw 4]
def a146:AC:=Z.r s146_0 [0,1] (Z.s (Z.r s146_1 [0,1,7,8] (Z.b 0 (Z.l [0,1,7,8] (Z.r s146_2 [0,1,7,8,9] (Z.s (Z.c 9 .skip (.exit 0)) [0,1,7,8] (Z.s (Z.b 1 (Z.r s146_3 [0,1,5,7,8] (Z.r s146_4 [0,1,5,7,8,16] (Z.c 16 (Z.e s146_5) .skip)))) [0,1,7,8] (Z.g s146_6))))))) [] (Z.e s146_7))
def c146:FC:=⟨19,a146.erase,[.tmp 4]⟩
theorem comp146:compF Tryz.prog Tryz.f146=some c146:=by kernel_rfl
theorem era146:c146.code=a146.erase:=rfl
def s147_0:=[zt 3 92 0,zt 4 9 1,zaa 6 47,zh 7 0]
def s147_1:=[zc 9 0 3,zc 10 1 9,zb 11 1 10,q0 12 (.mkfn (Fn.func 166) [] [.tmp 4]),zq 13 80 11 12,za 8 13]
def s147_2:=[za 15 8,zau 16 15 0,za 14 16]
def s147_3:=[zbi 17 57 4,zi 18 17 0,zi 19 17 1,zd 3 6 18,za 7 19]
def s147_4:=[zc 21 0 3,zc 22 1 21,zb 23 1 22,za 24 8,zf 25 18 23 24,zc 26 1 25,zb 27 1 26,za 28 2,zay 29 27 28,za 20 29]
def s147_5:=[zbi 30 57 5,zi 31 30 0,zi 32 30 1,zd 3 6 31,za 7 32]
def s147_6:=[zc 33 0 3,zc 34 1 33,zb 35 1 34,za 36 8,zf 37 18 35 36,zc 38 2 37,ze 39 3 38,zd 3 6 39,zh 7 0]
def a147:AC:=Z.r s147_0 [2,3,4,6] (Z.r s147_1 [2,3,6,8] (Z.s (Z.b 0 (Z.r s147_2 [2,3,6,8,14] (Z.c 14 (Z.e s147_3) (Z.r s147_4 [3,6,8,20] (Z.c 20 (Z.e s147_5) .skip))))) [3,6,8] (Z.e s147_6)))
def c147:FC:=⟨40,a147.erase,[.cell 6 true 3,.tmp 7]⟩
theorem comp147:compF Tryz.prog Tryz.f147=some c147:=by kernel_rfl
theorem era147:c147.code=a147.erase:=rfl
def s148_0:=[zx 4,zh 5 0]
def s148_1:=[za 6 0,za 7 1,q0 8 (.call 167 [.tmp 6,.tmp 7,ki 1]),zi 9 8 0,zi 10 8 1,za 4 9,za 5 10]
def a148:AC:=Z.r s148_0 [0,1] (Z.e s148_1)
def c148:FC:=⟨11,a148.erase,[.tmp 4,.tmp 5]⟩
theorem comp148:compF Tryz.prog Tryz.f148=some c148:=by kernel_rfl
theorem era148:c148.code=a148.erase:=rfl
def s149_0:=[zx 4,zh 5 0]
def s149_1:=[za 6 0,za 7 1,q0 8 (.call 167 [.tmp 6,.tmp 7,.const (.int .i64 (-1))]),zi 9 8 0,zi 10 8 1,za 4 9,za 5 10]
def a149:AC:=Z.r s149_0 [0,1] (Z.e s149_1)
def c149:FC:=⟨11,a149.erase,[.tmp 4,.tmp 5]⟩
theorem comp149:compF Tryz.prog Tryz.f149=some c149:=by kernel_rfl
theorem era149:c149.code=a149.erase:=rfl
def s151_0:=[zt 2 37 0,zt 3 37 1,zac 4]
def s151_1:=[zc 5 0 2,zb 6 1 5,zc 7 0 3,zb 8 1 7,zav 9 6 8,za 10 9,zr 11 1 2 10,zj 12 1 11 10,zr 13 1 3 10,zj 14 1 13 10,zaq 15 12 14 10,zo 16 10 15,za 17 16,zr 18 2 2 17,zj 19 1 18 17,zr 20 2 3 17,zj 21 1 20 17,zaq 22 19 21 17,zo 23 17 22,za 24 23,zr 25 3 2 24,zj 26 1 25 24,zr 27 3 3 24,zj 28 1 27 24,zaq 29 26 28 24,zo 30 24 29,za 31 30,zr 32 4 2 31,zak 33 3 32 31,zr 34 4 3 31,zak 35 3 34 31,q1 36 (.eqs false [.int,.int,.str] (.tmp 33) (.tmp 35)) 31 true,zo 37 31 36,za 38 37,zr 39 7 2 38,zj 40 1 39 38,zr 41 7 3 38,zj 42 1 41 38,zai 43 105 40 42 38,zo 44 38 43,za 45 44,zr 46 8 2 45,zj 47 1 46 45,zr 48 8 3 45,zj 49 1 48 45,zaq 50 47 49 45,zo 51 45 50,za 52 51,zr 53 9 2 52,zak 54 2 53 52,zr 55 9 3 52,zak 56 2 55 52,q1 57 (.eqs false [.int,.int] (.tmp 54) (.tmp 56)) 52 true,zo 58 52 57,za 4 58]
def a151:AC:=Z.r s151_0 [2,3] (Z.e s151_1)
def c151:FC:=⟨59,a151.erase,[.tmp 4]⟩
theorem comp151:compF Tryz.prog Tryz.f151=some c151:=by kernel_rfl
theorem era151:c151.code=a151.erase:=rfl
def s152_0:=[zt 1 37 0,zac 2]
def s152_1:=[zc 4 4 1,ze 5 3 4,zw 6 169 5,zaf 7 6 0,za 8 7,zp 9 4 1 8,zp 10 1 9 8,zm 11 1 10 8,zbj 12 11 0 8,zk 13 8 12]
def s152_2:=[zac 2]
def s152_3:=[zc 14 4 1,zc 15 0 14,zb 16 1 15,zc 17 7 1,zb 18 1 17,zc 19 2 1,zb 20 1 19,zbs 21 16 18 20,zaa 3 47,zd 3 3 21]
def s152_4:=[ze 22 3 3,zw 23 69 22,zy 24 23 0,za 25 24,zak 26 12 1 25,zr 27 4 1 25,zak 28 3 27 25,zr 29 7 1 25,zj 30 1 29 25,zr 31 2 1 25,zj 32 1 31 25,q1 33 (.build [.int .i64 0,.string ⟨#[]⟩,.string ⟨#[]⟩,.string ⟨#[]⟩,.int .i64 0,.int .i64 0,.string ⟨#[]⟩,.slice none 0 0,.int .i64 0,.int .i64 0,.int .i64 0,.slice none 0 0] [(0,1,ki 1),(4,3,.tmp 28),(7,1,.tmp 30),(2,1,.tmp 32)]) 25 true,zai 34 151 26 33 25,zo 35 25 34,za 2 35]
def a152:AC:=Z.r s152_0 [1] (Z.s (Z.r s152_1 [1,13] (Z.c 13 (Z.e s152_2) .skip)) [1] (Z.r s152_3 [1,3] (Z.e s152_4)))
def c152:FC:=⟨36,a152.erase,[.tmp 2]⟩
theorem comp152:compF Tryz.prog Tryz.f152=some c152:=by kernel_rfl
theorem era152:c152.code=a152.erase:=rfl
def s153_0:=[zt 1 37 0,zac 2]
def s153_1:=[zh 3 0]
def s153_2:=[zc 4 1 1,zb 5 1 4,zb9 6 5]
def s153_3:=[zh 3 1000]
def s153_4:=[zc 7 1 1,zb 8 1 7,zb7 9 8]
def s153_5:=[zh 3 1073741824]
def s153_6:=[zc 10 1 1,zb 11 1 10,q0 12 (.call 170 []),zq 13 154 11 12,zae 14 13,za 15 14,zp 16 3 1 15,zm 17 1 16 15,zaw 18 68 17 15,za4 19 18 15,zk 20 15 19,za 21 20,zp 22 9 1 21,za0 23 2 22 21,zaw 24 171 23 21,za4 25 24 21,zk 26 21 25,za 27 26,zp 28 8 1 27,zm 29 1 28 27,zv 30 3 27,q1 31 (.bin .gtr (.tmp 29) (.tmp 30)) 27 false,zk 32 27 31,za 33 32,zp 34 8 1 33,zm 35 1 34 33,zv 36 3 33,q1 37 (.min2 (.tmp 36) (ki 1)) 33 false,zby 38 35 37 33,zk 39 33 38]
def s153_7:=[zac 2]
def s153_8:=[ze 40 12 1,zc 41 1 1,zb 42 1 41,zc 43 3 1,zb 44 1 43,zc 45 8 1,zb 46 1 45,zc 47 9 1,ze 48 2 47,q0 49 (.build [.int .i64 0,.string ⟨#[]⟩,.string ⟨#[]⟩,.string ⟨#[]⟩,.int .i64 0,.int .i64 0,.string ⟨#[]⟩,.slice none 0 0,.int .i64 0,.int .i64 0,.int .i64 0,.slice none 0 0] [(0,1,ki 5),(1,1,.tmp 42),(3,1,.tmp 44),(8,1,.tmp 46),(9,2,.tmp 48)]),zq 50 151 40 49,za 2 50]
def a153:AC:=Z.r s153_0 [1] (Z.r s153_1 [1,3] (Z.s (Z.r s153_2 [1,3,6] (Z.c 6 (Z.g s153_3) .skip)) [1,3] (Z.s (Z.r s153_4 [1,3,9] (Z.c 9 (Z.g s153_5) .skip)) [1,3] (Z.s (Z.d s153_6 [1,39] (Z.c 39 (Z.e s153_7) .skip)) [1] (Z.e s153_8)))))
def c153:FC:=⟨51,a153.erase,[.tmp 2]⟩
theorem comp153:compF Tryz.prog Tryz.f153=some c153:=by kernel_rfl
theorem era153:c153.code=a153.erase:=rfl
def s154_0:=[zac 4]
def s154_1:=[zh 5 0]
def s154_2:=[za 6 5,za 7 1,zu 8 7,zs 9 6 8]
def s154_3:=[za 12 1,za 13 5,zf 14 1 12 13,zb 15 1 14,za 16 0,zav 17 15 16]
def s154_4:=[zbc 4]
def s154_5:=[za 10 5,zn 11 10 1,za 5 11]
def s154_6:=[zac 4]
def a154:AC:=Z.r s154_0 [0,1] (Z.s (Z.r s154_1 [0,1,5] (Z.b 0 (Z.l [0,1,5] (Z.s (Z.r s154_2 [0,1,5,9] (Z.c 9 .skip (.exit 0))) [0,1,5] (Z.s (Z.b 1 (Z.r s154_3 [0,1,5,17] (Z.c 17 (Z.e s154_4) .skip))) [0,1,5] (Z.g s154_5)))))) [] (Z.e s154_6))
def c154:FC:=⟨18,a154.erase,[.tmp 4]⟩
theorem comp154:compF Tryz.prog Tryz.f154=some c154:=by kernel_rfl
theorem era154:c154.code=a154.erase:=rfl
def s155_0:=[zx 0]
def s155_1:=[q0 1 (.mksl 9 1 [ks ⟨#[43]⟩,ks ⟨#[45]⟩,ks ⟨#[42]⟩,ks ⟨#[47]⟩,ks ⟨#[61,61]⟩,ks ⟨#[33,61]⟩,ks ⟨#[60]⟩,ks ⟨#[60,61]⟩,ks ⟨#[97,110,100]⟩,ks ⟨#[111,114]⟩]),za 0 1]
def a155:AC:=Z.r s155_0 [] (Z.e s155_1)
def c155:FC:=⟨2,a155.erase,[.tmp 0]⟩
theorem comp155:compF Tryz.prog Tryz.f155=some c155:=by kernel_rfl
theorem era155:c155.code=a155.erase:=rfl
def s156_0:=[zt 2 132 0,zaa 4 47,zh 5 0]
def s156_1:=[zh 6 0]
def s156_2:=[za 7 6,zc 8 5 2,zc 9 2 8,zb 10 1 9,zu 11 10,zs 12 7 11]
def s156_3:=[zc 15 5 2,zc 16 2 15,zb 17 1 16,za 18 6,zf 19 4 17 18,zc 20 0 19,zb 21 1 20,za 22 1,zav 23 21 22]
def s156_4:=[zc 24 5 2,zc 25 2 24,zb 26 1 25,za 27 6,zf 28 4 26 27,zc 29 1 28,ze 30 3 29,zd 3 4 30,zh 5 0]
def s156_5:=[za 13 6,zn 14 13 1,za 6 14]
def s156_6:=[zaj 31,zd 3 4 31,zh 5 4]
def a156:AC:=Z.r s156_0 [1,2,4] (Z.s (Z.r s156_1 [1,2,4,6] (Z.b 0 (Z.l [1,2,4,6] (Z.s (Z.r s156_2 [1,2,4,6,12] (Z.c 12 .skip (.exit 0))) [1,2,4,6] (Z.s (Z.b 1 (Z.r s156_3 [1,2,4,6,23] (Z.c 23 (Z.e s156_4) .skip))) [1,2,4,6] (Z.g s156_5)))))) [4] (Z.e s156_6))
def c156:FC:=⟨32,a156.erase,[.cell 4 true 3,.tmp 5]⟩
theorem comp156:compF Tryz.prog Tryz.f156=some c156:=by kernel_rfl
theorem era156:c156.code=a156.erase:=rfl
def s157_0:=[zt 3 132 0,zaa 6 47,zh 7 0]
def s157_1:=[zh 8 0]
def s157_2:=[za 10 8,zc 11 0 3,zc 12 1 11,zb 13 1 12,zu 14 13,zs 15 10 14]
def s157_3:=[zc 18 0 3,zc 19 1 18,zb 20 1 19,za 21 8,zf 22 18 20 21,ze 23 18 22,zg 9 49,zd 18 9 23]
def s157_4:=[zc 24 0 9,zb 25 1 24,za 26 1,zay 27 25 26]
def s157_5:=[zc 28 1 9,zb 29 1 28,za 30 2,zay 31 29 30]
def s157_6:=[zaj 32,zd 3 6 32,zh 7 5]
def s157_7:=[zc 33 2 9,ze 34 3 33,zd 3 6 34,zh 7 0]
def s157_8:=[za 16 8,zn 17 16 1,za 8 17]
def s157_9:=[zaj 35,zd 3 6 35,zh 7 4]
def a157:AC:=Z.r s157_0 [1,2,3,6] (Z.s (Z.r s157_1 [1,2,3,6,8] (Z.b 0 (Z.l [1,2,3,6,8] (Z.s (Z.r s157_2 [1,2,3,6,8,15] (Z.c 15 .skip (.exit 0))) [1,2,3,6,8] (Z.s (Z.b 1 (Z.r s157_3 [1,2,3,6,8,9] (Z.s (Z.r s157_4 [1,2,3,6,8,9,27] (Z.c 27 (.exit 1) .skip)) [2,6,9] (Z.s (Z.r s157_5 [6,9,31] (Z.c 31 (Z.e s157_6) .skip)) [6,9] (Z.e s157_7))))) [1,2,3,6,8] (Z.g s157_8)))))) [6] (Z.e s157_9))
def c157:FC:=⟨36,a157.erase,[.cell 6 true 3,.tmp 7]⟩
theorem comp157:compF Tryz.prog Tryz.f157=some c157:=by kernel_rfl
theorem era157:c157.code=a157.erase:=rfl
def s158_0:=[zt 3 37 0,zt 4 47 1,zt 5 47 2,zaa 6 47,zh 7 0]
def s158_1:=[zc 10 0 5,zb 11 1 10,zaf 12 11 1]
def s158_2:=[zaj 13,zd 3 6 13,zh 7 5]
def s158_3:=[zc 14 1 3,zb 15 1 14,q0 16 (.mksl 9 1 [ks ⟨#[115,117,109]⟩,ks ⟨#[109,101,97,110]⟩,ks ⟨#[113,117,97,110,116,105,108,101]⟩,ks ⟨#[100,101,99,97,121]⟩]),zq 17 154 15 16,za 8 17]
def s158_4:=[zc 18 1 3,zb 19 1 18,q0 20 (.mksl 9 1 [ks ⟨#[109,105,110]⟩,ks ⟨#[109,97,120]⟩]),zq 21 154 19 20,za 9 21]
def s158_5:=[za 22 8,za 23 22,zak 24 3 4 23,za5 25 99 24 23,zax 26 25 23,zo 27 23 26,za 28 27,zv 29 9 28,zv 30 29 28,zak 31 3 4 30,za5 32 99 31 30,zax 33 32 30,zas 34 30 33 28,zv 35 34 28,zr 36 0 4 35,zj 37 1 36 35,zcc 38 37 4 35,zas 39 35 38 28,zk 40 28 39]
def s158_6:=[zaj 41,zd 3 6 41,zh 7 5]
def s158_7:=[zc 42 1 3,zb 43 1 42]
def s158_8:=[zb6 45 43,za 44 45]
def s158_9:=[zca 46 43,za 44 46]
def s158_10:=[zba 47 2,zd 3 6 47,zh 7 0]
def s158_11:=[zcr 49 43,za 48 49]
def s158_12:=[zb7 50 43,za 48 50]
def s158_13:=[zc 51 1 4,zb 52 1 51,q0 53 (.build [.int .i64 0,.slice none 0 0,.string ⟨#[]⟩] [(0,1,ki 3),(1,1,.tmp 52)]),zd 3 6 53,zh 7 0]
def s158_14:=[ze 54 3 4,zd 3 6 54,zh 7 0]
def a158:AC:=Z.r s158_0 [3,4,5,6] (Z.s (Z.r s158_1 [3,4,6,12] (Z.c 12 (Z.e s158_2) .skip)) [3,4,6] (Z.r s158_3 [3,4,6,8] (Z.r s158_4 [3,4,6,8,9] (Z.s (Z.r s158_5 [3,4,6,40] (Z.c 40 (Z.e s158_6) .skip)) [3,4,6] (Z.s (Z.r s158_7 [4,6,43] (Z.b 0 (Z.s (Z.r s158_8 [4,6,43,44] (Z.c 44 .skip (Z.g s158_9))) [4,6,43,44] (Z.c 44 (Z.e s158_10) (Z.s (Z.r s158_11 [4,6,43,48] (Z.c 48 .skip (Z.g s158_12))) [4,6,48] (Z.c 48 (Z.e s158_13) .skip)))))) [4,6] (Z.e s158_14))))))
def c158:FC:=⟨55,a158.erase,[.cell 6 true 3,.tmp 7]⟩
theorem comp158:compF Tryz.prog Tryz.f158=some c158:=by kernel_rfl
theorem era158:c158.code=a158.erase:=rfl
def s159_0:=[zt 4 47 1,zt 5 47 2,zaa 6 47,zh 7 0]
def s159_1:=[zba 14 1,zaa 8 47,zd 3 8 14]
def s159_2:=[ze 15 3 4,zw 16 99 15,za 17 16,zak 18 3 5 17,za5 19 99 18 17,zo 20 17 19,za 9 20]
def s159_3:=[zh 10 3]
def s159_4:=[zc 21 0 4,zb 22 1 21,zy 23 22 2,za 24 23,zr 25 0 5 24,zj 26 1 25 24,zbq 27 26 2 24,zo 28 24 27]
def s159_5:=[zh 10 2]
def s159_6:=[zx 11]
def s159_7:=[zh 12 0]
def s159_8:=[za 29 0]
def s159_9:=[zcx 39 29,za 38 39]
def s159_10:=[zcy 40 29,za 38 40]
def s159_11:=[zc 41 0 4,zb 42 1 41,zaf 43 42 1,za 44 43,zp 45 0 5 44,zm 46 1 45 44,zbp 47 46 1 44,zk 48 44 47]
def s159_12:=[zaj 49,zd 3 6 49,zh 7 5]
def s159_13:=[ze 50 3 8,zd 3 6 50,zh 7 0]
def s159_14:=[q0 52 (.bin .eql (.tmp 29) (ks ⟨#[61,61]⟩)),za 51 52]
def s159_15:=[q0 53 (.bin .eql (.tmp 29) (ks ⟨#[33,61]⟩)),za 51 53]
def s159_16:=[zcs 54 29,za 51 54]
def s159_17:=[q0 55 (.bin .eql (.tmp 29) (ks ⟨#[60,61]⟩)),za 51 55]
def s159_18:=[ze 56 3 4,ze 57 3 5,zq 58 172 56 57,za 13 58]
def s159_19:=[za 59 0,zcs 60 59,za 61 60,zv 62 0 61,q1 63 (.bin .eql (.tmp 62) (ks ⟨#[60,61]⟩)) 61 false,zk 64 61 63]
def s159_20:=[zc 65 0 4,zb 66 1 65,zy 67 66 4,za 68 67,zr 69 0 5 68,zj 70 1 69 68,zbq 71 70 4 68,zo 72 68 71,za 13 72]
def s159_21:=[za 73 9,za 74 73,zr 75 1 4 74,zj 76 1 75 74,zr 77 1 5 74,zj 78 1 77 74,zai 79 105 76 78 74,zax 80 79 74,zo 81 74 80]
def s159_22:=[zaj 82,zd 3 6 82,zh 7 70]
def s159_23:=[za 83 9,zae 84 83,za 85 84,zl 86 13 85,zax 87 86 85,zo 88 85 87]
def s159_24:=[zaj 89,zd 3 6 89,zh 7 5]
def s159_25:=[ze 90 3 8,zd 3 6 90,zh 7 0]
def s159_26:=[q0 92 (.bin .eql (.tmp 29) (ks ⟨#[42]⟩)),za 91 92]
def s159_27:=[zc 94 1 4,zb 95 1 94,zc 96 1 5,zb 97 1 96,zq 98 173 95 97,za 93 98,zi 99 93 0,zi 100 93 1,za 11 99,za 12 100]
def s159_28:=[q0 102 (.bin .eql (.tmp 29) (ks ⟨#[47]⟩)),za 101 102]
def s159_29:=[zc 104 1 4,zb 105 1 104,zc 106 1 5,zb 107 1 106,zq 108 174 105 107,za 103 108,zi 109 103 0,zi 110 103 1,za 11 109,za 12 110]
def s159_30:=[zh 10 3]
def s159_31:=[zc 30 1 4,zb 31 1 30,za 11 31]
def s159_32:=[zc 32 1 4,zb 33 1 32,zc 34 1 5,zb 35 1 34,zq 36 105 33 35,zae 37 36]
def s159_33:=[zh 12 70]
def s159_34:=[za 111 9,zae 112 111]
def s159_35:=[zaj 113,zd 3 6 113,zh 7 5]
def s159_36:=[za 114 12,zaf 115 114 0]
def s159_37:=[zaj 116,zd 3 6 116,zh 7 70]
def s159_38:=[za 117 10,za 118 11,zcf 119 117 118,zd 3 6 119,zh 7 0]
def a159:AC:=Z.r s159_0 [0,4,5,6] (Z.r s159_1 [0,4,5,6,8] (Z.r s159_2 [0,4,5,6,8,9] (Z.r s159_3 [0,4,5,6,8,9,10] (Z.s (Z.r s159_4 [0,4,5,6,8,9,10,28] (Z.c 28 (Z.g s159_5) .skip)) [0,4,5,6,8,9,10] (Z.r s159_6 [0,4,5,6,8,9,10] (Z.r s159_7 [0,4,5,6,8,9,10,12] (Z.s (Z.r s159_8 [0,4,5,6,8,9,10,12,29] (Z.b 0 (Z.s (Z.r s159_9 [0,4,5,6,8,9,10,12,29,38] (Z.c 38 .skip (Z.g s159_10))) [0,4,5,6,8,9,10,12,29,38] (Z.c 38 (Z.s (Z.r s159_11 [6,8,48] (Z.c 48 (Z.e s159_12) .skip)) [6,8] (Z.e s159_13)) (Z.s (Z.r s159_14 [0,4,5,6,8,9,10,12,29,51] (Z.c 51 .skip (Z.r s159_15 [0,4,5,6,8,9,10,12,29,51] (Z.c 51 .skip (Z.r s159_16 [0,4,5,6,8,9,10,12,29,51] (Z.c 51 .skip (Z.g s159_17))))))) [0,4,5,6,8,9,10,12,29,51] (Z.c 51 (Z.r s159_18 [0,4,5,6,8,9,13] (Z.s (Z.r s159_19 [4,5,6,8,9,13,64] (Z.c 64 (Z.g s159_20) .skip)) [4,5,6,8,9,13] (Z.s (Z.r s159_21 [6,8,9,13,81] (Z.c 81 (Z.e s159_22) .skip)) [6,8,9,13] (Z.s (Z.r s159_23 [6,8,88] (Z.c 88 (Z.e s159_24) .skip)) [6,8] (Z.e s159_25))))) (Z.r s159_26 [4,5,6,9,10,12,29,91] (Z.c 91 (Z.g s159_27) (Z.r s159_28 [4,5,6,9,10,12,101] (Z.c 101 (Z.r s159_29 [6,9,11,12] (Z.g s159_30)) (Z.r s159_31 [4,5,6,9,10,11,12] (Z.r s159_32 [6,9,10,11,12,37] (Z.c 37 (Z.g s159_33) .skip))))))))))))) [6,9,10,11,12] (Z.s (Z.r s159_34 [6,10,11,12,112] (Z.c 112 (Z.e s159_35) .skip)) [6,10,11,12] (Z.s (Z.r s159_36 [6,10,11,115] (Z.c 115 (Z.e s159_37) .skip)) [6,10,11] (Z.e s159_38))))))))))
def c159:FC:=⟨120,a159.erase,[.cell 6 true 3,.tmp 7]⟩
theorem comp159:compF Tryz.prog Tryz.f159=some c159:=by kernel_rfl
theorem era159:c159.code=a159.erase:=rfl
def s166_0:=[zt 2 49 0,zac 3]
def s166_1:=[zc 4 0 2,zb 5 1 4,zb 6 1 1,zav 7 5 6,za 3 7]
def a166:AC:=Z.r s166_0 [1,2] (Z.e s166_1)
def c166:FC:=⟨8,a166.erase,[.tmp 3]⟩
theorem comp166:compF Tryz.prog Tryz.f166=some c166:=by kernel_rfl
theorem era166:c166.code=a166.erase:=rfl
def s167_0:=[zx 6,zh 7 0]
def s167_1:=[za 13 0,zw 14 93 13,za 8 14]
def s167_2:=[za 15 8,zaf 16 15 0]
def s167_3:=[za 17 8,zx 6,za 7 17]
def s167_4:=[za 18 1,zw 19 93 18,za 9 19]
def s167_5:=[za 20 9,zaf 21 20 0]
def s167_6:=[za 22 9,zx 6,za 7 22]
def s167_7:=[za 23 0,zw 24 176 23,za 10 24]
def s167_8:=[za 25 1,zu 26 25,zh 27 0]
def s167_9:=[zs 28 27 26]
def s167_10:=[zf 29 2 25 27,ze 30 2 29,zcb 12 124,zd 2 12 30]
def s167_11:=[za 31 10,zc 32 0 12,zb 33 1 32,za 34 2,zc 35 1 12,zb 36 1 35,q0 37 (.bin .mul (.tmp 34) (.tmp 36)),zbn 38 33 37,q0 39 (.mksl 124 2 [.tmp 38]),zbe 40 124 31 39,za 10 40]
def s167_12:=[zn 41 27 1,za 27 41]
def s167_13:=[za 42 10,zw 43 177 42,zi 44 43 0,zi 45 43 1,za 6 44,za 7 45]
def a167:AC:=Z.r s167_0 [0,1,2] (Z.s (Z.r s167_1 [0,1,2,8] (Z.r s167_2 [0,1,2,8,16] (Z.c 16 (Z.e s167_3) .skip))) [0,1,2] (Z.s (Z.r s167_4 [0,1,2,9] (Z.r s167_5 [0,1,2,9,21] (Z.c 21 (Z.e s167_6) .skip))) [0,1,2] (Z.r s167_7 [1,2,10] (Z.s (Z.r s167_8 [2,10,25,26,27] (Z.b 0 (Z.l [2,10,25,26,27] (Z.r s167_9 [2,10,25,26,27,28] (Z.s (Z.c 28 .skip (.exit 0)) [2,10,25,26,27] (Z.s (Z.b 1 (Z.r s167_10 [2,10,12,25,26,27] (Z.g s167_11))) [2,10,25,26,27] (Z.g s167_12))))))) [10] (Z.e s167_13)))))
def c167:FC:=⟨46,a167.erase,[.tmp 6,.tmp 7]⟩
theorem comp167:compF Tryz.prog Tryz.f167=some c167:=by kernel_rfl
theorem era167:c167.code=a167.erase:=rfl
def s169_0:=[zt 1 31 0,zh 2 0]
def s169_1:=[ze 3 3 1,zw 4 182 3,zae 5 4]
def s169_2:=[zh 2 1]
def s169_3:=[zc 6 1 1,zb 7 1 6,zw 8 183 7,zae 9 8,za 10 9,zp 11 0 1 10,zm 12 1 11 10,za8 13 12 4 10,zv 14 13 10,zr 15 2 1 14,zj 16 1 15 14,zcm 17 16 14,q1 18 (.bin .gtr (.tmp 17) (ki 64)) 14 true,zas 19 14 18 10,zk 20 10 19,za 21 20,zp 22 0 1 21,zm 23 1 22 21,za8 24 23 5 21,zv 25 24 21,zr 26 2 1 25,zj 27 1 26 25,zcm 28 27 25,q1 29 (.bin .gtr (.tmp 28) (ki 32)) 25 true,zas 30 25 29 21,zk 31 21 30]
def s169_4:=[zh 2 2]
def s169_5:=[zc 32 0 1,zb 33 1 32,zy 34 33 4,za 35 34,zr 36 2 1 35,zj 37 1 36 35,za5 38 184 37 35,zax 39 38 35,zo 40 35 39,za 41 40,zp 42 0 1 41,zm 43 1 42 41,za8 44 43 5 41,zv 45 44 41,zr 46 2 1 45,zj 47 1 46 45,za5 48 185 47 45,zax 49 48 45,zas 50 45 49 41,zk 51 41 50]
def s169_6:=[zh 2 3]
def s169_7:=[zh 2 0]
def a169:AC:=Z.r s169_0 [1] (Z.s (Z.r s169_1 [1,5] (Z.c 5 (Z.e s169_2) .skip)) [1] (Z.s (Z.r s169_3 [1,31] (Z.c 31 (Z.e s169_4) .skip)) [1] (Z.s (Z.r s169_5 [51] (Z.c 51 (Z.e s169_6) .skip)) [] (Z.e s169_7))))
def c169:FC:=⟨52,a169.erase,[.tmp 2]⟩
theorem comp169:compF Tryz.prog Tryz.f169=some c169:=by kernel_rfl
theorem era169:c169.code=a169.erase:=rfl
def s170_0:=[zx 0]
def s170_1:=[q0 1 (.mksl 9 1 [ks ⟨#[99,111,117,110,116]⟩,ks ⟨#[115,117,109]⟩,ks ⟨#[109,101,97,110]⟩,ks ⟨#[109,105,110]⟩,ks ⟨#[109,97,120]⟩,ks ⟨#[102,105,114,115,116]⟩,ks ⟨#[108,97,115,116]⟩,ks ⟨#[100,105,115,116,105,110,99,116]⟩,ks ⟨#[113,117,97,110,116,105,108,101]⟩,ks ⟨#[100,101,99,97,121]⟩]),za 0 1]
def a170:AC:=Z.r s170_0 [] (Z.e s170_1)
def c170:FC:=⟨2,a170.erase,[.tmp 0]⟩
theorem comp170:compF Tryz.prog Tryz.f170=some c170:=by kernel_rfl
theorem era170:c170.code=a170.erase:=rfl
def s171_0:=[zt 1 34 0,zac 2]
def s171_1:=[zc 3 0 1,zb 4 1 3,zy 5 4 1]
def s171_2:=[zc 6 1 1,zb 7 1 6,zy 8 7 0,za 2 8]
def s171_3:=[zc 9 0 1,zb 10 1 9,zar 11 10 1,za 12 11,zr 13 0 1 12,zj 14 1 13 12,zb4 15 14 4 12,zo 16 12 15,za 17 16,zr 18 1 1 17,zj 19 1 18 17,q1 20 (.bin .geq (.tmp 19) (ki 1)) 17 true,zo 21 17 20,za 22 21,zr 23 1 1 22,zj 24 1 23 22,zb4 25 24 1099511627776 22,zo 26 22 25,za 2 26]
def a171:AC:=Z.r s171_0 [1] (Z.s (Z.r s171_1 [1,5] (Z.c 5 (Z.e s171_2) .skip)) [1] (Z.e s171_3))
def c171:FC:=⟨27,a171.erase,[.tmp 2]⟩
theorem comp171:compF Tryz.prog Tryz.f171=some c171:=by kernel_rfl
theorem era171:c171.code=a171.erase:=rfl
def s172_0:=[zt 2 47 0,zt 3 47 1,zac 4]
def s172_1:=[zc 5 0 2,zb 6 1 5,zc 7 0 3,zb 8 1 7,zav 9 6 8,za 10 9,zr 11 1 2 10,zj 12 1 11 10,zr 13 1 3 10,zj 14 1 13 10,zai 15 105 12 14 10,zo 16 10 15,za 17 16,zr 18 2 2 17,zj 19 1 18 17,zr 20 2 3 17,zj 21 1 20 17,zaq 22 19 21 17,zo 23 17 22,za 4 23]
def a172:AC:=Z.r s172_0 [2,3] (Z.e s172_1)
def c172:FC:=⟨24,a172.erase,[.tmp 4]⟩
theorem comp172:compF Tryz.prog Tryz.f172=some c172:=by kernel_rfl
theorem era172:c172.code=a172.erase:=rfl
def s173_0:=[zx 4,zh 5 0]
def s173_1:=[za 8 0,zw 9 100 8,za 6 9]
def s173_2:=[za 10 6,zaf 11 10 0]
def s173_3:=[za 12 6,zx 4,za 5 12]
def s173_4:=[za 13 1,zw 14 100 13,za 6 14]
def s173_5:=[za 15 6,zaf 16 15 0]
def s173_6:=[za 17 6,zx 4,za 5 17]
def s173_7:=[zx 7]
def s173_8:=[za 18 7,za 19 0,zbe 20 124 18 19,za 21 1,zbe 22 124 20 21,za 7 22]
def s173_9:=[za 23 7,zw 24 186 23,zi 25 24 0,zi 26 24 1,za 4 25,za 5 26]
def a173:AC:=Z.r s173_0 [0,1] (Z.r s173_1 [0,1,6] (Z.s (Z.r s173_2 [0,1,6,11] (Z.c 11 (Z.e s173_3) .skip)) [0,1] (Z.r s173_4 [0,1,6] (Z.s (Z.r s173_5 [0,1,6,16] (Z.c 16 (Z.e s173_6) .skip)) [0,1] (Z.r s173_7 [0,1,7] (Z.r s173_8 [7] (Z.e s173_9)))))))
def c173:FC:=⟨27,a173.erase,[.tmp 4,.tmp 5]⟩
theorem comp173:compF Tryz.prog Tryz.f173=some c173:=by kernel_rfl
theorem era173:c173.code=a173.erase:=rfl
def s174_0:=[zx 4,zh 5 0]
def s174_1:=[za 7 0,zw 8 100 7,za 6 8]
def s174_2:=[za 9 6,zaf 10 9 0]
def s174_3:=[za 11 6,zx 4,za 5 11]
def s174_4:=[za 12 1,zw 13 100 12,za 6 13]
def s174_5:=[za 14 6,zaf 15 14 0]
def s174_6:=[za 16 6,zx 4,za 5 16]
def s174_7:=[za 17 0,za 18 1,zw 19 187 18,zq 20 173 17 19,zi 21 20 0,zi 22 20 1,za 4 21,za 5 22]
def a174:AC:=Z.r s174_0 [0,1] (Z.r s174_1 [0,1,6] (Z.s (Z.r s174_2 [0,1,6,10] (Z.c 10 (Z.e s174_3) .skip)) [0,1] (Z.r s174_4 [0,1,6] (Z.s (Z.r s174_5 [0,1,6,15] (Z.c 15 (Z.e s174_6) .skip)) [0,1] (Z.e s174_7)))))
def c174:FC:=⟨23,a174.erase,[.tmp 4,.tmp 5]⟩
theorem comp174:compF Tryz.prog Tryz.f174=some c174:=by kernel_rfl
theorem era174:c174.code=a174.erase:=rfl
def s177_0:=[zx 2,zh 3 0]
def s177_1:=[q0 11 (.exts (.makeMap 186 none) 186 [] []),za 4 11]
def s177_2:=[za 12 0,zu 13 12,zh 14 0]
def s177_3:=[zs 15 14 13]
def s177_4:=[zf 16 2 12 14,ze 17 2 16,zcb 6 124,zd 2 6 17]
def s177_5:=[zc 18 0 6,zb 19 1 18,zw 20 122 19,zae 21 20]
def s177_6:=[zx 2,zh 3 1]
def s177_7:=[za 22 4,zc 23 0 6,zb 24 1 23,za 25 4,zc 26 0 6,zb 27 1 26,q0 28 (.extq (.lookup 186 (.tmp 25) (.tmp 27) false) 188 [.mp 9 188,.str] [.tmp 25,.tmp 27]),zc 29 1 6,zb 30 1 29,zw 31 189 30,zq 32 188 28 31]
def s177_8:List CI:=[.mk none (.exts (.mapUpdate 186 (.tmp 22) (.tmp 24) (.tmp 32)) 0 [.mp 9 188,.str] [.tmp 22,.tmp 24,.tmp 32]) none]
def s177_9:=[zn 33 14 1,za 14 33]
def s177_10:=[za 34 4,zw 35 190 34,zu 36 35,zh 37 0]
def s177_11:=[zs 38 37 36]
def s177_12:=[zf 39 1 35 37,zb 40 1 39,za 8 40]
def s177_13:=[za 42 4,za 43 8,q0 44 (.extq (.lookup 186 (.tmp 42) (.tmp 43) false) 188 [.mp 9 188,.str] [.tmp 42,.tmp 43]),q0 45 (.call 191 [.tmp 44,ki 1]),za 41 45,zi 46 41 0,zi 47 41 1,za 9 46,za 10 47]
def s177_14:=[za 48 10,zae 49 48,za 50 49,zv 51 9 50,q1 52 (.call 123 [.tmp 51,ki 8]) 50 false,zk 53 50 52]
def s177_15:=[zx 2,zh 3 70]
def s177_16:=[za 54 9,zaf 55 54 0]
def s177_17:=[za 56 2,za 57 8,za 58 9,zbn 59 57 58,q0 60 (.mksl 124 2 [.tmp 59]),zbe 61 124 56 60,za 2 61]
def s177_18:=[zn 62 37 1,za 37 62]
def s177_19:=[za 63 2,zu 64 63,zar 65 64 4]
def s177_20:=[zx 2,zh 3 2]
def s177_21:=[za 66 2,za 2 66,zh 3 0]
def a177:AC:=Z.r s177_0 [0,2] (Z.r s177_1 [0,2,4] (Z.s (Z.r s177_2 [2,4,12,13,14] (Z.b 0 (Z.l [2,4,12,13,14] (Z.r s177_3 [2,4,12,13,14,15] (Z.s (Z.c 15 .skip (.exit 0)) [2,4,12,13,14] (Z.s (Z.b 1 (Z.r s177_4 [2,4,6,12,13,14] (Z.s (Z.r s177_5 [2,4,6,12,13,14,21] (Z.c 21 (Z.e s177_6) .skip)) [2,4,6,12,13,14] (Z.d s177_7 [2,4,12,13,14,22,24,32] (Z.g s177_8))))) [2,4,12,13,14] (Z.g s177_9))))))) [2,4] (Z.s (Z.r s177_10 [2,4,35,36,37] (Z.b 2 (Z.l [2,4,35,36,37] (Z.r s177_11 [2,4,35,36,37,38] (Z.s (Z.c 38 .skip (.exit 2)) [2,4,35,36,37] (Z.s (Z.b 3 (Z.r s177_12 [2,4,8,35,36,37] (Z.r s177_13 [2,4,8,9,10,35,36,37] (Z.s (Z.r s177_14 [2,4,8,9,35,36,37,53] (Z.c 53 (Z.e s177_15) .skip)) [2,4,8,9,35,36,37] (Z.r s177_16 [2,4,8,9,35,36,37,55] (Z.c 55 (Z.g s177_17) .skip)))))) [2,4,35,36,37] (Z.g s177_18))))))) [2] (Z.s (Z.r s177_19 [2,65] (Z.c 65 (Z.e s177_20) .skip)) [2] (Z.e s177_21)))))
def c177:FC:=⟨67,a177.erase,[.tmp 2,.tmp 3]⟩
theorem comp177:compF Tryz.prog Tryz.f177=some c177:=by kernel_rfl
theorem era177:c177.code=a177.erase:=rfl
def s182_0:=[zt 1 31 0,zac 2]
def s182_1:=[zc 3 0 1,zb 4 1 3]
def s182_2:=[zy 6 4 0,za 5 6]
def s182_3:=[zc 7 1 1,zb 8 1 7,zy 9 8 0,za 10 9,zr 11 2 1 10,zj 12 1 11 10,zb8 13 12 10,zo 14 10 13,za 2 14]
def s182_4:=[zy 16 4 1,za 15 16]
def s182_5:=[zc 17 1 1,zb 18 1 17,zy 19 18 0,za 20 19,zp 21 1 1 20,zm 22 1 21 20,za8 23 22 1 20,zk 24 20 23,za 25 24,zr 26 2 1 25,zj 27 1 26 25,zb8 28 27 25,zo 29 25 28,za 2 29]
def s182_6:=[zy 31 4 2,za 30 31]
def s182_7:=[zy 32 4 3,za 30 32]
def s182_8:=[zc 33 2 1,zb 34 1 33,q0 35 (.bin .eql (.tmp 34) (ks ⟨#[]⟩)),za 2 35]
def s182_9:=[zy 37 4 4,za 36 37]
def s182_10:=[zy 38 4 5,za 36 38]
def s182_11:=[zc 39 1 1,zb 40 1 39,zy 41 40 0,za 2 41]
def s182_12:=[zac 2]
def a182:AC:=Z.r s182_0 [1] (Z.s (Z.r s182_1 [1,4] (Z.b 0 (Z.r s182_2 [1,4,5] (Z.c 5 (Z.e s182_3) (Z.r s182_4 [1,4,15] (Z.c 15 (Z.e s182_5) (Z.s (Z.r s182_6 [1,4,30] (Z.c 30 .skip (Z.g s182_7))) [1,4,30] (Z.c 30 (Z.e s182_8) (Z.s (Z.r s182_9 [1,4,36] (Z.c 36 .skip (Z.g s182_10))) [1,36] (Z.c 36 (Z.e s182_11) .skip)))))))))) [] (Z.e s182_12))
def c182:FC:=⟨42,a182.erase,[.tmp 2]⟩
theorem comp182:compF Tryz.prog Tryz.f182=some c182:=by kernel_rfl
theorem era182:c182.code=a182.erase:=rfl
def s183_0:=[zac 2]
def s183_1:=[za 3 0,q0 4 (.bin .geq (.tmp 3) (.const (.int .i64 (-1152921504606846976)))),za 5 4,zl 6 0 5,zb4 7 6 1152921504606846976 5,zo 8 5 7,za 2 8]
def a183:AC:=Z.r s183_0 [0] (Z.e s183_1)
def c183:FC:=⟨9,a183.erase,[.tmp 2]⟩
theorem comp183:compF Tryz.prog Tryz.f183=some c183:=by kernel_rfl
theorem era183:c183.code=a183.erase:=rfl
def s184_0:=[zac 2]
def s184_1:=[za 3 0,zb5 4 3,q0 5 (.bin .leq (.tmp 4) (ki 64)),za 6 5,zl 7 0 6,q1 8 (.call 194 [.tmp 7,.const (.int .u8 32)]) 6 true,zo 9 6 8,za 2 9]
def a184:AC:=Z.r s184_0 [0] (Z.e s184_1)
def c184:FC:=⟨10,a184.erase,[.tmp 2]⟩
theorem comp184:compF Tryz.prog Tryz.f184=some c184:=by kernel_rfl
theorem era184:c184.code=a184.erase:=rfl
def s185_0:=[zac 2]
def s185_1:=[za 3 0,zcu 4 3,za 5 4,zl 6 0 5,zcm 7 6 5,zb4 8 7 32 5,zo 9 5 8,za 10 9,zl 11 0 10,q1 12 (.call 194 [.tmp 11,.const (.int .u8 33)]) 10 true,zo 13 10 12,za 2 13]
def a185:AC:=Z.r s185_0 [0] (Z.e s185_1)
def c185:FC:=⟨14,a185.erase,[.tmp 2]⟩
theorem comp185:compF Tryz.prog Tryz.f185=some c185:=by kernel_rfl
theorem era185:c185.code=a185.erase:=rfl
def s186_0:=[zx 2,zh 3 0]
def s186_1:=[zh 4 0]
def s186_2:=[za 11 4,za 12 0,zu 13 12,zs 14 11 13]
def s186_3:=[za 17 0,za 18 4,zf 19 2 17 18,zc 20 0 19,zb 21 1 20,zw 22 128 21,za 5 22]
def s186_4:=[za 23 5,zae 24 23]
def s186_5:=[zx 2,zh 3 1]
def s186_6:=[za 15 4,zn 16 15 1,za 4 16]
def s186_7:=[za 25 0,zw 26 195 25,za 6 26]
def s186_8:=[zx 7]
def s186_9:=[zh 8 0]
def s186_10:=[za 27 8,za 28 6,zu 29 28,zs 30 27 29]
def s186_11:=[za 34 0,za 35 6,za 36 8,zf 37 1 35 36,zb 38 1 37,zq 39 196 34 38,za 33 39,zi 40 33 0,zi 41 33 1,za 9 40,za 10 41]
def s186_12:=[za 42 10,zae 43 42]
def s186_13:=[zx 2,zh 3 70]
def s186_14:=[za 44 9,zaf 45 44 0]
def s186_15:=[za 46 7,za 47 6,za 48 8,zf 49 1 47 48,zb 50 1 49,za 51 9,zbn 52 50 51,q0 53 (.mksl 124 2 [.tmp 52]),zbe 54 124 46 53,za 7 54]
def s186_16:=[za 31 8,zn 32 31 1,za 8 32]
def s186_17:=[za 55 7,zu 56 55,zar 57 56 4]
def s186_18:=[zx 2,zh 3 2]
def s186_19:=[za 58 7,za 2 58,zh 3 0]
def a186:AC:=Z.r s186_0 [0] (Z.s (Z.r s186_1 [0,4] (Z.b 0 (Z.l [0,4] (Z.s (Z.r s186_2 [0,4,14] (Z.c 14 .skip (.exit 0))) [0,4] (Z.s (Z.b 1 (Z.r s186_3 [0,4,5] (Z.r s186_4 [0,4,24] (Z.c 24 (Z.e s186_5) .skip)))) [0,4] (Z.g s186_6)))))) [0] (Z.r s186_7 [0,6] (Z.r s186_8 [0,6,7] (Z.s (Z.r s186_9 [0,6,7,8] (Z.b 2 (Z.l [0,6,7,8] (Z.s (Z.r s186_10 [0,6,7,8,30] (Z.c 30 .skip (.exit 2))) [0,6,7,8] (Z.s (Z.b 3 (Z.r s186_11 [0,6,7,8,9,10] (Z.s (Z.r s186_12 [0,6,7,8,9,43] (Z.c 43 (Z.e s186_13) .skip)) [0,6,7,8,9] (Z.r s186_14 [0,6,7,8,9,45] (Z.c 45 (Z.g s186_15) .skip))))) [0,6,7,8] (Z.g s186_16)))))) [7] (Z.s (Z.r s186_17 [7,57] (Z.c 57 (Z.e s186_18) .skip)) [7] (Z.e s186_19))))))
def c186:FC:=⟨59,a186.erase,[.tmp 2,.tmp 3]⟩
theorem comp186:compF Tryz.prog Tryz.f186=some c186:=by kernel_rfl
theorem era186:c186.code=a186.erase:=rfl
def s187_0:=[zx 2]
def s187_1:=[zx 3]
def s187_2:=[zh 4 0]
def s187_3:=[za 5 4,za 6 0,zu 7 6,zs 8 5 7]
def s187_4:=[za 11 3,za 12 0,za 13 4,zf 14 2 12 13,zc 15 0 14,zb 16 1 15,za 17 0,za 18 4,zf 19 2 17 18,zc 20 1 19,zb 21 1 20,q0 22 (.un .neg (.tmp 21)),zbn 23 16 22,q0 24 (.mksl 124 2 [.tmp 23]),zbe 25 124 11 24,za 3 25]
def s187_5:=[za 9 4,zn 10 9 1,za 4 10]
def s187_6:=[za 26 3,za 2 26]
def a187:AC:=Z.r s187_0 [0] (Z.r s187_1 [0,3] (Z.s (Z.r s187_2 [0,3,4] (Z.b 0 (Z.l [0,3,4] (Z.s (Z.r s187_3 [0,3,4,8] (Z.c 8 .skip (.exit 0))) [0,3,4] (Z.s (Z.b 1 (.dreg s187_4)) [0,3,4] (Z.g s187_5)))))) [3] (Z.e s187_6)))
def c187:FC:=⟨27,a187.erase,[.tmp 2]⟩
theorem comp187:compF Tryz.prog Tryz.f187=some c187:=by kernel_rfl
theorem era187:c187.code=a187.erase:=rfl
def s189_0:=[zbk 2 188]
def s189_1:=[za 3 0,q0 4 (.bin .shr (.tmp 3) (.const (.int .u64 63))),za 5 0,zb1 6 5,q0 7 (.build [.int .i64 0,.int .u64 0] [(0,1,.tmp 4),(1,1,.tmp 6)]),zd 2 2 7]
def a189:AC:=Z.r s189_0 [0,2] (Z.e s189_1)
def c189:FC:=⟨8,a189.erase,[.cell 2 true 2]⟩
theorem comp189:compF Tryz.prog Tryz.f189=some c189:=by kernel_rfl
theorem era189:c189.code=a189.erase:=rfl
def s191_0:=[zt 2 188 0,zh 4 0,zac 5]
def s191_1:=[za 10 1,zy 11 10 0]
def s191_2:=[zh 4 0,zac 5]
def s191_3:=[ze 12 2 2,zw 13 198 12,za 14 1,zw 15 189 14,zw 16 198 15,q0 17 (.extq (.index 201 (.tmp 16) (ki 0)) 159 [] [.tmp 16,ki 0]),q0 6 (.alloc 201 (.agg #[.int .u64 0,.int .u64 0])),zd 2 6 13,za 7 17]
def s191_4:=[q0 18 (.iaddrA 2 1 (.tmp 6) (ki 1)),zb 19 1 18,za 20 7,zcg 21 19 20]
def s191_5:=[zh 4 0,zac 5]
def s191_6:=[q0 23 (.iaddrA 2 1 (.tmp 6) (ki 1)),zb 24 1 23,q0 25 (.iaddrA 2 1 (.tmp 6) (ki 0)),zb 26 1 25,za 27 7,zan 28 199 24 26 27,za 22 28,zi 29 22 0,zi 30 22 1,za 8 29,za 9 30]
def s191_7:=[za 31 9,za 32 7,za 33 9,za6 34 32 33,zb2 35 31 34,za 36 35,zv 37 9 36,zv 38 7 36,zv 39 9 36,q1 40 (.bin .sub (.tmp 38) (.tmp 39)) 36 false,zch 41 37 40 36,zv 42 41 36,zl 43 8 42,q1 44 (.bin .rem (.tmp 43) (.const (.int .u64 2))) 42 true,q1 45 (.bin .eql (.tmp 44) (.const (.int .u64 1))) 42 true,zas 46 42 45 36,zk 47 36 46]
def s191_8:=[za 48 8,q0 49 (.bin .eql (.tmp 48) (.const (.int .u64 18446744073709551615)))]
def s191_9:=[zh 4 0,zac 5]
def s191_10:=[za 50 8,q0 51 (.bin .add (.tmp 50) (.const (.int .u64 1))),za 8 51]
def s191_11:=[za 52 8,q0 53 (.bin .gtr (.tmp 52) (.const (.int .u64 1152921504606846976)))]
def s191_12:=[zh 4 0,zac 5]
def s191_13:=[zc 54 0 2,zb 55 1 54,zau 56 55 0,za 57 1,zau 58 57 0,zcd 59 56 58]
def s191_14:=[za 60 8,zcp 61 60,q0 62 (.un .neg (.tmp 61)),za 4 62,zbc 5]
def s191_15:=[za 63 8,zcp 64 63,za 4 64,zbc 5]
def a191:AC:=Z.r s191_0 [1,2] (Z.s (Z.r s191_1 [1,2,11] (Z.c 11 (Z.e s191_2) .skip)) [1,2] (Z.r s191_3 [1,2,6,7] (Z.s (Z.r s191_4 [1,2,6,7,21] (Z.c 21 (Z.e s191_5) .skip)) [1,2,6,7] (Z.r s191_6 [1,2,7,8,9] (Z.s (Z.r s191_7 [1,2,8,47] (Z.c 47 (Z.s (Z.r s191_8 [1,2,8,49] (Z.c 49 (Z.e s191_9) .skip)) [1,2,8] (Z.g s191_10)) .skip)) [1,2,8] (Z.s (Z.r s191_11 [1,2,8,53] (Z.c 53 (Z.e s191_12) .skip)) [1,2,8] (Z.s (Z.r s191_13 [8,59] (Z.c 59 (Z.e s191_14) .skip)) [8] (Z.e s191_15))))))))
def c191:FC:=⟨65,a191.erase,[.tmp 4,.tmp 5]⟩
theorem comp191:compF Tryz.prog Tryz.f191=some c191:=by kernel_rfl
theorem era191:c191.code=a191.erase:=rfl
def s194_0:=[zac 4]
def s194_1:=[zh 5 0]
def s194_2:=[za 6 5,za 7 0,zb5 8 7,zs 9 6 8]
def s194_3:=[za 12 0,za 13 5,zce 14 12 13,za 15 1,zs 16 14 15,za 17 16,zv 18 0 17,zv 19 5 17,q1 20 (.idxs (.tmp 18) (.tmp 19)) 17 false,q1 21 (.bin .gtr (.tmp 20) (.const (.int .u8 126))) 17 false,zk 22 17 21,za 23 22,zv 24 0 23,zv 25 5 23,q1 26 (.idxs (.tmp 24) (.tmp 25)) 23 false,q1 27 (.bin .eql (.tmp 26) (.const (.int .u8 34))) 23 false,zk 28 23 27,za 29 28,zv 30 0 29,zv 31 5 29,q1 32 (.idxs (.tmp 30) (.tmp 31)) 29 false,q1 33 (.bin .eql (.tmp 32) (.const (.int .u8 92))) 29 false,zk 34 29 33]
def s194_4:=[zac 4]
def s194_5:=[za 10 5,zn 11 10 1,za 5 11]
def s194_6:=[zbc 4]
def a194:AC:=Z.r s194_0 [0,1] (Z.s (Z.r s194_1 [0,1,5] (Z.b 0 (Z.l [0,1,5] (Z.s (Z.r s194_2 [0,1,5,9] (Z.c 9 .skip (.exit 0))) [0,1,5] (Z.s (Z.b 1 (Z.r s194_3 [0,1,5,34] (Z.c 34 (Z.e s194_4) .skip))) [0,1,5] (Z.g s194_5)))))) [] (Z.e s194_6))
def c194:FC:=⟨35,a194.erase,[.tmp 4]⟩
theorem comp194:compF Tryz.prog Tryz.f194=some c194:=by kernel_rfl
theorem era194:c194.code=a194.erase:=rfl
def s195_0:=[zx 2]
def s195_1:=[zx 3]
def s195_2:=[zh 4 0]
def s195_3:=[za 7 4,za 8 0,zu 9 8,zs 10 7 9]
def s195_4:=[zh 5 0]
def s195_5:=[za 13 5,za 14 3,zu 15 14,zs 16 13 15,za 17 16,zl 18 3 17,zl 19 5 17,zad 20 1 18 19 17,zj 21 1 20 17,zl 22 0 17,zl 23 4 17,zad 24 2 22 23 17,zr 25 0 24 17,zj 26 1 25 17,zci 27 21 26 17,zo 28 17 27]
def s195_6:=[za 29 5,zn 30 29 1,za 5 30]
def s195_7:=[za 31 5,za 32 3,zu 33 32,zs 34 31 33,za 35 34,zl 36 3 35,zl 37 5 35,zad 38 1 36 37 35,zj 39 1 38 35,zl 40 0 35,zl 41 4 35,zad 42 2 40 41 35,zr 43 0 42 35,zj 44 1 43 35,zaq 45 39 44 35,zo 46 35 45]
def s195_8:=[zx 6]
def s195_9:=[za 47 6,za 48 3,za 49 5,q0 50 (.slice 1 (.tmp 48) none (some (.tmp 49))),za1 51 9 47 50,za 6 51]
def s195_10:=[za 52 6,za 53 0,za 54 4,zf 55 2 53 54,zc 56 0 55,zb 57 1 56,zbd 58 9 57,za1 59 9 52 58,za 6 59]
def s195_11:=[za 60 6,za 61 3,za 62 5,q0 63 (.slice 1 (.tmp 61) (some (.tmp 62)) none),za1 64 9 60 63,za 3 64]
def s195_12:=[za 11 4,zn 12 11 1,za 4 12]
def s195_13:=[za 65 3,za 2 65]
def a195:AC:=Z.r s195_0 [0] (Z.r s195_1 [0,3] (Z.s (Z.r s195_2 [0,3,4] (Z.b 0 (Z.l [0,3,4] (Z.s (Z.r s195_3 [0,3,4,10] (Z.c 10 .skip (.exit 0))) [0,3,4] (Z.s (Z.b 1 (Z.r s195_4 [0,3,4,5] (Z.s (Z.b 2 (Z.l [0,3,4,5] (Z.s (Z.d s195_5 [0,3,4,5,28] (Z.c 28 .skip (.exit 2))) [0,3,4,5] (Z.b 3 (Z.g s195_6))))) [0,3,4,5] (Z.s (Z.d s195_7 [0,3,4,5,46] (Z.c 46 (.exit 1) .skip)) [0,3,4,5] (Z.r s195_8 [0,3,4,5,6] (Z.r s195_9 [0,3,4,5,6] (Z.r s195_10 [0,3,4,5,6] (Z.g s195_11)))))))) [0,3,4] (Z.g s195_12)))))) [3] (Z.e s195_13)))
def c195:FC:=⟨66,a195.erase,[.tmp 2]⟩
theorem comp195:compF Tryz.prog Tryz.f195=some c195:=by kernel_rfl
theorem era195:c195.code=a195.erase:=rfl
def s196_0:=[zh 4 0,zac 5]
def s196_1:=[zbi 10 200 0,zbk 6 188,zd 2 6 10]
def s196_2:=[zh 7 0]
def s196_3:=[za 11 7,za 12 0,zu 13 12,zs 14 11 13]
def s196_4:=[za 17 0,za 18 7,zf 19 2 17 18,zc 20 0 19,zb 21 1 20,za 22 1,zav 23 21 22]
def s196_5:=[ed 0 (ze 24 2 6) [],ed 1 (za 25 0) [],ed 2 (za 26 7) [],ed 3 (zf 27 2 25 26) [],ed 4 (zc 28 1 27) [],ed 5 (zb 29 1 28) [],ed 6 (zw 30 200 29) [],ed 7 (zq 31 201 24 30) [],ed 8 (zd 2 6 31) [6]]
def s196_6:=[za 15 7,zn 16 15 1,za 7 16]
def s196_7:=[ze 33 2 6,q0 34 (.call 202 [.tmp 33,ki 1]),za 32 34,zi 35 32 0,zi 36 32 1,za 8 35,za 9 36]
def s196_8:=[za 37 9,zae 38 37,za 39 38,zv 40 8 39,zaw 41 129 40 39,zk 42 39 41]
def s196_9:=[zh 4 0,zac 5]
def s196_10:=[za 43 8,za 4 43,zbc 5]
def a196:AC:=Z.r s196_0 [0,1] (Z.r s196_1 [0,1,6] (Z.s (Z.r s196_2 [0,1,6,7] (Z.b 0 (Z.l [0,1,6,7] (Z.s (Z.r s196_3 [0,1,6,7,14] (Z.c 14 .skip (.exit 0))) [0,1,6,7] (Z.s (Z.b 1 (Z.r s196_4 [0,1,6,7,23] (Z.c 23 (.mreg [] s196_5) .skip))) [0,1,6,7] (Z.g s196_6)))))) [6] (Z.r s196_7 [8,9] (Z.s (Z.r s196_8 [8,42] (Z.c 42 (Z.e s196_9) .skip)) [8] (Z.e s196_10)))))
def c196:FC:=⟨44,a196.erase,[.tmp 4,.tmp 5]⟩
theorem comp196:compF Tryz.prog Tryz.f196=some c196:=by kernel_rfl
theorem era196:c196.code=a196.erase:=rfl
def s200_0:=[zbk 2 188]
def s200_1:=[za 3 0,zau 4 3 0]
def s200_2:=[za 5 0,zb1 6 5,q0 7 (.build [.int .i64 0,.int .u64 0] [(0,1,.const (.int .i64 (-1))),(1,1,.tmp 6)]),zd 2 2 7]
def s200_3:=[za 8 0,zb1 9 8,q0 10 (.build [.int .i64 0,.int .u64 0] [(1,1,.tmp 9)]),zd 2 2 10]
def a200:AC:=Z.r s200_0 [0,2] (Z.s (Z.r s200_1 [0,2,4] (Z.c 4 (Z.e s200_2) .skip)) [0,2] (Z.e s200_3))
def c200:FC:=⟨11,a200.erase,[.cell 2 true 2]⟩
theorem comp200:compF Tryz.prog Tryz.f200=some c200:=by kernel_rfl
theorem era200:c200.code=a200.erase:=rfl
def s201_0:=[zt 2 188 0,zt 3 188 1,zbk 4 188]
def s201_1:=[ze 8 2 2,zw 9 205 8,za 5 9]
def s201_2:=[ze 10 2 3,zw 11 205 10,za 6 11]
def s201_3:=[zh 7 0]
def s201_4:=[za 12 7,zau 13 12 8]
def s201_5:=[ed 0 (za 16 5) [],ed 1 (za 17 7) [],ed 2 (za 18 5) [],ed 3 (za 19 7) [],ed 4 (zf 20 1 18 19) [],ed 5 (zb 21 1 20) [],ed 6 (za 22 6) [],ed 7 (za 23 7) [],ed 8 (zf 24 1 22 23) [],ed 9 (zb 25 1 24) [],ed 10 (zap 26 21 25) [],ed 11 (zf 27 1 16 17) [],ed 12 (zd 1 27 26) [5]]
def s201_6:=[za 14 7,zn 15 14 1,za 7 15]
def s201_7:=[za 28 5,zw 29 207 28,zw 30 206 29,zd 2 4 30]
def a201:AC:=Z.r s201_0 [2,3,4] (Z.r s201_1 [3,4,5] (Z.r s201_2 [4,5,6] (Z.s (Z.r s201_3 [4,5,6,7] (Z.b 0 (Z.l [4,5,6,7] (Z.s (Z.r s201_4 [4,5,6,7,13] (Z.c 13 .skip (.exit 0))) [4,5,6,7] (Z.s (Z.b 1 (.mreg [] s201_5)) [4,5,6,7] (Z.g s201_6)))))) [4,5] (Z.e s201_7))))
def c201:FC:=⟨31,a201.erase,[.cell 4 true 2]⟩
theorem comp201:compF Tryz.prog Tryz.f201=some c201:=by kernel_rfl
theorem era201:c201.code=a201.erase:=rfl
def s202_0:=[zt 2 188 0,zh 4 0,zac 5]
def s202_1:=[za 13 1,zy 14 13 0]
def s202_2:=[zh 4 0,zac 5]
def s202_3:=[ze 15 2 2,zw 16 208 15,za 6 16]
def s202_4:=[za 17 1,zw 18 200 17,zw 19 208 18,za 7 19]
def s202_5:=[q0 20 (.exts (.makeSlice 83 (ki 8) (ki 8)) 83 [.sl 3,.int .i64] [ki 8,ki 8]),za 8 20]
def s202_6:=[zh 9 0]
def s202_7:=[zh 10 127]
def s202_8:=[za 21 10,zbb 22 21 0]
def s202_9:=[za 25 6,za 26 10,zbu 27 26 16,zf 28 1 25 27,zb 29 1 28,za 30 10,q0 31 (.bin .rem (.tmp 30) (ki 16)),q0 32 (.bin .shr (.tmp 29) (.tmp 31)),q0 33 (.bin .rem (.tmp 32) (ki 2)),za 11 33]
def s202_10:=[za 34 8,za 35 11,zq 36 209 34 35,za 8 36]
def s202_11:=[za 37 9,q0 38 (.bin .mul (ki 2) (.tmp 37)),za 9 38]
def s202_12:=[za 39 8,za 40 7,zq 41 210 39 40,zae 42 41]
def s202_13:=[za 43 8,za 44 7,zq 45 211 43 44,za 8 45]
def s202_14:=[za 46 9,zn 47 46 1,za 9 47]
def s202_15:=[za 48 9,zar 49 48 1152921504606846976]
def s202_16:=[zh 4 0,zac 5]
def s202_17:=[za 23 10,zag 24 23 1,za 10 24]
def s202_18:=[za 50 8,q0 51 (.call 209 [.tmp 50,ki 0]),za 12 51]
def s202_19:=[za 52 7,za 53 12,zq 54 210 52 53,za 55 54,zv 56 12 55,zv 57 7 55,za7 58 210 56 57 55,za4 59 58 55,zv 60 59 55,zl 61 9 60,q1 62 (.bin .rem (.tmp 61) (ki 2)) 60 true,zbq 63 62 1 60,zas 64 60 63 55,zk 65 55 64]
def s202_20:=[za 66 9,zn 67 66 1,za 9 67]
def s202_21:=[za 68 9,zar 69 68 1152921504606846976]
def s202_22:=[zh 4 0,zac 5]
def s202_23:=[zc 70 0 2,zb 71 1 70,zau 72 71 0,za 73 1,zau 74 73 0,zcd 75 72 74]
def s202_24:=[za 76 9,q0 77 (.un .neg (.tmp 76)),za 4 77,zbc 5]
def s202_25:=[za 78 9,za 4 78,zbc 5]
def a202:AC:=Z.r s202_0 [1,2] (Z.s (Z.r s202_1 [1,2,14] (Z.c 14 (Z.e s202_2) .skip)) [1,2] (Z.r s202_3 [1,2,6] (Z.r s202_4 [1,2,6,7] (Z.r s202_5 [1,2,6,7,8] (Z.r s202_6 [1,2,6,7,8,9] (Z.s (Z.r s202_7 [1,2,6,7,8,9,10] (Z.b 0 (Z.l [1,2,6,7,8,9,10] (Z.s (Z.r s202_8 [1,2,6,7,8,9,10,22] (Z.c 22 .skip (.exit 0))) [1,2,6,7,8,9,10] (Z.s (Z.b 1 (Z.r s202_9 [1,2,6,7,8,9,10,11] (Z.r s202_10 [1,2,6,7,8,9,10] (Z.r s202_11 [1,2,6,7,8,9,10] (Z.s (Z.r s202_12 [1,2,6,7,8,9,10,42] (Z.c 42 (Z.r s202_13 [1,2,6,7,8,9,10] (Z.g s202_14)) .skip)) [1,2,6,7,8,9,10] (Z.r s202_15 [1,2,6,7,8,9,10,49] (Z.c 49 (Z.e s202_16) .skip))))))) [1,2,6,7,8,9,10] (Z.g s202_17)))))) [1,2,7,8,9] (Z.r s202_18 [1,2,7,9,12] (Z.s (Z.r s202_19 [1,2,9,65] (Z.c 65 (Z.g s202_20) .skip)) [1,2,9] (Z.s (Z.r s202_21 [1,2,9,69] (Z.c 69 (Z.e s202_22) .skip)) [1,2,9] (Z.s (Z.r s202_23 [9,75] (Z.c 75 (Z.e s202_24) .skip)) [9] (Z.e s202_25)))))))))))
def c202:FC:=⟨79,a202.erase,[.tmp 4,.tmp 5]⟩
theorem comp202:compF Tryz.prog Tryz.f202=some c202:=by kernel_rfl
theorem era202:c202.code=a202.erase:=rfl
def s205_0:=[zt 1 188 0,zx 2]
def s205_1:=[zx 3]
def s205_2:=[zc 8 1 1,zb 9 1 8,za 4 9]
def s205_3:=[zc 10 0 1,zb 11 1 10,zb1 12 11,za 5 12]
def s205_4:=[zh 6 0]
def s205_5:=[za 13 6,zau 14 13 4]
def s205_6:=[za 17 3,za 18 4,q0 19 (.bin .rem (.tmp 18) (.const (.int .u64 65536))),zcp 20 19,zbd 21 3 20,zbr 22 3 17 21,za 3 22]
def s205_7:=[za 23 4,q0 24 (.bin .quo (.tmp 23) (.const (.int .u64 65536))),za 4 24]
def s205_8:=[za 15 6,zn 16 15 1,za 6 16]
def s205_9:=[zh 7 0]
def s205_10:=[za 25 7,zau 26 25 4]
def s205_11:=[za 29 3,za 30 5,q0 31 (.bin .rem (.tmp 30) (.const (.int .u64 65536))),zcp 32 31,zbd 33 3 32,zbr 34 3 29 33,za 3 34]
def s205_12:=[za 35 5,q0 36 (.bin .quo (.tmp 35) (.const (.int .u64 65536))),za 5 36]
def s205_13:=[za 27 7,zn 28 27 1,za 7 28]
def s205_14:=[za 37 3,za 2 37]
def a205:AC:=Z.r s205_0 [1] (Z.r s205_1 [1,3] (Z.r s205_2 [1,3,4] (Z.r s205_3 [3,4,5] (Z.s (Z.r s205_4 [3,4,5,6] (Z.b 0 (Z.l [3,4,5,6] (Z.s (Z.r s205_5 [3,4,5,6,14] (Z.c 14 .skip (.exit 0))) [3,4,5,6] (Z.s (Z.b 1 (Z.r s205_6 [3,4,5,6] (Z.g s205_7))) [3,4,5,6] (Z.g s205_8)))))) [3,5] (Z.s (Z.r s205_9 [3,5,7] (Z.b 2 (Z.l [3,5,7] (Z.s (Z.r s205_10 [3,5,7,26] (Z.c 26 .skip (.exit 2))) [3,5,7] (Z.s (Z.b 3 (Z.r s205_11 [3,5,7] (Z.g s205_12))) [3,5,7] (Z.g s205_13)))))) [3] (Z.e s205_14))))))
def c205:FC:=⟨38,a205.erase,[.tmp 2]⟩
theorem comp205:compF Tryz.prog Tryz.f205=some c205:=by kernel_rfl
theorem era205:c205.code=a205.erase:=rfl
def s206_0:=[zbk 2 188]
def s206_1:=[zcz 3]
def s206_2:=[zcz 4]
def s206_3:=[zh 5 3]
def s206_4:=[za 6 5,zbb 7 6 0]
def s206_5:=[za 10 3,q0 11 (.bin .mul (.tmp 10) (.const (.int .u64 65536))),za 12 0,za 13 5,zf 14 1 12 13,zb 15 1 14,zb1 16 15,zap 17 11 16,za 3 17]
def s206_6:=[za 18 4,q0 19 (.bin .mul (.tmp 18) (.const (.int .u64 65536))),za 20 0,za 21 5,zn 22 21 4,zf 23 1 20 22,zb 24 1 23,zb1 25 24,zap 26 19 25,za 4 26]
def s206_7:=[za 8 5,zag 9 8 1,za 5 9]
def s206_8:=[za 27 4,zcp 28 27,za 29 3,q0 30 (.build [.int .i64 0,.int .u64 0] [(0,1,.tmp 28),(1,1,.tmp 29)]),zd 2 2 30]
def a206:AC:=Z.r s206_0 [0,2] (Z.r s206_1 [0,2,3] (Z.r s206_2 [0,2,3,4] (Z.s (Z.r s206_3 [0,2,3,4,5] (Z.b 0 (Z.l [0,2,3,4,5] (Z.s (Z.r s206_4 [0,2,3,4,5,7] (Z.c 7 .skip (.exit 0))) [0,2,3,4,5] (Z.s (Z.b 1 (Z.r s206_5 [0,2,3,4,5] (Z.g s206_6))) [0,2,3,4,5] (Z.g s206_7)))))) [2,3,4] (Z.e s206_8))))
def c206:FC:=⟨31,a206.erase,[.cell 2 true 2]⟩
theorem comp206:compF Tryz.prog Tryz.f206=some c206:=by kernel_rfl
theorem era206:c206.code=a206.erase:=rfl
def s207_0:=[zx 2]
def s207_1:=[zx 3]
def s207_2:=[zh 4 0]
def s207_3:=[zh 5 0]
def s207_4:=[za 7 5,zau 8 7 8]
def s207_5:=[za 11 0,za 12 5,zf 13 1 11 12,zb 14 1 13,za 15 4,zap 16 14 15,za 6 16]
def s207_6:=[za 17 6,zbu 18 17 65536,za 4 18]
def s207_7:=[za 19 6,q0 20 (.bin .rem (.tmp 19) (ki 65536)),za 6 20]
def s207_8:=[za 21 6,zau 22 21 0]
def s207_9:=[za 23 6,zn 24 23 65536,za 6 24]
def s207_10:=[za 25 4,zag 26 25 1,za 4 26]
def s207_11:=[za 27 3,za 28 6,zbd 29 3 28,zbr 30 3 27 29,za 3 30]
def s207_12:=[za 9 5,zn 10 9 1,za 5 10]
def s207_13:=[za 31 3,za 2 31]
def a207:AC:=Z.r s207_0 [0] (Z.r s207_1 [0,3] (Z.r s207_2 [0,3,4] (Z.s (Z.r s207_3 [0,3,4,5] (Z.b 0 (Z.l [0,3,4,5] (Z.s (Z.r s207_4 [0,3,4,5,8] (Z.c 8 .skip (.exit 0))) [0,3,4,5] (Z.s (Z.b 1 (Z.r s207_5 [0,3,5,6] (Z.r s207_6 [0,3,4,5,6] (Z.r s207_7 [0,3,4,5,6] (Z.s (Z.r s207_8 [0,3,4,5,6,22] (Z.c 22 (Z.r s207_9 [0,3,4,5,6] (Z.g s207_10)) .skip)) [0,3,4,5,6] (Z.g s207_11)))))) [0,3,4,5] (Z.g s207_12)))))) [3] (Z.e s207_13))))
def c207:FC:=⟨32,a207.erase,[.tmp 2]⟩
theorem comp207:compF Tryz.prog Tryz.f207=some c207:=by kernel_rfl
theorem era207:c207.code=a207.erase:=rfl
def s208_0:=[zt 1 188 0,zx 2]
def s208_1:=[zc 3 0 1,zb 4 1 3,zau 5 4 0]
def s208_2:=[ze 6 2 1,zw 7 213 6,zw 8 205 7,za 2 8]
def s208_3:=[ze 9 2 1,zw 10 205 9,za 2 10]
def a208:AC:=Z.r s208_0 [1] (Z.s (Z.r s208_1 [1,5] (Z.c 5 (Z.e s208_2) .skip)) [1] (Z.e s208_3))
def c208:FC:=⟨11,a208.erase,[.tmp 2]⟩
theorem comp208:compF Tryz.prog Tryz.f208=some c208:=by kernel_rfl
theorem era208:c208.code=a208.erase:=rfl
def s209_0:=[zx 4]
def s209_1:=[zx 5]
def s209_2:=[zh 6 0]
def s209_3:=[za 7 6,zau 8 7 8]
def s209_4:=[za 11 5,za 12 0,za 13 6,zf 14 1 12 13,zb 15 1 14,q0 16 (.bin .mul (ki 2) (.tmp 15)),zbd 17 3 16,zbr 18 3 11 17,za 5 18]
def s209_5:=[za 9 6,zn 10 9 1,za 6 10]
def s209_6:=[za 19 5,za 20 5,zal 21 1 20 0,zb 22 1 21,za 23 1,zap 24 22 23,zal 25 1 19 0,zd 1 25 24]
def s209_7:=[za 26 5,zw 27 207 26,za 4 27]
def a209:AC:=Z.r s209_0 [0,1] (Z.r s209_1 [0,1,5] (Z.s (Z.r s209_2 [0,1,5,6] (Z.b 0 (Z.l [0,1,5,6] (Z.s (Z.r s209_3 [0,1,5,6,8] (Z.c 8 .skip (.exit 0))) [0,1,5,6] (Z.s (Z.b 1 (Z.g s209_4)) [0,1,5,6] (Z.g s209_5)))))) [1,5] (Z.r s209_6 [5] (Z.e s209_7))))
def c209:FC:=⟨28,a209.erase,[.tmp 4]⟩
theorem comp209:compF Tryz.prog Tryz.f209=some c209:=by kernel_rfl
theorem era209:c209.code=a209.erase:=rfl
def s210_0:=[zac 4]
def s210_1:=[zh 5 7]
def s210_2:=[za 6 5,zbb 7 6 0]
def s210_3:=[za 10 0,za 11 5,zf 12 1 10 11,zb 13 1 12,za 14 1,za 15 5,zf 16 1 14 15,zb 17 1 16,zay 18 13 17]
def s210_4:=[za 19 0,za 20 5,zf 21 1 19 20,zb 22 1 21,za 23 1,za 24 5,zf 25 1 23 24,zb 26 1 25,zs 27 22 26,za 4 27]
def s210_5:=[za 8 5,zag 9 8 1,za 5 9]
def s210_6:=[zac 4]
def a210:AC:=Z.r s210_0 [0,1] (Z.s (Z.r s210_1 [0,1,5] (Z.b 0 (Z.l [0,1,5] (Z.s (Z.r s210_2 [0,1,5,7] (Z.c 7 .skip (.exit 0))) [0,1,5] (Z.s (Z.b 1 (Z.d s210_3 [0,1,5,18] (Z.c 18 (.seq (.dreg s210_4) .ret) .skip))) [0,1,5] (Z.g s210_5)))))) [] (Z.e s210_6))
def c210:FC:=⟨28,a210.erase,[.tmp 4]⟩
theorem comp210:compF Tryz.prog Tryz.f210=some c210:=by kernel_rfl
theorem era210:c210.code=a210.erase:=rfl
def s211_0:=[zx 4]
def s211_1:=[zx 5]
def s211_2:=[zh 6 0]
def s211_3:=[za 7 6,zau 8 7 8]
def s211_4:=[za 11 5,za 12 0,za 13 6,zf 14 1 12 13,zb 15 1 14,za 16 1,za 17 6,zf 18 1 16 17,zb 19 1 18,za6 20 15 19,zbd 21 3 20,zbr 22 3 11 21,za 5 22]
def s211_5:=[za 9 6,zn 10 9 1,za 6 10]
def s211_6:=[za 23 5,zw 24 207 23,za 4 24]
def a211:AC:=Z.r s211_0 [0,1] (Z.r s211_1 [0,1,5] (Z.s (Z.r s211_2 [0,1,5,6] (Z.b 0 (Z.l [0,1,5,6] (Z.s (Z.r s211_3 [0,1,5,6,8] (Z.c 8 .skip (.exit 0))) [0,1,5,6] (Z.s (Z.b 1 (.dreg s211_4)) [0,1,5,6] (Z.g s211_5)))))) [5] (Z.e s211_6)))
def c211:FC:=⟨25,a211.erase,[.tmp 4]⟩
theorem comp211:compF Tryz.prog Tryz.f211=some c211:=by kernel_rfl
theorem era211:c211.code=a211.erase:=rfl
def s213_0:=[zt 1 188 0,zbk 2 188]
def s213_1:=[ed 0 (zbi 3 200 0) [],ed 1 (ze 4 2 1) [],ed 2 (zq 5 215 3 4) [],ed 3 (zd 2 2 5) [2]]
def a213:AC:=Z.r s213_0 [1,2] (.seq (.mreg [] s213_1) .ret)
def c213:FC:=⟨6,a213.erase,[.cell 2 true 2]⟩
theorem comp213:compF Tryz.prog Tryz.f213=some c213:=by kernel_rfl
theorem era213:c213.code=a213.erase:=rfl
def s215_0:=[zt 2 188 0,zt 3 188 1,zbk 4 188]
def s215_1:=[ze 8 2 2,zw 9 205 8,za 5 9]
def s215_2:=[ze 10 2 3,zw 11 205 10,za 6 11]
def s215_3:=[zh 7 0]
def s215_4:=[za 12 7,zau 13 12 8]
def s215_5:=[ed 0 (za 16 5) [],ed 1 (za 17 7) [],ed 2 (za 18 5) [],ed 3 (za 19 7) [],ed 4 (zf 20 1 18 19) [],ed 5 (zb 21 1 20) [],ed 6 (za 22 6) [],ed 7 (za 23 7) [],ed 8 (zf 24 1 22 23) [],ed 9 (zb 25 1 24) [],ed 10 (za6 26 21 25) [],ed 11 (zf 27 1 16 17) [],ed 12 (zd 1 27 26) [5]]
def s215_6:=[za 14 7,zn 15 14 1,za 7 15]
def s215_7:=[za 28 5,zw 29 207 28,zw 30 206 29,zd 2 4 30]
def a215:AC:=Z.r s215_0 [2,3,4] (Z.r s215_1 [3,4,5] (Z.r s215_2 [4,5,6] (Z.s (Z.r s215_3 [4,5,6,7] (Z.b 0 (Z.l [4,5,6,7] (Z.s (Z.r s215_4 [4,5,6,7,13] (Z.c 13 .skip (.exit 0))) [4,5,6,7] (Z.s (Z.b 1 (.mreg [] s215_5)) [4,5,6,7] (Z.g s215_6)))))) [4,5] (Z.e s215_7))))
def c215:FC:=⟨31,a215.erase,[.cell 4 true 2]⟩
theorem comp215:compF Tryz.prog Tryz.f215=some c215:=by kernel_rfl
theorem era215:c215.code=a215.erase:=rfl
end Go.Proofs.YtekngilbecjkhaaGreatDoor
