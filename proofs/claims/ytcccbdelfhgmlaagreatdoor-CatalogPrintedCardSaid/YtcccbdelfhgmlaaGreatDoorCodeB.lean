/- The compiled code of functions, printed by a program of mine. -/
import Derived.Test.YtcccbdelfhgmlaaGreatDoorCodeA
import Derived.Test.YtcccbdelfhgmlaaGreatDoorRows
set_option linter.unusedVariables false
namespace Go.Proofs.YtcccbdelfhgmlaaGreatDoor
open Go.Sx
def avI:=[zr 1 151 0,fh 2]
def avJ:=[ze 3 0 1,ze 4 2 3,zb 5 1 4,q0 6 (.bin .add (ks ⟨#[34]⟩) (.tmp 5)),q0 7 (.bin .add (.tmp 6) (ks ⟨#[34]⟩)),za 2 7]
def a95:AC:=Z.r avI [1] (Z.e avJ)
theorem k95:bu Tryz.prog 95 8 a95 [.tmp 2]:= .i Tryz.func95
def avK:=[zr 1 151 0,fh 2]
def avL:=[ze 3 0 1,ze 4 2 3,zb 5 1 4,q0 6 (.bin .add (ks ⟨#[64]⟩) (.tmp 5)),za 2 6]
def a96:AC:=Z.r avK [1] (Z.e avL)
theorem k96:bu Tryz.prog 96 7 a96 [.tmp 2]:= .i Tryz.func96
def avM:=[fh 2]
def avN:=[rZ 3]
def avP:=[za 7 0,zz 8 7,zh 9 0]
def avQ:=[zv 10 9 8]
def avR:=[zi 11 2 7 9,zg 12 2 11,CX 5 145,zc 2 5 12]
def avS:=[ze 13 0 5,zb 14 1 13,za 6 14]
def avT:=[ze 15 1 5,zb 16 1 15,gT 17 16 1]
def avU:=[za 18 6,ze 19 1 5,zb 20 1 19,zj 21 61 20,q0 22 (.bin .add (ks ⟨#[94]⟩) (.tmp 21)),qt 23 18 22,za 6 23]
def avV:=[za 24 3,za 25 6,q0 26 (.bM 9 1 [.tmp 25]),zck 27 9 24 26,za 3 27]
def avW:=[zn 28 9 1,za 9 28]
def avO:=[za 29 3,q0 30 (.call 90 [.tmp 29,ks ⟨#[42]⟩]),za 2 30]
def a97:AC:=Z.r avM [0] (Z.r avN [0,3] (Z.s (Z.r avP [3,7,8,9] (Z.b 0 (Z.l [3,7,8,9] (Z.r avQ [3,7,8,9,10] (Z.s (Z.c 10 .skip (.exit 0)) [3,7,8,9] (Z.s (Z.b 1 (Z.r avR [3,5,7,8,9] (Z.r avS [3,5,6,7,8,9] (Z.s (Z.r avT [3,5,6,7,8,9,17] (Z.c 17 (Z.g avU) .skip)) [3,6,7,8,9] (Z.g avV))))) [3,7,8,9] (Z.g avW))))))) [3] (Z.e avO)))
theorem k97:bu Tryz.prog 97 31 a97 [.tmp 2]:= .i Tryz.func97
def aic:=[za 6 0,mI 7 6,zh 8 0]
def aid:=[zv 9 8 7]
def aie:=[za 10 8,za 5 10]
def aif:=[za 11 0,za 12 5,zW 13 11 12,za 14 1,LW 15 2 13,zc 1 15 14]
def aih:=[zn 16 8 1,za 8 16]
def MQ:AC:=Z.r aic [0,1,2,7,8] (Z.b 0 (Z.l [0,1,2,7,8] (Z.r aid [0,1,2,7,8,9] (Z.s (Z.c 9 .skip (.exit 0)) [0,1,2,7,8] (Z.s (Z.b 1 (Z.r aie [0,1,2,5,7,8] (Z.g aif))) [0,1,2,7,8] (Z.g aih))))))
def NG:FC:=⟨17,MQ.erase,[]⟩
theorem abR:cK Tryz.prog Tryz.f103=some NG:=by kernel_rfl
theorem ac8:NG.code=MQ.erase:=rfl
def aii:=[zh 6 0]
def aij:=[za 7 0,zb 8 1 2,zz 9 8,zv 10 7 9,za 11 10,zl 12 1 11,zo 13 1 3 11,zo 14 1 2 11,zl 15 0 11,uz 16 1 14 15 11,zo 17 1 16 11,q1 18 (.kZ (.tmp 13)) 11 true,q1 19 (.jt 256 1 (.tmp 18) (.tmp 17)) 11 true,zo 20 1 19 11,CV 21 105 12 20 11,q1 22 (.bin .geq (.tmp 21) (ki 0)) 11 true,zp 23 11 22]
def aik:=[za 24 0,zn 25 24 1,za 0 25]
def ail:=[za 26 0,za 6 26]
def MR:AC:=Z.r aii [0,1,2,3] (Z.s (Z.b 0 (Z.l [0,1,2,3] (Z.s (Z.d aij [0,1,2,3,23] (Z.c 23 .skip (.exit 0))) [0,1,2,3] (Z.b 1 (Z.g aik))))) [0] (Z.e ail))
def NH:FC:=⟨27,MR.erase,[.tmp 6]⟩
theorem abS:cK Tryz.prog Tryz.f104=some NH:=by kernel_rfl
theorem ac9:NH.code=MR.erase:=rfl
def aim:=[zh 2 0]
def ain:=[za 5 0,zz 6 5,mJ 7 6 64]
def aio:=[zh 2 2]
def aip:=[za 8 0,zz 9 8,zh 10 0]
def aiq:=[zv 11 10 9]
def air:=[zi 12 1 8 10,zb 13 1 12,za 4 13]
def ais:=[za 14 4,q0 15 (.bin .lss (.tmp 14) (.const (.int .u8 32))),za 16 15,dP 17 4 16,q1 18 (.bin .gtr (.tmp 17) (.const (.int .u8 126))) 16 false,zm 19 16 18,za 20 19,dP 21 4 20,q1 22 (.bin .eql (.tmp 21) (.const (.int .u8 92))) 20 false,zm 23 20 22]
def ait:=[zh 2 3]
def aiu:=[zn 24 10 1,za 10 24]
def aiv:=[zh 2 0]
def aaJ:AC:=Z.r aim [0] (Z.s (Z.r ain [0,7] (Z.c 7 (Z.e aio) .skip)) [0] (Z.s (Z.r aip [8,9,10] (Z.b 0 (Z.l [8,9,10] (Z.r aiq [8,9,10,11] (Z.s (Z.c 11 .skip (.exit 0)) [8,9,10] (Z.s (Z.b 1 (Z.r air [4,8,9,10] (Z.r ais [8,9,10,23] (Z.c 23 (Z.e ait) .skip)))) [8,9,10] (Z.g aiu))))))) [] (Z.e aiv)))
theorem afJ:bu Tryz.prog 108 25 aaJ [.tmp 2]:= .i Tryz.func108
def aiF:=[zf 2 33]
def aiG:=[q0 6 (.build [.int .i64 0,.string ⟨#[]⟩,.string ⟨#[]⟩,.string ⟨#[]⟩,.int .i64 0,.int .i64 0,.string ⟨#[]⟩,.slice none 0 0,.int .i64 0,.int .i64 0,.int .i64 0,.slice none 0 0] [(0,1,ki 1)]),zf 3 33,zc 12 3 6]
def aiR:=[za 7 0,fD 8 7,ze 9 0 8,zb 10 1 9,zu 11 3 10 0,ze 12 0 11,zb 13 1 12]
def aiS:=[zt 15 13 2,za 14 15]
def aiT:=[za 16 0,zj 17 148 16,LP 18 2 17,ze 19 4 3,zc 3 19 18]
def aiU:=[za 20 0,zj 21 149 20,ze 22 7 3,zc 1 22 21]
def aiV:=[zg 23 12 3,zc 12 2 23]
def aiW:=[zt 25 13 3,za 24 25]
def aiX:=[za 27 0,qu 28 150 27 3,Gf 29 28,zj 30 138 29,za 26 30,zk 31 26 0,zk 32 26 1,za 4 31,za 5 32]
def aiY:=[za 33 4,LP 34 3 33,ze 35 4 3,zc 3 35 34]
def aiH:=[za 36 0,zj 37 149 36,ze 38 7 3,zc 1 38 37]
def aiI:=[zg 39 12 3,zc 12 2 39]
def aiJ:=[zt 41 13 4,za 40 41]
def aiK:=[za 42 0,qu 43 150 42 4,Gf 44 43,q0 45 (.build [.int .i64 0,.int .i64 0,.string ⟨#[]⟩] [(0,1,ki 4),(2,1,.tmp 44)]),ze 46 4 3,zc 3 46 45]
def aiL:=[zg 47 12 3,zc 12 2 47]
def aiM:=[zt 49 13 1,za 48 49]
def aiN:=[za 50 0,zj 51 151 50,zc 12 2 51]
def aiO:=[za 52 0,q0 53 (.call 45 [.tmp 52,ki 5,ks ⟨#[64]⟩])]
def aiP:=[za 54 0,zj 55 152 54,zc 12 2 55]
def aiQ:=[za 56 0,zj 57 153 56,zc 12 2 57]
def MT:AC:=Z.r aiF [0,2] (Z.r aiG [0,2,3] (Z.s (Z.r aiR [0,2,3,13] (Z.b 0 (Z.r aiS [0,2,3,13,14] (Z.c 14 (Z.r aiT [0,2,3] (Z.r aiU [2,3] (Z.e aiV))) (Z.r aiW [0,2,3,13,24] (Z.c 24 (Z.r aiX [0,2,3,4] (Z.r aiY [0,2,3] (Z.r aiH [2,3] (Z.e aiI)))) (Z.r aiJ [0,2,3,13,40] (Z.c 40 (Z.r aiK [2,3] (Z.e aiL)) (Z.r aiM [0,2,48] (Z.c 48 (Z.e aiN) .skip)))))))))) [0,2] (Z.s (Z.r aiO [0,2,53] (Z.c 53 (Z.e aiP) .skip)) [0,2] (Z.e aiQ))))
def NJ:FC:=⟨58,MT.erase,[.cell 2 true 12]⟩
theorem abT:cK Tryz.prog Tryz.f110=some NJ:=by kernel_rfl
theorem ada:NJ.code=MT.erase:=rfl
def ai5:=[cp 2]
def ai6:=[za 5 0,mI 6 5,zt 7 6 0,za 8 7,dP 9 0 8,q1 10 (.len true (.tmp 9)) 8 false,iR 11 10 24 8,zm 12 8 11,za 13 12,dP 14 0 13,q1 15 (.idxs (.tmp 14) (ki 0)) 13 false,q1 16 (.bin .lss (.tmp 15) (.const (.int .u8 97))) 13 false,zm 17 13 16,za 18 17,dP 19 0 18,q1 20 (.idxs (.tmp 19) (ki 0)) 18 false,q1 21 (.bin .gtr (.tmp 20) (.const (.int .u8 122))) 18 false,zm 22 18 21]
def ai8:=[cp 2]
def ai9:=[za 23 0,mI 24 23,zh 25 0]
def aja:=[zv 26 25 24]
def ajb:=[za 27 25,za 3 27]
def ajc:=[za 28 0,za 29 3,zW 30 28 29,za 4 30]
def ajd:=[za 31 4,q0 32 (.bin .lss (.tmp 31) (.const (.int .u8 97))),za 33 32,dP 34 4 33,q1 35 (.bin .gtr (.tmp 34) (.const (.int .u8 122))) 33 false,zm 36 33 35,za 37 36,zl 38 4 37,q1 39 (.bin .lss (.tmp 38) (.const (.int .u8 48))) 37 true,zl 40 39 37,dP 41 4 40,q1 42 (.bin .gtr (.tmp 41) (.const (.int .u8 57))) 40 false,Gb 43 40 42 37,zp 44 37 43,za 45 44,zl 46 4 45,q1 47 (.bin .neq (.tmp 46) (.const (.int .u8 95))) 45 true,zp 48 45 47]
def aje:=[cp 2]
def ajf:=[zn 49 25 1,za 25 49]
def ai7:=[lz 2]
def aaK:AC:=Z.r ai5 [0] (Z.s (Z.r ai6 [0,22] (Z.c 22 (Z.e ai8) .skip)) [0] (Z.s (Z.r ai9 [0,24,25] (Z.b 0 (Z.l [0,24,25] (Z.r aja [0,24,25,26] (Z.s (Z.c 26 .skip (.exit 0)) [0,24,25] (Z.s (Z.b 1 (Z.r ajb [0,3,24,25] (Z.r ajc [0,4,24,25] (Z.r ajd [0,24,25,48] (Z.c 48 (Z.e aje) .skip))))) [0,24,25] (Z.g ajf))))))) [] (Z.e ai7)))
theorem afK:bu Tryz.prog 122 50 aaK [.tmp 2]:= .i Tryz.func122
def ajg:=[cp 4]
def ajh:=[za 5 0,za 6 1,F9 7 5 6,za 8 7,dP 9 0 8,dP 10 1 8,q1 11 (.un .neg (.tmp 10)) 8 false,VR 12 9 11 8,zm 13 8 12,za 4 13]
def aaL:AC:=Z.r ajg [0,1] (Z.e ajh)
theorem afL:bu Tryz.prog 123 14 aaL [.tmp 4]:= .i Tryz.func123
def aji:=[zh 4 0]
def ajj:=[za 6 0,zz 7 6,zh 8 0]
def ajk:=[zv 9 8 7]
def ajl:=[za 10 8,za 5 10]
def ajm:=[za 11 1,za 12 0,za 13 5,zi 14 2 12 13,zg 15 2 14,CY 16 11 15]
def ajn:=[za 17 5,za 4 17]
def ajo:=[zn 18 8 1,za 8 18]
def ajp:=[rY 4]
def a124:AC:=Z.r aji [0,1] (Z.s (Z.r ajj [0,1,7,8] (Z.b 0 (Z.l [0,1,7,8] (Z.r ajk [0,1,7,8,9] (Z.s (Z.c 9 .skip (.exit 0)) [0,1,7,8] (Z.s (Z.b 1 (Z.r ajl [0,1,5,7,8] (Z.r ajm [0,1,5,7,8,16] (Z.c 16 (Z.e ajn) .skip)))) [0,1,7,8] (Z.g ajo))))))) [] (Z.e ajp))
theorem afM:bu Tryz.prog 124 19 a124 [.tmp 4]:= .i Tryz.func124
def ajt:=[fh 2]
def aju:=[za 6 0,zj 7 61 6,za 3 7]
def ajv:=[fh 4]
def ajw:=[za 8 0,r3 9 8 0]
def ajx:=[ed 0 (za 10 3) [],ed 1 (q0 11 (.cH (.slice 9 (.tmp 10) (some (ki 1)) none none) 9 [.str] [.tmp 10,ki 1])) [],ed 2 (q0 4 (.mv (ks ⟨#[45]⟩))) [],ed 3 (za 3 11) []]
def ajy:=[za 12 3,mI 13 12,F5 14 13 6]
def ajz:=[za 15 3,q0 16 (.bin .add (ks ⟨#[48]⟩) (.tmp 15)),za 3 16]
def ajA:=[za 17 3,mI 18 17,F0 19 18 6,za 5 19]
def ajB:=[za 20 4,za 21 3,za 22 5,q0 23 (.cH (.slice 9 (.tmp 21) none (some (.tmp 22)) none) 9 [.str] [.tmp 21,.tmp 22]),qt 24 20 23,q0 25 (.bin .add (.tmp 24) (ks ⟨#[46]⟩)),za 26 3,za 27 5,q0 28 (.cH (.slice 9 (.tmp 26) (some (.tmp 27)) none none) 9 [.str] [.tmp 26,.tmp 27]),qt 29 25 28,za 2 29]
def a130:AC:=Z.r ajt [0] (Z.r aju [0,3] (Z.r ajv [0,3,4] (Z.s (Z.r ajw [3,4,9] (Z.c 9 (.dC [] ajx) .skip)) [3,4] (Z.s (Z.b 0 (Z.l [3,4] (Z.s (Z.r ajy [3,4,14] (Z.c 14 .skip (.exit 0))) [3,4] (Z.b 1 (Z.g ajz))))) [3,4] (Z.r ajA [3,4,5] (.seq (.dV ajB) .ret))))))
theorem afN:bu Tryz.prog 130 30 a130 [.tmp 2]:= .i Tryz.func130
def ajC:=[zh 2 0,zh 3 0]
def ajD:=[za 13 0,za 4 13,cp 5]
def ajO:=[za 14 4,LR 15 14,za 16 15,zl 17 4 16,q1 18 (.idxs (.tmp 17) (ki 0)) 16 true,q1 19 (.bin .eql (.tmp 18) (.const (.int .u8 45))) 16 true,zp 20 16 19]
def ajZ:=[za 21 4,q0 22 (.cH (.slice 9 (.tmp 21) (some (ki 1)) none none) 9 [.str] [.tmp 21,ki 1]),za 4 22,lz 5]
def aj2:=[rY 6,cp 7]
def aj3:=[zh 8 0]
def aj4:=[za 23 8,za 24 4,mI 25 24,zv 26 23 25]
def aj5:=[za 29 4,za 30 8,zW 31 29 30,za 9 31]
def aj6:=[za 33 9,q0 34 (.bin .eql (.tmp 33) (.const (.int .u8 46))),za 35 34,zl 36 6 35,q1 37 (.bin .lss (.tmp 36) (ki 0)) 35 true,zp 38 35 37,za 39 38,zl 40 8 39,q1 41 (.bin .gtr (.tmp 40) (ki 0)) 39 true,zp 42 39 41,za 32 42]
def aj7:=[za 43 8,za 6 43]
def ajE:=[za 45 9,q0 46 (.bin .lss (.tmp 45) (.const (.int .u8 48))),za 47 46,dP 48 9 47,q1 49 (.bin .gtr (.tmp 48) (.const (.int .u8 57))) 47 false,zm 50 47 49,za 44 50]
def ajF:=[zh 2 0,zh 3 3]
def ajG:=[za 51 7]
def ajH:=[za 52 9,q0 53 (.bin .sub (.tmp 52) (.const (.int .u8 48))),LY 54 53,za 10 54]
def ajI:=[za 55 2,za 56 10,q0 57 (.bin .sub (ki 1152921504606846976) (.tmp 56)),zbp 58 57 10,F9 59 55 58]
def ajJ:=[lz 7]
def ajK:=[za 60 2,q0 61 (.bin .mul (ki 10) (.tmp 60)),za 62 10,qt 63 61 62,za 2 63]
def ajL:=[za 27 8,zn 28 27 1,za 8 28]
def ajM:=[zh 11 0]
def ajN:=[za 64 6,zR 65 64 0]
def ajP:=[za 66 4,mI 67 66,za 68 6,F4 69 67 68,F0 70 69 1,za 11 70]
def ajQ:=[za 71 11,zt 72 71 0,za 73 72,dP 74 11 73,iR 75 74 6 73,zm 76 73 75]
def ajR:=[zh 2 0,zh 3 3]
def ajS:=[za 77 4,q0 78 (.bin .eql (.tmp 77) (ks ⟨#[]⟩))]
def ajT:=[zh 2 0,zh 3 3]
def ajU:=[za 79 11,q0 80 (.bin .sub (ki 6) (.tmp 79)),q0 81 (.jt 7 1 (.global 4) (.tmp 80)),zb 82 1 81,za 12 82]
def ajV:=[za 83 7,za 84 83,dP 85 2 84,dP 86 12 84,q1 87 (.bin .quo (ki 1152921504606846976) (.tmp 86)) 84 false,q1 88 (.bin .gtr (.tmp 85) (.tmp 87)) 84 false,zm 89 84 88]
def ajW:=[zh 2 0,zh 3 2]
def ajX:=[za 90 2,za 91 12,q0 92 (.bin .mul (.tmp 90) (.tmp 91)),za 2 92]
def ajY:=[za 93 5]
def aj0:=[za 94 2,q0 95 (.un .neg (.tmp 94)),za 2 95]
def aj1:=[za 96 2,za 2 96,zh 3 0]
def a138:AC:=Z.r ajC [0,2] (.scope (Z.r ajD [2,4,5] (Z.s (Z.r ajO [2,4,5,20] (Z.c 20 (Z.g ajZ) .skip)) [2,4,5] (Z.r aj2 [2,4,5,6,7] (Z.s (.label 0) [2,4,5,6,7] (Z.s (Z.r aj3 [2,4,5,6,7,8] (Z.b 0 (Z.l [2,4,5,6,7,8] (Z.s (Z.r aj4 [2,4,5,6,7,8,26] (Z.c 26 .skip (.exit 0))) [2,4,5,6,7,8] (Z.s (Z.b 1 (Z.r aj5 [2,4,5,6,7,8,9] (Z.s (Z.b 2 (Z.r aj6 [2,4,5,6,7,8,9,32] (Z.c 32 (.seq (Z.g aj7) (.exit 1)) (Z.r ajE [2,4,5,6,7,8,9,44] (Z.c 44 (Z.e ajF) .skip))))) [2,4,5,6,7,8,9] (Z.s (Z.r ajG [2,4,5,6,7,8,9,51] (Z.c 51 (.exit 1) .skip)) [2,4,5,6,7,8,9] (Z.r ajH [2,4,5,6,7,8,10] (Z.r ajI [2,4,5,6,7,8,10,59] (Z.c 59 (Z.g ajJ) (Z.g ajK)))))))) [2,4,5,6,7,8] (Z.g ajL)))))) [2,4,5,6,7] (Z.r ajM [2,4,5,6,7,11] (Z.s (Z.r ajN [2,4,5,6,7,11,65] (Z.c 65 (Z.r ajP [2,4,5,7,11] (Z.r ajQ [2,4,5,7,11,76] (Z.c 76 (Z.e ajR) .skip))) .skip)) [2,4,5,7,11] (Z.s (Z.r ajS [2,5,7,11,78] (Z.c 78 (Z.e ajT) .skip)) [2,5,7,11] (Z.s (Z.r ajU [2,5,7,12] (Z.r ajV [2,5,12,89] (Z.c 89 (Z.e ajW) (Z.g ajX)))) [2,5] (Z.s (Z.r ajY [2,93] (Z.c 93 (Z.g aj0) .skip)) [2] (Z.e aj1))))))))))))
theorem afO:bu Tryz.prog 138 97 a138 [.tmp 2,.tmp 3]:= .i Tryz.func138
def aka:=[q0 2 (.alloc 201 (.agg (List.toArray (List.append (List.append [.bool false,.bool false,.bool false,.bool false,.bool false,.bool false,.bool false,.bool false,.bool false,.bool false,.bool false,.bool false,.bool false,.bool false,.bool false,.bool false,.bool false,.bool false,.bool false,.bool false,.bool false,.bool false,.bool false,.bool false,.bool false,.bool false,.bool false,.bool false,.bool false,.bool false,.bool false,.bool false,.bool false,.bool false,.bool false,.bool false,.bool false,.bool false,.bool false,.bool false,.bool false,.bool false,.bool false,.bool false,.bool false,.bool false,.bool false,.bool false,.bool false,.bool false,.bool false,.bool false,.bool false,.bool false,.bool false,.bool false,.bool false,.bool false,.bool false,.bool false,.bool false,.bool false,.bool false,.bool false] [.bool false,.bool false,.bool false,.bool false,.bool false,.bool false,.bool false,.bool false,.bool false,.bool false,.bool false,.bool false,.bool false,.bool false,.bool false,.bool false,.bool false,.bool false,.bool false,.bool false,.bool false,.bool false,.bool false,.bool false,.bool false,.bool false,.bool false,.bool false,.bool false,.bool false,.bool false,.bool false,.bool false,.bool false,.bool false,.bool false,.bool false,.bool false,.bool false,.bool false,.bool false,.bool false,.bool false,.bool false,.bool false,.bool false,.bool false,.bool false,.bool false,.bool false,.bool false,.bool false,.bool false,.bool false,.bool false,.bool false,.bool false,.bool false,.bool false,.bool false,.bool false,.bool false,.bool false,.bool false]) (List.append [.bool false,.bool false,.bool false,.bool false,.bool false,.bool false,.bool false,.bool false,.bool false,.bool false,.bool false,.bool false,.bool false,.bool false,.bool false,.bool false,.bool false,.bool false,.bool false,.bool false,.bool false,.bool false,.bool false,.bool false,.bool false,.bool false,.bool false,.bool false,.bool false,.bool false,.bool false,.bool false,.bool false,.bool false,.bool false,.bool false,.bool false,.bool false,.bool false,.bool false,.bool false,.bool false,.bool false,.bool false,.bool false,.bool false,.bool false,.bool false,.bool false,.bool false,.bool false,.bool false,.bool false,.bool false,.bool false,.bool false,.bool false,.bool false,.bool false,.bool false,.bool false,.bool false,.bool false,.bool false] [.bool false,.bool false,.bool false,.bool false,.bool false,.bool false,.bool false,.bool false,.bool false,.bool false,.bool false,.bool false,.bool false,.bool false,.bool false,.bool false,.bool false,.bool false,.bool false,.bool false,.bool false,.bool false,.bool false,.bool false,.bool false,.bool false,.bool false,.bool false,.bool false,.bool false,.bool false,.bool false,.bool false,.bool false,.bool false,.bool false,.bool false,.bool false,.bool false,.bool false,.bool false,.bool false,.bool false,.bool false,.bool false,.bool false,.bool false,.bool false,.bool false,.bool false,.bool false,.bool false,.bool false,.bool false,.bool false,.bool false,.bool false,.bool false,.bool false,.bool false,.bool false,.bool false,.bool false,.bool false]))))),cp 3]
def akb:=[zh 4 0]
def akc:=[za 6 4,za 7 0,mI 8 7,zv 9 6 8]
def akd:=[za 12 0,za 13 4,zW 14 12 13,za 5 14]
def ake:=[za 15 5,q0 16 (.bin .geq (.tmp 15) (.const (.int .u8 128)))]
def akf:=[zg 17 256 2,zc 256 2 17,cp 3]
def akg:=[za 18 5,LW 19 2 18,.mk none (.store 1 (.tmp 19) kT) none]
def akh:=[za 10 4,zn 11 10 1,za 4 11]
def aki:=[zg 20 256 2,zc 256 2 20,lz 3]
def a143:AC:=Z.r aka [0,2] (Z.s (Z.r akb [0,2,4] (Z.b 0 (Z.l [0,2,4] (Z.s (Z.r akc [0,2,4,9] (Z.c 9 .skip (.exit 0))) [0,2,4] (Z.s (Z.b 1 (Z.r akd [0,2,4,5] (Z.s (Z.r ake [0,2,4,5,16] (Z.c 16 (Z.e akf) .skip)) [0,2,4,5] (Z.g akg)))) [0,2,4] (Z.g akh)))))) [2] (Z.e aki))
def c143:FC:=⟨21,a143.erase,[.cell 2 true 256,.tmp 3]⟩
theorem abU:cK Tryz.prog Tryz.f143=some c143:=by kernel_rfl
theorem adb:c143.code=a143.erase:=rfl
def akj:=[zh 2 0]
def akk:=[za 6 0,qu 7 150 6 2,Gf 8 7,zj 9 139 8,za 5 9,zk 10 5 0,zk 11 5 1,za 3 10,za 4 11]
def akl:=[za 12 3,za 2 12]
def a148:AC:=Z.r akj [0] (Z.r akk [3] (Z.e akl))
def c148:FC:=⟨13,a148.erase,[.tmp 2]⟩
theorem abV:cK Tryz.prog Tryz.f148=some c148:=by kernel_rfl
theorem ade:c148.code=a148.erase:=rfl
def akm:=[zr 1 66 0,rZ 2]
def akn:=[zb 7 1 1,fD 8 7,ze 9 0 8,zb 10 1 9,zu 11 3 10 0,ze 12 2 11,zb 13 1 12,za 3 13]
def akp:=[zb 14 1 1,q0 15 (.call 45 [.tmp 14,ki 5,ks ⟨#[91]⟩]),gq 16 15]
def akq:=[rZ 2]
def akr:=[q0 4 (.alloc 28 (.slice none 0 0))]
def aks:=[zb 17 1 1,q0 18 (.gG (Fn.func 185) [] [.tmp 1,.tmp 4]),q0 19 (.call 184 [.tmp 17,ks ⟨#[42]⟩,.tmp 18])]
def akt:=[zb 20 1 1,q0 21 (.call 187 [.tmp 20,ks ⟨#[93]⟩])]
def aku:=[zb 23 1 4,zj 24 188 23,za 22 24,zk 25 22 0,zk 26 22 1,za 5 25,za 6 26]
def akv:=[za 27 6,gT 28 27 0]
def akw:=[za 29 3,za 30 6,q0 31 (.build [.int .i64 0,.int .i64 0] [(0,1,.tmp 29),(1,1,.tmp 30)]),LU 32 31,q0 33 (.nA 92 (.tmp 32)),.mk none (.panic (.tmp 33)) none]
def ako:=[za 34 5,za 2 34]
def MU:AC:=Z.r akm [1] (Z.r akn [1,3] (Z.s (Z.r akp [1,3,16] (Z.c 16 (Z.e akq) .skip)) [1,3] (Z.r akr [1,3,4] (Z.r aks [1,3,4] (Z.r akt [3,4] (Z.r aku [3,5,6] (Z.s (Z.r akv [3,5,6,28] (Z.c 28 (Z.g akw) .skip)) [5] (Z.e ako))))))))
def NK:FC:=⟨35,MU.erase,[.tmp 2]⟩
theorem abW:cK Tryz.prog Tryz.f149=some NK:=by kernel_rfl
theorem adf:NK.code=MU.erase:=rfl
def akz:=[Ga 4 97]
def akA:=[za 6 0,fD 7 6,ze 8 0 7,zb 9 1 8,zu 10 3 9 0,zg 11 3 10,Ga 5 97,zc 3 5 11]
def akB:=[ze 12 0 5,zb 13 1 12,za 14 1,CW 15 13 14]
def akC:=[za 16 0,zj 17 44 16]
def akD:=[za 18 0,za 19 0,fD 20 19,ze 21 0 20,zb 22 1 21,zU 23 22 1,fD 24 18,ze 25 0 24,zc 1 25 23]
def akE:=[zg 26 3 5,zc 3 4 26]
def MV:AC:=Z.r akz [0,1,4] (Z.r akA [0,1,4,5] (Z.s (Z.r akB [0,4,5,15] (Z.c 15 (Z.g akC) .skip)) [0,4,5] (Z.r akD [4,5] (Z.e akE))))
def NL:FC:=⟨27,MV.erase,[.cell 4 true 3]⟩
theorem abX:cK Tryz.prog Tryz.f150=some NL:=by kernel_rfl
theorem adg:NL.code=MV.erase:=rfl
def akF:=[zf 2 33]
def akG:=[za 5 0,fD 6 5,ze 7 0 6,zb 8 1 7,zu 9 3 8 0,ze 10 1 9,zb 11 1 10,za 3 11]
def akQ:=[za 12 3]
def ak0:=[q0 14 (.bin .eql (.tmp 12) (ks ⟨#[116,114,117,101]⟩)),za 13 14]
def ak1:=[q0 15 (.bin .eql (.tmp 12) (ks ⟨#[102,97,108,115,101]⟩)),za 13 15]
def ak2:=[za 16 0,za 17 0,fD 18 17,ze 19 0 18,zb 20 1 19,zU 21 20 1,fD 22 16,ze 23 0 22,zc 1 23 21]
def ak3:=[za 24 3,mI 25 24,q0 26 (.bin .sub (ki 5) (.tmp 25)),zj 27 189 26,zc 12 2 27]
def ak4:=[q0 29 (.bin .eql (.tmp 12) (ks ⟨#[110,117,108,108]⟩)),za 28 29]
def ak5:=[za 30 0,za 31 0,fD 32 31,ze 33 0 32,zb 34 1 33,zU 35 34 1,fD 36 30,ze 37 0 36,zc 1 37 35]
def ak6:=[za 38 3,za 39 0,zj 40 153 39,q0 41 (.bM 33 12 [.tmp 40]),LK 42 6 38 41,zc 12 2 42]
def T7:=[VZ 44 12,za 43 44]
def akH:=[q0 45 (.bin .eql (.tmp 12) (ks ⟨#[115,117,109]⟩)),za 43 45]
def akI:=[q0 46 (.bin .eql (.tmp 12) (ks ⟨#[109,101,97,110]⟩)),za 43 46]
def akJ:=[q0 47 (.bin .eql (.tmp 12) (ks ⟨#[109,105,110]⟩)),za 43 47]
def akK:=[q0 48 (.bin .eql (.tmp 12) (ks ⟨#[109,97,120]⟩)),za 43 48]
def akL:=[q0 49 (.bin .eql (.tmp 12) (ks ⟨#[102,105,114,115,116]⟩)),za 43 49]
def akM:=[q0 50 (.bin .eql (.tmp 12) (ks ⟨#[108,97,115,116]⟩)),za 43 50]
def akN:=[zcu 51 12,za 43 51]
def akO:=[LN 52 12,za 43 52]
def akP:=[q0 53 (.bin .eql (.tmp 12) (ks ⟨#[100,101,99,97,121]⟩)),za 43 53]
def akR:=[za 54 0,fD 55 54,ze 56 1 55,zb 57 1 56,gq 58 57]
def akS:=[za 59 0,za 60 0,fD 61 60,ze 62 0 61,zb 63 1 62,zU 64 63 1,fD 65 59,ze 66 0 65,zc 1 66 64]
def akT:=[za 67 0,za 68 3,zw 69 190 67 68,zc 12 2 69]
def akU:=[za 70 0,zj 71 186 70,za 4 71]
def akV:=[za 73 0,fD 74 73,ze 75 1 74,zb 76 1 75,za 72 76]
def akW:=[za 77 4,F2 78 2 77,zc 12 2 78]
def akX:=[za 80 0,q0 81 (.call 45 [.tmp 80,ki 1,ks ⟨#[111,102]⟩]),za 79 81]
def akY:=[za 82 4,za 83 0,zj 84 153 83,q0 85 (.bM 33 12 [.tmp 84]),q0 86 (.build [.int .i64 0,.string ⟨#[]⟩,.string ⟨#[]⟩,.string ⟨#[]⟩,.int .i64 0,.int .i64 0,.string ⟨#[]⟩,.slice none 0 0,.int .i64 0,.int .i64 0,.int .i64 0,.slice none 0 0] [(0,1,ki 4),(2,1,.tmp 82),(11,1,.tmp 85)]),zc 12 2 86]
def akZ:=[za 87 4,F2 88 3 87,zc 12 2 88]
def MW:AC:=Z.r akF [0,2] (Z.s (Z.r akG [0,2,3] (Z.r akQ [0,2,3,12] (Z.b 0 (Z.s (Z.r ak0 [0,2,3,12,13] (Z.c 13 .skip (Z.g ak1))) [0,2,3,12,13] (Z.c 13 (Z.r ak2 [2,3] (Z.e ak3)) (Z.r ak4 [0,2,3,12,28] (Z.c 28 (Z.r ak5 [0,2,3] (Z.e ak6)) (Z.s (Z.r T7 [0,2,3,12,43] (Z.c 43 .skip (Z.r akH [0,2,3,12,43] (Z.c 43 .skip (Z.r akI [0,2,3,12,43] (Z.c 43 .skip (Z.r akJ [0,2,3,12,43] (Z.c 43 .skip (Z.r akK [0,2,3,12,43] (Z.c 43 .skip (Z.r akL [0,2,3,12,43] (Z.c 43 .skip (Z.r akM [0,2,3,12,43] (Z.c 43 .skip (Z.r akN [0,2,3,12,43] (Z.c 43 .skip (Z.r akO [0,2,3,12,43] (Z.c 43 .skip (Z.g akP))))))))))))))))))) [0,2,3,43] (Z.c 43 (Z.r akR [0,2,3,58] (Z.c 58 (Z.r akS [0,2,3] (Z.e akT)) .skip)) .skip))))))))) [0,2] (Z.r akU [0,2,4] (Z.s (Z.b 1 (Z.r akV [0,2,4,72] (Z.c 72 (Z.e akW) (Z.r akX [0,2,4,79] (Z.c 79 (Z.e akY) .skip))))) [2,4] (Z.e akZ))))
def NM:FC:=⟨89,MW.erase,[.cell 2 true 12]⟩
theorem abY:cK Tryz.prog Tryz.f151=some NM:=by kernel_rfl
theorem adh:NM.code=MW.erase:=rfl
def ak7:=[zf 2 33]
def ak8:=[za 5 0,zj 6 186 5,F2 7 1 6,zf 3 33,zc 12 3 7]
def ak9:=[za 8 0,qu 9 150 8 4,Ga 4 97,zc 3 4 9]
def ala:=[ze 10 1 4,zb 11 1 10,mI 12 11,r3 13 12 1,za 14 13,zs 15 1 4 14,zq 16 1 15 14,q1 17 (.len true (.tmp 16)) 14 false,iR 18 17 32 14,zm 19 14 18,za 20 19,zs 21 1 4 20,zq 22 1 21 20,q1 23 (.cH (.convert 9 42 (.tmp 22)) 42 [.str,.other,.sl 5,.int .u8] [.tmp 22]) 20 false,q1 24 (.call 191 [.tmp 23,.const (.int .u8 32)]) 20 false,zm 25 20 24]
def alb:=[ze 26 2 4,zb 27 1 26,q0 28 (.build [.int .i64 0,.int .i64 0] [(0,1,.tmp 27),(1,1,ki 3)]),LU 29 28,q0 30 (.nA 92 (.tmp 29)),.mk none (.panic (.tmp 30)) none]
def alc:=[ze 31 1 4,zb 32 1 31,q0 33 (.build [.int .i64 0,.int .i64 0,.string ⟨#[]⟩] [(0,1,ki 5),(2,1,.tmp 32)]),ze 34 4 3,zc 3 34 33]
def ald:=[zg 35 12 3,zc 12 2 35]
def a152:AC:=Z.r ak7 [0,2] (Z.r ak8 [0,2,3] (Z.r ak9 [2,3,4] (Z.s (Z.r ala [2,3,4,25] (Z.c 25 (Z.g alb) .skip)) [2,3,4] (Z.r alc [2,3] (Z.e ald)))))
def c152:FC:=⟨36,a152.erase,[.cell 2 true 12]⟩
theorem abZ:cK Tryz.prog Tryz.f152=some c152:=by kernel_rfl
theorem adi:c152.code=a152.erase:=rfl
def ale:=[zf 2 33]
def alf:=[za 4 0,q0 5 (.call 187 [.tmp 4,ks ⟨#[40]⟩])]
def alg:=[za 6 0,zj 7 20 6,zf 3 33,zc 12 3 7]
def alh:=[za 8 0,q0 9 (.call 187 [.tmp 8,ks ⟨#[41]⟩])]
def ali:=[zg 10 12 3,zc 12 2 10]
def MX:AC:=Z.r ale [0,2] (Z.r alf [0,2] (Z.r alg [0,2,3] (Z.r alh [2,3] (Z.e ali))))
def NN:FC:=⟨11,MX.erase,[.cell 2 true 12]⟩
theorem ab0:cK Tryz.prog Tryz.f153=some NN:=by kernel_rfl
theorem adj:NN.code=MX.erase:=rfl
def alM:=[za 6 2,q0 7 (.dY (.tmp 6) [])]
def alN:=[za 8 0,za 9 1,q0 10 (.call 45 [.tmp 8,ki 5,.tmp 9])]
def alO:=[za 11 2,q0 12 (.dY (.tmp 11) [])]
def MY:AC:=Z.r alM [0,1,2] (Z.b 0 (Z.l [0,1,2] (Z.s (Z.r alN [0,1,2,10] (Z.c 10 .skip (.exit 0))) [0,1,2] (Z.b 1 (Z.g alO)))))
def NP:FC:=⟨13,MY.erase,[]⟩
theorem ab1:cK Tryz.prog Tryz.f184=some NP:=by kernel_rfl
theorem adk:NP.code=MY.erase:=rfl
def alP:=[zb 4 1 0,zj 5 186 4,q0 6 (.build [.string ⟨#[]⟩,.int .i64 0] [(0,1,.tmp 5),(1,1,ki 1)]),CX 2 145,zc 2 2 6]
def alQ:=[zb 7 1 0,q0 8 (.call 45 [.tmp 7,ki 5,ks ⟨#[94]⟩])]
def alR:=[zh 3 1]
def alS:=[zb 9 1 0,q0 10 (.call 45 [.tmp 9,ki 5,ks ⟨#[45]⟩])]
def alT:=[rY 3]
def alU:=[za 11 3,zb 12 1 0,zj 13 148 12,q0 14 (.min2 (.tmp 13) (ki 1099511627776)),q0 15 (.bin .mul (.tmp 11) (.tmp 14)),ze 16 1 2,zc 1 16 15]
def alV:=[zb 17 1 1,zg 18 2 2,q0 19 (.bM 145 2 [.tmp 18]),VT 20 145 17 19,zc 1 1 20]
def MZ:AC:=Z.r alP [0,1,2] (Z.s (Z.r alQ [0,1,2,8] (Z.c 8 (Z.r alR [0,1,2,3] (Z.s (Z.r alS [0,1,2,3,10] (Z.c 10 (Z.g alT) .skip)) [0,1,2,3] (Z.g alU))) .skip)) [1,2] (Z.g alV))
def NQ:FC:=⟨21,MZ.erase,[]⟩
theorem ab2:cK Tryz.prog Tryz.f185=some NQ:=by kernel_rfl
theorem adl:NQ.code=MZ.erase:=rfl
def alW:=[fh 2]
def alX:=[za 3 0,fD 4 3,ze 5 0 4,zb 6 1 5,zu 7 3 6 0,ze 8 1 7,zb 9 1 8,zj 10 54 9,gq 11 10]
def alY:=[za 12 0,zj 13 44 12]
def alZ:=[za 14 0,qu 15 150 14 1,Gf 16 15,za 2 16]
def M4:AC:=Z.r alW [0] (Z.s (Z.r alX [0,11] (Z.c 11 (Z.g alY) .skip)) [0] (Z.e alZ))
def NR:FC:=⟨17,M4.erase,[.tmp 2]⟩
theorem ab3:cK Tryz.prog Tryz.f186=some NR:=by kernel_rfl
theorem adm:NR.code=M4.erase:=rfl
def al0:=[za 4 0,za 5 1,q0 6 (.call 45 [.tmp 4,ki 5,.tmp 5]),gq 7 6]
def al1:=[za 8 0,zj 9 44 8]
def M5:AC:=Z.r al0 [0,7] (Z.c 7 (Z.g al1) .skip)
def NS:FC:=⟨10,M5.erase,[]⟩
theorem ab4:cK Tryz.prog Tryz.f187=some NS:=by kernel_rfl
theorem adn:NS.code=M5.erase:=rfl
def al2:=[rZ 2,zh 3 0]
def al3:=[q0 11 (.exts (.makeMap 253 none) 253 [] []),za 4 11]
def ame:=[za 12 0,zz 13 12,zh 14 0]
def amh:=[zv 15 14 13]
def ami:=[zi 16 2 12 14,zg 17 2 16,CX 6 145,zc 2 6 17]
def amj:=[ze 18 0 6,zb 19 1 18,zj 20 122 19,gq 21 20]
def amk:=[rZ 2,zh 3 1]
def aml:=[za 22 4,ze 23 0 6,zb 24 1 23,za 25 4,ze 26 0 6,zb 27 1 26,q0 28 (.cH (.lookup 253 (.tmp 25) (.tmp 27) false) 255 [.mp 9 255,.str] [.tmp 25,.tmp 27]),ze 29 1 6,zb 30 1 29,zj 31 210 30,zw 32 209 28 31]
def amm:List CI:=[.mk none (.exts (.mapUpdate 253 (.tmp 22) (.tmp 24) (.tmp 32)) 0 [.mp 9 255,.str] [.tmp 22,.tmp 24,.tmp 32]) none]
def amn:=[zn 33 14 1,za 14 33]
def al4:=[za 34 4,zj 35 211 34,zz 36 35,zh 37 0]
def al5:=[zv 38 37 36]
def al6:=[zi 39 1 35 37,zb 40 1 39,za 8 40]
def al7:=[za 42 4,za 43 8,q0 44 (.cH (.lookup 253 (.tmp 42) (.tmp 43) false) 255 [.mp 9 255,.str] [.tmp 42,.tmp 43]),qu 45 212 44 1,za 41 45,zk 46 41 0,zk 47 41 1,za 9 46,za 10 47]
def al8:=[za 48 10,gq 49 48,za 50 49,dP 51 9 50,q1 52 (.call 123 [.tmp 51,ki 8]) 50 false,zm 53 50 52]
def al9:=[rZ 2,zh 3 70]
def ama:=[za 54 9,gT 55 54 0]
def amb:=[za 56 2,za 57 8,za 58 9,VQ 59 57 58,q0 60 (.bM 145 2 [.tmp 59]),VT 61 145 56 60,za 2 61]
def amc:=[zn 62 37 1,za 37 62]
def amd:=[za 63 2,zz 64 63,mJ 65 64 4]
def amf:=[rZ 2,zh 3 2]
def amg:=[za 66 2,za 2 66,zh 3 0]
def aaM:AC:=Z.r al2 [0,2] (Z.r al3 [0,2,4] (Z.s (Z.r ame [2,4,12,13,14] (Z.b 0 (Z.l [2,4,12,13,14] (Z.r amh [2,4,12,13,14,15] (Z.s (Z.c 15 .skip (.exit 0)) [2,4,12,13,14] (Z.s (Z.b 1 (Z.r ami [2,4,6,12,13,14] (Z.s (Z.r amj [2,4,6,12,13,14,21] (Z.c 21 (Z.e amk) .skip)) [2,4,6,12,13,14] (Z.d aml [2,4,12,13,14,22,24,32] (Z.g amm))))) [2,4,12,13,14] (Z.g amn))))))) [2,4] (Z.s (Z.r al4 [2,4,35,36,37] (Z.b 2 (Z.l [2,4,35,36,37] (Z.r al5 [2,4,35,36,37,38] (Z.s (Z.c 38 .skip (.exit 2)) [2,4,35,36,37] (Z.s (Z.b 3 (Z.r al6 [2,4,8,35,36,37] (Z.r al7 [2,4,8,9,10,35,36,37] (Z.s (Z.r al8 [2,4,8,9,35,36,37,53] (Z.c 53 (Z.e al9) .skip)) [2,4,8,9,35,36,37] (Z.r ama [2,4,8,9,35,36,37,55] (Z.c 55 (Z.g amb) .skip)))))) [2,4,35,36,37] (Z.g amc))))))) [2] (Z.s (Z.r amd [2,65] (Z.c 65 (Z.e amf) .skip)) [2] (Z.e amg)))))
theorem afP:bu Tryz.prog 188 67 aaM [.tmp 2,.tmp 3]:= .i Tryz.func188
def amo:=[zf 2 33]
def amp:=[za 3 0,LP 4 1 3,F1 5 1 4,zc 12 2 5]
def aaN:AC:=Z.r amo [0,2] (Z.e amp)
theorem afQ:bu Tryz.prog 189 6 aaN [.cell 2 true 12]:= .i Tryz.func189
def amq:=[zf 4 33]
def amr:=[za 6 1,VO 7 189 1,VO 8 189 1,wJ 9 33 7 8,LK 10 5 6 9,zf 5 33,zc 12 5 10]
def amA:=[za 11 0,q0 12 (.call 187 [.tmp 11,ks ⟨#[40]⟩])]
def amB:=[za 13 0,zj 14 186 13,ze 15 3 5,zc 1 15 14]
def amC:=[za 16 0,q0 17 (.call 187 [.tmp 16,ks ⟨#[44]⟩])]
def amD:=[za 18 0,fD 19 18,ze 20 1 19,.mk none (.store 1 (.tmp 20) kT) none]
def amE:=[za 21 1,q0 22 (.bin .neq (.tmp 21) (ks ⟨#[99,111,117,110,116]⟩))]
def amF:=[ed 0 (ze 23 11 5) [],ed 1 (zb 24 1 23) [],ed 2 (za 25 0) [],ed 3 (zj 26 20 25) [],ed 4 (zu 27 12 24 0) [26],ed 5 (zc 12 27 26) []]
def amG:=[za 28 0,q0 29 (.call 187 [.tmp 28,ks ⟨#[44]⟩])]
def amH:=[za 30 1,LN 31 30,za 32 31,dP 33 1 32,q1 34 (.bin .eql (.tmp 33) (ks ⟨#[100,101,99,97,121]⟩)) 32 false,zm 35 32 34]
def ams:=[za 36 0,zj 37 148 36,ze 38 8 5,zc 1 38 37]
def amt:=[za 39 0,q0 40 (.call 187 [.tmp 39,ks ⟨#[44]⟩])]
def amu:=[za 41 0,zj 42 213 41,ze 43 9 5,zc 2 43 42]
def amv:=[za 44 0,q0 45 (.call 45 [.tmp 44,ki 1,ks ⟨#[119,104,101,114,101]⟩])]
def amw:=[ed 0 (ze 46 11 5) [],ed 1 (zb 47 1 46) [],ed 2 (za 48 0) [],ed 3 (zj 49 20 48) [],ed 4 (zu 50 12 47 1) [49],ed 5 (zc 12 50 49) []]
def amx:=[za 51 0,fD 52 51,ze 53 1 52,.mk none (.store 1 (.tmp 53) kF) none]
def amy:=[za 54 0,q0 55 (.call 187 [.tmp 54,ks ⟨#[41]⟩])]
def amz:=[zg 56 12 5,zc 12 4 56]
def M7:AC:=Z.r amq [0,1,4] (Z.r amr [0,1,4,5] (Z.r amA [0,1,4,5] (Z.r amB [0,1,4,5] (Z.r amC [0,1,4,5] (Z.r amD [0,1,4,5] (Z.s (Z.r amE [0,1,4,5,22] (Z.c 22 (Z.s (.dC [] amF) [0,1,4,5] (Z.g amG)) .skip)) [0,1,4,5] (Z.s (Z.r amH [0,4,5,35] (Z.c 35 (Z.r ams [0,4,5] (Z.g amt)) .skip)) [0,4,5] (Z.r amu [0,4,5] (Z.s (Z.r amv [0,4,5,45] (Z.c 45 (.dC [] amw) .skip)) [0,4,5] (Z.r amx [0,4,5] (Z.r amy [4,5] (Z.e amz))))))))))))
def NU:FC:=⟨57,M7.erase,[.cell 4 true 12]⟩
theorem ab5:cK Tryz.prog Tryz.f190=some NU:=by kernel_rfl
theorem ado:NU.code=M7.erase:=rfl
def amI:=[cp 4]
def amJ:=[za 5 0,za 6 1,zw 7 214 5 6,zR 8 7 0,za 4 8]
def aaO:AC:=Z.r amI [0,1] (Z.e amJ)
theorem afR:bu Tryz.prog 191 9 aaO [.tmp 4]:= .i Tryz.func191
def amW:=[q0 2 (.alloc 255 (.agg #[.int .i64 0,.int .u64 0]))]
def amX:=[za 3 0,q0 4 (.bin .shr (.tmp 3) (.const (.int .u64 63))),za 5 0,q0 6 (.mO .u64 (.tmp 5)),q0 7 (.build [.int .i64 0,.int .u64 0] [(0,1,.tmp 4),(1,1,.tmp 6)]),zc 2 2 7]
def a210:AC:=Z.r amW [0,2] (Z.e amX)
theorem afS:bu Tryz.prog 210 8 a210 [.cell 2 true 2]:= .i Tryz.func210
def amY:=[zr 2 255 0,zh 4 0,cp 5]
def amZ:=[za 10 1,zt 11 10 0]
def am6:=[zh 4 0,cp 5]
def am7:=[zg 12 2 2,zj 13 224 12,za 14 1,zj 15 210 14,zj 16 224 15,q0 17 (.cH (.index 271 (.tmp 16) (ki 0)) 178 [] [.tmp 16,ki 0]),q0 6 (.alloc 271 (.agg #[.int .u64 0,.int .u64 0])),zc 2 6 13,za 7 17]
def am8:=[q0 18 (.jt 2 1 (.tmp 6) (ki 1)),zb 19 1 18,za 20 7,VS 21 19 20]
def am9:=[zh 4 0,cp 5]
def ana:=[q0 23 (.jt 2 1 (.tmp 6) (ki 1)),zb 24 1 23,q0 25 (.jt 2 1 (.tmp 6) (ki 0)),zb 26 1 25,za 27 7,F3 28 225 24 26 27,za 22 28,zk 29 22 0,zk 30 22 1,za 8 29,za 9 30]
def anb:=[za 31 9,za 32 7,za 33 9,F4 34 32 33,F9 35 31 34,za 36 35,dP 37 9 36,dP 38 7 36,dP 39 9 36,q1 40 (.bin .sub (.tmp 38) (.tmp 39)) 36 false,q1 41 (.bin .eql (.tmp 37) (.tmp 40)) 36 false,dP 42 41 36,zl 43 8 42,q1 44 (.bin .rem (.tmp 43) (.const (.int .u64 2))) 42 true,q1 45 (.bin .eql (.tmp 44) (.const (.int .u64 1))) 42 true,F7 46 42 45 36,zm 47 36 46]
def anc:=[za 48 8,q0 49 (.bin .eql (.tmp 48) (.const (.int .u64 18446744073709551615)))]
def ane:=[zh 4 0,cp 5]
def am0:=[za 50 8,q0 51 (.bin .add (.tmp 50) (.const (.int .u64 1))),za 8 51]
def am1:=[za 52 8,q0 53 (.bin .gtr (.tmp 52) (.const (.int .u64 1152921504606846976)))]
def am2:=[zh 4 0,cp 5]
def am3:=[ze 54 0 2,zb 55 1 54,r3 56 55 0,za 57 1,r3 58 57 0,q0 59 (.iX true .bool (.tmp 56) (.tmp 58))]
def am4:=[za 60 8,LY 61 60,q0 62 (.un .neg (.tmp 61)),za 4 62,lz 5]
def am5:=[za 63 8,LY 64 63,za 4 64,lz 5]
def a212:AC:=Z.r amY [1,2] (Z.s (Z.r amZ [1,2,11] (Z.c 11 (Z.e am6) .skip)) [1,2] (Z.r am7 [1,2,6,7] (Z.s (Z.r am8 [1,2,6,7,21] (Z.c 21 (Z.e am9) .skip)) [1,2,6,7] (Z.r ana [1,2,7,8,9] (Z.s (Z.r anb [1,2,8,47] (Z.c 47 (Z.s (Z.r anc [1,2,8,49] (Z.c 49 (Z.e ane) .skip)) [1,2,8] (Z.g am0)) .skip)) [1,2,8] (Z.s (Z.r am1 [1,2,8,53] (Z.c 53 (Z.e am2) .skip)) [1,2,8] (Z.s (Z.r am3 [8,59] (Z.c 59 (Z.e am4) .skip)) [8] (Z.e am5))))))))
theorem afT:bu Tryz.prog 212 65 a212 [.tmp 4,.tmp 5]:= .i Tryz.func212
def anf:=[q0 2 (.alloc 30 (.agg #[.int .i64 0,.int .i64 0]))]
def ang:=[za 4 0,q0 5 (.call 45 [.tmp 4,ki 1,ks ⟨#[97,108,108]⟩]),za 3 5]
def anh:=[q0 6 (.build [.int .i64 0,.int .i64 0] [(0,1,ki 1)]),zc 2 2 6]
def ani:=[za 8 0,q0 9 (.call 45 [.tmp 8,ki 1,ks ⟨#[115,108,105,100,105,110,103]⟩]),za 7 9]
def anj:=[za 10 0,zj 11 148 10,LO 12 2 11,zc 2 2 12]
def ank:=[za 14 0,q0 15 (.call 45 [.tmp 14,ki 1,ks ⟨#[116,117,109,98,108,105,110,103]⟩]),za 13 15]
def anl:=[za 16 0,zj 17 148 16,LO 18 3 17,zc 2 2 18]
def anm:=[za 19 0,q0 20 (.call 46 [.tmp 19,ks ⟨#[115,101,115,115,105,111,110]⟩])]
def ann:=[za 21 0,zj 22 148 21,LO 23 4 22,zc 2 2 23]
def a213:AC:=Z.r anf [0,2] (Z.s (Z.b 0 (Z.r ang [0,2,3] (Z.c 3 (Z.e anh) (Z.r ani [0,2,7] (Z.c 7 (Z.e anj) (Z.r ank [0,2,13] (Z.c 13 (Z.e anl) .skip))))))) [0,2] (Z.r anm [0,2] (Z.e ann)))
def c213:FC:=⟨24,a213.erase,[.cell 2 true 2]⟩
theorem ab7:cK Tryz.prog Tryz.f213=some c213:=by kernel_rfl
theorem adq:c213.code=a213.erase:=rfl
def ano:=[zh 4 0]
def anp:=[za 6 0,zz 7 6,zh 8 0]
def anq:=[zv 9 8 7]
def anr:=[za 10 8,za 5 10]
def ans:=[za 11 1,za 12 0,za 13 5,zi 14 1 12 13,zb 15 1 14,zP 16 11 15]
def ant:=[za 17 5,za 4 17]
def anu:=[zn 18 8 1,za 8 18]
def anv:=[rY 4]
def aaP:AC:=Z.r ano [0,1] (Z.s (Z.r anp [0,1,7,8] (Z.b 0 (Z.l [0,1,7,8] (Z.r anq [0,1,7,8,9] (Z.s (Z.c 9 .skip (.exit 0)) [0,1,7,8] (Z.s (Z.b 1 (Z.r anr [0,1,5,7,8] (Z.r ans [0,1,5,7,8,16] (Z.c 16 (Z.e ant) .skip)))) [0,1,7,8] (Z.g anu))))))) [] (Z.e anv))
theorem afU:bu Tryz.prog 214 19 aaP [.tmp 4]:= .i Tryz.func214
end Go.Proofs.YtcccbdelfhgmlaaGreatDoor
