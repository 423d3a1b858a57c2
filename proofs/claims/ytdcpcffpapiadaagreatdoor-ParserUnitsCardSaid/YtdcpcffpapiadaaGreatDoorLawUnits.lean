/-
  The statement ParserUnits: the unit of a literal is the one that units.Parse returns for its text, and a type has the same unit. No condition: for every input.
-/
import Derived.Test.YtdcpcffpapiadaaGreatDoorCodeA
import Derived.Test.YtdcpcffpapiadaaGreatDoorCodeB
import Derived.Test.YtdcpcffpapiadaaGreatDoorGi
import Derived.Test.YtdcpcffpapiadaaGreatDoorPt
import Derived.Test.YtdcpcffpapiadaaGreatDoorSxB
import Derived.Test.YtdcpcffpapiadaaGreatDoorSxComp
import Derived.Test.YtdcpcffpapiadaaGreatDoorSxComp3
import Derived.Test.YtdcpcffpapiadaaGreatDoorSxComp4
import Derived.Test.YtdcpcffpapiadaaGreatDoorSxComp5
import Derived.Test.YtdcpcffpapiadaaGreatDoorSxCore
import Derived.Test.YtdcpcffpapiadaaGreatDoorSxCtl
import Derived.Test.YtdcpcffpapiadaaGreatDoorSxDraw
import Derived.Test.YtdcpcffpapiadaaGreatDoorSxFn
import Derived.Test.YtdcpcffpapiadaaGreatDoorSxMix2
import Derived.Test.YtdcpcffpapiadaaGreatDoorSxMix3
import Derived.Test.YtdcpcffpapiadaaGreatDoorSxMixC
import Derived.Test.YtdcpcffpapiadaaGreatDoorSxOps
import Derived.Test.YtdcpcffpapiadaaGreatDoorSxSound
import Derived.Test.YtdcpcffpapiadaaGreatDoorSxSt
import Derived.Test.YtdcpcffpapiadaaGreatDoorSxStep
import Derived.Test.YtdcpcffpapiadaaGreatDoorSxX
import Derived.Test.YtdcpcffpapiadaaGreatDoorSxX2
import Derived.Test.YtdcpcffpapiadaaGreatDoorSxX3
import Derived.Test.YtdcpcffpapiadaaGreatDoorSxZ
import Derived.Test.YtdcpcffpapiadaaGreatDoorTf
import Derived.Test.YtdcpcffpapiadaaGreatDoorTg
import Derived.Test.YtdcpcffpapiadaaGreatDoorTj
import Derived.Test.YtdcpcffpapiadaaGreatDoorTz
import Derived.Test.YtdcpcffpapiadaaGreatDoorUc
import Derived.Test.YtdcpcffpapiadaaGreatDoorUe
import Derived.Test.YtdcpcffpapiadaaGreatDoorUi
import Derived.Test.YtdcpcffpapiadaaGreatDoorVb
import Derived.Test.YtdcpcffpapiadaaGreatDoorVc
import Derived.Test.YtdcpcffpapiadaaGreatDoorWa
import Derived.Test.YtdcpcffpapiadaaGreatDoorWb
import Derived.Test.YtdcpcffpapiadaaGreatDoorWd
import Derived.Test.YtdcpcffpapiadaaGreatDoorWe
import Derived.Test.YtdcpcffpapiadaaGreatDoorWf
import Derived.Test.YtdcpcffpapiadaaGreatDoorWh
import Derived.Test.YtdcpcffpapiadaaGreatDoorWi
import Derived.Test.YtdcpcffpapiadaaGreatDoorWn
import Derived.Test.YtdcpcffpapiadaaGreatDoorWo
import Derived.Test.YtdcpcffpapiadaaGreatDoorYa
import Derived.Test.YtdcpcffpapiadaaGreatDoorYb
import Derived.Test.YtdcpcffpapiadaaGreatDoorYc
import Derived.Test.YtdcpcffpapiadaaGreatDoorYd
import Derived.Test.YtdcpcffpapiadaaGreatDoorYe
import Derived.Test.YtdcpcffpapiadaaGreatDoorYf
import Derived.Test.YtdcpcffpapiadaaGreatDoorYm
import Derived.Test.YtdcpcffpapiadaaGreatDoorZa
import Derived.Test.YtdcpcffpapiadaaGreatDoorZb
import Derived.Test.YtdcpcffpapiadaaGreatDoorZf
import Derived.Test.YtdcpcffpapiadaaGreatDoorZs
import Derived.IntWalk
import Derived.Shelf.Strings.Builder1
import Derived.Shelf.Strings.Builder2
import Derived.Shelf.Strings.OnBuilder
import Derived.Shelf.Small.Utf8
import Derived.Shelf.Small.Bits
import Derived.Shelf.Small.Strs
import Derived.Shelf.Strconv.Atoi
import Derived.Shelf.Strconv.Itoa0
import Derived.Shelf.Strconv.Itoa1
import Derived.Shelf.LaysM
import Derived.Shelf.Strconv.Itoa2
import Derived.Shelf.Strconv.Itoa3
import Derived.Shelf.Strconv.AtoiErrFast
import Derived.Shelf.Strconv.ParseIntEmpty
import Derived.Shelf.Strconv.AtoiFail
import Derived.Shelf.Strconv.Clone
import Derived.Shelf.Strconv.SyntaxError
import Derived.Shelf.LaysC
import Derived.Shelf.Strconv.ToError
import Derived.Shelf.Strconv.AtoiErr
import Derived.Shelf.Strconv.ErrVar
import Derived.Shelf.Strconv.Lower
import Derived.Shelf.Strconv.ParseUint10
import Derived.Shelf.Strconv.ParseUint10Empty
import Derived.Shelf.Strconv.ParseUint10Any
import Derived.Shelf.Strconv.ParseInt10
import Derived.Shelf.Strconv.AtoiLong
import Derived.Shelf.Strconv.AtoiInnerAll
import Derived.Shelf.Strconv.RangeError
import Derived.Shelf.Strconv.ToErrorRange
import Derived.Shelf.Strconv.AtoiAll
import Derived.Shelf.Strconv.ErrVarAll
import Derived.Shelf.Strings.Search1
import Derived.Shelf.Strings.Search2
import Derived.Shelf.Strings.Search3
import Derived.Shelf.Strings.Shaped
import Derived.Shelf.Bytes.IndexByte
import Derived.Lib.Join
import Derived.Lib.Small
import Derived.Lib.IndexMore
import Derived.Lib.ItoaLen
import Derived.Shelf.Strings.Cut
import Derived.Shelf.Strings.Count
import Derived.Shelf.Strings.Split
import Derived.Shelf.Strings.SplitShaped
import Derived.Lib.Split
import Derived.Lib.IndexBytes
import Derived.WideLaws
import Derived.Lib.ItoaMem
import Derived.Test.YtdcpcffpapiadaaGreatDoorTie
import Derived.Test.YtdcpcffpapiadaaGreatDoorCards
import Derived.WalkKit
import Derived.ProofKit
import Derived.Lay
import Derived.LaidOnce
import Derived.SevenTiedAt
set_option linter.unusedVariables false
set_option linter.unusedSimpArgs false
set_option linter.unusedSectionVars false
namespace Go.Sx
open Go.RowKit
section
end
section
end
section
end
theorem drop_get{α:Type}[Inhabited α]{l:List α}{i:Nat}(h:i<l.length):l.drop i=l.getD i default::l.drop (i+1):=by
 rw[getD_eq h];exact List.drop_eq_getElem_cons h
theorem pred1{i:Nat}(h:0<i)(hn:i≤maxLen):IntKind.i64.wrap ((i:Int)-1)=((i-1:Nat):Int):=by
 rw[i64w (by unfold maxLen at hn;omega)];omega
end Go.Sx
namespace Go.Sx
namespace Z
end Z
end Go.Sx
namespace Go.Proofs.YtdcpcffpapiadaaGreatDoor
open Go.Sx
theorem comp8:compF Tryz.prog Tryz.f8=some c8:=by kernel_rfl
theorem era8:c8.code=a8.erase:=rfl
theorem comp21:compF Tryz.prog Tryz.f21=some c21:=by kernel_rfl
theorem era21:c21.code=a21.erase:=rfl
def s23_0:=[zam 2,zk 3 0]
def s23_1:=[za 12 0,zc3 13 12]
def s23_2:=[zam 2,zk 3 0]
def s23_3:=[za 14 0,q0 15 (.call 53 [.tmp 14,ks ⟨#[42]⟩,ki 5]),zx 16 15,zk 17 0]
def s23_4:=[zr 18 17 16]
def s23_5:=[zf 19 1 15 17,ze 20 1 19,za 5 20]
def s23_6:=[za 21 5,q0 22 (.build [.string ⟨#[]⟩,.int .i64 0] [(0,1,.tmp 21),(1,1,ki 1)]),zbx 6 67,zc 2 6 22]
def s23_7:=[za 24 5,q0 25 (.call 54 [.tmp 24,ks ⟨#[94]⟩]),za 23 25,zh 26 23 0,zh 27 23 1,zh 28 23 2,za 7 26,za 8 27,za 9 28]
def s23_8:=[za 29 9]
def s23_9:=[za 31 8,zl 32 55 31,za 30 32,zh 33 30 0,zh 34 30 1,za 10 33,za 11 34]
def s23_10:=[za 35 11,q0 36 (.extq (.binOp .neq 123 (.tmp 35) (.const .nilIface) 123) 4 [] [.tmp 35,.const .nilIface])]
def s23_11:=[zam 2,zk 3 3]
def s23_12:=[za 37 7,za 38 10,zcx 39 37 38,zc 2 6 39]
def s23_13:=[za 40 2,zp 41 2 6,zcu 42 67 41,zcj 43 67 40 42,za 2 43]
def s23_14:=[zn 44 17 1,za 17 44]
def s23_15:=[za 45 2,zl 46 56 45,zat 47 46 0,za 48 47,zq 49 2 48,q1 50 (.call 21 [.tmp 49]) 48 false,zq 51 0 48,zaz 52 50 51 48,zm 53 48 52]
def s23_16:=[zam 2,zk 3 3]
def s23_17:=[za 54 2,za 2 54,zk 3 0]
def a23:AC:=Z.r s23_0 [0,2] (Z.s (Z.r s23_1 [0,2,13] (Z.c 13 (Z.e s23_2) .skip)) [0,2] (Z.s (Z.r s23_3 [0,2,15,16,17] (Z.b 0 (Z.l [0,2,15,16,17] (Z.r s23_4 [0,2,15,16,17,18] (Z.s (Z.c 18 .skip (.exit 0)) [0,2,15,16,17] (Z.s (Z.b 1 (Z.r s23_5 [0,2,5,15,16,17] (Z.r s23_6 [0,2,5,6,15,16,17] (Z.s (Z.r s23_7 [0,2,6,7,8,9,15,16,17] (Z.r s23_8 [0,2,6,7,8,15,16,17,29] (Z.c 29 (Z.r s23_9 [0,2,6,7,10,11,15,16,17] (Z.s (Z.r s23_10 [0,2,6,7,10,15,16,17,36] (Z.c 36 (Z.e s23_11) .skip)) [0,2,6,7,10,15,16,17] (Z.g s23_12))) .skip))) [0,2,6,15,16,17] (Z.g s23_13))))) [0,2,15,16,17] (Z.g s23_14))))))) [0,2] (Z.s (Z.r s23_15 [2,53] (Z.c 53 (Z.e s23_16) .skip)) [2] (Z.e s23_17))))
def c23:FC:=⟨55,a23.erase,[.tmp 2,.tmp 3]⟩
theorem comp23:compF Tryz.prog Tryz.f23=some c23:=by kernel_rfl
theorem era23:c23.code=a23.erase:=rfl
def s24_0:=[zag 4]
def s24_1:=[za 5 0,za 6 1,zar 7 57 5 6,za 4 7]
def a24:AC:=Z.r s24_0 [0,1] (Z.e s24_1)
def c24:FC:=⟨8,a24.erase,[.tmp 4]⟩
theorem comp24:compF Tryz.prog Tryz.f24=some c24:=by kernel_rfl
theorem era24:c24.code=a24.erase:=rfl
def s56_0:=[zk 2 0]
def s56_1:=[za 5 0,zx 6 5,za3 7 6 4]
def s56_2:=[zk 2 2]
def s56_3:=[za 8 0,zx 9 8,zk 10 0]
def s56_4:=[zr 11 10 9]
def s56_5:=[za 12 10,zf 13 2 8 10,zp 14 2 13,zbx 4 67,za 3 12,zc 2 4 14]
def s56_6:=[zg 16 0 4,ze 17 1 16,zl 18 47 17,za6 19 18,za 15 19]
def s56_7:=[zk 2 1]
def s56_8:=[zg 21 1 4,ze 22 1 21,zab 23 22 0,za 24 23,zs 25 1 4 24,zt 26 1 25 24,q1 27 (.call 52 [.tmp 26,ki 8]) 24 false,zm 28 24 27,za 20 28]
def s56_9:=[zk 2 70]
def s56_10:=[za 30 3,za3 31 30 0,za 32 31,zaj 33 0 4 32,zo 34 1 33 32,zi 35 0 32,zi 36 3 32,zbo 37 36 1 32,zz 38 2 35 37 32,zaj 39 0 38 32,zo 40 1 39 32,q1 41 (.bin .leq (.tmp 34) (.tmp 40)) 32 true,zj 42 32 41,za 29 42]
def s56_11:=[zk 2 3]
def s56_12:=[zn 43 10 1,za 10 43]
def s56_13:=[zk 2 0]
def a56:AC:=Z.r s56_0 [0] (Z.s (Z.r s56_1 [0,7] (Z.c 7 (Z.e s56_2) .skip)) [0] (Z.s (Z.r s56_3 [0,8,9,10] (Z.b 0 (Z.l [0,8,9,10] (Z.r s56_4 [0,8,9,10,11] (Z.s (Z.c 11 .skip (.exit 0)) [0,8,9,10] (Z.s (Z.b 1 (Z.r s56_5 [0,3,4,8,9,10] (Z.b 2 (Z.r s56_6 [0,3,4,8,9,10,15] (Z.c 15 (Z.e s56_7) (Z.r s56_8 [0,3,4,8,9,10,20] (Z.c 20 (Z.e s56_9) (Z.d s56_10 [0,8,9,10,29] (Z.c 29 (Z.e s56_11) .skip))))))))) [0,8,9,10] (Z.g s56_12))))))) [] (Z.e s56_13)))
def c56:FC:=⟨44,a56.erase,[.tmp 2]⟩
theorem comp56:compF Tryz.prog Tryz.f56=some c56:=by kernel_rfl
theorem era56:c56.code=a56.erase:=rfl
def c57:FC:=⟨26,a57.erase,[.tmp 4]⟩
theorem comp57:compF Tryz.prog Tryz.f57=some c57:=by kernel_rfl
theorem era57:c57.code=a57.erase:=rfl
def s72_0:=[zk 4 0]
def s72_1:=[za 9 0,zab 10 9 3]
def s72_2:=[za 12 1,zl 13 102 12,za 11 13,zh 14 11 0,zh 15 11 1,za 5 14,za 6 15]
def s72_3:=[za 16 6,za 4 16]
def s72_4:=[za 18 1,zl 19 55 18,za 17 19,zh 20 17 0,zh 21 17 1,za 7 20,za 8 21]
def s72_5:=[za 22 8,q0 23 (.extq (.binOp .neq 123 (.tmp 22) (.const .nilIface) 123) 4 [] [.tmp 22,.const .nilIface]),za 24 23,zq 25 7 24,za9 26 25 1152921504606846976 24,zm 27 24 26]
def s72_6:=[zk 4 2]
def s72_7:=[zk 4 0]
def a72:AC:=Z.r s72_0 [0,1] (Z.s (Z.r s72_1 [1,10] (Z.c 10 (Z.r s72_2 [6] (Z.e s72_3)) .skip)) [1] (Z.s (Z.r s72_4 [7,8] (Z.r s72_5 [27] (Z.c 27 (Z.e s72_6) .skip))) [] (Z.e s72_7)))
def s105_0:=[zag 2]
def s105_1:=[za 3 0,za3 4 3 8,za 2 4]
def a105:AC:=Z.r s105_0 [0] (Z.e s105_1)
end Go.Proofs.YtdcpcffpapiadaaGreatDoor
namespace Go.Proofs
open Go.Shelf
def Tryz.lays156_ren:Go.Shelf.Ren:=⟨fun|156=>46|165=>78|166=>79|169=>80|240=>113|241=>114|276=>138|277=>139|n=>n,fun|31=>53|9=>9|3=>3|4=>4|0=>0|20=>20|72=>149|76=>124|70=>147|37=>22|75=>123|127=>179|164=>201|5=>5|80=>135|n=>n,fun|n=>n⟩
theorem Tryz.lays156:Go.Proofs.Lays.n156 Tryz.prog Tryz.lays156_ren:={
 mixed:=by kernel_rfl
 f156:=Tryz.func46.trans (congrArg some (by kernel_rfl))
 f165:=Tryz.func78.trans (congrArg some (by kernel_rfl))
 f166:=Tryz.func79.trans (congrArg some (by kernel_rfl))
 f169:=Tryz.func80.trans (congrArg some (by kernel_rfl))
 f240:=Tryz.func113.trans (congrArg some (by kernel_rfl))
 f241:=Tryz.func114.trans (congrArg some (by kernel_rfl))
 f276:=Tryz.func138.trans (congrArg some (by kernel_rfl))
 f277:=Tryz.func139.trans (congrArg some (by kernel_rfl))
 t0:=Tryz.underlying0
 a0:=Tryz.isAgg0
 z0:=Tryz.sizeOf0
 v0:=Tryz.zeroValue0
 t3:=Tryz.underlying3
 a3:=Tryz.isAgg3
 z3:=Tryz.sizeOf3
 v3:=Tryz.zeroValue3
 t4:=Tryz.underlying4
 a4:=Tryz.isAgg4
 z4:=Tryz.sizeOf4
 v4:=Tryz.zeroValue4
 t9:=Tryz.underlying9
 a9:=Tryz.isAgg9
 z9:=Tryz.sizeOf9
 v9:=Tryz.zeroValue9
 t20:=Tryz.underlying20
 a20:=Tryz.isAgg20
 z20:=Tryz.sizeOf20
 v20:=Tryz.zeroValue20
 t31:=Tryz.underlying53
 a31:=Tryz.isAgg53
 z31:=Tryz.sizeOf53
 v31:=Tryz.zeroValue53
 t37:=Tryz.underlying22
 a37:=Tryz.isAgg22
 z37:=Tryz.sizeOf22
 v37:=Tryz.zeroValue22
 t70:=Tryz.underlying147
 a70:=Tryz.isAgg147
 z70:=Tryz.sizeOf147
 v70:=Tryz.zeroValue147
 t72:=Tryz.underlying149
 a72:=Tryz.isAgg149
 z72:=Tryz.sizeOf149
 v72:=Tryz.zeroValue149
 t75:=Tryz.underlying123
 a75:=Tryz.isAgg123
 z75:=Tryz.sizeOf123
 v75:=Tryz.zeroValue123
 t76:=Tryz.underlying124
 a76:=Tryz.isAgg124
 z76:=Tryz.sizeOf124
 v76:=Tryz.zeroValue124
 t127:=Tryz.underlying179
 a127:=Tryz.isAgg179
 z127:=Tryz.sizeOf179
 v127:=Tryz.zeroValue179
 t164:=Tryz.underlying201
 a164:=Tryz.isAgg201
 z164:=Tryz.sizeOf201
 v164:=Tryz.zeroValue201}
theorem Tryz.Builder_Extra_156:Builder.Extra Tryz.prog Tryz.lays156_ren:={
 sizeBuilder:=by kernel_rfl
 liesBuilder:=by kernel_rfl
 t5:=Tryz.underlying5
 a5:=Tryz.isAgg5
 z5:=Tryz.sizeOf5
 v5:=Tryz.zeroValue5
 infoByte:=by kernel_rfl
 cellsByte:=by kernel_rfl
 sizeByte:=by kernel_rfl
 neB5:=by decide}
open Go.RowKit in
theorem Tryz.strings_Join_none(a:Option Addr)(c:Nat)(sep:ByteArray)(w:World):
  Calls Tryz.prog 46 #[.slice a 0 c,.string sep] w fun e w'=>e= .returned (.string ⟨#[]⟩)∧w'=w:=Any.strings_Join_none Tryz.lays156 Tryz.Builder_Extra_156 a c sep w
open Go.RowKit in
theorem Tryz.strings_Join(bk o c:Nat)(xs:List ByteArray)(sep:ByteArray)(w:World)(hcells:∀ (j:Nat) x,xs[j]? =some x→w.cell? ⟨bk,o+j,none⟩=some (.string x))(hbk:bk<w.heap.size)(hN:xs.length≤140737488355328)(hcap:xs.length≤c)(hlen:(Lib.join (xs.map (·.data.toList)) sep.data.toList).length≤140737488355328):
  Calls Tryz.prog 46 #[.slice (some ⟨bk,o,none⟩) xs.length c,.string sep] w fun e w'=>e= .returned (.string ⟨(Lib.join (xs.map (·.data.toList)) sep.data.toList).toArray⟩)∧Below w.heap.size w w':=Any.strings_Join Tryz.lays156 Tryz.Builder_Extra_156 bk o c xs sep w hcells hbk hN hcap hlen
def Tryz.laysM171_ren:Go.Shelf.Ren:=⟨fun|171=>45|243=>77|246=>112|283=>134|284=>135|285=>136|286=>137|129=>150|317=>164|318=>165|319=>166|320=>167|337=>182|338=>183|n=>n,fun|3=>3|9=>9|2=>2|4=>4|171=>197|0=>0|53=>110|37=>22|5=>5|173=>199|212=>225|51=>212|20=>20|213=>226|46=>153|232=>244|233=>245|n=>n,fun|17=>8|18=>9|19=>10|n=>n⟩
theorem Tryz.laysM171:Go.Proofs.LaysM.n171 Tryz.prog Tryz.laysM171_ren:={
 mixed:=by kernel_rfl
 f129:=Tryz.func150.trans (congrArg some (by kernel_rfl))
 f171:=Tryz.func45.trans (congrArg some (by kernel_rfl))
 f243:=Tryz.func77.trans (congrArg some (by kernel_rfl))
 f246:=Tryz.func112.trans (congrArg some (by kernel_rfl))
 f283:=Tryz.func134.trans (congrArg some (by kernel_rfl))
 f284:=Tryz.func135.trans (congrArg some (by kernel_rfl))
 f285:=Tryz.func136.trans (congrArg some (by kernel_rfl))
 f286:=Tryz.func137.trans (congrArg some (by kernel_rfl))
 f317:=Tryz.func164.trans (congrArg some (by kernel_rfl))
 f318:=Tryz.func165.trans (congrArg some (by kernel_rfl))
 f319:=Tryz.func166.trans (congrArg some (by kernel_rfl))
 f320:=Tryz.func167.trans (congrArg some (by kernel_rfl))
 f337:=Tryz.func182.trans (congrArg some (by kernel_rfl))
 f338:=Tryz.func183.trans (congrArg some (by kernel_rfl))
 t0:=Tryz.underlying0
 a0:=Tryz.isAgg0
 z0:=Tryz.sizeOf0
 v0:=Tryz.zeroValue0
 t2:=Tryz.underlying2
 a2:=Tryz.isAgg2
 z2:=Tryz.sizeOf2
 v2:=Tryz.zeroValue2
 t3:=Tryz.underlying3
 a3:=Tryz.isAgg3
 z3:=Tryz.sizeOf3
 v3:=Tryz.zeroValue3
 t4:=Tryz.underlying4
 a4:=Tryz.isAgg4
 z4:=Tryz.sizeOf4
 v4:=Tryz.zeroValue4
 t5:=Tryz.underlying5
 a5:=Tryz.isAgg5
 z5:=Tryz.sizeOf5
 v5:=Tryz.zeroValue5
 t9:=Tryz.underlying9
 a9:=Tryz.isAgg9
 z9:=Tryz.sizeOf9
 v9:=Tryz.zeroValue9
 t20:=Tryz.underlying20
 a20:=Tryz.isAgg20
 z20:=Tryz.sizeOf20
 v20:=Tryz.zeroValue20
 t37:=Tryz.underlying22
 a37:=Tryz.isAgg22
 z37:=Tryz.sizeOf22
 v37:=Tryz.zeroValue22
 t46:=Tryz.underlying153
 a46:=Tryz.isAgg153
 z46:=Tryz.sizeOf153
 v46:=Tryz.zeroValue153
 t51:=Tryz.underlying212
 a51:=Tryz.isAgg212
 z51:=Tryz.sizeOf212
 v51:=Tryz.zeroValue212
 t53:=Tryz.underlying110
 a53:=Tryz.isAgg110
 z53:=Tryz.sizeOf110
 v53:=Tryz.zeroValue110
 t171:=Tryz.underlying197
 a171:=Tryz.isAgg197
 z171:=Tryz.sizeOf197
 v171:=Tryz.zeroValue197
 t173:=Tryz.underlying199
 a173:=Tryz.isAgg199
 z173:=Tryz.sizeOf199
 v173:=Tryz.zeroValue199
 t212:=Tryz.underlying225
 a212:=Tryz.isAgg225
 z212:=Tryz.sizeOf225
 v212:=Tryz.zeroValue225
 t213:=Tryz.underlying226
 a213:=Tryz.isAgg226
 z213:=Tryz.sizeOf226
 t232:=Tryz.underlying244
 a232:=Tryz.isAgg244
 z232:=Tryz.sizeOf244
 v232:=Tryz.zeroValue244
 t233:=Tryz.underlying245
 a233:=Tryz.isAgg245
 z233:=Tryz.sizeOf245
 v233:=Tryz.zeroValue245
 g17:=by kernel_rfl
 g18:=by kernel_rfl
 g19:=by kernel_rfl
 i0:=by kernel_rfl
 i2:=by kernel_rfl
 i3:=by kernel_rfl
 i4:=by kernel_rfl
 i5:=by kernel_rfl
 i9:=by kernel_rfl
 i20:=by kernel_rfl
 i37:=by kernel_rfl
 i46:=by kernel_rfl
 i51:=by kernel_rfl
 i53:=by kernel_rfl
 i171:=by kernel_rfl
 i173:=by kernel_rfl
 i212:=by kernel_rfl
 i232:=by kernel_rfl
 i233:=by kernel_rfl
 m17:=by kernel_rfl
 m18:=by kernel_rfl
 m19:=by kernel_rfl}
open Go.RowKit Go.Sort Go.Lib in
theorem Tryz.strconv_Itoa(n:Int)(h0: -9223372036854775808≤n)(h1:n≤9223372036854775807)(w:World)(htab:Lib.TabIs Tryz.prog w "internal/strconv.uint64pow10" .u64 Lib.pow10Tab):
  Calls Tryz.prog 45 #[.int .i64 n] w fun e w'=>e= .returned (.string ⟨(Lib.itoa n).toArray⟩)∧∃ k os,w'=grow (w.drewN k) os:=Any.strconv_Itoa Tryz.laysM171 n h0 h1 w htab
end Go.Proofs
namespace Go.Proofs.YtdcpcffpapiadaaGreatDoor
open Go.Sx Go.Proofs Go.RowKit
theorem below_grow(w:World)(n:Nat)(os:Array Obj):Below w.heap.size w (Go.Sort.grow (w.drewN n) os):=
 ⟨rfl,rfl,rfl,by simp[Go.Sort.grow,World.drewN],fun k hk=>by show(w.heap++os)[k]? =_;rw[Array.getElem?_append_left hk]⟩
def itoaS(n:Int):Str:=⟨(Lib.itoa n).toArray⟩
theorem itoa_ok(n:Int)(h: -9223372036854775808≤n∧n≤9223372036854775807):Pure Tryz.prog 45 [iv n] (sv (itoaS n)):=by
 refine Pure.shelf fun M w0 w σ cs hI hR=> ?_
 obtain⟨v1,rfl,h1⟩:=hR.un1
 obtain rfl:=h1.of_v
 have htab:Lib.TabIs Tryz.prog w "internal/strconv.uint64pow10" .u64 Lib.pow10Tab:=by
  obtain⟨g1,g2⟩:=hI.gw
  have hg:Tryz.prog.globalNamed "internal/strconv.uint64pow10" =some 8:=by kernel_rfl
  unfold Lib.TabIs World.var? at g1 ⊢
  rw[hg]at g1 ⊢
  simp only[Option.bind_some]at g1 ⊢
  rw[hI.old _ g2]
  exact g1
 refine(Tryz.strconv_Itoa n h.1 h.2 w htab).mono fun e w' ⟨he,k,os,hw⟩=>⟨⟨_,he,.v _⟩,?_⟩
 rw[hw]
 exact below_grow w k os
def joinS(ws:List Str)(sep:Str):Str:=⟨(Lib.join (ws.map (·.data.toList)) sep.data.toList).toArray⟩
theorem joinL_ok(ws:List Str)(sep:Str)(nn:Bool)(hN:ws.length≤140737488355328)(hlen:(Lib.join (ws.map (·.data.toList)) sep.data.toList).length≤140737488355328):
  Pure Tryz.prog 46 [.sl nn 1 (ws.map strRow),sv sep] (sv (joinS ws sep)):=by
 refine Pure.shelf fun M w0 w σ cs hI hR=> ?_
 obtain⟨v1,vs,rfl,h1,h2⟩:=hR.uncons
 obtain⟨v2,rfl,h3⟩:=h2.un1
 obtain rfl:=str_of h3
 rcases h1.of_sl with⟨a,_,h,rfl⟩|⟨b,off,cap,cs,rfl,hr,h4,h5⟩
 ·have:ws=[]:=by simpa using h
  subst this
  exact(Tryz.strings_Join_none a 0 sep w).mono fun e w' ⟨he,hw⟩=>⟨⟨_,he,.v _⟩,by rw[hw];exact Below.refl _ _⟩
 ·cases ws with
  |nil=>exact(Tryz.strings_Join_none (some ⟨b,off,none⟩) cap sep w).mono fun e w' ⟨he,hw⟩=>⟨⟨_,he,.v _⟩,by rw[hw];exact Below.refl _ _⟩
  |cons x ws=>
   have hcells:∀ (j:Nat) y,(x::ws)[j]? =some y→w.cell? ⟨b,off+j,none⟩=some (.string y):=fun j y hy=>by
    obtain⟨hj,e⟩:=List.getElem?_eq_some_iff.1 hy
    have hj':j<((x::ws).map strRow).length:=by simpa using hj
    have h6:=hI.imm _ _ _ (hr.mem j (by simpa using hj))
    have e2:((x::ws).map strRow)[j]=[sv y]:=by rw[List.getElem_map,e];rfl
    have h7:=hr.rel j hj' 0 (by rw[e2];simp)
    simp only[e2,List.getElem_cons_zero,Nat.mul_one,Nat.add_zero]at h7
    rw[h6,h7.of_v]
   have hbk:b<w.heap.size:=by
    have:=World.block_lt_of_cell? _ _ (hcells 0 x rfl)
    simpa using this
   have:=Tryz.strings_Join b off cap (x::ws) sep w hcells hbk hN (by simpa using h4) hlen
   simp only[List.length_map]at this ⊢
   exact this.mono fun e w' ⟨he,hw⟩=>⟨⟨_,he,.v _⟩,hw⟩
end Go.Proofs.YtdcpcffpapiadaaGreatDoor
namespace Go.Proofs.YtdcpcffpapiadaaGreatDoor
open Go.RowKit Go.Proofs
open Go.Sx (AV Inv Mem RL R Glob Store BlkOK Base)
theorem Pure.new{f:FuncId}{xs:List AV}{r:AV}(h:∀ (M:Mem) (w:World) (cs:List Value),Inv Tryz.prog M ⟨w,M⟩ [] w→RL M xs cs→Calls Tryz.prog f cs.toArray w fun e w'=>(∃ v,e= .returned v∧R (memN M w.heap.size w') r v)∧Below w.heap.size w w'):Sx.Pure Tryz.prog f xs r:=
 ⟨fun σ M w0 w cs hI hR=>(h M w cs (inv_start hI) hR).mono fun e w' ⟨⟨v,he,hv⟩,hb⟩=>⟨memN M w.heap.size w',.ret r,σ,memN_le hI,inv_new hI hb,by subst he;exact hv,rfl,rfl⟩⟩
end Go.Proofs.YtdcpcffpapiadaaGreatDoor
set_option maxRecDepth 100000
set_option maxHeartbeats 8000000
namespace Go.Proofs.YtdcpcffpapiadaaGreatDoor
open Go.Sx Go.Proofs
theorem Pure.wkr{f:FuncId}{xs:List AV}{r r':AV}(h:Sx.Pure Tryz.prog f xs r)(hw:Wk r r'):Sx.Pure Tryz.prog f xs r':=
 ⟨fun σ=>(h.sp σ).weak fun q σ' ⟨e1,e2⟩=>⟨.ret r',σ,⟨rfl,rfl⟩,by subst e2;exact .refl _,by subst e1;exact hw⟩⟩
theorem app_toList(a b:Str):(a++b).data.toList=a.data.toList++b.data.toList:=by
 show((ByteArray.append a b).data).toList=_
 simp
theorem app_sz(a b:Str):(a++b).size=a.size+b.size:=by rw[Lib.size_eq,Lib.size_eq,Lib.size_eq,app_toList,List.length_append]
def catS:List Str→Str
 |[]=>⟨#[]⟩
 |s::l=>s++catS l
def lenS:List Str→Nat
 |[]=>0
 |s::l=>s.size+lenS l
theorem str_len(s:Str):s.data.toList.length=s.size:=rfl
theorem szl(a:Array UInt8):(⟨a⟩:Str).size=a.size:=rfl
theorem app_size(a b:Str):(a++b).size=a.size+b.size:=by rw[str_size,str_app,List.length_append];rfl
theorem catS_size:∀ l:List Str,(catS l).size=lenS l
 |[]=>rfl
 |s::l=>by rw[catS,app_size,catS_size l,lenS]
theorem catS_list:∀ l:List Str,(catS l).data.toList=(l.map (·.data.toList)).flatten
 |[]=>rfl
 |s::l=>by rw[catS,str_app,catS_list l];rfl
def facS(f:Fac):Str:=if f.exp=1 then f.name else f.name++(⟨#[94]⟩++itoaS f.exp)
def unitS(u:List Fac):Str:=joinS (u.map facS) ⟨#[42]⟩
theorem itoa_size(n:Int)(h: -9223372036854775808≤n∧n≤9223372036854775807):(itoaS n).size≤21:=by
 have:=Lib.itoa_length_le n h.1 h.2
 rw[str_size]
 simpa[itoaS]using this
theorem take_snoc{α:Type}[Inhabited α]{l:List α}{i:Nat}(h:i<l.length):l.take (i+1)=l.take i++[l.getD i default]:=by
 rw[getD_eq h,List.take_succ_eq_append_getElem h]
theorem inter_len(sep:List UInt8):∀ l:List (List UInt8),(sep.intercalate l).length≤l.flatten.length+l.length * sep.length
 |[]=>by simp[List.intercalate]
 |[a]=>by simp[List.intercalate]
 |a::b::l=>by
  have:=inter_len sep (b::l)
  simp only[List.intercalate,List.intersperse,List.flatten_cons,List.length_append,List.length_cons,Nat.add_mul,Nat.one_mul]at this ⊢
  omega
theorem join_len(ws:List Str)(sep:Str):(Lib.join (ws.map (·.data.toList)) sep.data.toList).length≤lenS ws+ws.length * sep.size:=by
 have:=inter_len sep.data.toList (ws.map (·.data.toList))
 rw[← catS_list,← str_size,catS_size,List.length_map]at this
 exact this
theorem lenS_map{α:Type}(g:α→Str)(c:Nat):∀ {l:List α},(∀ x∈l,(g x).size≤c)→lenS (l.map g)≤l.length * c
 |[],_=>Nat.zero_le _
 |x::l,h=>by
  have h1:=h x (by simp)
  have h2:=lenS_map g c (l:=l) fun y hy=>h y (by simp[hy])
  simp only[List.map_cons,lenS,List.length_cons,Nat.add_mul,Nat.one_mul]
  omega
def FacW(f:Fac):Prop:=f.name.size≤24∧-100000≤f.exp∧f.exp≤100000
theorem facS_size{f:Fac}(h:FacW f):(facS f).size≤46:=by
 unfold facS
 have:=itoa_size f.exp (by have:=h.2;omega)
 have:=h.1
 split
 ·omega
 ·rw[app_size,app_size];show _+(1+_)≤_;omega
theorem unit_len{u:List Fac}(hu:∀ f∈u,FacW f)(hl:u.length≤10):(Lib.join ((u.map facS).map (·.data.toList)) (⟨#[42]⟩:Str).data.toList).length≤1000:=by
 have h1:=join_len (u.map facS) ⟨#[42]⟩
 have h2:=lenS_map facS 46 fun f hf=>facS_size (hu f hf)
 have h3:(⟨#[42]⟩:Str).size=1:=rfl
 rw[List.length_map,h3]at h1
 omega
theorem rows_step{fs:List Fac}{i:Nat}(h:i<fs.length):((fs.take i).map facS).map strRow++[[.v (.string (facS (fs.getD i default)))]]=((fs.take (i+1)).map facS).map strRow:=by
 rw[take_snoc h];simp[strRow]
theorem facS_1{f:Fac}(h:f.exp=1):facS f=f.name:=if_pos h
theorem facS_n{f:Fac}(h:¬f.exp=1):facS f=f.name++(⟨#[94]⟩++itoaS f.exp):=if_neg h
theorem unitF_ok(fs:List Fac)(hu:∀ f∈fs,FacW f)(hl:fs.length≤10):Pure Tryz.prog 21 [.sl false 2 (fs.map Fac.cells)] (sv (unitS fs)):=by
 refine Pure.runk (fun _=>0) Tryz.func21 comp21 era21 (Nat.le_of_ble_eq_true rfl) fun σ=> ?_
 repeat'(first|exact .nil|refine .k0 ?_|refine .k1 ?_|refine .k2 ?_|refine .k6 ?_|refine .r1 ?_ ?_|(refine .m2 ?_ ?_;intro hlen)|fail)
 all_goals(try simp only[BL]at *)
 refine WK_loop (fun n rg σ'=>∃ i:Nat,i≤fs.length∧n=fs.length-i∧((i=0∧σ'=σ∧rg=[(3,.v (.slice none 0 0)),(7,.sl false 2 (fs.map Fac.cells)),(8,iv fs.length),(9,iv i)])∨(0<i∧∃ b v c,σ'=(27,b,.tail v c)::σ∧rg=[(3,.own 1 27 b v c (((fs.take i).map facS).map strRow)),(7,.sl false 2 (fs.map Fac.cells)),(8,iv fs.length),(9,iv i)]))) fs.length rfl ⟨_,_,Zr,Zs,0,Nat.zero_le _,rfl,.inl ⟨rfl,rfl,rfl⟩⟩ ?_
 rintro n _ _ ⟨i,hi,hn,⟨h0,rfl,rfl⟩|⟨h0,b0,v0,c0,rfl,rfl⟩⟩
 all_goals have hf:i<fs.length→FacW (fs.getD i default):=fun h=>hu _ (getD_mem h)
 all_goals have hz:i<fs.length→(itoaS (fs.getD i default).exp).size≤21:=fun h=>itoa_size _ (by have:=(hf h).2;omega)
 all_goals unfold FacW at hf
 repeat'(first|exact .nil|refine .k0 ?_|refine .k1 ?_|refine .k2 ?_|refine .k6 ?_|refine .k7 ?_|refine .k8 ?_|refine .k9 ?_|(refine .cd ?_ ?_<;>(intro hc;skip))|refine .r1 ?_ ?_|(refine .l1 ?_;intro b)|refine .t1 ?_ ?_ ?_|refine .u1 ?_ ?_ ?_ (fun b u c=> ?_)|refine .u2 ?_ ?_ ?_ (fun b u c=> ?_)|refine .an rfl (by intro hob;first|exact itoa_ok _ (by(simp only[BL]at *;omega))|(refine(joinL_ok [] ⟨#[42]⟩ false (by decide) (by decide)).wk ?_;(repeat' first|exact .refl _|exact .nil|refine .cons ?_ ?_|fail);done)|(refine(joinL_ok (fs.map facS) ⟨#[42]⟩ false (by rw[List.length_map];omega) (Nat.le_trans (unit_len hu hl) (by decide))).wk (WkL.cons (Wk.ownr (by rw[List.take_of_length_le (by(simp only[BL]at *;omega))])) (WkL.cons (Wk.refl _) WkL.nil)))) ?_ ?_|(show List.all _ _=true;rfl)|fail)
 try any_goals(exact Zo)
 all_goals(try simp only[BL]at *)
 any_goals((simp only[List.length_cons,List.length_nil,List.length_append,List.length_map,List.length_take,app_size,szl,str_len,List.size_toArray];omega))
 all_goals have e:=fun h=>rows_step (fs:=fs) (i:=i) h
 ·subst h0
  rw[facS_n hc]at e
  refine⟨fs.length-(0+1),by omega,_,_,Zr,Zs,0+1,by omega,rfl,.inr ⟨by omega,_,_,_,rfl,?_⟩⟩
  rw[← e (by omega),up1 (n:=fs.length) (by omega) (by assumption)];rfl
 ·subst h0
  rw[facS_1 hc]at e
  refine⟨fs.length-(0+1),by omega,_,_,Zr,Zs,0+1,by omega,rfl,.inr ⟨by omega,_,_,_,rfl,?_⟩⟩
  rw[← e (by omega),up1 (n:=fs.length) (by omega) (by assumption)];rfl
 ·obtain rfl:fs=[]:=List.eq_nil_of_length_eq_zero (by omega)
  exact Sx.Fin.intro Zs rfl
 ·rw[facS_n hc]at e
  refine⟨fs.length-(i+1),by omega,_,_,Zr,Zs,i+1,by omega,rfl,.inr ⟨by omega,_,_,_,rfl,?_⟩⟩
  rw[← e (by omega),up1 (n:=fs.length) (by omega) (by assumption)]
 ·rw[facS_1 hc]at e
  refine⟨fs.length-(i+1),by omega,_,_,Zr,Zs,i+1,by omega,rfl,.inr ⟨by omega,_,_,_,rfl,?_⟩⟩
  rw[← e (by omega),up1 (n:=fs.length) (by omega) (by assumption)]
 ·exact Sx.Fin.intro Zs rfl
theorem eq_of_getD{α:Type}[Inhabited α]{a b:List α}(hl:a.length=b.length)(h:∀ j,j<a.length→a.getD j default=b.getD j default):a=b:=by
 apply List.ext_getElem hl
 intro i h1 h2
 have:=h i h1
 rwa [getD_eq h1,getD_eq h2]at this
theorem fac_eq{a b:Fac}(h:a.name=b.name∧a.exp=b.exp):a=b:=by cases a;cases b;simp_all
theorem equal_ok(a b:List Fac):Pure Tryz.prog 57 [.sl false 2 (a.map Fac.cells),.sl false 2 (b.map Fac.cells)] (.v (.bool (decide (a=b)))):=by
 refine Pure.runk (fun _=>0) Tryz.func57 comp57 era57 (Nat.le_of_ble_eq_true rfl) fun σ=> ?_
 repeat'(first|exact .nil|refine .k0 ?_|refine .k1 ?_|refine .k2 ?_|refine .k6 ?_|refine .k7 ?_|refine .k9 ?_|(refine .cd ?_ ?_<;>(intro hc;skip))|refine .r1 ?_ ?_|(refine .m2 ?_ ?_;intro hlen)|fail)
 all_goals(try simp only[BL]at *)
 ·refine Sx.Fin.intro Zs (bf ?_)
  rintro rfl;exact hc rfl
 refine WK_loop (fun n rg σ'=>∃ i:Nat,i≤a.length∧n=a.length-i∧(∀ j,j<i→a.getD j default=b.getD j default)∧σ'=σ∧rg=[(0,.sl false 2 (a.map Fac.cells)),(1,.sl false 2 (b.map Fac.cells)),(12,iv a.length),(13,iv i)]) a.length rfl ⟨_,_,Zr,Zs,0,Nat.zero_le _,rfl,fun j hj=>absurd hj (by omega),rfl,rfl⟩ ?_
 rintro n _ _ ⟨i,hi,hn,hp,rfl,rfl⟩
 repeat'(first|exact .nil|refine .k0 ?_|refine .k1 ?_|refine .k2 ?_|refine .k5 ?_|refine .k6 ?_|refine .k7 ?_|refine .k8 ?_|refine .k9 ?_|(refine .cd ?_ ?_<;>(intro hc;skip))|refine .r1 ?_ ?_|refine .t1 ?_ ?_ ?_|fail)
 try any_goals(exact Zo)
 all_goals(try simp only[BL]at *)
 ·refine Sx.Fin.intro Zs (bf ?_)
  rintro rfl
  rcases hc with hc|hc<;>exact hc rfl
 ·refine⟨a.length-(i+1),by omega,_,_,Zr,Zs,i+1,by omega,rfl,cons_lt hp (fac_eq hc),rfl,by rw[up1 (by omega) hlen]⟩
 ·refine Sx.Fin.intro Zs (bt ?_)
  exact eq_of_getD (by omega) (fun j hj=>hp j (by omega))
def leS(a b:Str):Bool:=Op.bytesLess a.toList b.toList || decide (a=b)
def facErr(p:Option Str)(f:Fac):Int:=if¬Word f.name then 1 else if f.exp=0∨f.exp>8∨f.exp< -8 then 70 else match p with
 |some p=>if leS f.name p=true then 3 else 0
 |none=>0
def unitErrL:Option Str→List Fac→Int
 |_,[]=>0
 |p,f::l=>if facErr p f=0 then unitErrL (some f.name) l else facErr p f
def unitErr(u:List Fac):Int:=if u.length>4 then 2 else unitErrL none u
def prevAt(u:List Fac)(i:Nat):Option Str:=if i=0 then none else some (u.getD (i-1) default).name
theorem unitErrL_step{u:List Fac}{i:Nat}(hi:i<u.length)(h:facErr (prevAt u i) (u.getD i default)=0):unitErrL (prevAt u i) (u.drop i)=unitErrL (prevAt u (i+1)) (u.drop (i+1)):=by
 rw[drop_get hi,unitErrL,if_pos h];rfl
theorem unitErrL_end{u:List Fac}{i:Nat}{e:Int}(hi:i<u.length)(h:facErr (prevAt u i) (u.getD i default)=e)(he:e≠0):unitErrL (prevAt u i) (u.drop i)=e:=by
 rw[drop_get hi,unitErrL,if_neg (by rw[h];exact he),h]
theorem unitCheck_ok(u:List Fac):Pure Tryz.prog 56 [.sl false 2 (u.map Fac.cells)] (iv (unitErr u)):=by
 refine Pure.runk (fun _=>0) Tryz.func56 comp56 era56 (Nat.le_of_ble_eq_true rfl) fun σ=> ?_
 repeat'(first|exact .nil|refine .k0 ?_|refine .k1 ?_|refine .k2 ?_|refine .k6 ?_|refine .k7 ?_|refine .k9 ?_|(refine .cd ?_ ?_<;>(intro hc;skip))|refine .r1 ?_ ?_|(refine .m2 ?_ ?_;intro hlen)|fail)
 all_goals(try simp only[BL]at *)
 ·rw[unitErr,if_pos (by omega)]
  exact Zw
 have hu:unitErr u=unitErrL none u:=if_neg (by omega)
 refine WK_loop (fun n rg σ'=>∃ i:Nat,i≤u.length∧n=u.length-i∧unitErr u=unitErrL (prevAt u i) (u.drop i)∧σ'=σ∧rg=[(0,.sl false 2 (u.map Fac.cells)),(8,.sl false 2 (u.map Fac.cells)),(9,iv u.length),(10,iv i)]) u.length rfl ⟨_,_,Zr,Zs,0,Nat.zero_le _,rfl,hu,rfl,rfl⟩ ?_
 rintro n _ _ ⟨i,hi,hn,hp,rfl,rfl⟩
 repeat'(first|exact .nil|refine .k0 ?_|refine .k1 ?_|refine .k2 ?_|refine .k3 ?_|refine .k4 ?_|refine .k5 ?_|refine .k6 ?_|refine .k7 ?_|refine .k8 ?_|refine .k9 ?_|(refine .cd ?_ ?_<;>(intro hc;skip))|refine .r1 ?_ ?_|(refine .l1 ?_;intro b)|refine .t1 ?_ ?_ ?_|refine .an rfl (by intro hob;first|exact word_ok _|exact outside_ok _ 8 (by decide)|fail) ?_ ?_|fail)
 try any_goals(exact Zo)
 all_goals(try simp only[BL]at *)
 ·rw[hp,unitErrL_end (e:=1) (by omega) (by unfold facErr;rw[if_pos hc]) (by decide)]
  exact Zw
 ·rename_i hw
  rw[hp,unitErrL_end (e:=70) (by omega) (by unfold facErr;rw[if_neg (fun h=>h hw),if_pos (by omega)]) (by decide)]
  exact Zw
 ·rename_i hw he
  rw[pred1 (by omega) (by omega),Int.toNat_natCast]at hc
  rw[hp,unitErrL_end (e:=3) (by omega) (by
   unfold facErr;rw[if_neg (fun h=>h hw),if_neg (by omega),prevAt,if_neg (by omega)]
   exact if_pos (by simp only[leS,Bool.or_eq_true,decide_eq_true_eq];exact hc.2)) (by decide)]
  exact Zw
 ·rename_i hw he
  refine⟨u.length-(i+1),by omega,_,_,Zr,Zs,i+1,by omega,rfl,?_,rfl,by rw[up1 (n:=u.length) (by omega) (by assumption)]⟩
  rw[hp]
  refine unitErrL_step (by omega) ?_
  unfold facErr;rw[if_neg (fun h=>h hw),if_neg (by omega)]
  by_cases h0:i=0
  ·rw[prevAt,if_pos h0]
  ·rw[pred1 (by omega) (by omega),Int.toNat_natCast]at hc
   rw[prevAt,if_neg h0]
   refine if_neg ?_
   rcases hc with hc|hc
   ·omega
   ·simp only[leS,Bool.or_eq_true,decide_eq_true_eq]
    rintro(h|h)
    ·rw[h]at hc;exact Bool.noConfusion hc.1
    ·exact hc.2 h
 all_goals(try(intro h0;rw[pred1 (by omega) (by omega)];omega))
 ·rw[hp,List.drop_eq_nil_of_le (by omega),unitErrL]
  exact Zw
end Go.Proofs.YtdcpcffpapiadaaGreatDoor
namespace Go.Proofs
open Go.Shelf
def Tryz.lays145_ren:Go.Shelf.Ren:=⟨fun|145=>54|220=>86|219=>121|217=>110|225=>109|224=>131|267=>155|266=>103|314=>176|n=>n,fun|9=>9|4=>4|59=>120|3=>3|5=>5|46=>153|146=>233|51=>212|n=>n,fun|1=>0|n=>n⟩
theorem Tryz.lays145:Go.Proofs.Lays.n145 Tryz.prog Tryz.lays145_ren:={
 mixed:=by kernel_rfl
 f145:=Tryz.func54.trans (congrArg some (by kernel_rfl))
 f217:=Tryz.func110.trans (congrArg some (by kernel_rfl))
 f219:=Tryz.func121.trans (congrArg some (by kernel_rfl))
 f220:=Tryz.func86.trans (congrArg some (by kernel_rfl))
 f224:=Tryz.func131.trans (congrArg some (by kernel_rfl))
 f225:=Tryz.func109.trans (congrArg some (by kernel_rfl))
 f266:=Tryz.func103.trans (congrArg some (by kernel_rfl))
 f267:=Tryz.func155.trans (congrArg some (by kernel_rfl))
 f314:=Tryz.func176.trans (congrArg some (by kernel_rfl))
 t3:=Tryz.underlying3
 a3:=Tryz.isAgg3
 z3:=Tryz.sizeOf3
 v3:=Tryz.zeroValue3
 t4:=Tryz.underlying4
 a4:=Tryz.isAgg4
 z4:=Tryz.sizeOf4
 v4:=Tryz.zeroValue4
 t5:=Tryz.underlying5
 a5:=Tryz.isAgg5
 z5:=Tryz.sizeOf5
 v5:=Tryz.zeroValue5
 t9:=Tryz.underlying9
 a9:=Tryz.isAgg9
 z9:=Tryz.sizeOf9
 v9:=Tryz.zeroValue9
 t46:=Tryz.underlying153
 a46:=Tryz.isAgg153
 z46:=Tryz.sizeOf153
 v46:=Tryz.zeroValue153
 t51:=Tryz.underlying212
 a51:=Tryz.isAgg212
 z51:=Tryz.sizeOf212
 v51:=Tryz.zeroValue212
 t59:=Tryz.underlying120
 a59:=Tryz.isAgg120
 z59:=Tryz.sizeOf120
 v59:=Tryz.zeroValue120
 t146:=Tryz.underlying233
 a146:=Tryz.isAgg233
 z146:=Tryz.sizeOf233
 v146:=Tryz.zeroValue233
 g1:=by kernel_rfl}
open Go.RowKit Go.Lib in
theorem Tryz.strings_Cut(s sep:ByteArray)(m:Int)(w:World)(hs:s.size<4294967281)(hm:w.cell? ⟨0,0,none⟩=some (.int .i64 m)):
  Calls Tryz.prog 54 #[.string s,.string sep] w fun e w'=>e= .returned (.tuple #[.string ⟨(Lib.cut s.data.toList sep.data.toList).1.toArray⟩,.string ⟨(Lib.cut s.data.toList sep.data.toList).2.1.toArray⟩,.bool (Lib.cut s.data.toList sep.data.toList).2.2])∧∃ n,w'=w.drewN n:=Any.strings_Cut Tryz.lays145 s sep m w hs hm
def Tryz.lays147_ren:Go.Shelf.Ren:=⟨fun|147=>53|221=>85|268=>119|138=>120|143=>111|195=>152|197=>153|218=>154|219=>121|260=>175|217=>110|225=>109|224=>131|267=>155|266=>103|314=>176|n=>n,fun|9=>9|3=>3|31=>53|4=>4|0=>0|105=>175|21=>21|5=>5|46=>153|119=>100|139=>223|138=>222|146=>233|51=>212|n=>n,fun|1=>0|3=>6|4=>7|n=>n⟩
theorem Tryz.lays147:Go.Proofs.Lays.n147 Tryz.prog Tryz.lays147_ren:={
 mixed:=by kernel_rfl
 f138:=Tryz.func120.trans (congrArg some (by kernel_rfl))
 f143:=Tryz.func111.trans (congrArg some (by kernel_rfl))
 f147:=Tryz.func53.trans (congrArg some (by kernel_rfl))
 f195:=Tryz.func152.trans (congrArg some (by kernel_rfl))
 f197:=Tryz.func153.trans (congrArg some (by kernel_rfl))
 f217:=Tryz.func110.trans (congrArg some (by kernel_rfl))
 f218:=Tryz.func154.trans (congrArg some (by kernel_rfl))
 f219:=Tryz.func121.trans (congrArg some (by kernel_rfl))
 f221:=Tryz.func85.trans (congrArg some (by kernel_rfl))
 f224:=Tryz.func131.trans (congrArg some (by kernel_rfl))
 f225:=Tryz.func109.trans (congrArg some (by kernel_rfl))
 f260:=Tryz.func175.trans (congrArg some (by kernel_rfl))
 f266:=Tryz.func103.trans (congrArg some (by kernel_rfl))
 f267:=Tryz.func155.trans (congrArg some (by kernel_rfl))
 f268:=Tryz.func119.trans (congrArg some (by kernel_rfl))
 f314:=Tryz.func176.trans (congrArg some (by kernel_rfl))
 t0:=Tryz.underlying0
 a0:=Tryz.isAgg0
 z0:=Tryz.sizeOf0
 v0:=Tryz.zeroValue0
 t3:=Tryz.underlying3
 a3:=Tryz.isAgg3
 z3:=Tryz.sizeOf3
 v3:=Tryz.zeroValue3
 t4:=Tryz.underlying4
 a4:=Tryz.isAgg4
 z4:=Tryz.sizeOf4
 v4:=Tryz.zeroValue4
 t5:=Tryz.underlying5
 a5:=Tryz.isAgg5
 z5:=Tryz.sizeOf5
 v5:=Tryz.zeroValue5
 t9:=Tryz.underlying9
 a9:=Tryz.isAgg9
 z9:=Tryz.sizeOf9
 v9:=Tryz.zeroValue9
 t21:=Tryz.underlying21
 a21:=Tryz.isAgg21
 z21:=Tryz.sizeOf21
 v21:=Tryz.zeroValue21
 t31:=Tryz.underlying53
 a31:=Tryz.isAgg53
 z31:=Tryz.sizeOf53
 v31:=Tryz.zeroValue53
 t46:=Tryz.underlying153
 a46:=Tryz.isAgg153
 z46:=Tryz.sizeOf153
 v46:=Tryz.zeroValue153
 t51:=Tryz.underlying212
 a51:=Tryz.isAgg212
 z51:=Tryz.sizeOf212
 v51:=Tryz.zeroValue212
 t105:=Tryz.underlying175
 a105:=Tryz.isAgg175
 z105:=Tryz.sizeOf175
 v105:=Tryz.zeroValue175
 t119:=Tryz.underlying100
 a119:=Tryz.isAgg100
 z119:=Tryz.sizeOf100
 t138:=Tryz.underlying222
 a138:=Tryz.isAgg222
 z138:=Tryz.sizeOf222
 v138:=Tryz.zeroValue222
 t139:=Tryz.underlying223
 a139:=Tryz.isAgg223
 z139:=Tryz.sizeOf223
 v139:=Tryz.zeroValue223
 t146:=Tryz.underlying233
 a146:=Tryz.isAgg233
 z146:=Tryz.sizeOf233
 v146:=Tryz.zeroValue233
 g1:=by kernel_rfl
 g3:=by kernel_rfl
 g4:=by kernel_rfl}
open Go.RowKit Go.Lib in
theorem Tryz.strings_SplitN(s sep:ByteArray)(n:Nat)(m:Int)(w:World)(hs:s.size<4294967281)(hm:w.cell? ⟨0,0,none⟩=some (.int .i64 m))(h1:1≤sep.size)(hn:1≤n)(hn63:n≤9223372036854775807):
  Calls Tryz.prog 53 #[.string s,.string sep,.int .i64 n] w fun e w'=>
   e= .returned (.slice (some ⟨w.heap.size,0,none⟩) (Lib.splitB sep 0 (min n (s.size+1)-1) s).length (min n (s.size+1)))∧w'=w.alloc (.cells (Lib.cellsOf (Lib.splitB sep 0 (min n (s.size+1)-1) s) (min n (s.size+1))) 9):=Any.strings_SplitN Tryz.lays147 (by kernel_rfl) s sep n m w hs hm h1 hn hn63
end Go.Proofs
namespace Go.Proofs.YtdcpcffpapiadaaGreatDoor
open Go.Sx Go.Proofs Go.RowKit
theorem below_drew(w:World)(n:Nat):Below w.heap.size w (w.drewN n):=⟨rfl,rfl,rfl,by simp[World.drewN],fun k hk=>rfl⟩
theorem cut_ok(s sep:Str)(hs:s.size<4294967281):Sx.Pure Tryz.prog 54 [sv s,sv sep] (.tup [sv ⟨(Lib.cut s.data.toList sep.data.toList).1.toArray⟩,sv ⟨(Lib.cut s.data.toList sep.data.toList).2.1.toArray⟩,.v (.bool (Lib.cut s.data.toList sep.data.toList).2.2)]):=by
 refine Pure.shelf fun M w0 w σ cs hI hR=> ?_
 obtain⟨v1,vs,rfl,h1,h2⟩:=hR.uncons
 obtain⟨v2,rfl,h3⟩:=h2.un1
 obtain rfl:=str_of h1
 obtain rfl:=str_of h3
 obtain⟨m,hm⟩:=maxLen_of hI
 exact(Tryz.strings_Cut s sep m w hs hm).mono fun e w' ⟨he,n,hw⟩=>⟨⟨_,he,R.mk_tup (cs:=[.string _,.string _,.bool _]) (RL.cons (.v _) (RL.cons (.v _) (RL.cons (.v _) RL.nil)))⟩,by rw[hw];exact below_drew w n⟩
theorem split_ok(s sep:Str)(n:Nat)(hs:s.size<4294967281)(h1:1≤sep.size)(hn:1≤n)(hn63:n≤1000):Sx.Pure Tryz.prog 53 [sv s,sv sep,iv n] (.sl true 1 ((Lib.splitB sep 0 (min n (s.size+1)-1) s).map strRow)):=by
 refine Pure.new fun M w cs hI hR=> ?_
 obtain⟨v1,vs,rfl,k1,k2⟩:=Sx.RL.uncons hR
 obtain⟨v2,vs2,rfl,k3,k4⟩:=Sx.RL.uncons k2
 obtain⟨v3,rfl,k5⟩:=Sx.RL.un1 k4
 obtain rfl:=str_of k1
 obtain rfl:=str_of k3
 obtain rfl:=k5.of_v
 obtain⟨m,hm⟩:=maxLen_of hI
 refine(Tryz.strings_SplitN s sep n m w hs hm h1 hn (by omega)).mono fun e w' ⟨he,hw⟩=>⟨⟨_,he,?_⟩,by rw[hw];exact(Below.refl _ _).alloc (Nat.le_refl _) _⟩
 have hl:=Lib.splitB_length_le sep 0 (min n (s.size+1)-1) s
 generalize Lib.splitB sep 0 (min n (s.size+1)-1) s=L at *
 generalize hN:min n (s.size+1)=N at *
 have hN2:L.length≤N:=by omega
 have h:=R.mk_sl (M:=memN M w.heap.size w') (b:=w.heap.size) (off:=0) (cap:=N) (esz:=1) (rows:=L.map strRow) (cs:=fun k=> .string (L.getD k ⟨#[]⟩)) ⟨fun i hi=>by rw[List.getElem_map];rfl,fun k hk=> ?_,fun i hi j hj=> ?_⟩ (by rw[List.length_map];exact hN2) (by unfold maxLen;omega) true
 ·rw[List.length_map]at h;exact h
 ·have hk:k<L.length:=by simpa using hk
  unfold memN
  rw[if_pos (Nat.le_refl _),hw,Nat.zero_add,World.cell?_alloc_new]
  unfold Lib.cellsOf
  rw[List.getElem?_toArray,List.getElem?_append_left (by rw[List.length_map];exact hk),List.getElem?_map,List.getD_eq_getElem?_getD,List.getElem?_eq_getElem hk];rfl
 ·have hi:i<L.length:=by simpa using hi
  simp only[List.getElem_map,strRow,List.length_cons,List.length_nil]at hj ⊢
  obtain rfl:j=0:=by omega
  rw[List.getD_eq_getElem?_getD,Nat.mul_one,Nat.add_zero,List.getElem?_eq_getElem hi]
  exact .v _
theorem OpP_nonil{t ty:TypeId}{x:Operand}{z:TypeId}(h:Tryz.prog.underlying t=some (.interface (Tryz.prog.methodsAt t))):Sx.OpP Tryz.prog (.binOp .neq t x (.const .nilIface) z) ty [] [x,.const .nilIface] [.v .nilIface,.v .nilIface] (.v (.bool false)):=⟨fun σ hti M w0 w ρ hI hR=>by
 obtain⟨v1,vs1,e1,h1,hR1⟩:=Sx.RL.uncons hR
 obtain⟨v2,e2,h2⟩:=Sx.RL.un1 hR1
 subst e2
 simp only[List.map_cons,List.map_nil,List.cons.injEq,and_true]at e1
 have g1:=h1.of_v
 have g2:=h2.of_v
 subst g1 g2
 refine⟨.value (.bool false),w,M,.v (.bool false),_,_,?_,rfl,Sx.Mem.le.refl _,hI,.v _,rfl,rfl⟩
 simp only[execOp,e1.1,e1.2,eqGuard_nil_constR,Sem.run_bind,Sem.run_pure,Result.andThen_ok,run_neq_nil_nil w t h]⟩
theorem idx_app(c:UInt8)(b:Bs):∀ a:Bs,c∉a→Lib.indexByte (a++c::b) c=a.length
 |[],_=>by simp[Lib.indexByte]
 |x::a,h=>by
  have hx:x≠c:=fun e=>h (by rw[e];exact List.mem_cons_self)
  have ih:=idx_app c b a fun hm=>h (List.mem_cons_of_mem _ hm)
  rw[List.cons_append,Lib.indexByte,ih]
  have e1:(x == c)=false:=by simpa using hx
  have e2:((a.length:Int) == -1)=false:=by rw[beq_eq_false_iff_ne];omega
  simp[e1,e2]
theorem idx_no(c:UInt8):∀ a:Bs,c∉a→Lib.indexByte a c= -1
 |[],_=>rfl
 |x::a,h=>by
  have hx:x≠c:=fun e=>h (by rw[e];exact List.mem_cons_self)
  have ih:=idx_no c a fun hm=>h (List.mem_cons_of_mem _ hm)
  rw[Lib.indexByte,ih]
  have e1:(x == c)=false:=by simpa using hx
  simp[e1]
theorem cut_app(c:UInt8)(a b:Bs)(h:c∉a):Lib.cut (a++c::b) [c]=(a,b,true):=by
 unfold Lib.cut
 rw[Lib.index_one,idx_app c b a h,if_pos (by omega)]
 simp
theorem cut_no(c:UInt8)(a:Bs)(h:c∉a):Lib.cut a [c]=(a,[],false):=by
 unfold Lib.cut
 rw[Lib.index_one,idx_no c a h,if_neg (by omega)]
theorem splitK_back(c:UInt8):∀ (ws:List Bs) (k:Nat),(∀ w∈ws,c∉w)→ws≠[]→ws.length≤k+1→Lib.splitK [c] 0 k ([c].intercalate ws)=ws
 |[],_,_,h,_=>absurd rfl h
 |[a],0,_,_,_=>by simp[List.intercalate,Lib.splitK]
 |[a],k+1,h,_,_=>by
  have e:[c].intercalate [a]=a:=by simp[List.intercalate]
  rw[e,Lib.splitK,Lib.index_one,idx_no c a (h a (by simp))];rfl
 |a::b::ws,0,_,_,hn=>by simp at hn
 |a::b::ws,k+1,h,_,hn=>by
  have ih:=splitK_back c (b::ws) k (fun w hw=>h w (List.mem_cons_of_mem _ hw)) (by simp) (by simp at hn ⊢;omega)
  have e:[c].intercalate (a::b::ws)=a++c::[c].intercalate (b::ws):=by simp[List.intercalate,List.intersperse]
  rw[e,Lib.splitK,Lib.index_one,idx_app c _ a (h a (by simp))]
  have e2:((a.length:Int) == -1)=false:=by rw[beq_eq_false_iff_ne];omega
  simp[e2,ih]
end Go.Proofs.YtdcpcffpapiadaaGreatDoor
namespace Go.Proofs.YtdcpcffpapiadaaGreatDoor
open Go.Sx Go.Proofs
def srcT(t:Tok):Bs:=if t.kind=4 then 34::(t.text.data.toList++[34])else t.text.data.toList
def StpB(p:UInt8→Bool)(r:Bs):Prop:=r=[]∨∃ x t,r=x::t∧p x=false
def Sepr(r:Bs):Prop:=r=[]∨∃ t,r=32::t
theorem Sepr.stop{r:Bs}(h:Sepr r){p:UInt8→Bool}(hp:p 32=false):StpB p r:=by
 rcases h with rfl|⟨t,rfl⟩
 ·exact .inl rfl
 ·exact .inr ⟨_,_,rfl,hp⟩
theorem tw_app{p:UInt8→Bool}{r:Bs}(hr:StpB p r):∀ u:Bs,(∀ c∈u,p c=true)→(u++r).takeWhile p=u
 |[],_=>by rcases hr with rfl|⟨x,t,rfl,hx⟩<;>simp[List.takeWhile, *]
 |c::u,h=>by
  rw[List.cons_append,List.takeWhile_cons,h c List.mem_cons_self,if_pos rfl,tw_app hr u fun x hx=>h x (List.mem_cons_of_mem _ hx)]
theorem span_stop{p:UInt8→Bool}{r:Bs}(hr:StpB p r){u:Bs}(h:∀ c∈u,p c=true):spanN p (u++r)=u.length:=by unfold spanN;rw[tw_app hr u h]
theorem pc_word{c:UInt8}{W r:Bs}(hc:clsB c=2)(hW:∀ x∈c::W,isW x=true)(hr:StpB isW r):pieceL (c::(W++r))=(1,W.length+1,if W.length+1>24 then 2 else 0):=by
 have h:spanN isW (c::(W++r))=W.length+1:=span_stop (u:=c::W) hr hW
 unfold pieceL;simp[hc,h]
theorem pc_int{c:UInt8}{W r:Bs}(hc:clsB c=3)(hW:∀ x∈c::W,isD x=true)(hr:StpB isD r)(hn:¬(r.head? =some 46∧spanN isD (r.drop 1)>0)):pieceL (c::(W++r))=(2,W.length+1,intE (c::W)):=by
 have h:spanN isD (c::(W++r))=W.length+1:=span_stop (u:=c::W) hr hW
 have h2:(c::(W++r)).drop (W.length+1)=r:=by simp
 have h3:(c::(W++r)).take (W.length+1)=c::W:=by simp
 unfold pieceL;simp only[h,h2,h3,hc]
 rw[if_neg (by decide),if_neg (by decide),if_neg (by decide),if_pos trivial,if_neg hn]
theorem pc_one{c:UInt8}{r:Bs}(hc:clsB c=7∨clsB c=8)(h:c≠33)(hr:¬(r.head? =some 61∧(c=61∨c=33∨c=60))):pieceL (c::r)=(5,1,0):=by
 unfold pieceL
 simp only
 rw[if_neg (by omega),if_neg (by omega),if_neg (by omega),if_neg (by omega),if_neg (by omega),if_pos hc,if_neg hr,if_pos h]
def Up:Int→List Tok→Prop
 |_,[]=>True
 |lo,t::L=>lo≤t.at_∧Up (t.at_+1) L
theorem Up.mono:∀ {L:List Tok} {lo lo':Int},Up lo L→lo'≤lo→Up lo' L
 |[],_,_,_,_=>trivial
 |t::L,lo,lo',h,hl=>⟨by have:=h.1;omega,h.2⟩
theorem ba_toList(s:Str):(⟨s.data.toList.toArray⟩:Str)=s:=by cases s;simp
where piece_ge:∀ u:Bs, -1≤(pieceL u).1
 |[]=>by decide
 |c::r=>by
  unfold pieceL
  simp only
  repeat' split
  all_goals first|decide|(simp only;omega)
abbrev Pc:=UInt8 ⊕ Tok
def pcS:List Pc→Bs
 |[]=>[]
 | .inl b::L=>b::pcS L
 | .inr t::L=>srcT t++pcS L
def pcT:Int→List Pc→List Tok
 |p,[]=>[⟨6,⟨#[]⟩,p⟩]
 |p,.inl _::L=>pcT (p+1) L
 |p,.inr t::L=>⟨t.kind,t.text,p⟩::pcT (p+(srcT t).length) L
structure TkOk(t:Tok)(r:Bs):Prop where
 kind:1≤t.kind∧t.kind≤5
 ne:srcT t≠[]
 self:pieceL (srcT t++r)=(t.kind,(srcT t).length,0)
def PcOk:List Pc→Prop
 |[]=>True
 | .inl b::L=>clsB b=1∧PcOk L
 | .inr t::L=>TkOk t (pcS L)∧PcOk L
theorem lex_pc:∀ (L:List Pc) (n:Nat) (p:Int),PcOk L→(pcS L).length≤n→lexL n p (-1) (pcS L)=(pcT p L,[])
 |[],n,p,_,_=>by show lexL n p (-1) []=_;rw[lex_nil];rfl
 | .inl b::L,n,p,hg,hn=>by
  simp only[pcS,List.length_cons]at hn
  obtain⟨m,rfl⟩:∃ m,n=m+1:=⟨n-1,by omega⟩
  have hp:pieceL (b::pcS L)=(0,1,0):=by unfold pieceL;simp only;rw[if_pos hg.1]
  rw[pcS,lex_step _ _ _ (by simp),hp]
  simp only
  rw[if_neg (by decide),if_neg (by decide),if_neg (by decide),if_neg (by decide)]
  exact lex_pc L m _ hg.2 (by omega)
 | .inr t::L,n,p,hg,hn=>by
  obtain⟨⟨g1,g2,g3⟩,hg2⟩:=hg
  have hlen:1≤(srcT t).length:=List.length_pos_iff.2 g2
  simp only[pcS,List.length_append]at hn
  obtain⟨m,rfl⟩:∃ m,n=m+1:=⟨n-1,by omega⟩
  have hne:srcT t++pcS L≠[]:=by
   intro h;have:=congrArg List.length h;rw[List.length_append]at this;simp at this;exact g2 this.1
  rw[pcS,lex_step _ _ _ hne,g3]
  simp only
  have hk1:¬t.kind= -1:=by omega
  rw[if_neg hk1,if_neg (by simp)]
  have hdrop:(srcT t++pcS L).drop (srcT t).length=pcS L:=by simp
  have htake:(srcT t++pcS L).take (srcT t).length=srcT t:=by simp
  rw[hdrop,htake,lex_pc L m _ hg2 (by omega)]
  simp only
  by_cases h4:t.kind=4
  ·rw[if_pos h4]
   have hsrc:srcT t=34::(t.text.data.toList++[34]):=by unfold srcT;rw[if_pos h4]
   have:(((srcT t++pcS L).take ((srcT t).length-1)).drop 1)=t.text.data.toList:=by
    rw[hsrc];simp
   rw[this,← h4,ba_toList,pcT]
  ·rw[if_neg h4,if_pos (by omega)]
   have hsrc:(⟨(srcT t).toArray⟩:Str)=t.text:=(congrArg (fun l:Bs=>(⟨l.toArray⟩:Str)) (show srcT t=t.text.data.toList from if_neg h4)).trans (ba_toList _)
   rw[hsrc,pcT]
theorem toks_pc{L:List Pc}(hg:PcOk L):toksL (pcS L)=(pcT 0 L,[]):=by
 unfold toksL
 simp only
 rw[lex_pc L _ 0 hg (Nat.le_refl _)];rfl
theorem pcS_app(A B:List Pc):pcS (A++B)=pcS A++pcS B:=by
 induction A with
 |nil=>rfl
 |cons a A ih=>cases a<;>simp[pcS,ih]
def tW(s:Str):Tok:=⟨1,s,0⟩
def tI(n:Nat):Tok:=⟨2,⟨(Lib.decDigits n).toArray⟩,0⟩
def tS(c:UInt8):Tok:=⟨5,ch c,0⟩
theorem isW_low{n:UInt8}(h:Low n.toNat):clsB n=2:=by
 unfold Low at h
 unfold clsB
 rw[if_neg (by rintro(h|h|h|h)<;>(subst h;revert h;decide)),if_pos (by omega)]
theorem isW_w{n:UInt8}(h:Wch n.toNat):isW n=true:=by
 have key:clsB n=2∨clsB n=3∨clsB n=4:=by
  rcases h with h|h|h
  ·exact .inl (isW_low h)
  ·unfold Dig at h
   unfold clsB
   rw[if_neg (by rintro(h|h|h|h)<;>(subst h;revert h;decide)),if_neg (by omega),if_pos (by omega)]
   exact .inr (.inl rfl)
  ·have:n=95:=UInt8.toNat_inj.1 h
   subst this;decide
 exact decide_eq_true key
theorem cls_dig{n:UInt8}(h:Dig n.toNat):clsB n=3:=by
 unfold Dig at h
 unfold clsB
 rw[if_neg (by rintro(h|h|h|h)<;>(subst h;revert h;decide)),if_neg (by omega),if_pos (by omega)]
theorem bytes_all{s:Str}{P:UInt8→Prop}(h:∀ i,i<s.size→P (byteAt s i)):∀ c∈s.data.toList,P c:=fun c hc=>by
 obtain⟨i,hi,rfl⟩:=List.mem_iff_getElem.1 hc
 have:=h i (by simpa using hi)
 unfold byteAt at this
 rwa [List.getD_eq_getElem?_getD,List.getElem?_eq_getElem hi]at this
theorem tW_ok{s:Str}(h:Word s){r:Bs}(hr:StpB isW r):TkOk (tW s) r:=by
 obtain⟨h1,h2,h3,h4⟩:=h
 have hsrc:srcT (tW s)=s.data.toList:=by unfold srcT tW;exact if_neg (show¬(1:Int)=4 by decide)
 have hall:∀ x∈s.data.toList,isW x=true:=bytes_all fun i hi=>isW_w (h4 i hi)
 have hsz:s.data.toList.length=s.size:=rfl
 refine⟨(show(1:Int)≤1∧(1:Int)≤5 by decide),by rw[hsrc];intro e;rw[e]at hsz;simp at hsz;omega,?_⟩
 rw[hsrc]
 unfold byteAt at h3
 cases e:s.data.toList with
 |nil=>rw[e]at hsz;simp at hsz;omega
 |cons c W=>
  rw[e]at h3 hall hsz
  have h3:Low c.toNat:=h3
  rw[List.cons_append,pc_word (isW_low h3) hall hr,if_neg (by simp at hsz;omega)];rfl
theorem qd_small{n:Nat}(h:n<10):Lib.decDigits n=[UInt8.ofNat (48+n)]:=by rw[Lib.decDigits,dif_pos h]
theorem qd_big{n:Nat}(h:¬n<10):Lib.decDigits n=Lib.decDigits (n / 10)++[UInt8.ofNat (48+n % 10)]:=by rw[Lib.decDigits,dif_neg h]
theorem qd_nat{d:Nat}(h:d<10):(UInt8.ofNat (48+d)).toNat=48+d:=by
 rw[UInt8.toNat_ofNat'];omega
theorem numL_sn(c:UInt8):∀ (l:Bs) (a:Nat),numL (l++[c]) a=10 * numL l a+(c.toNat-48)
 |[],a=>rfl
 |b::l,a=>numL_sn c l _
theorem numL_dd(n:Nat):numL (Lib.decDigits n) 0=n:=by
 induction n using Nat.strongRecOn with
 |_ n ih=>
  by_cases h:n<10
  ·rw[qd_small h];show 10 * 0+_=_;rw[qd_nat h];omega
  ·rw[qd_big h,numL_sn,ih _ (by omega),qd_nat (by omega)];omega
theorem qd_dig(n:Nat):Lib.decDigits n≠[]∧∀ c∈Lib.decDigits n,Dig c.toNat:=by
 induction n using Nat.strongRecOn with
 |_ n ih=>
  by_cases h:n<10
  ·rw[qd_small h];refine⟨by simp,fun c hc=> ?_⟩;rw[List.mem_singleton.1 hc,qd_nat h];unfold Dig;omega
  ·rw[qd_big h];refine⟨by simp,fun c hc=> ?_⟩
   rcases List.mem_append.1 hc with hc|hc
   ·exact(ih _ (by omega)).2 c hc
   ·rw[List.mem_singleton.1 hc,qd_nat (by omega)];unfold Dig;omega
theorem tI_ok{n:Nat}(h:n≤1152921504606846976){r:Bs}(hr:StpB isD r)(hp:r.head?≠some 46):TkOk (tI n) r:=by
 obtain⟨h1,h2⟩:=qd_dig n
 have hsrc:srcT (tI n)=Lib.decDigits n:=by unfold srcT tI;exact if_neg (show¬(2:Int)=4 by decide)
 refine⟨(show(1:Int)≤2∧(2:Int)≤5 by decide),by rw[hsrc];exact h1,?_⟩
 rw[hsrc]
 have hI:intE (Lib.decDigits n)=0:=by unfold intE;rw[numL_dd,if_neg (by omega)]
 have hall:∀ x∈Lib.decDigits n,isD x=true:=fun x hx=>decide_eq_true (cls_dig (h2 x hx))
 cases e:Lib.decDigits n with
 |nil=>exact absurd e h1
 |cons c W=>
  rw[e]at h2 hI hall
  rw[List.cons_append,pc_int (cls_dig (h2 c List.mem_cons_self)) hall hr (fun h=>hp h.1),hI];rfl
theorem tS_ok{c:UInt8}(hc:clsB c=7){r:Bs}(hr:¬((c=61∨c=60)∧r.head? =some 61)):TkOk (tS c) r:=by
 have hsrc:srcT (tS c)=[c]:=rfl
 refine⟨(show(1:Int)≤5∧(5:Int)≤5 by decide),by rw[hsrc];simp,?_⟩
 rw[hsrc]
 have h33:c≠33:=fun e=>by subst e;revert hc;decide
 exact pc_one (.inl hc) h33 fun⟨h1,h2⟩=>hr ⟨h2.elim .inl fun h=>h.elim (fun h=>absurd h h33) .inr,h1⟩
def facP(f:Fac):List Tok:=tW f.name::(if f.exp=1 then[]else tS 94::(if f.exp<0 then[tS 45,tI f.exp.natAbs]else[tI f.exp.natAbs]))
def facsP:List Fac→List Tok
 |[]=>[]
 |[f]=>facP f
 |f::g::l=>facP f++tS 42::facsP (g::l)
abbrev pcs(l:List Tok):List Pc:=l.map .inr
theorem ng{c:UInt8}(h:¬(c=61∨c=60)){p:Prop}:¬((c=61∨c=60)∧p):=fun h2=>h h2.1
def Sgn(r:Bs):Prop:=∃ c t,r=c::t∧clsB c=7
theorem Sgn.stop{r:Bs}(h:Sgn r):StpB isW r∧StpB isD r∧r.head?≠some 46:=by
 obtain⟨c,t,rfl,hc⟩:=h
 have h1:isW c=false:=by unfold isW;simp[hc]
 have h2:isD c=false:=by unfold isD;simp[hc]
 refine⟨.inr ⟨_,_,rfl,h1⟩,.inr ⟨_,_,rfl,h2⟩,fun e=> ?_⟩
 simp only[List.head?_cons,Option.some.injEq]at e
 subst e;revert hc;decide
theorem facP_ok{f:Fac}(hw:Word f.name)(he:f.exp.natAbs≤1152921504606846976){R:List Pc}(hR:PcOk R)(hs:Sgn (pcS R)):PcOk (pcs (facP f)++R):=by
 obtain⟨s1,s2,s3⟩:=hs.stop
 have h94:clsB 94=7:=by decide
 have h45:clsB 45=7:=by decide
 unfold facP
 split
 ·exact⟨tW_ok hw s1,hR⟩
 ·split
  ·exact⟨tW_ok hw (.inr ⟨94,_,rfl,by decide⟩),tS_ok h94 (ng (by decide)),tS_ok h45 (ng (by decide)),tI_ok he s2 s3,hR⟩
  ·exact⟨tW_ok hw (.inr ⟨94,_,rfl,by decide⟩),tS_ok h94 (ng (by decide)),tI_ok he s2 s3,hR⟩
theorem facsP_ok:∀ {l:List Fac},(∀ f∈l,Word f.name∧f.exp.natAbs≤1152921504606846976)→∀ {R:List Pc},PcOk R→Sgn (pcS R)→PcOk (pcs (facsP l)++R)
 |[],_,R,hR,_=>hR
 |[f],h,R,hR,hs=>facP_ok (h f (by simp)).1 (h f (by simp)).2 hR hs
 |f::g::l,h,R,hR,hs=>by
  have ih:=facsP_ok (l:=g::l) (fun x hx=>h x (List.mem_cons_of_mem _ hx)) hR hs
  have:pcs (facsP (f::g::l))++R=pcs (facP f)++(.inr (tS 42)::(pcs (facsP (g::l))++R)):=by simp[facsP,pcs]
  rw[this]
  exact facP_ok (h f (by simp)).1 (h f (by simp)).2 ⟨tS_ok (by decide) (ng (by decide)),ih⟩ ⟨42,_,rfl,by decide⟩
theorem see_t{k:Int}{s:Str}{t:Tok}{L:List Tok}:see k s (t::L)=(decide (t.kind=k) && decide (t.text=s)):=rfl
theorem factor_back{f:Fac}(hn:Name f.name)(he:f.exp.natAbs≤1000)(R:List Pc)(hR:∀ p,see 5 (ch 94) (pcT p R)=false)(p:Int):∃ q,factorP (pcT p (pcs (facP f)++R))= .ok f (pcT q R):=by
 have hname:∀ L:List Tok,nameP (⟨1,f.name,p⟩::L)= .ok f.name L:=fun L=>by
  unfold nameP
  exact(if_neg (show¬¬Name f.name from fun h=>h hn)).trans rfl
 have hnum:∀ (q:Int) (L:List Tok),numP (⟨2,(tI f.exp.natAbs).text,q⟩::L)= .ok (f.exp.natAbs:Int) L:=fun q L=>by
  have:numS (tI f.exp.natAbs).text=(f.exp.natAbs:Int):=by
   show((numL (Lib.decDigits f.exp.natAbs) 0:Nat):Int)=_
   rw[numL_dd]
  show PR.ok (numS (tI f.exp.natAbs).text) L=_
  rw[this]
 have hf:∀ n e,n=f.name→e=f.exp→(⟨n,e⟩:Fac)=f:=fun n e h1 h2=>by subst h1 h2;rfl
 unfold facP
 split
 ·rename_i h1
  refine⟨p+(srcT (tW f.name)).length,?_⟩
  show factorP (⟨1,f.name,p⟩::pcT (p+(srcT (tW f.name)).length) R)=_
  unfold factorP
  rw[hname,PR.bind_ok,if_neg (by rw[hR];decide),hf _ _ rfl h1.symm]
 ·rename_i h1
  split
  ·rename_i h2
   refine⟨p+(srcT (tW f.name)).length+(srcT (tS 94)).length+(srcT (tS 45)).length+(srcT (tI f.exp.natAbs)).length,?_⟩
   show factorP (⟨1,f.name,p⟩::⟨5,ch 94,p+(srcT (tW f.name)).length⟩::⟨5,ch 45,p+(srcT (tW f.name)).length+(srcT (tS 94)).length⟩::⟨2,(tI f.exp.natAbs).text,p+(srcT (tW f.name)).length+(srcT (tS 94)).length+(srcT (tS 45)).length⟩::pcT _ R)=_
   unfold factorP
   rw[hname,PR.bind_ok,if_pos (by rfl),List.tail_cons,if_pos (by rfl),List.tail_cons,hnum]
   refine congrArg (fun x=>PR.ok x _) (hf _ _ rfl ?_)
   omega
  ·rename_i h2
   refine⟨p+(srcT (tW f.name)).length+(srcT (tS 94)).length+(srcT (tI f.exp.natAbs)).length,?_⟩
   show factorP (⟨1,f.name,p⟩::⟨5,ch 94,p+(srcT (tW f.name)).length⟩::⟨2,(tI f.exp.natAbs).text,p+(srcT (tW f.name)).length+(srcT (tS 94)).length⟩::pcT _ R)=_
   unfold factorP
   rw[hname,PR.bind_ok,if_pos (by rfl),List.tail_cons,if_neg (by simp[see_t]),hnum]
   refine congrArg (fun x=>PR.ok x _) (hf _ _ rfl ?_)
   omega
theorem many_back:∀ (l:List Fac),(∀ f∈l,Name f.name∧f.exp.natAbs≤1000)→∀ (n:Nat) (acc:List Fac) (R:List Pc),l.length≤n→(∀ p,see 5 (ch 94) (pcT p R)=false)→(∀ p,see 5 (ch 42) (pcT p R)=false)→
  ∀ p,∃ q,manyP (ch 42) factorP n (pcT p ((l.flatMap fun f=> .inr (tS 42)::pcs (facP f))++R)) acc= .ok (acc++l) (pcT q R)
 |[],_,n,acc,R,_,_,h2,p=>⟨p,by cases n<;>simp[manyP,h2]⟩
 |f::l,hf,0,acc,R,hn,_,_,p=>by simp at hn
 |f::l,hf,n+1,acc,R,hn,h1,h2,p=>by
  have hrest:∀ p,see 5 (ch 94) (pcT p ((l.flatMap fun f=> .inr (tS 42)::pcs (facP f))++R))=false:=fun p=>by
   cases l with
   |nil=>exact h1 p
   |cons g l=>rfl
  obtain⟨q,hq⟩:=factor_back (hf f (by simp)).1 (hf f (by simp)).2 _ hrest (p+(srcT (tS 42)).length)
  obtain⟨q2,hq2⟩:=many_back l (fun x hx=>hf x (List.mem_cons_of_mem _ hx)) n (acc++[f]) R (by simp at hn;omega) h1 h2 q
  refine⟨q2,?_⟩
  have e:pcT p (((f::l).flatMap fun f=> .inr (tS 42)::pcs (facP f))++R)=⟨5,ch 42,p⟩::pcT (p+(srcT (tS 42)).length) (pcs (facP f)++((l.flatMap fun f=> .inr (tS 42)::pcs (facP f))++R)):=by
   simp only[List.flatMap_cons,List.cons_append,List.append_assoc];rfl
  rw[e]
  unfold manyP
  rw[if_pos (by rfl),List.tail_cons,hq,PR.bind_ok,hq2]
  simp
theorem facsP_cons(f:Fac):∀ (l:List Fac),pcs (facsP (f::l))=pcs (facP f)++(l.flatMap fun f=> .inr (tS 42)::pcs (facP f))
 |[]=>by simp[facsP]
 |g::l=>by
  have:=facsP_cons g l
  show pcs (facP f++tS 42::facsP (g::l))=_
  simp only[pcs,List.map_append,List.map_cons]at this ⊢
  rw[this];simp
theorem list_back(l:List Fac)(hl:l≠[])(hf:∀ f∈l,Name f.name∧f.exp.natAbs≤1000)(hn:l.length≤1000)(R:List Pc)(h1:∀ p,see 5 (ch 94) (pcT p R)=false)(h2:∀ p,see 5 (ch 42) (pcT p R)=false)(p:Int):∃ q,listP (ch 42) factorP (pcT p (pcs (facsP l)++R))= .ok l (pcT q R):=by
 cases l with
 |nil=>exact absurd rfl hl
 |cons f l=>
  have hrest:∀ p,see 5 (ch 94) (pcT p ((l.flatMap fun f=> .inr (tS 42)::pcs (facP f))++R))=false:=fun p=>by
   cases l with
   |nil=>exact h1 p
   |cons g l=>rfl
  obtain⟨q,hq⟩:=factor_back (hf f (by simp)).1 (hf f (by simp)).2 _ hrest p
  obtain⟨q2,hq2⟩:=many_back l (fun x hx=>hf x (List.mem_cons_of_mem _ hx)) N0 [f] R (by simp at hn;show _≤1000000;omega) h1 h2 q
  refine⟨q2,?_⟩
  rw[facsP_cons,List.append_assoc]
  unfold listP
  rw[hq,PR.bind_ok,hq2];rfl
def unitB(l:List Fac):List Tok:=tS 91::(facsP l++[tS 93])
theorem unit_back(l:List Fac)(hl:l≠[])(hf:∀ f∈l,Name f.name∧f.exp.natAbs≤1000)(hn:l.length≤1000)(R:List Pc)(p:Int):
  ∃ q,unitP (pcT p (pcs (unitB l)++R))=if(normU l).2≠0 then .err p (normU l).2 else .ok (normU l).1 (pcT q R):=by
 have e:pcs (unitB l)++R= .inr (tS 91)::(pcs (facsP l)++ .inr (tS 93)::R):=by simp[unitB]
 obtain⟨q,hq⟩:=list_back l hl hf hn (.inr (tS 93)::R) (fun p=>by rfl) (fun p=>by rfl) (p+(srcT (tS 91)).length)
 refine⟨q+(srcT (tS 93)).length,?_⟩
 rw[e]
 unfold unitP
 rw[if_pos (by rfl)]
 show(listP (ch 42) factorP (pcT (p+(srcT (tS 91)).length) (pcs (facsP l)++ .inr (tS 93)::R))).bind _=_
 rw[hq,PR.bind_ok]
 rfl
def litS(l:List Fac):Bs:=55::32::pcS (pcs (unitB l))
def typS(l:List Fac):Bs:=100::101::99::32::pcS (pcs (unitB l))
theorem unitB_ok{l:List Fac}(h:∀ f∈l,Word f.name∧f.exp.natAbs≤1152921504606846976):PcOk (pcs (unitB l)):=by
 have e:pcs (unitB l)= .inr (tS 91)::(pcs (facsP l)++[.inr (tS 93)]):=by simp[unitB]
 rw[e]
 exact⟨tS_ok (by decide) (ng (by decide)),facsP_ok h ⟨tS_ok (by decide) (ng (by decide)),trivial⟩ ⟨93,_,rfl,by decide⟩⟩
theorem lit_core(l:List Fac)(hl:l≠[])(hf:∀ f∈l,Name f.name∧f.exp.natAbs≤1000)(hn:l.length≤1000):
  ∃ T q,toksL (litS l)=(T,[])∧exprP N0 false T=if(normU l).2≠0 then .err 2 (normU l).2 else .ok (litE ⟨2,7,⟨#[]⟩⟩ (normU l).1 ⟨#[]⟩) (pcT q []):=by
 have hU:=unitB_ok (l:=l) fun f h=>⟨(hf f h).1.1,by have:=(hf f h).2;omega⟩
 have ht:toksL (litS l)=(⟨2,ch 55,0⟩::pcT 2 (pcs (unitB l)),[]):=by
  have:PcOk (.inr (tI 7):: .inl 32::pcs (unitB l)):=⟨tI_ok (by decide) (.inr ⟨32,_,rfl,by decide⟩) (by simp[pcS]),by decide,hU⟩
  have h7:(tI 7).text=ch 55:=by unfold tI;rw[qd_small (by decide)];rfl
  have hs:srcT (tI 7)=[55]:=by unfold tI;rw[qd_small (by decide)];rfl
  have h:=toks_pc this
  simp only[pcS,pcT,hs,h7]at h
  exact h
 obtain⟨q,hq⟩:=unit_back l hl hf hn [] 2
 rw[List.append_nil]at hq
 have hp:∀ i,exprP N0 i (⟨2,ch 55,0⟩::pcT 2 (pcs (unitB l)))=if(normU l).2≠0 then .err 2 (normU l).2 else .ok (litE ⟨2,7,⟨#[]⟩⟩ (normU l).1 ⟨#[]⟩) (pcT q []):=fun i=>by
  show exprP (999996+1+1+1+1) i _=_
  have hprim:∀ m,primP (m+1) i (⟨2,ch 55,0⟩::pcT 2 (pcs (unitB l)))=if(normU l).2≠0 then .err 2 (normU l).2 else .ok (litE ⟨2,7,⟨#[]⟩⟩ (normU l).1 ⟨#[]⟩) (pcT q []):=fun m=>by
   rw[primP,if_pos (by rfl)]
   have:numP (⟨2,ch 55,0⟩::pcT 2 (pcs (unitB l)))= .ok 7 (pcT 2 (pcs (unitB l))):=rfl
   rw[this,PR.bind_ok]
   unfold PR.map
   rw[hq]
   split<;>rfl
  have hop:∀ m k,operandP (m+1+1) k i (⟨2,ch 55,0⟩::pcT 2 (pcs (unitB l)))=if(normU l).2≠0 then .err 2 (normU l).2 else .ok (litE ⟨2,7,⟨#[]⟩⟩ (normU l).1 ⟨#[]⟩) (pcT q []):=fun m k=>by
   rw[operandP,if_neg (by simp[see_t]),if_neg (by simp[see_t]),hprim]
  rw[exprP,if_neg (by simp[see_t]),binP,hop]
  split
  ·rfl
  ·rw[PR.bind_ok]
   have:opsP (999996+1+1) 1 (if(decide (1≤3) && see 1 wNot (⟨2,ch 55,0⟩::pcT 2 (pcs (unitB l))))=true then 2 else 7) i (litE ⟨2,7,⟨#[]⟩⟩ (normU l).1 ⟨#[]⟩) (pcT q [])= .ok (litE ⟨2,7,⟨#[]⟩⟩ (normU l).1 ⟨#[]⟩) (pcT q []):=by
    have hr:rankP (pcT q [])=0:=by simp[rankP,pcT,hd]
    rw[opsP,if_neg (by rw[hr];simp)]
   rw[this,PR.bind_ok,defP,if_neg (by simp[see_t,pcT])]
 exact⟨_,q,ht,hp false⟩
theorem typ_core(l:List Fac)(hl:l≠[])(hf:∀ f∈l,Name f.name∧f.exp.natAbs≤1000)(hn:l.length≤1000):
  ∃ T q,toksL (typS l)=(T,[])∧kindP T=if(normU l).2≠0 then .err 4 (normU l).2 else .ok ⟨3,(normU l).1,⟨#[]⟩⟩ (pcT q []):=by
 have hU:=unitB_ok (l:=l) fun f h=>⟨(hf f h).1.1,by have:=(hf f h).2;omega⟩
 have ht:toksL (typS l)=(⟨1,wDec,0⟩::pcT 4 (pcs (unitB l)),[]):=by
  have:PcOk (.inr (tW wDec):: .inl 32::pcs (unitB l)):=⟨tW_ok (by decide) (.inr ⟨32,_,rfl,by decide⟩),by decide,hU⟩
  exact toks_pc this
 obtain⟨q,hq⟩:=unit_back l hl hf hn [] 4
 rw[List.append_nil]at hq
 have hp:kindP (⟨1,wDec,0⟩::pcT 4 (pcs (unitB l)))=if(normU l).2≠0 then .err 4 (normU l).2 else .ok ⟨3,(normU l).1,⟨#[]⟩⟩ (pcT q []):=by
  unfold kindP
  rw[if_neg (by simp[see_t]),if_neg (by simp[see_t]),if_neg (by simp[see_t]),if_neg (by simp[see_t])]
  have:keyP wDec (⟨1,wDec,0⟩::pcT 4 (pcs (unitB l)))= .ok () (pcT 4 (pcs (unitB l))):=rfl
  rw[this,PR.bind_ok]
  unfold PR.map
  rw[hq]
  split<;>rfl
 exact⟨_,q,ht,hp⟩
theorem itoa_back{n:Int}(h: -8≤n∧n≤8):Lib.atoiAll (itoaS n).data.toList= .ok n∧(42:UInt8)∉(itoaS n).data.toList∧(itoaS n).data.toList≠[]:=by
 have key:∀ d,d<9→(Lib.atoiAll [UInt8.ofNat (48+d)]= .ok (d:Int)∧(42:UInt8)∉[UInt8.ofNat (48+d)])∧(Lib.atoiAll [45,UInt8.ofNat (48+d)]= .ok (-(d:Int))∧(42:UInt8)∉[45,UInt8.ofNat (48+d)])
  |0,_=>by decide
  |1,_=>by decide
  |2,_=>by decide
  |3,_=>by decide
  |4,_=>by decide
  |5,_=>by decide
  |6,_=>by decide
  |7,_=>by decide
  |8,_=>by decide
  |d+9,h=>absurd h (by omega)
 unfold itoaS
 by_cases h0:0≤n
 ·obtain⟨d,rfl⟩:∃ d:Nat,n=d:=⟨n.toNat,by omega⟩
  obtain⟨⟨k1,k2⟩,_⟩:=key d (by omega)
  rw[Lib.itoa_nonneg,qd_small (by omega)]
  exact⟨k1,k2,by simp⟩
 ·obtain⟨d,rfl⟩:∃ d:Nat,n= -(d:Int):=⟨n.natAbs,by omega⟩
  obtain⟨_,k1,k2⟩:=key d (by omega)
  rw[Lib.itoa_neg d (by omega),qd_small (by omega)]
  exact⟨k1,k2,by simp⟩
theorem word_no{s:Str}(h:Word s){c:UInt8}(hc:isW c=false):c∉s.data.toList:=fun hm=>by
 have:=bytes_all (P:=fun b=>isW b=true) (fun i hi=>isW_w (h.2.2.2 i hi)) c hm
 rw[hc]at this;cases this
theorem facS_bytes(f:Fac):(facS f).data.toList=f.name.data.toList++(if f.exp=1 then[]else 94::(itoaS f.exp).data.toList):=by
 unfold facS
 split
 ·simp
 ·rw[str_app,str_app];rfl
structure FacV(f:Fac):Prop where
 word:Word f.name
 bd: -8≤f.exp∧f.exp≤8
theorem fac_no{f:Fac}(h:FacV f):(42:UInt8)∉(facS f).data.toList:=by
 rw[facS_bytes]
 intro hm
 rcases List.mem_append.1 hm with hm|hm
 ·exact word_no h.word (by decide) hm
 ·split at hm
  ·cases hm
  ·rcases List.mem_cons.1 hm with e|hm
   ·exact absurd e (by decide)
   ·exact(itoa_back h.bd).2.1 hm
theorem fac_cut{f:Fac}(h:FacV f):Lib.cut (facS f).data.toList [94]=if f.exp=1 then((facS f).data.toList,[],false)else(f.name.data.toList,(itoaS f.exp).data.toList,true):=by
 have hn:=word_no h.word (c:=94) (by decide)
 by_cases h1:f.exp=1
 ·rw[if_pos h1]
  refine cut_no 94 _ ?_
  rw[facS_bytes,if_pos h1,List.append_nil];exact hn
 ·rw[if_neg h1,facS_bytes,if_neg h1]
  exact cut_app 94 _ _ hn
theorem map_inj_l{α β:Type}{g:α→β}(hg:∀ a b,g a=g b→a=b):∀ {l m:List α},l.map g=m.map g→l=m
 |[],[],_=>rfl
 |[],_::_,h=>by cases h
 |_::_,[],h=>by cases h
 |a::l,b::m,h=>by
  simp only[List.map_cons,List.cons.injEq]at h
  rw[hg _ _ h.1,map_inj_l hg h.2]
theorem split_unit{u:List Fac}(hu:∀ f∈u,FacV f)(hne:u≠[])(hl:u.length≤4):Lib.splitB ⟨#[42]⟩ 0 (min 5 ((unitS u).size+1)-1) (unitS u)=u.map facS:=by
 have hb:(unitS u).data.toList=[42].intercalate ((u.map facS).map (·.data.toList)):=rfl
 have hlen:u.length≤(unitS u).size+1:=by
  have:∀ l:List Bs,(∀ w∈l,w≠[])→l.length≤([42].intercalate l).length+1:=fun l=>by
   induction l with
   |nil=>intro _;simp
   |cons a l ih=>
    intro h
    have ih:=ih fun w hw=>h w (List.mem_cons_of_mem _ hw)
    have ha:=List.length_pos_iff.2 (h a List.mem_cons_self)
    cases l with
    |nil=>simp[List.intercalate]
    |cons b l=>
     have e:[42].intercalate (a::b::l)=a++42::[42].intercalate (b::l):=by simp[List.intercalate,List.intersperse]
     rw[e,List.length_append,List.length_cons]
     simp only[List.length_cons]at ih ⊢;omega
  have h2:=this ((u.map facS).map (·.data.toList)) fun w hw=>by
   obtain⟨s,hs,rfl⟩:=List.mem_map.1 hw
   obtain⟨f,hf,rfl⟩:=List.mem_map.1 hs
   rw[facS_bytes]
   have:=(hu f hf).word.1
   intro e
   have e2:=congrArg List.length e
   rw[List.length_append,List.length_nil]at e2
   have:f.name.data.toList.length=f.name.size:=rfl
   omega
  rw[← hb,List.length_map,List.length_map]at h2
  exact h2
 refine map_inj_l (g:=fun s:Str=>s.data.toList) (fun a b h=>str_ext h) ?_
 rw[Lib.splitB_data,hb]
 refine splitK_back 42 _ _ (fun w hw=> ?_) ?_ ?_
 ·obtain⟨s,hs,rfl⟩:=List.mem_map.1 hw
  obtain⟨f,hf,rfl⟩:=List.mem_map.1 hs
  exact fac_no (hu f hf)
 ·intro e;simp at e;exact hne e
 ·rw[List.length_map,List.length_map];omega
theorem unit_valid:∀ {u:List Fac} {p:Option Str},unitErrL p u=0→∀ f∈u,FacV f∧f.exp≠0
 |[],_,_,f,hf=>by cases hf
 |g::l,p,h,f,hf=>by
  rw[unitErrL]at h
  split at h
  ·rename_i h0
   rcases List.mem_cons.1 hf with rfl|hf
   ·unfold facErr at h0
    split at h0
    ·cases h0
    ·rename_i hw
     split at h0
     ·cases h0
     ·rename_i he
      exact⟨⟨Classical.not_not.1 hw,by omega⟩,by omega⟩
   ·exact unit_valid h f hf
  ·rename_i h0;exact absurd h h0
theorem parse_nil:Sx.Pure Tryz.prog 23 [sv (unitS [])] (.tup [.sl false 2 [],iv 0]):=by
 have e:unitS []=⟨#[]⟩:=rfl
 rw[e]
 refine Pure.runk (fun _=>0) Tryz.func23 comp23 era23 (Nat.le_of_ble_eq_true rfl) fun σ=> ?_
 have hg:decide ((⟨#[]⟩:Str)=⟨#[]⟩)=true:=by decide
 repeat'(first|exact .nil|refine .k0 ?_|refine .k1 ?_|refine .k2 ?_|refine .k7 ?_|(refine .cd ?_ ?_<;>(intro hc;first|exact kf hc (by assumption)|skip))|refine .r1 ?_ ?_|fail)
 show Sx.Fin _ _ _ _;exact Zw
theorem parse_walk(us:List Fac)(hne:(unitS us).size≠0)(hl:us.length≤4)(hu:∀ f∈us,FacV f)
  (hS:Sx.Pure Tryz.prog 53 [sv (unitS us),sv ⟨#[42]⟩,iv 5] (.sl true 1 ((us.map facS).map strRow)))
  (hCut:∀ i,i<us.length→Sx.Pure Tryz.prog 54 [sv ((us.map facS).getD i default),sv ⟨#[94]⟩] (.tup [sv (us.getD i default).name,sv (if(us.getD i default).exp=1 then⟨#[]⟩else itoaS (us.getD i default).exp),.v (.bool (decide (¬(us.getD i default).exp=1)))]))
  (hAt:∀ i,i<us.length→¬(us.getD i default).exp=1→Sx.Pure Tryz.prog 55 [sv (if(us.getD i default).exp=1 then⟨#[]⟩else itoaS (us.getD i default).exp)] (.tup [iv (us.getD i default).exp,.v .nilIface]))
  (hF:Sx.Pure Tryz.prog 21 [.sl false 2 (us.map Fac.cells)] (sv (unitS us))) (hC:Sx.Pure Tryz.prog 56 [.sl false 2 (us.map Fac.cells)] (iv 0)):
  Sx.Pure Tryz.prog 23 [sv (unitS us)] (.tup [.sl false 2 (us.map Fac.cells),iv 0]):=by
 refine Pure.runk (fun _=>0) Tryz.func23 comp23 era23 (Nat.le_of_ble_eq_true rfl) fun σ=> ?_
 repeat'(first|exact .nil|refine .k0 ?_|refine .k1 ?_|refine .k2 ?_|refine .k6 ?_|refine .k7 ?_|refine .k9 ?_|(refine .cd ?_ ?_<;>(intro hc;skip))|refine .r1 ?_ ?_|(refine .m2 ?_ ?_;intro hlen)|refine .an rfl (by intro hob;first|exact hS|fail) ?_ ?_|fail)
 all_goals(try simp only[BL]at *)
 ·exfalso;exact hne (by rw[hc];rfl)
 rw[List.length_map]
 refine WK_loop (fun m rg σ'=>∃ i:Nat,i≤us.length∧m=us.length-i∧
  ((i=0∧σ'=σ∧rg=[(0,sv (unitS us)),(2,.v (.slice none 0 0)),(15,.sl true 1 ((us.map facS).map strRow)),(16,iv us.length),(17,iv i)])∨
  (0<i∧∃ b v c,σ'=(43,b,.tail v c)::σ∧rg=[(0,sv (unitS us)),(2,.own 2 43 b v c ((us.take i).map Fac.cells)),(15,.sl true 1 ((us.map facS).map strRow)),(16,iv us.length),(17,iv i)]))) us.length rfl ⟨_,_,Zr,Zs,0,Nat.zero_le _,rfl,.inl ⟨rfl,rfl,rfl⟩⟩ ?_
 rintro m _ _ ⟨i,hi,hm,⟨h0,rfl,rfl⟩|⟨h0,b0,v0,c0,rfl,rfl⟩⟩
 all_goals by_cases hiu:i<us.length
 rotate_left
 ·exfalso
  obtain rfl:us=[]:=List.eq_nil_of_length_eq_zero (by omega)
  exact hne rfl
 rotate_left
 ·obtain rfl:i=us.length:=by omega
  rw[List.take_length]
  have hi3:decide ((us.length:Int)<(us.length:Int))=false:=decide_eq_false (by omega)
  repeat'(first|exact .nil|refine .k0 ?_|refine .k1 ?_|refine .k2 ?_|refine .k7 ?_|refine .k8 ?_|refine .k9 ?_|(refine .cd ?_ ?_<;>(intro hc;first|exact kt hc (by assumption)|skip))|refine .r1 ?_ ?_|refine .an rfl (by intro hob;first|exact hF.wk (.cons (.own _) .nil)|exact hC.wk (.cons (.own _) .nil)) ?_ ?_|fail)
  ·exfalso;revert hc;simp
  ·show Sx.Fin _ _ _ _;exact Zw
 all_goals have hi3:decide ((i:Int)<(us.length:Int))=true:=decide_eq_true (by omega)
 all_goals have hgd:(us.map facS).getD i default=facS (us.getD i default):=by rw[getD_eq (by rw[List.length_map];exact hiu),getD_eq hiu,List.getElem_map]
 all_goals have hstep:(us.take (i+1)).map Fac.cells=(us.take i).map Fac.cells++[[sv (us.getD i default).name,iv (us.getD i default).exp]]:=by(rw[getD_eq hiu,List.take_succ_eq_append_getElem hiu,List.map_append];rfl)
 repeat'(first|exact .nil|refine .k0 ?_|refine .k1 ?_|refine .k2 ?_|refine .k6 ?_|refine .k9 ?_|(refine .cd ?_ ?_<;>(intro hc;first|exact kf hc (by assumption)|skip))|refine .r1 ?_ ?_|(refine .l1 ?_;intro b)|refine .t1 ?_ ?_ ?_|refine .u1 ?_ ?_ ?_ (fun b u c=> ?_)|refine .u2 ?_ ?_ ?_ (fun b u c=> ?_)|refine .an rfl (by intro hob;first|exact hS|exact hCut i hiu|exact hAt i hiu (by simpa using hc)|fail) ?_ ?_|(show List.all _ _=true;rfl)|fail)
 all_goals try(refine VX_extq rfl (fun _=>OpP_nonil (by rfl)) .nil ?_;repeat'(first|exact .nil|refine .k0 ?_|refine .k1 ?_|refine .k2 ?_|refine .k9 ?_|(refine .cd ?_ ?_<;>first|with_reducible exact fT|(intro hc;skip))|refine .r1 ?_ ?_|refine .u1 ?_ ?_ ?_ (fun b u c=> ?_)|refine .u2 ?_ ?_ ?_ (fun b u c=> ?_)|(show List.all _ _=true;rfl)|fail))
 all_goals first|exact List.cons_ne_nil _ _|(intro _;rw[List.length_map];exact⟨Int.natCast_nonneg _,of_decide_eq_true hi3⟩)|(simp only[List.length_cons,List.length_nil,List.length_map,List.length_take];omega)|skip
 all_goals
  refine⟨us.length-(i+1),by omega,_,_,Zr,Zs,i+1,by omega,rfl,.inr ⟨by omega,_,_,_,rfl,?_⟩⟩
  first|(have h1:(us.getD i default).exp=1:=by simpa using of_decide_eq_false hc);rw[hstep,up1 (n:=us.length) (by omega) (by unfold maxLen;omega),Int.toNat_natCast,hgd,facS_1 h1,h1]|rw[hstep,up1 (n:=us.length) (by omega) (by unfold maxLen;omega)]
  all_goals(subst h0;rfl)
theorem uparse_ok(u:List Fac)(h:unitErr u=0):Sx.Pure Tryz.prog 23 [sv (unitS u)] (.tup [.sl false 2 (u.map Fac.cells),iv 0]):=by
 by_cases hne:u=[]
 ·subst hne
  exact parse_nil
 have hl:u.length≤4:=by
  unfold unitErr at h
  split at h
  ·cases h
  ·omega
 have hL:unitErrL none u=0:=by
  unfold unitErr at h
  rwa [if_neg (by omega)]at h
 have hv:=unit_valid hL
 have hu:∀ f∈u,FacV f:=fun f hf=>(hv f hf).1
 have hw:∀ f∈u,FacW f:=fun f hf=>⟨(hu f hf).word.2.1,by have:=(hu f hf).bd;omega,by have:=(hu f hf).bd;omega⟩
 have hsz:=unit_len hw (by omega)
 have hsz2:(unitS u).size≤1000:=hsz
 have hgd:∀ i,i<u.length→(u.map facS).getD i default=facS (u.getD i default):=fun i hiu=>by rw[getD_eq (by rw[List.length_map];exact hiu),getD_eq hiu,List.getElem_map]
 have hS:=split_ok (unitS u) ⟨#[42]⟩ 5 (by omega) (by decide) (by decide) (by decide)
 rw[split_unit hu hne hl]at hS
 refine parse_walk u ?_ hl hu hS (fun i hi=> ?_) (fun i hi h1=> ?_) (unitF_ok u hw (by omega)) ?_
 ·intro e
  obtain⟨f,l,rfl⟩:=List.exists_cons_of_ne_nil hne
  have h2:(unitS (f::l)).data.toList.length=0:=e
  have h3:=(hu f (by simp)).word.1
  have h4:f.name.data.toList.length=f.name.size:=rfl
  have h5:(unitS (f::l)).data.toList=[42].intercalate (((f::l).map facS).map (·.data.toList)):=rfl
  rw[h5]at h2
  have h6:(facS f).data.toList.length≤([42].intercalate (((f::l).map facS).map (·.data.toList))).length:=by
   cases l with
   |nil=>simp[List.intercalate]
   |cons g l=>simp[List.intercalate,List.intersperse]
  rw[facS_bytes,List.length_append]at h6
  omega
 ·have hc:=cut_ok (facS (u.getD i default)) ⟨#[94]⟩ (by have:=facS_size (hw _ (getD_mem hi));omega)
  have h9:(⟨#[94]⟩:Str).data.toList=[94]:=rfl
  rw[h9,fac_cut (hu _ (getD_mem hi))]at hc
  rw[hgd i hi]
  by_cases h1:(u.getD i default).exp=1
  ·rw[if_pos h1]at hc ⊢
   have e:(⟨(facS (u.getD i default)).data.toList.toArray⟩:Str)=(u.getD i default).name:=by rw[ba_toList,facS_1 h1]
   simp only at hc
   rw[e]at hc
   rw[decide_eq_false (fun h=>h h1)];exact hc
  ·rw[if_neg h1]at hc ⊢
   simp only at hc
   rw[ba_toList,ba_toList]at hc
   rw[decide_eq_true h1];exact hc
 ·have hb:=(hu _ (getD_mem hi)).bd
  rw[if_neg h1]
  exact atoi_ok _ _ (by have:=itoa_size (u.getD i default).exp (by omega);omega) (itoa_back hb).1
 ·have:=unitCheck_ok u
  rwa [h]at this
theorem usame_ok(a b:List Fac):Sx.Pure Tryz.prog 24 [.sl false 2 (a.map Fac.cells),.sl false 2 (b.map Fac.cells)] (.v (.bool (decide (a=b)))):=by
 refine Pure.runk (fun _=>0) Tryz.func24 comp24 era24 (Nat.le_of_ble_eq_true rfl) fun σ=> ?_
 repeat'(first|exact .nil|refine .k0 ?_|refine .k1 ?_|refine .k2 ?_|refine .k7 ?_|refine .r1 ?_ ?_|refine .an rfl (by intro hob;exact equal_ok _ _) ?_ ?_|fail)
 all_goals(try simp only[BL]at *)
 show Sx.Fin _ _ _ _;exact Zw
def LawF(f:Fac):Prop:=Name f.name∧-1000≤f.exp∧f.exp≤1000
def exR(us:List Fac):List AV:=[iv 1,sv ⟨#[]⟩,sv ⟨#[]⟩,sv ⟨#[]⟩,iv 2,iv 7,sv ⟨#[]⟩,.sl false 2 (us.map Fac.cells),iv 0,iv 0,iv 0,.sl false 12 []]
def exZ:List AV:=[iv 0,sv ⟨#[]⟩,sv ⟨#[]⟩,sv ⟨#[]⟩,iv 0,iv 0,sv ⟨#[]⟩,.sl false 2 [],iv 0,iv 0,iv 0,.sl false 12 []]
structure UnitsH(xs us:List Fac)(e:Int):Prop where
 sz:(unitS xs).size≤1000
 fo:Sx.Pure Tryz.prog 21 [.sl false 2 (xs.map Fac.cells)] (sv (unitS xs))
 n:Sx.Pure Tryz.prog 22 [.sl false 2 (xs.map Fac.cells)] (.tup [.sl false 2 (us.map Fac.cells),iv e])
 e0:e=0→Sx.Pure Tryz.prog 10 [.sl true 1 (((⟨#[55,32]⟩:Str)++((⟨#[91]⟩:Str)++unitS xs++(⟨#[93]⟩:Str))).data.toList.map byteRow)] (.tup [.agg (exR us),iv 0,iv 0])
 e1:¬e=0→Sx.Pure Tryz.prog 10 [.sl true 1 (((⟨#[55,32]⟩:Str)++((⟨#[91]⟩:Str)++unitS xs++(⟨#[93]⟩:Str))).data.toList.map byteRow)] (.tup [.agg exZ,iv 2,iv e])
 t0:e=0→Sx.Pure Tryz.prog 11 [.sl true 1 (((⟨#[100,101,99,32]⟩:Str)++((⟨#[91]⟩:Str)++unitS xs++(⟨#[93]⟩:Str))).data.toList.map byteRow)] (.tup [.agg [iv 3,.sl false 2 (us.map Fac.cells),sv ⟨#[]⟩],iv 0,iv 0])
 t1:¬e=0→Sx.Pure Tryz.prog 11 [.sl true 1 (((⟨#[100,101,99,32]⟩:Str)++((⟨#[91]⟩:Str)++unitS xs++(⟨#[93]⟩:Str))).data.toList.map byteRow)] (.tup [.agg [iv 0,.sl false 2 [],sv ⟨#[]⟩],iv 4,iv e])
 fu:e=0→Sx.Pure Tryz.prog 21 [.sl false 2 (us.map Fac.cells)] (sv (unitS us))
 p:e=0→Sx.Pure Tryz.prog 23 [sv (unitS us)] (.tup [.sl false 2 (us.map Fac.cells),iv 0])
theorem law_all{xs:List Fac}{i:Nat}(hp:∀ j,j<i→LawF (xs.getD j default))(h:¬i<xs.length):∀ f∈xs,LawF f:=fun f hf=>by
 obtain⟨j,hj,rfl⟩:=List.mem_iff_getElem.1 hf
 have:=hp j (by omega)
 rwa [getD_eq hj]at this
theorem units_walk(ls xs us:List Fac)(n e:Int)(hx:xs=ls.take 6)(HH:xs≠[]→(∀ f∈xs,LawF f)→UnitsH xs us e):
  Sx.Pure Tryz.prog 8 [.sl false 2 (ls.map Fac.cells),iv n] (.v (.bool true)):=by
 have hl6:xs.length≤6:=by rw[hx,List.length_take];omega
 refine Pure.runk (fun _=>0) Tryz.func8 comp8 era8 (Nat.le_of_ble_eq_true rfl) fun σ=> ?_
 repeat'(first|exact .nil|refine .k0 ?_|refine .k1 ?_|refine .k2 ?_|refine .k6 ?_|refine .k7 ?_|refine .k9 ?_|(refine .cd ?_ ?_<;>(intro hc;skip))|refine .r1 ?_ ?_|(refine .m2 ?_ ?_;intro hlen)|refine .t2 ?_ ?_ ?_|refine .an rfl (by intro hob;exact example_ok) ?_ ?_|fail)
 try any_goals(exact Zo)
 all_goals(try simp only[BL]at *)
 all_goals first|(show Sx.Fin _ _ _ _;(refine Sx.Fin.wk Zs ?_;repeat' first|exact .refl _|fail);done)|rw[show ls.take (Int.toNat 6)=xs from hx.symm]|rw[show ls=xs by(rw[hx,List.take_of_length_le (by omega)])]
 all_goals have hne:xs≠[]:=by(intro h0;rw[hx]at h0;have h1:ls=[]:=(by simpa using h0);subst h1;exact hc rfl)
 all_goals refine WK_loop (fun m rg σ'=>∃ i:Nat,i≤xs.length∧m=xs.length-i∧(∀ j,j<i→LawF (xs.getD j default))∧σ'=σ∧rg=[(5,.sl false 2 (xs.map Fac.cells)),(6,iv i)]) xs.length rfl ⟨_,_,Zr,Zs,0,Nat.zero_le _,rfl,fun j hj=>absurd hj (by omega),rfl,rfl⟩ ?_
 all_goals
  rintro m _ _ ⟨i,hi,hm,hp,rfl,rfl⟩
  by_cases hiu:i<xs.length
 all_goals first|have hi3:decide ((i:Int)<(xs.length:Int))=true:=decide_eq_true (by omega)|have hi3:decide ((i:Int)<(xs.length:Int))=false:=decide_eq_false (by omega)
 all_goals try(have H:=HH hne (law_all hp hiu);have hsz:=H.sz;by_cases he:e=0<;>first|have hee:(!decide (e=0))=false:=by simp[he]|have hee:(!decide (e=0))=true:=by simp[he])
 repeat'(first|exact .nil|refine .k0 ?_|refine .k1 ?_|refine .k2 ?_|refine .k3 ?_|refine .k4 ?_|refine .k6 ?_|refine .k7 ?_|refine .k8 ?_|refine .k9 ?_|(refine .cd ?_ ?_<;>(intro hc;first|exact kf hc (by assumption)|exact kt hc (by assumption)|skip))|refine .r1 ?_ ?_|(refine .l1 ?_;intro b)|(refine .m2 ?_ ?_;intro hlen)|refine .t1 ?_ ?_ ?_|refine .an rfl (by intro hob;first|exact name_ok _|exact H.fo|exact H.n|exact H.e0 he|exact H.e1 he|exact H.t0 he|exact H.t1 he|exact H.fu he|exact H.p he|exact usame_ok _ _|exact example_ok) ?_ ?_|refine .t7 ?_ ?_ ?_|fail)
 all_goals first|(intro h;simpa using h)|(intro _;exact⟨Int.natCast_nonneg _,of_decide_eq_true hi3⟩)|(simp only[app_sz,szl,List.size_toArray,List.length_cons,List.length_nil];omega)|(show Sx.Fin _ _ _ _;(refine Sx.Fin.wk Zs ?_;repeat' first|exact .refl _|fail);done)|(refine Sx.Fin.intro Zs (congrArg (fun b=>AV.v (.bool b)) ?_);simp;done)|skip
 all_goals
  refine⟨xs.length-(i+1),by omega,_,_,Zr,Zs,i+1,by omega,rfl,cons_lt hp ?_,rfl,by rw[up1 (n:=xs.length) (by omega) (by unfold maxLen;omega)]⟩
  simp only[Int.toNat_natCast,Bool.or_eq_false_iff,Bool.not_eq_false',decide_eq_true_eq,decide_eq_false_iff_not]at hc
  exact⟨hc.1.1,by omega,by omega⟩
theorem sv_size(f:Fac)(h:LawF f):FacW f:=⟨h.1.1.2.1,by have:=h.2;omega,by have:=h.2;omega⟩
theorem itoa_bytes(n:Int):(itoaS n).data.toList=if n<0 then 45::Lib.decDigits n.natAbs else Lib.decDigits n.natAbs:=by
 unfold itoaS
 by_cases h:n<0
 ·obtain⟨d,rfl⟩:∃ d:Nat,n= -(d:Int):=⟨n.natAbs,by omega⟩
  rw[if_pos h,Lib.itoa_neg d (by omega),Int.natAbs_neg,Int.natAbs_natCast]
 ·obtain⟨d,rfl⟩:∃ d:Nat,n=(d:Int):=⟨n.toNat,by omega⟩
  rw[if_neg h,Lib.itoa_nonneg,Int.natAbs_natCast]
theorem facP_bytes(f:Fac):pcS (pcs (facP f))=(facS f).data.toList:=by
 rw[facS_bytes]
 unfold facP
 by_cases h:f.exp=1
 ·rw[if_pos h,if_pos h]
  show f.name.data.toList++[]=_
  rfl
 ·rw[if_neg h,if_neg h,itoa_bytes]
  by_cases h2:f.exp<0
  ·rw[if_pos h2,if_pos h2]
   show f.name.data.toList++([94]++([45]++(Lib.decDigits f.exp.natAbs++[])))=_
   simp
  ·rw[if_neg h2,if_neg h2]
   show f.name.data.toList++([94]++(Lib.decDigits f.exp.natAbs++[]))=_
   simp
theorem inter_cons(a b:Bs)(l:List Bs):[42].intercalate (a::b::l)=a++42::[42].intercalate (b::l):=by simp[List.intercalate,List.intersperse]
theorem facsP_bytes:∀ l:List Fac,pcS (pcs (facsP l))=(unitS l).data.toList
 |[]=>rfl
 |[f]=>by
  have:(unitS [f]).data.toList=(facS f).data.toList:=by
   show[42].intercalate [(facS f).data.toList]=_
   simp[List.intercalate]
  rw[this];exact facP_bytes f
 |f::g::l=>by
  have e:(unitS (f::g::l)).data.toList=(facS f).data.toList++42::(unitS (g::l)).data.toList:=by
   exact inter_cons _ _ _
  have e2:pcs (facsP (f::g::l))=pcs (facP f)++(.inr (tS 42)::pcs (facsP (g::l))):=by simp[facsP,pcs]
  rw[e,e2,pcS_app,facP_bytes]
  show _++([42]++pcS (pcs (facsP (g::l))))=_
  rw[facsP_bytes (g::l)];rfl
theorem unitB_bytes(l:List Fac):pcS (pcs (unitB l))=91::((unitS l).data.toList++[93]):=by
 have e:pcs (unitB l)= .inr (tS 91)::(pcs (facsP l)++[.inr (tS 93)]):=by simp[unitB]
 rw[e]
 show[91]++pcS (pcs (facsP l)++[.inr (tS 93)])=_
 rw[pcS_app,facsP_bytes];rfl
theorem str3(a b c d:Str):(a++(b++c++d)).data.toList=a.data.toList++(b.data.toList++c.data.toList++d.data.toList):=by simp
theorem lit_bytes(l:List Fac):((⟨#[55,32]⟩:Str)++((⟨#[91]⟩:Str)++unitS l++(⟨#[93]⟩:Str))).data.toList=litS l:=by
 unfold litS
 rw[str3,unitB_bytes];rfl
theorem typ_bytes(l:List Fac):((⟨#[100,101,99,32]⟩:Str)++((⟨#[91]⟩:Str)++unitS l++(⟨#[93]⟩:Str))).data.toList=typS l:=by
 unfold typS
 rw[str3,unitB_bytes];rfl
theorem unitErr_all{u:List Fac}(h:unitErr u=0):u.length≤4∧∀ f∈u,FacV f:=by
 unfold unitErr at h
 split at h
 ·cases h
 ·exact⟨by omega,fun f hf=>(unit_valid h f hf).1⟩
theorem norm_valid(l:List Fac)(hw:∀ f∈l,Word f.name)(h:(normU l).2=0):unitErr (normU l).1=0:=by
 have key:∀ (u:List Fac) (p:Option Str),(∀ f∈u,Word f.name∧f.exp≠0∧-8≤f.exp∧f.exp≤8)→Srt (u.map Fac.name)→(∀ q,p=some q→∀ f∈u,sLt q f.name=true)→unitErrL p u=0:=fun u=>by
  induction u with
  |nil=>intro _ _ _ _;rfl
  |cons f u ih=>
   intro p h1 h2 h3
   obtain⟨k1,k2,k3,k4⟩:=h1 f List.mem_cons_self
   have hs:=List.pairwise_cons.1 h2
   have hf:facErr p f=0:=by
    unfold facErr
    rw[if_neg (fun h=>h k1),if_neg (by omega)]
    cases p with
    |none=>rfl
    |some q=>
     have hq:=h3 q rfl f List.mem_cons_self
     have hl:leS f.name q=false:=by
      unfold leS
      rw[Bool.or_eq_false_iff]
      refine⟨sLt_asymm hq,decide_eq_false fun e=> ?_⟩
      rw[e,sLt_irrefl]at hq;cases hq
     simp only[hl];rfl
   rw[unitErrL,if_pos hf]
   refine ih _ (fun g hg=>h1 g (List.mem_cons_of_mem _ hg)) hs.2 fun q hq g hg=> ?_
   cases hq
   exact hs.1 g.name (List.mem_map_of_mem hg)
 have hsort:=sortL_srt (l.map Fac.name)
 have hmem:∀ n∈sortL (l.map Fac.name),Word n:=fun n hn=>by
  obtain⟨f,hf,rfl⟩:=List.mem_map.1 (sortL_mem.1 hn)
  exact hw f hf
 unfold normU at h ⊢
 simp only at h ⊢
 generalize sortL (l.map Fac.name)=ns at *
 by_cases h1:∃ n∈ns,expU l n>8∨expU l n< -8
 ·rw[if_pos h1]at h;cases h
 rw[if_neg h1]at h ⊢
 by_cases h2:((ns.map fun n=>(⟨n,expU l n⟩:Fac)).filter fun f=>decide (f.exp≠0)).length>4
 ·rw[if_pos h2]at h;cases h
 rw[if_neg h2]
 unfold unitErr
 rw[if_neg h2]
 refine key _ none (fun f hf=> ?_) ?_ fun q hq=>by cases hq
 ·obtain⟨hf1,hf2⟩:=List.mem_filter.1 hf
  obtain⟨n,hn,rfl⟩:=List.mem_map.1 hf1
  refine⟨hmem n hn,by simpa using hf2,?_⟩
  have:¬(expU l n>8∨expU l n< -8):=fun e=>h1 ⟨n,hn,e⟩
  exact⟨by show -8≤expU l n;omega,by show expU l n≤8;omega⟩
 ·have hsub:(((ns.map fun n=>(⟨n,expU l n⟩:Fac)).filter fun f=>decide (f.exp≠0)).map Fac.name).Sublist ns:=by
   have:=(List.filter_sublist (l:=ns.map fun n=>(⟨n,expU l n⟩:Fac)) (p:=fun f=>decide (f.exp≠0))).map Fac.name
   rwa [List.map_map,show(Fac.name ∘ fun n=>(⟨n,expU l n⟩:Fac))=id from rfl,List.map_id]at this
  exact hsort.sublist hsub
theorem exZ_wk:WkL zE exZ:=by
 refine .cons (.refl _) (.cons (.refl _) (.cons (.refl _) (.cons (.refl _) (.cons (.refl _) (.cons (.refl _) (.cons (.refl _) (.cons .nil (.cons (.refl _) (.cons (.refl _) (.cons (.refl _) (.cons .nil .nil)))))))))))
theorem units_law(ls:List Fac)(n:Int)(hl:ls.length≤maxLen):Sx.Pure Tryz.prog 8 [.sl false 2 (ls.map Fac.cells),iv n] (.v (.bool true)):=by
 refine units_walk ls (ls.take 6) (normU (ls.take 6)).1 n (normU (ls.take 6)).2 rfl fun hne hok=> ?_
 have hl6:(ls.take 6).length≤6:=by rw[List.length_take];omega
 generalize ls.take 6=xs at *
 have hW:∀ f∈xs,FacW f:=fun f hf=>sv_size f (hok f hf)
 have hw:∀ f∈xs,Word f.name:=fun f hf=>(hok f hf).1.1
 have hN:∀ f∈xs,Name f.name∧f.exp.natAbs≤1000:=fun f hf=>⟨(hok f hf).1,by have:=(hok f hf).2;omega⟩
 have hsz:(unitS xs).size≤1000:=unit_len hW (by omega)
 have hbl:(unitS xs).data.toList.length≤1000:=hsz
 obtain⟨T1,q1,t1,p1⟩:=lit_core xs hne hN (by omega)
 obtain⟨T2,q2,t2,p2⟩:=typ_core xs hne hN (by omega)
 have l1:(litS xs).length≤16384:=by
  unfold litS;rw[unitB_bytes];simp only[List.length_cons,List.length_append,List.length_nil];omega
 have l2:(typS xs).length≤16384:=by
  unfold typS;rw[unitB_bytes];simp only[List.length_cons,List.length_append,List.length_nil];omega
 have b1:wholeB (exprP N0 false) (litS xs)=if(normU xs).2≠0 then((2,(normU xs).2),none)else((0,0),some (litE ⟨2,7,⟨#[]⟩⟩ (normU xs).1 ⟨#[]⟩)):=by
  unfold wholeB
  rw[if_neg (by omega),t1]
  simp only
  rw[p1]
  by_cases hu:(normU xs).2≠0
  ·rw[if_pos hu,if_pos hu]
  ·rw[if_neg hu,if_neg hu]
   simp[pcT,hd]
 have b2:wholeB kindP (typS xs)=if(normU xs).2≠0 then((4,(normU xs).2),none)else((0,0),some ⟨3,(normU xs).1,⟨#[]⟩⟩):=by
  unfold wholeB
  rw[if_neg (by omega),t2]
  simp only
  rw[p2]
  by_cases hu:(normU xs).2≠0
  ·rw[if_pos hu,if_pos hu]
  ·rw[if_neg hu,if_neg hu]
   simp[pcT,hd]
 have hE:=exprA (litS xs) true
 have hT:=typeA (typS xs) true
 unfold exprV at hE
 unfold typeV at hT
 rw[b1]at hE
 rw[b2]at hT
 have hval:∀ h:(normU xs).2=0,unitErr (normU xs).1=0:=norm_valid xs hw
 refine⟨hsz,unitF_ok xs hW (by omega),normal_ok xs hw (fun f hf=>by have:=(hok f hf).2;omega) (by omega),fun h=> ?_,fun h=> ?_,fun h=> ?_,fun h=> ?_,fun h=> ?_,fun h=>uparse_ok _ (hval h)⟩
 ·rw[lit_bytes]
  rw[if_neg (show¬(normU xs).2≠0 from fun k=>k h),if_pos (by rfl)]at hE
  exact hE
 ·rw[lit_bytes]
  rw[if_pos (show(normU xs).2≠0 from h),if_neg h]at hE
  exact Pure.wkr hE (.tup (.cons (.agg exZ_wk) (WkL.refl _)))
 ·rw[typ_bytes]
  rw[if_neg (show¬(normU xs).2≠0 from fun k=>k h),if_pos (by rfl)]at hT
  exact hT
 ·rw[typ_bytes]
  rw[if_pos (show(normU xs).2≠0 from h),if_neg h]at hT
  exact Pure.wkr hT (.tup (.cons (.agg (.cons (.refl _) (.cons .nil (.cons (.refl _) .nil)))) (WkL.refl _)))
 ·have hv:=unitErr_all (hval h)
  exact unitF_ok _ (fun f hf=>⟨(hv.2 f hf).word.2.1,by have:=(hv.2 f hf).bd;omega,by have:=(hv.2 f hf).bd;omega⟩) (by omega)
section
variable {H:Type}{enc:TypeId×Value→H}{W:World}
theorem rd_str(n:Nat):Rd enc Tryz.prog W n 9 fun l=>∃ s:Str,l=[sv s]∧s.size≤reachBytes:=Rd.str Tryz.underlying9
theorem rd_fac:∀ n:Nat,Rd enc Tryz.prog W n 67 fun l=>∃ f:Fac,l=f.cells
 |0=>Rd.zero _ _
 |n+1=>(Rd.struct Tryz.underlying67 (by kernel_rfl) (.cons (rd_str n) (.cons (rd_int n) .nil))).mono (by
  rintro _ ⟨_,_,rfl,⟨a,rfl,_⟩,_,_,rfl,⟨b,rfl⟩,rfl⟩
  exact⟨⟨a,b⟩,rfl⟩)
theorem rd_facs:∀ n:Nat,Rd enc Tryz.prog W n 33 fun l=>∃ u:List Fac,l=[.sl false 2 (u.map Fac.cells)]∧u.length≤maxLen
 |0=>Rd.zero _ _
 |n+1=>(Rd.slice Tryz.underlying33 (esz:=2) (by kernel_rfl) (by decide) (rd_fac n)).mono (by
  rintro _ ⟨rows,rfl,hm,h⟩
  obtain⟨ls,rfl,_⟩:=rows_map (f:=Fac.cells) (W:=fun _=>True) (fun r hr=>by obtain⟨x,h⟩:=h r hr;exact⟨x,h,trivial⟩)
  exact⟨ls,rfl,by simpa using hm⟩)
end
end Go.Proofs.YtdcpcffpapiadaaGreatDoor
namespace Go.Proofs.YtdcpcffpapiadaaGreatDoor.parserUnits
open Go.ChangeShapes Go.WideShapes Go.ChangeAt Go.RowKit Go.Sx Go.Proofs
theorem wrap{H:Type}{enc:TypeId×Value→H}{a:Assume}{C:Checked}{os:Os}{f:FuncId}{fn:Func}{s:ChangeSpec}{conds:List PathCond}{apart fresh handsOn again:Bool}{X:World→Array Value→Prop}
  (hX:∀ (w w':World) (args:Array Value),w.heap=w'.heap→X w args→X w' args)
  (own:ownKnob C.prog.godebug=none) (started:os.Started) (noInit:C.prog.inits.idxOf? f=none) (hfn:C.prog.funcs[f]? =some fn)
  (witness:∃ (w:World) (tape:Tape) (i:Input),w.os=os∧(w.forCall tape i).Shaped C.prog∧i.vars=[]∧Input.okWide C.prog (w.forCall tape i) .any w.heap.size f i∧
   ((s.pre enc C.prog fn conds apart (w.forCall tape i).memory i.args∧X (w.forCall tape i).memory i.args)∧sizedMet enc C.prog fn (OpenSpec.ofChange s) apart (w.forCall tape i).memory i.args)∧a.holds C.prog (lone (Frame.enter C.prog f i.args .normal) [] (w.forCall tape i)))
  (contract:∀ (W:World) (base:Nat) (args:Array Value) (ds gs:List (DataW H)) (before:List MemPlace),
   (∀ (j:Nat) t v,fn.params[j]? =some t→args[j]? =some v→Value.okWide C.prog W .any base t v)→
   DataW.Whole enc C.prog fn.params.toList s.vars apart W args.toList ds gs before→
   (DataW.weightsEach C.prog (fn.params.toList++s.plain.varTypes C.prog) (ds++gs)).all (·≤reachBytes)=true→X W args→W.ShapedOpen C.prog→
   Calls C.prog f args W fun e W'=>∃ v,e= .returned v∧s.post enc C.prog fn apart fresh handsOn again W args v W'):
  ReturnsInHanded a C os f .any (fun w args=>(s.pre enc C.prog fn conds apart w args∧X w args)∧sizedMet enc C.prog fn (OpenSpec.ofChange s) apart w args) (s.post enc C.prog fn apart fresh handsOn again):=by
 refine returnsInHanded_of_calls own started noInit witness ?_
 intro w tape i _ hsh _ hok hpre hholds
 obtain⟨_,_,_,fn',hfn',_,_,_,_,hval⟩:=hok
 have e:fn'=fn:=Option.some.inj (hfn'.symm.trans hfn)
 subst e
 obtain⟨⟨⟨ds,gs,before,hw,hc⟩,hx⟩,hz⟩:=hpre
 have hw':=DataW.Whole.of_heap (w':=w.forCall tape i) (by rfl) hw
 refine(contract (w.forCall tape i) w.heap.size i.args ds gs before hval hw' (hz.weights hw) (hX _ _ _ (by rfl) hx) hsh).mono fun e W' ⟨v,he,hp⟩=> ?_
 subst he
 exact ChangeSpec.post_blind hp
set_option maxRecDepth 100000 in
theorem lifted(os:Os)(started:os.Started)(H:Type)(enc:TypeId×Value→H):
  ReturnsInHanded {} Tryz.checked os 8 .any (fun w args=>(Rows.parserUnitsSpec.pre enc Tryz.prog Tryz.f8 [] false w args∧laidMetH Tryz.prog Rows.parserUnitsRow.laid w)∧sizedMet enc Tryz.prog Tryz.f8 (OpenSpec.ofChange Rows.parserUnitsSpec) false w args)
   (Rows.parserUnitsSpec.post enc Tryz.prog Tryz.f8 false true false false):=by
 refine wrap (C:=Tryz.checked) (X:=fun w _=>laidMetH Tryz.prog Rows.parserUnitsRow.laid w) (fun _ _ _ hh h=>h.of_heap hh) own started (by kernel_rfl) Tryz.func8
  (ChangeSpec.witness_shaped (enc:=enc) (C:=Tryz.checked) (os:=os) (X:=fun w _=>laidMetH Tryz.prog Rows.parserUnitsRow.laid w) false (World.laidAll Tryz.prog os Rows.parserUnitsRow.laid) #[.slice none 0 0,.int .i64 0] 8 (World.laidAll_os _ _ _)
   (World.shaped_of_ZipB (by kernel_rfl) (by kernel_rfl)) (by kernel_rfl) (by kernel_rfl) (by kernel_rfl)
   (by rw[MakeChecks.laidMetH_plain _ _ _ (by kernel_rfl)];exact laidMet_laidAll _ (by kernel_rfl) (by kernel_rfl))) ?_
 intro W base args ds gs before hval0 hW hsz hL hsh
 rw[MakeChecks.laidMetH_plain _ _ _ (by kernel_rfl)]at hL
 have hval:∀ (j:Nat) t v,Tryz.f8.params[j]? =some t→args[j]? =some v→Value.okWide Tryz.prog W .any base t v:=hval0
 have hW':=hW
 obtain⟨p,q,hA0,hV,rfl,_,_⟩:=hW
 have hA:DataW.TrodAll enc Tryz.prog W 0 (fun _=>true) true Tryz.f8.params.toList args.toList ds p:=hA0
 have hz0:∀ (j:Nat) t d,Tryz.f8.params.toList[j]? =some t→ds[j]? =some d→Wok Tryz.prog t d:=fun j t d ht hd n hn=>by
  have hl1:j<Tryz.f8.params.toList.length:=(List.getElem?_eq_some_iff.1 ht).1
  have hl2:j<ds.length:=(List.getElem?_eq_some_iff.1 hd).1
  have:=List.all_eq_true.1 hsz n (DataW.weights_mem_each (j:=j) (by rw[List.getElem?_append_left hl1];exact ht) (by rw[List.getElem?_append_left hl2];exact hd) n hn)
  simpa using this
 rw[Tryz.params8]at hA hval hz0
 obtain⟨v0,vs0,d0,ds0,p0,q0,hargs,rfl,rfl,h0,r0⟩:=trodAll_cons hA
 obtain⟨v1,vs1,d1,ds1,p1,q1,rfl,rfl,rfl,h1,r1⟩:=trodAll_cons r0
 obtain⟨rfl,rfl,rfl⟩:=trodAll_nil r1
 obtain rfl:args= #[v0,v1]:=by cases args;simp_all
 obtain⟨rfl,rfl⟩:=trodVars_none hV
 obtain⟨_,g0,l,e0,hl⟩:=arg_one (by kernel_rfl) (hval 0 _ v0 rfl rfl) h0 (hz0 0 _ d0 rfl rfl) rd_facs
 cases e0
 obtain⟨_,g1,n,e1⟩:=arg_one (by kernel_rfl) (hval 1 _ v1 rfl rfl) h1 (hz0 1 _ d1 rfl rfl) rd_int
 cases e1
 refine(Pure.calls (units_law l n hl) (globOK hL hsh) (RL.cons g0 (RL.cons g1 RL.nil))).mono fun e W' ⟨he,hb⟩=> ?_
 subst he
 exact⟨_,rfl,post_true laidOut (by kernel_rfl) rfl ⟨rfl,rfl,rfl⟩ rfl Tryz.underlying4 hW' hb⟩
theorem over:Rows.parserUnitsRow.holds Tryz.pinned (OpenSpec.ofChange Rows.parserUnitsSpec):=
 OpenClaim.holds_of_wide 8 Tryz.f8 rfl rfl rfl rfl rfl rfl rfl ⟨rfl,rfl,rfl,rfl,rfl⟩ rfl rfl rfl rfl rfl (by kernel_rfl) Tryz.func8 (by kernel_rfl)
  (of_decide_eq_true (by kernel_rfl)) (by unfold Func.isWrapper;first|(rw[if_pos (by decide+kernel)];kernel_rfl)|(rw[if_neg (by decide+kernel)];exact⟨rfl,rfl⟩))
  (fun os started H enc _=>lifted os started H enc)
theorem proved:Rows.ParserUnitsCardSaid:=
 Claim7.holds_tied_plain_at .later [] [.data,.data,.data,.data,.sentinel,.sentinel,.data,.pinned] true (true, "76423096e73d39dfa473cfe6342f6749cbc65ada8e362117fc4b3dcaca5d36b5") true over (fun _ h=>by cases h) (by kernel_rfl) (fun _ h=>by cases h) parserUnits_row_tie rfl ⟨rfl,rfl⟩ (by kernel_rfl) rfl
  (fun f fn hf hfn=>by
   obtain rfl:f=8:=Option.some.inj ((show Tryz.prog.funcNamed "asof/asoflaw09.ParserUnits" =some 8 by kernel_rfl).symm.trans hf) |>.symm
   obtain rfl:fn=Tryz.f8:=(Option.some.inj (Tryz.func8.symm.trans hfn)).symm
   exact⟨by kernel_rfl,fun j t ht=>by
    rw[Tryz.params8]at ht
    have hm:t∈[33,3]:=by simpa using Array.mem_of_getElem? ht
    have hall:([33,3].all fun u=> !Tryz.prog.wantsStandIn u)=true:=by kernel_rfl
    exact(show Tryz.prog.wantsStandIn t=false by simpa using List.all_eq_true.1 hall t hm)⟩)
  (by kernel_rfl)
end Go.Proofs.YtdcpcffpapiadaaGreatDoor.parserUnits
