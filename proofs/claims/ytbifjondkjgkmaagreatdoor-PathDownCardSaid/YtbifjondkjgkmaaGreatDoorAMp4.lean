/- The texts of the proof, one behind the other: Laid, W0, Ae31, Ae35, Ae36, X, XIns, W1, XNew, W2, Ae37, Ae38, XEnd. -/
import Derived.Shelf.LaysM
import Derived.Shelf.LaysC
import Derived.Shelf.Strings.Builder1
import Derived.Shelf.Strings.OnBuilder
import Derived.Shelf.Strings.Replace
import Derived.Test.YtbifjondkjgkmaaGreatDoorProg
import Derived.Test.YtbifjondkjgkmaaGreatDoorAMp2
import Derived.Maps.OwnIn
import Derived.Handy
import Derived.Great.Walk
import Derived.Shelf.Spec.SlicesInsert
import Derived.Lib.AppendZerosOnto
import Derived.Laws.NewBlocks
import Derived.Laws.CopyOwn
import Derived.RangeFuncNested
import Derived.RangeFuncBound
import Derived.RangeFuncCalls
import Derived.RangeFuncLeaves
import Derived.OrdersIn
import Derived.RangeFuncBox
import Derived.OwnWalkIn
import Derived.TacticsInMore
import Derived.LoopNIn
import Derived.LoopIn
namespace Go.Proofs
open Go.Shelf
def Tryz.lays156_ren:Go.Shelf.Ren:=⟨fun|156=>97|165=>128|166=>129|169=>130|240=>161|241=>162|276=>213|277=>214|n=>n,fun|31=>88|9=>9|3=>3|4=>4|0=>0|20=>20|72=>181|76=>183|70=>179|37=>110|75=>158|127=>202|164=>229|5=>5|80=>150|n=>n,fun|n=>n⟩
theorem Tryz.lays156:Go.Proofs.Lays.n156 Tryz.prog Tryz.lays156_ren:={
 mixed:=by kernel_rfl
 f156:=Tryz.func97.trans (congrArg some (by kernel_rfl))
 f165:=Tryz.func128.trans (congrArg some (by kernel_rfl))
 f166:=Tryz.func129.trans (congrArg some (by kernel_rfl))
 f169:=Tryz.func130.trans (congrArg some (by kernel_rfl))
 f240:=Tryz.func161.trans (congrArg some (by kernel_rfl))
 f241:=Tryz.func162.trans (congrArg some (by kernel_rfl))
 f276:=Tryz.func213.trans (congrArg some (by kernel_rfl))
 f277:=Tryz.func214.trans (congrArg some (by kernel_rfl))
 t0:=Tryz.underlying0
 a0:=Tryz.isAgg0
 z0:=Tryz.sizeOf0
 v0:=Tryz.zeroValue0
 t3:=Tryz.underlying3
 a3:=Tryz.isAgg3
 z3:=Tryz.sizeOf3
 v3:=Tryz.zeroValue3
 t4:=Tryz.underlying4
 a4:=Tryz.isAgg4
 z4:=Tryz.sizeOf4
 v4:=Tryz.zeroValue4
 t9:=Tryz.underlying9
 a9:=Tryz.isAgg9
 z9:=Tryz.sizeOf9
 v9:=Tryz.zeroValue9
 t20:=Tryz.underlying20
 a20:=Tryz.isAgg20
 z20:=Tryz.sizeOf20
 v20:=Tryz.zeroValue20
 t31:=Tryz.underlying88
 a31:=Tryz.isAgg88
 z31:=Tryz.sizeOf88
 v31:=Tryz.zeroValue88
 t37:=Tryz.underlying110
 a37:=Tryz.isAgg110
 z37:=Tryz.sizeOf110
 v37:=Tryz.zeroValue110
 t70:=Tryz.underlying179
 a70:=Tryz.isAgg179
 z70:=Tryz.sizeOf179
 v70:=Tryz.zeroValue179
 t72:=Tryz.underlying181
 a72:=Tryz.isAgg181
 z72:=Tryz.sizeOf181
 v72:=Tryz.zeroValue181
 t75:=Tryz.underlying158
 a75:=Tryz.isAgg158
 z75:=Tryz.sizeOf158
 v75:=Tryz.zeroValue158
 t76:=Tryz.underlying183
 a76:=Tryz.isAgg183
 z76:=Tryz.sizeOf183
 v76:=Tryz.zeroValue183
 t127:=Tryz.underlying202
 a127:=Tryz.isAgg202
 z127:=Tryz.sizeOf202
 v127:=Tryz.zeroValue202
 t164:=Tryz.underlying229
 a164:=Tryz.isAgg229
 z164:=Tryz.sizeOf229
 v164:=Tryz.zeroValue229 }
theorem Tryz.Builder_Extra_156:Builder.Extra Tryz.prog Tryz.lays156_ren:={
 sizeBuilder:=by kernel_rfl
 liesBuilder:=by kernel_rfl
 t5:=Tryz.underlying5
 a5:=Tryz.isAgg5
 z5:=Tryz.sizeOf5
 v5:=Tryz.zeroValue5
 infoByte:=by kernel_rfl
 cellsByte:=by kernel_rfl
 sizeByte:=by kernel_rfl
 neB5:=by decide }
def Tryz.lays155_ren:Go.Shelf.Ren:=⟨fun|155=>123|154=>153|138=>138|165=>128|143=>139|166=>129|197=>172|169=>130|195=>171|218=>173|240=>161|241=>162|219=>164|260=>221|276=>213|277=>214|217=>131|225=>215|224=>216|267=>217|266=>163|314=>240|n=>n,fun|9=>9|3=>3|4=>4|72=>181|0=>0|76=>183|105=>207|21=>21|5=>5|70=>179|20=>20|37=>110|75=>158|127=>202|164=>229|46=>117|119=>257|139=>260|138=>259|146=>252|51=>251|80=>150|n=>n,fun|1=>0|3=>3|4=>4|n=>n⟩
theorem Tryz.lays155:Go.Proofs.Lays.n155 Tryz.prog Tryz.lays155_ren:={
 mixed:=by kernel_rfl
 f138:=Tryz.func138.trans (congrArg some (by kernel_rfl))
 f143:=Tryz.func139.trans (congrArg some (by kernel_rfl))
 f154:=Tryz.func153.trans (congrArg some (by kernel_rfl))
 f155:=Tryz.func123.trans (congrArg some (by kernel_rfl))
 f165:=Tryz.func128.trans (congrArg some (by kernel_rfl))
 f166:=Tryz.func129.trans (congrArg some (by kernel_rfl))
 f169:=Tryz.func130.trans (congrArg some (by kernel_rfl))
 f195:=Tryz.func171.trans (congrArg some (by kernel_rfl))
 f197:=Tryz.func172.trans (congrArg some (by kernel_rfl))
 f217:=Tryz.func131.trans (congrArg some (by kernel_rfl))
 f218:=Tryz.func173.trans (congrArg some (by kernel_rfl))
 f219:=Tryz.func164.trans (congrArg some (by kernel_rfl))
 f224:=Tryz.func216.trans (congrArg some (by kernel_rfl))
 f225:=Tryz.func215.trans (congrArg some (by kernel_rfl))
 f240:=Tryz.func161.trans (congrArg some (by kernel_rfl))
 f241:=Tryz.func162.trans (congrArg some (by kernel_rfl))
 f260:=Tryz.func221.trans (congrArg some (by kernel_rfl))
 f266:=Tryz.func163.trans (congrArg some (by kernel_rfl))
 f267:=Tryz.func217.trans (congrArg some (by kernel_rfl))
 f276:=Tryz.func213.trans (congrArg some (by kernel_rfl))
 f277:=Tryz.func214.trans (congrArg some (by kernel_rfl))
 f314:=Tryz.func240.trans (congrArg some (by kernel_rfl))
 t0:=Tryz.underlying0
 a0:=Tryz.isAgg0
 z0:=Tryz.sizeOf0
 v0:=Tryz.zeroValue0
 t3:=Tryz.underlying3
 a3:=Tryz.isAgg3
 z3:=Tryz.sizeOf3
 v3:=Tryz.zeroValue3
 t4:=Tryz.underlying4
 a4:=Tryz.isAgg4
 z4:=Tryz.sizeOf4
 v4:=Tryz.zeroValue4
 t5:=Tryz.underlying5
 a5:=Tryz.isAgg5
 z5:=Tryz.sizeOf5
 v5:=Tryz.zeroValue5
 t9:=Tryz.underlying9
 a9:=Tryz.isAgg9
 z9:=Tryz.sizeOf9
 v9:=Tryz.zeroValue9
 t20:=Tryz.underlying20
 a20:=Tryz.isAgg20
 z20:=Tryz.sizeOf20
 v20:=Tryz.zeroValue20
 t21:=Tryz.underlying21
 a21:=Tryz.isAgg21
 z21:=Tryz.sizeOf21
 v21:=Tryz.zeroValue21
 t37:=Tryz.underlying110
 a37:=Tryz.isAgg110
 z37:=Tryz.sizeOf110
 v37:=Tryz.zeroValue110
 t46:=Tryz.underlying117
 a46:=Tryz.isAgg117
 z46:=Tryz.sizeOf117
 v46:=Tryz.zeroValue117
 t51:=Tryz.underlying251
 a51:=Tryz.isAgg251
 z51:=Tryz.sizeOf251
 v51:=Tryz.zeroValue251
 t70:=Tryz.underlying179
 a70:=Tryz.isAgg179
 z70:=Tryz.sizeOf179
 v70:=Tryz.zeroValue179
 t72:=Tryz.underlying181
 a72:=Tryz.isAgg181
 z72:=Tryz.sizeOf181
 v72:=Tryz.zeroValue181
 t75:=Tryz.underlying158
 a75:=Tryz.isAgg158
 z75:=Tryz.sizeOf158
 v75:=Tryz.zeroValue158
 t76:=Tryz.underlying183
 a76:=Tryz.isAgg183
 z76:=Tryz.sizeOf183
 v76:=Tryz.zeroValue183
 t105:=Tryz.underlying207
 a105:=Tryz.isAgg207
 z105:=Tryz.sizeOf207
 v105:=Tryz.zeroValue207
 t119:=Tryz.underlying257
 a119:=Tryz.isAgg257
 z119:=Tryz.sizeOf257
 t127:=Tryz.underlying202
 a127:=Tryz.isAgg202
 z127:=Tryz.sizeOf202
 v127:=Tryz.zeroValue202
 t138:=Tryz.underlying259
 a138:=Tryz.isAgg259
 z138:=Tryz.sizeOf259
 v138:=Tryz.zeroValue259
 t139:=Tryz.underlying260
 a139:=Tryz.isAgg260
 z139:=Tryz.sizeOf260
 v139:=Tryz.zeroValue260
 t146:=Tryz.underlying252
 a146:=Tryz.isAgg252
 z146:=Tryz.sizeOf252
 v146:=Tryz.zeroValue252
 t164:=Tryz.underlying229
 a164:=Tryz.isAgg229
 z164:=Tryz.sizeOf229
 v164:=Tryz.zeroValue229
 g1:=by kernel_rfl
 g3:=by kernel_rfl
 g4:=by kernel_rfl }
theorem Tryz.Builder_Extra_155:Builder.Extra Tryz.prog Tryz.lays155_ren:={
 sizeBuilder:=by kernel_rfl
 liesBuilder:=by kernel_rfl
 t5:=Tryz.underlying5
 a5:=Tryz.isAgg5
 z5:=Tryz.sizeOf5
 v5:=Tryz.zeroValue5
 infoByte:=by kernel_rfl
 cellsByte:=by kernel_rfl
 sizeByte:=by kernel_rfl
 neB5:=by decide }
end Go.Proofs
set_option maxRecDepth 100000
set_option linter.unusedVariables false
namespace Go.Proofs.YtbifjondkjgkmaaGreatDoorA.W
open Go Go.Ae
abbrev LpF (A B:Type):=A→Option (A⊕B)
abbrev LqS:Type:=List UInt8
abbrev LqA:Type:=List ((Int×(Int×(Int×(Int×(Int×Int))))))
abbrev LqB:Type:=List ((Int×(Int×(Int×Int))))
abbrev LqC:Type:=List ((Int×(Int×Int)))
abbrev LqD:Type:=List ((Int×(LqS×Int)))
abbrev YqA:Ty:=(.pair (.int .i32) (.pair (.int .i32) (.pair (.int .i64) (.pair (.int .i64) (.pair (.int .i64) (.int .i64))))))
abbrev YqB:Ty:=(.pair (.int .i32) (.pair (.int .i32) (.pair (.int .i64) (.int .i64))))
abbrev YqC:Ty:=(.pair (.int .i32) (.pair (.int .i32) (.int .i32)))
abbrev YqD:Ty:=(.pair (.int .i64) (.pair .str (.int .i64)))
theorem frag_big {P:Program} {np:Nat} {run:(Exit→Act→World→Prop)→Act→World→Prop} {ins:List Sh} {os:Outs} {F:HS ins→Option (HS ins⊕OTy os)} {C:HS ins→Option (OTy os)} (h:FragOk P np run ⟨ins,os,fun v=>loopN F ((fun _=>big) v) v⟩) (e:loopN F big=C):FragOk P np run ⟨ins,os,C⟩:=e▸h
def Γl:List (Nat×TI):=[
 (1,⟨.func,1,8,none,[.nilf],false,false⟩),
 (2,⟨.int .i64,1,8,some (.int .i64),[.int .i64 0],false,false⟩),
 (3,⟨.int .i64,1,8,some (.int .i64),[.int .i64 0],false,false⟩),
 (4,⟨.bool,1,1,some (.bool),[.bool false],false,false⟩),
 (5,⟨.int .u8,1,1,some (.byte),[.int .u8 0],false,false⟩),
 (6,⟨.int .u8,1,1,some (.byte),[.int .u8 0],false,false⟩),
 (7,⟨.struct [(0,2),(1,3),(2,4),(3,6)],4,24,some (.pair (.int .i64) (.pair (.int .i64) (.pair .bool .byte))),[.int .i64 0,.int .i64 0,.bool false,.int .u8 0],false,false⟩),
 (8,⟨.struct [(0,2),(1,3),(2,4),(3,6)],4,24,some (.pair (.int .i64) (.pair (.int .i64) (.pair .bool .byte))),[.int .i64 0,.int .i64 0,.bool false,.int .u8 0],false,false⟩),
 (9,⟨.str,1,16,some (.str),[.str []],true,false⟩),
 (10,⟨.str,1,16,some (.str),[.str []],false,false⟩),
 (11,⟨.str,1,16,some (.str),[.str []],false,false⟩),
 (12,⟨.int .u64,1,8,some (.int .u64),[.int .u64 0],false,false⟩),
 (13,⟨.struct [(0,9),(1,12)],2,24,some (.pair .str (.int .u64)),[.str [],.int .u64 0],false,false⟩),
 (14,⟨.struct [(0,9),(1,12)],2,24,some (.pair .str (.int .u64)),[.str [],.int .u64 0],false,false⟩),
 (15,⟨.ptr 280,1,8,none,[.nilp],false,false⟩),
 (16,⟨.ptr 283,1,8,none,[.nilp],false,false⟩),
 (17,⟨.ptr 291,1,8,none,[.nilp],false,false⟩),
 (18,⟨.struct [(0,17)],1,8,none,[.nilp],false,false⟩),
 (19,⟨.struct [(0,17)],1,8,none,[.nilp],false,false⟩),
 (20,⟨.iface,1,16,none,[.nili],false,false⟩),
 (21,⟨.int .i32,1,4,some (.int .i32),[.int .i32 0],false,false⟩),
 (22,⟨.struct [(0,9),(1,9)],2,32,some (.pair .str .str),[.str [],.str []],false,false⟩),
 (23,⟨.struct [(0,9),(1,9)],2,32,some (.pair .str .str),[.str [],.str []],true,false⟩),
 (24,⟨.func,1,8,none,[.nilf],false,false⟩),
 (25,⟨.func,1,8,none,[.nilf],false,false⟩),
 (26,⟨.slice 100,1,24,some (.lst YqA),[.nils],false,false⟩),
 (27,⟨.slice 102,1,24,some (.lst YqB),[.nils],false,false⟩),
 (28,⟨.slice 104,1,24,some (.lst YqC),[.nils],false,false⟩),
 (29,⟨.map 21 68,1,8,none,[.nilm],false,false⟩),
 (30,⟨.map 70 21,1,8,none,[.nilm],false,false⟩),
 (31,⟨.struct [(0,26),(1,27),(2,28),(3,29),(4,30)],5,88,none,[.nils,.nils,.nils,.nilm,.nilm],false,false⟩),
 (32,⟨.struct [(0,26),(1,27),(2,28),(3,29),(4,30)],5,88,none,[.nils,.nils,.nils,.nilm,.nilm],false,false⟩),
 (33,⟨.func,1,8,none,[.nilf],false,false⟩),
 (34,⟨.func,1,8,none,[.nilf],false,false⟩),
 (35,⟨.int .i64,1,8,some (.int .i64),[.int .i64 0],false,false⟩),
 (36,⟨.func,1,8,none,[.nilf],false,false⟩),
 (37,⟨.func,1,8,none,[.nilf],false,false⟩),
 (39,⟨.func,1,8,none,[.nilf],false,false⟩),
 (40,⟨.func,1,8,none,[.nilf],false,false⟩),
 (41,⟨.struct [(0,4),(1,23)],3,40,some (.pair .bool (.pair .str .str)),[.bool false,.str [],.str []],false,false⟩),
 (42,⟨.struct [(0,4),(1,23)],3,40,some (.pair .bool (.pair .str .str)),[.bool false,.str [],.str []],true,false⟩),
 (43,⟨.func,1,8,none,[.nilf],false,false⟩),
 (45,⟨.func,1,8,none,[.nilf],false,false⟩),
 (46,⟨.func,1,8,none,[.nilf],false,false⟩),
 (47,⟨.func,1,8,none,[.nilf],false,false⟩),
 (48,⟨.func,1,8,none,[.nilf],false,false⟩),
 (49,⟨.struct [(0,4),(1,4),(2,3)],3,16,some (.pair .bool (.pair .bool (.int .i64))),[.bool false,.bool false,.int .i64 0],false,false⟩),
 (50,⟨.struct [(0,4),(1,4),(2,3)],3,16,some (.pair .bool (.pair .bool (.int .i64))),[.bool false,.bool false,.int .i64 0],true,false⟩),
 (51,⟨.struct [(0,42),(3,42),(6,4),(7,4),(8,3)],9,96,some (.pair (.pair .bool (.pair .str .str)) (.pair (.pair .bool (.pair .str .str)) (.pair .bool (.pair .bool (.int .i64))))),[.bool false,.str [],.str [],.bool false,.str [],.str [],.bool false,.bool false,.int .i64 0],false,false⟩),
 (52,⟨.struct [(0,42),(3,42),(6,4),(7,4),(8,3)],9,96,some (.pair (.pair .bool (.pair .str .str)) (.pair (.pair .bool (.pair .str .str)) (.pair .bool (.pair .bool (.int .i64))))),[.bool false,.str [],.str [],.bool false,.str [],.str [],.bool false,.bool false,.int .i64 0],false,false⟩),
 (53,⟨.func,1,8,none,[.nilf],false,false⟩),
 (54,⟨.struct [(0,3),(1,42),(4,42),(7,4),(8,4),(9,3)],10,104,some (.pair (.int .i64) (.pair (.pair .bool (.pair .str .str)) (.pair (.pair .bool (.pair .str .str)) (.pair .bool (.pair .bool (.int .i64)))))),[.int .i64 0,.bool false,.str [],.str [],.bool false,.str [],.str [],.bool false,.bool false,.int .i64 0],false,false⟩),
 (55,⟨.struct [(0,3),(1,42),(4,42),(7,4),(8,4),(9,3)],10,104,some (.pair (.int .i64) (.pair (.pair .bool (.pair .str .str)) (.pair (.pair .bool (.pair .str .str)) (.pair .bool (.pair .bool (.int .i64)))))),[.int .i64 0,.bool false,.str [],.str [],.bool false,.str [],.str [],.bool false,.bool false,.int .i64 0],true,false⟩),
 (56,⟨.func,1,8,none,[.nilf],false,false⟩),
 (57,⟨.func,1,8,none,[.nilf],false,false⟩),
 (58,⟨.func,1,8,none,[.nilf],false,false⟩),
 (60,⟨.func,1,8,none,[.nilf],false,false⟩),
 (61,⟨.func,1,8,none,[.nilf],false,false⟩),
 (62,⟨.func,1,8,none,[.nilf],false,false⟩),
 (63,⟨.func,1,8,none,[.nilf],false,false⟩),
 (64,⟨.func,1,8,none,[.nilf],false,false⟩),
 (65,⟨.slice 68,1,24,some (.lst (.pair (.int .i32) (.pair (.int .i32) (.pair (.int .i32) (.pair .bool .bool))))),[.nils],false,false⟩),
 (66,⟨.func,1,8,none,[.nilf],false,false⟩),
 (67,⟨.struct [(0,21),(1,21),(2,21),(3,4),(4,4)],5,16,some (.pair (.int .i32) (.pair (.int .i32) (.pair (.int .i32) (.pair .bool .bool)))),[.int .i32 0,.int .i32 0,.int .i32 0,.bool false,.bool false],false,false⟩),
 (68,⟨.struct [(0,21),(1,21),(2,21),(3,4),(4,4)],5,16,some (.pair (.int .i32) (.pair (.int .i32) (.pair (.int .i32) (.pair .bool .bool)))),[.int .i32 0,.int .i32 0,.int .i32 0,.bool false,.bool false],false,false⟩),
 (69,⟨.struct [(0,21),(1,21)],2,8,some (.pair (.int .i32) (.int .i32)),[.int .i32 0,.int .i32 0],false,false⟩),
 (70,⟨.struct [(0,21),(1,21)],2,8,some (.pair (.int .i32) (.int .i32)),[.int .i32 0,.int .i32 0],false,false⟩),
 (72,⟨.func,1,8,none,[.nilf],false,false⟩),
 (73,⟨.func,1,8,none,[.nilf],false,false⟩),
 (74,⟨.func,1,8,none,[.nilf],false,false⟩),
 (75,⟨.slice 21,1,24,some (.lst (.int .i32)),[.nils],false,true⟩),
 (77,⟨.func,1,8,none,[.nilf],false,false⟩),
 (78,⟨.func,1,8,none,[.nilf],false,false⟩),
 (79,⟨.func,1,8,none,[.nilf],false,false⟩),
 (80,⟨.slice 84,1,24,some (.lst YqD),[.nils],false,false⟩),
 (82,⟨.func,1,8,none,[.nilf],false,false⟩),
 (83,⟨.struct [(0,3),(1,9),(2,3)],3,32,some YqD,[.int .i64 0,.str [],.int .i64 0],false,false⟩),
 (84,⟨.struct [(0,3),(1,9),(2,3)],3,32,some YqD,[.int .i64 0,.str [],.int .i64 0],false,false⟩),
 (85,⟨.func,1,8,none,[.nilf],false,false⟩),
 (86,⟨.func,1,8,none,[.nilf],false,false⟩),
 (87,⟨.func,1,8,none,[.nilf],false,false⟩),
 (88,⟨.slice 9,1,24,some (.lst .str),[.nils],false,false⟩),
 (89,⟨.struct [(0,3),(1,88)],2,32,some (.pair (.int .i64) (.lst .str)),[.int .i64 0,.nils],false,false⟩),
 (90,⟨.struct [(0,3),(1,88)],2,32,some (.pair (.int .i64) (.lst .str)),[.int .i64 0,.nils],false,false⟩),
 (91,⟨.func,1,8,none,[.nilf],false,false⟩),
 (92,⟨.func,1,8,none,[.nilf],false,false⟩),
 (93,⟨.func,1,8,none,[.nilf],false,false⟩),
 (94,⟨.ptr 96,1,8,none,[.nilp],false,false⟩),
 (95,⟨.struct [(0,80),(1,3),(2,23)],4,64,some (.pair (.lst YqD) (.pair (.int .i64) (.pair .str .str))),[.nils,.int .i64 0,.str [],.str []],false,false⟩),
 (96,⟨.struct [(0,80),(1,3),(2,23)],4,64,some (.pair (.lst YqD) (.pair (.int .i64) (.pair .str .str))),[.nils,.int .i64 0,.str [],.str []],false,false⟩),
 (97,⟨.slice 24,1,24,none,[.nils],false,false⟩),
 (98,⟨.func,1,8,none,[.nilf],false,false⟩),
 (99,⟨.struct [(0,21),(1,21),(2,3),(3,3),(4,3),(5,3)],6,40,some YqA,[.int .i32 0,.int .i32 0,.int .i64 0,.int .i64 0,.int .i64 0,.int .i64 0],false,false⟩),
 (100,⟨.struct [(0,21),(1,21),(2,3),(3,3),(4,3),(5,3)],6,40,some YqA,[.int .i32 0,.int .i32 0,.int .i64 0,.int .i64 0,.int .i64 0,.int .i64 0],false,false⟩),
 (101,⟨.struct [(0,21),(1,21),(2,3),(3,3)],4,24,some YqB,[.int .i32 0,.int .i32 0,.int .i64 0,.int .i64 0],false,false⟩),
 (102,⟨.struct [(0,21),(1,21),(2,3),(3,3)],4,24,some YqB,[.int .i32 0,.int .i32 0,.int .i64 0,.int .i64 0],false,false⟩),
 (103,⟨.struct [(0,21),(1,21),(2,21)],3,12,some YqC,[.int .i32 0,.int .i32 0,.int .i32 0],false,false⟩),
 (104,⟨.struct [(0,21),(1,21),(2,21)],3,12,some YqC,[.int .i32 0,.int .i32 0,.int .i32 0],false,false⟩),
 (106,⟨.func,1,8,none,[.nilf],false,false⟩),
 (107,⟨.func,1,8,none,[.nilf],false,false⟩),
 (108,⟨.func,1,8,none,[.nilf],false,false⟩),
 (109,⟨.func,1,8,none,[.nilf],false,false⟩),
 (110,⟨.slice 5,1,24,some (.lst .byte),[.nils],false,false⟩),
 (111,⟨.func,1,8,none,[.nilf],false,false⟩),
 (112,⟨.func,1,8,none,[.nilf],false,false⟩),
 (114,⟨.func,1,8,none,[.nilf],false,false⟩),
 (116,⟨.func,1,8,none,[.nilf],false,false⟩),
 (117,⟨.int .u64,1,8,some (.int .u64),[.int .u64 0],false,false⟩),
 (118,⟨.func,1,8,none,[.nilf],false,false⟩),
 (119,⟨.func,1,8,none,[.nilf],false,false⟩),
 (120,⟨.ptr 122,1,8,none,[.nilp],false,false⟩),
 (121,⟨.struct [(0,9),(1,3),(2,3),(3,35)],4,40,some (.pair .str (.pair (.int .i64) (.pair (.int .i64) (.int .i64)))),[.str [],.int .i64 0,.int .i64 0,.int .i64 0],false,false⟩),
 (122,⟨.struct [(0,9),(1,3),(2,3),(3,35)],4,40,some (.pair .str (.pair (.int .i64) (.pair (.int .i64) (.int .i64)))),[.str [],.int .i64 0,.int .i64 0,.int .i64 0],false,false⟩),
 (123,⟨.func,1,8,none,[.nilf],false,false⟩),
 (124,⟨.func,1,8,none,[.nilf],false,false⟩),
 (125,⟨.func,1,8,none,[.nilf],false,false⟩),
 (126,⟨.func,1,8,none,[.nilf],false,false⟩),
 (127,⟨.func,1,8,none,[.nilf],false,false⟩),
 (128,⟨.func,1,8,none,[.nilf],false,false⟩),
 (129,⟨.func,1,8,none,[.nilf],false,false⟩),
 (130,⟨.func,1,8,none,[.nilf],false,false⟩),
 (131,⟨.func,1,8,none,[.nilf],false,false⟩),
 (132,⟨.func,1,8,none,[.nilf],false,false⟩),
 (133,⟨.func,1,8,none,[.nilf],false,false⟩),
 (134,⟨.func,1,8,none,[.nilf],false,false⟩),
 (135,⟨.func,1,8,none,[.nilf],false,false⟩),
 (136,⟨.func,1,8,none,[.nilf],false,false⟩),
 (137,⟨.func,1,8,none,[.nilf],false,false⟩),
 (138,⟨.array 8 3,8,64,none,[.int .i64 0,.int .i64 0,.int .i64 0,.int .i64 0,.int .i64 0,.int .i64 0,.int .i64 0,.int .i64 0],false,false⟩),
 (139,⟨.array 8 3,8,64,none,[.int .i64 0,.int .i64 0,.int .i64 0,.int .i64 0,.int .i64 0,.int .i64 0,.int .i64 0,.int .i64 0],false,false⟩),
 (140,⟨.func,1,8,none,[.nilf],false,false⟩),
 (141,⟨.func,1,8,none,[.nilf],false,false⟩),
 (143,⟨.func,1,8,none,[.nilf],false,false⟩),
 (144,⟨.func,1,8,none,[.nilf],false,false⟩),
 (145,⟨.func,1,8,none,[.nilf],false,false⟩),
 (146,⟨.func,1,8,none,[.nilf],false,false⟩),
 (147,⟨.func,1,8,none,[.nilf],false,false⟩),
 (148,⟨.func,1,8,none,[.nilf],false,false⟩),
 (149,⟨.func,1,8,none,[.nilf],false,false⟩),
 (150,⟨.func,1,8,none,[.nilf],false,false⟩),
 (151,⟨.func,1,8,none,[.nilf],false,false⟩),
 (152,⟨.func,1,8,none,[.nilf],false,false⟩),
 (153,⟨.func,1,8,none,[.nilf],false,false⟩),
 (155,⟨.func,1,8,none,[.nilf],false,false⟩),
 (156,⟨.int .u64,1,8,some (.int .u64),[.int .u64 0],false,false⟩),
 (157,⟨.iface,1,16,none,[.nili],false,false⟩),
 (158,⟨.iface,1,16,none,[.nili],false,false⟩),
 (160,⟨.func,1,8,none,[.nilf],false,false⟩),
 (161,⟨.func,1,8,none,[.nilf],false,false⟩),
 (162,⟨.func,1,8,none,[.nilf],false,false⟩),
 (163,⟨.func,1,8,none,[.nilf],false,false⟩),
 (164,⟨.struct [(0,32)],5,88,none,[.nils,.nils,.nils,.nilm,.nilm],false,false⟩),
 (165,⟨.struct [(0,32)],5,88,none,[.nils,.nils,.nils,.nilm,.nilm],false,false⟩),
 (166,⟨.func,1,8,none,[.nilf],false,false⟩),
 (167,⟨.func,1,8,none,[.nilf],false,false⟩),
 (168,⟨.func,1,8,none,[.nilf],false,false⟩),
 (169,⟨.struct [(0,32),(5,75),(6,3)],7,120,none,[.nils,.nils,.nils,.nilm,.nilm,.nils,.int .i64 0],false,false⟩),
 (170,⟨.struct [(0,32),(5,75),(6,3)],7,120,none,[.nils,.nils,.nils,.nilm,.nilm,.nils,.int .i64 0],false,false⟩),
 (172,⟨.func,1,8,none,[.nilf],false,false⟩),
 (173,⟨.func,1,8,none,[.nilf],false,false⟩),
 (174,⟨.func,1,8,none,[.nilf],false,false⟩),
 (175,⟨.func,1,8,none,[.nilf],false,false⟩),
 (176,⟨.func,1,8,none,[.nilf],false,false⟩),
 (177,⟨.func,1,8,none,[.nilf],false,false⟩),
 (178,⟨.func,1,8,none,[.nilf],false,false⟩),
 (179,⟨.ptr 181,1,8,none,[.nilp],false,false⟩),
 (180,⟨.struct [(0,179),(1,110)],2,32,none,[.nilp,.nils],false,false⟩),
 (181,⟨.struct [(0,179),(1,110)],2,32,none,[.nilp,.nils],false,false⟩),
 (182,⟨.func,1,8,none,[.nilf],false,false⟩),
 (184,⟨.func,1,8,none,[.nilf],false,false⟩),
 (185,⟨.func,1,8,none,[.nilf],false,false⟩),
 (186,⟨.func,1,8,none,[.nilf],false,false⟩),
 (187,⟨.func,1,8,none,[.nilf],false,false⟩),
 (188,⟨.func,1,8,none,[.nilf],false,false⟩),
 (189,⟨.func,1,8,none,[.nilf],false,false⟩),
 (190,⟨.func,1,8,none,[.nilf],false,false⟩),
 (191,⟨.func,1,8,none,[.nilf],false,false⟩),
 (192,⟨.map 21 167,1,8,none,[.nilm],false,false⟩),
 (193,⟨.func,1,8,none,[.nilf],false,false⟩),
 (194,⟨.func,1,8,none,[.nilf],false,false⟩),
 (195,⟨.func,1,8,none,[.nilf],false,false⟩),
 (196,⟨.func,1,8,none,[.nilf],false,false⟩),
 (197,⟨.func,1,8,none,[.nilf],false,false⟩),
 (198,⟨.func,1,8,none,[.nilf],false,false⟩),
 (199,⟨.func,1,8,none,[.nilf],false,false⟩),
 (201,⟨.func,1,8,none,[.nilf],false,false⟩),
 (202,⟨.ptr 5,1,8,none,[.nilp],false,false⟩),
 (203,⟨.int .i64,1,8,some (.int .i64),[.int .i64 0],true,false⟩),
 (204,⟨.ptr 233,1,8,none,[.nilp],false,false⟩),
 (205,⟨.func,1,8,none,[.nilf],false,false⟩),
 (206,⟨.func,1,8,none,[.nilf],false,false⟩),
 (208,⟨.func,1,8,none,[.nilf],false,false⟩),
 (209,⟨.func,1,8,none,[.nilf],false,false⟩),
 (210,⟨.func,1,8,none,[.nilf],false,false⟩),
 (211,⟨.func,1,8,none,[.nilf],false,false⟩),
 (212,⟨.func,1,8,none,[.nilf],false,false⟩),
 (214,⟨.func,1,8,none,[.nilf],false,false⟩),
 (215,⟨.func,1,8,none,[.nilf],false,false⟩),
 (217,⟨.func,1,8,none,[.nilf],false,false⟩),
 (218,⟨.func,1,8,none,[.nilf],false,false⟩),
 (219,⟨.func,1,8,none,[.nilf],false,false⟩),
 (220,⟨.func,1,8,none,[.nilf],false,false⟩),
 (221,⟨.func,1,8,none,[.nilf],false,false⟩),
 (222,⟨.func,1,8,none,[.nilf],false,false⟩),
 (223,⟨.struct [(0,35),(1,24)],2,16,none,[.int .i64 0,.nilf],false,false⟩),
 (224,⟨.struct [(0,35),(1,24)],2,16,none,[.int .i64 0,.nilf],false,false⟩),
 (225,⟨.func,1,8,none,[.nilf],false,false⟩),
 (227,⟨.func,1,8,none,[.nilf],false,false⟩),
 (228,⟨.func,1,8,none,[.nilf],false,false⟩),
 (230,⟨.func,1,8,none,[.nilf],false,false⟩),
 (231,⟨.func,1,8,none,[.nilf],false,false⟩),
 (232,⟨.struct [(0,9),(1,9),(2,158)],3,48,none,[.str [],.str [],.nili],false,false⟩),
 (233,⟨.struct [(0,9),(1,9),(2,158)],3,48,none,[.str [],.str [],.nili],false,false⟩),
 (234,⟨.func,1,8,none,[.nilf],false,false⟩),
 (235,⟨.func,1,8,none,[.nilf],false,false⟩),
 (236,⟨.func,1,8,none,[.nilf],false,false⟩),
 (237,⟨.func,1,8,none,[.nilf],false,false⟩),
 (238,⟨.func,1,8,none,[.nilf],false,false⟩),
 (239,⟨.func,1,8,none,[.nilf],false,false⟩),
 (240,⟨.func,1,8,none,[.nilf],false,false⟩),
 (241,⟨.func,1,8,none,[.nilf],false,false⟩),
 (242,⟨.func,1,8,none,[.nilf],false,false⟩),
 (243,⟨.func,1,8,none,[.nilf],false,false⟩),
 (244,⟨.func,1,8,none,[.nilf],false,false⟩),
 (246,⟨.func,1,8,none,[.nilf],false,false⟩),
 (247,⟨.slice 224,1,24,none,[.nils],false,false⟩),
 (248,⟨.func,1,8,none,[.nilf],false,false⟩),
 (249,⟨.func,1,8,none,[.nilf],false,false⟩),
 (250,⟨.func,1,8,none,[.nilf],false,false⟩),
 (251,⟨.int .u32,1,4,some (.int .u32),[.int .u32 0],false,false⟩),
 (253,⟨.func,1,8,none,[.nilf],false,false⟩),
 (254,⟨.ptr 256,1,8,none,[.nilp],false,false⟩),
 (255,⟨.struct [(0,9)],1,16,some (.str),[.str []],false,false⟩),
 (256,⟨.struct [(0,9)],1,16,some (.str),[.str []],false,false⟩),
 (258,⟨.struct [(0,5),(1,5)],2,2,some (.pair .byte .byte),[.int .u8 0,.int .u8 0],false,false⟩),
 (259,⟨.struct [(0,5),(1,5)],2,2,some (.pair .byte .byte),[.int .u8 0,.int .u8 0],false,false⟩),
 (260,⟨.array 16 259,32,32,none,List.replicate 32 (.int .u8 0),false,false⟩),
 (261,⟨.func,1,8,none,[.nilf],false,false⟩),
 (262,⟨.func,1,8,none,[.nilf],false,false⟩),
 (263,⟨.slice 75,1,24,some (.lst (.lst (.int .i32))),[.nils],false,false⟩),
 (264,⟨.func,1,8,none,[.nilf],false,false⟩),
 (265,⟨.func,1,8,none,[.nilf],false,false⟩),
 (266,⟨.func,1,8,none,[.nilf],false,false⟩),
 (267,⟨.array 24 5,24,24,none,List.replicate 24 (.int .u8 0),false,false⟩),
 (268,⟨.func,1,8,none,[.nilf],false,false⟩),
 (269,⟨.func,1,8,none,[.nilf],false,false⟩),
 (271,⟨.func,1,8,none,[.nilf],false,false⟩),
 (272,⟨.func,1,8,none,[.nilf],false,false⟩),
 (273,⟨.array 20 156,20,160,none,[.int .u64 0,.int .u64 0,.int .u64 0,.int .u64 0,.int .u64 0,.int .u64 0,.int .u64 0,.int .u64 0,.int .u64 0,.int .u64 0,.int .u64 0,.int .u64 0,.int .u64 0,.int .u64 0,.int .u64 0,.int .u64 0,.int .u64 0,.int .u64 0,.int .u64 0,.int .u64 0],false,false⟩),
 (274,⟨.array 65 5,65,65,none,List.replicate 65 (.int .u8 0),false,false⟩),
 (275,⟨.func,1,8,none,[.nilf],false,false⟩),
 (276,⟨.func,1,8,none,[.nilf],false,false⟩),
 (277,⟨.array 32 5,32,32,none,List.replicate 32 (.int .u8 0),false,false⟩),
 (278,⟨.array 64 5,64,64,none,List.replicate 64 (.int .u8 0),false,false⟩),
 (279,⟨.struct [(0,17),(1,17),(2,17),(3,9)],4,40,none,[.nilp,.nilp,.nilp,.str []],false,false⟩),
 (280,⟨.struct [(0,17),(1,17),(2,17),(3,9)],4,40,none,[.nilp,.nilp,.nilp,.str []],false,false⟩),
 (281,⟨.array 0 16,0,0,none,[],false,false⟩),
 (282,⟨.struct [(0,281)],0,0,none,[],false,false⟩),
 (283,⟨.struct [(0,281)],0,0,none,[],false,false⟩),
 (284,⟨.func,1,8,none,[.nilf],false,false⟩),
 (285,⟨.int .u8,1,1,some (.byte),[.int .u8 0],false,false⟩),
 (286,⟨.int .u8,1,1,some (.byte),[.int .u8 0],false,false⟩),
 (287,⟨.func,1,8,none,[.nilf],false,false⟩),
 (288,⟨.int .i32,1,4,some (.int .i32),[.int .i32 0],false,false⟩),
 (289,⟨.int .i32,1,4,some (.int .i32),[.int .i32 0],false,false⟩),
 (290,⟨.struct [(0,12),(1,12),(2,251),(3,285),(4,5),(5,5),(6,286),(7,287),(8,202),(9,288),(10,289)],11,48,none,[.int .u64 0,.int .u64 0,.int .u32 0,.int .u8 0,.int .u8 0,.int .u8 0,.int .u8 0,.nilf,.nilp,.int .i32 0,.int .i32 0],false,false⟩),
 (291,⟨.struct [(0,12),(1,12),(2,251),(3,285),(4,5),(5,5),(6,286),(7,287),(8,202),(9,288),(10,289)],11,48,none,[.int .u64 0,.int .u64 0,.int .u32 0,.int .u8 0,.int .u8 0,.int .u8 0,.int .u8 0,.nilf,.nilp,.int .i32 0,.int .i32 0],false,false⟩)]
def Γ:Tys:=fun t=>Ae.look t Γl
theorem hΓ:GOk Tryz.prog Γ:=gok_of (by kernel_rfl)
theorem hm:Tryz.prog.follows .mixedOrders=true:=by kernel_rfl
def Li0:List Sh:=[.agg 5,.lst YqA,.lst YqB,.lst YqC,.opq 0,.opq 1,.int .i32]
def Lo1:Outs:=[(.ret,[.tuple 2,.agg 5,.int .i32,.int .i32,.int .i32,.bool,.bool,.bool])]
def Li2:List Sh:=[.nils,.int .i64]
def Lo3:Outs:=[(.ret,[.row 0,.orow 21 (.int .i32)])]
def Li4:List Sh:=[.lst (.int .i32)]
def Li5:List Sh:=[.agg 5,.lst YqA,.lst YqB,.lst YqC,.opq 0,.opq 1,.int .i32,.int .i32]
def Lo6:Outs:=[(.ret,[.tuple 2,.int .i32,.bool])]
def Li7:List Sh:=[]
def Lo8:Outs:=[(.ret,[.opq 2])]
def Li9:List Sh:=[.agg 5,.lst YqA,.lst YqB,.lst YqC,.opq 0,.opq 1,.lst (.int .i32)]
def Lo10:Outs:=[(.ret,[.int .i64])]
def Li11:List Sh:=[.row 0,.int .i64,.row 1,.orow 21 (.int .i32),.orow 21 (.int .i32)]
def Lo12:Outs:=[(.ret,[.row 2,.odead,.odead,.orow 21 (.int .i32)])]
def Li13:List Sh:=[.str,.int .u8]
def Lo14:Outs:=[(.ret,[.agg 5,.lst YqA,.lst YqB,.lst YqC,.opq 0,.opq 1])]
def Li15:List Sh:=[.agg 5,.lst YqA,.lst YqB,.lst YqC,.opq 0,.opq 1,.str]
def Lo16:Outs:=[(.ret,[.tuple 3,.str,.str,.int .i64])]
def Lo17:Outs:=[(.ret,[.lst YqA])]
def Lo18:Outs:=[(.ret,[.lst YqB])]
def Lo19:Outs:=[(.ret,[.lst YqC])]
def Lo20:Outs:=[(.ret,[.lst (.pair (.int .i32) (.pair (.int .i32) (.pair (.int .i32) (.pair .bool .bool))))])]
def Li21:List Sh:=[.int .u8]
def Lo22:Outs:=[(.ret,[.tuple 2,.int .i64,.int .i32])]
def Li23:List Sh := .int .u8::tp 18 (.bool::tp 19 ([]))
def Lo24:Outs:=[(.ret,.top :: .top :: .int .i64 :: .int .i32::tp 35 ([])),(.normal,tp 39 ([]))]
def Li25:List Sh := .int .u8::tp 8 (.bool::tp 29 ([]))
def Li26:List Sh:=[.int .i32]
def Lo27:Outs:=[(.ret,[.bool])]
def Li28:List Sh:=[.str]
def Lo29:Outs:=[(.ret,[.tuple 2,.lst (.int .i32),.int .i64])]
def Li30:List Sh := .str::tp 3 (.row 0 :: .int .i64 :: .int .i32 :: .int .i64 :: .int .i64::tp 59 (.orow 21 (.int .i32)::[]))
def Lo31:Outs:=[((.exit 2),.str::tp 3 (.row 0 :: .int .i64 :: .int .i32 :: .int .i64::tp 60 (.orow 21 (.int .i32)::[]))),((.goto 0),tp 4 (.row 0 :: .top :: .top :: .int .i64::tp 60 (.orow 21 (.int .i32)::[])))]
def Li32:List Sh := .str::tp 3 (.row 0 :: .top :: .top :: .int .i64::tp 60 (.orow 21 (.int .i32)::[]))
def Lo33:Outs:=[((.exit 0),tp 4 (.row 0::tp 63 (.orow 21 (.int .i32)::[]))),((.goto 0),tp 4 (.row 0 :: .top :: .top :: .int .i64::tp 60 (.orow 21 (.int .i32)::[])))]
def Li34:List Sh:=tp 4 (.row 0 :: .top :: .top :: .int .i64::tp 60 (.orow 21 (.int .i32)::[]))
def Lo35:Outs:=[(.ret,.top :: .top :: .row 0 :: .int .i64::tp 64 (.orow 21 (.int .i32)::[]))]
def Lo36:Outs:=[(.ret,[.int .i32])]
def Li37:List Sh:=[.lst (.int .i32),.func (.func 115) 1 0,.agg 5,.lst YqA,.lst YqB,.lst YqC,.opq 0,.opq 1]
def Lo38:Outs:=[(.ret,[.lst (.int .i32)])]
def Li39:List Sh := .top :: .func (.func 115) 1 0 :: .agg 5 :: .lst YqA :: .lst YqB :: .lst YqC :: .opq 0 :: .opq 1::tp 3 (.row 0 :: .top :: .top :: .lst (.int .i32) :: .int .i64 :: .int .i64::tp 11 (.orow 21 (.int .i32)::[]))
def Lo40:Outs:=[((.exit 0),tp 5 (.row 0::tp 16 (.orow 21 (.int .i32)::[])))]
def Li41:List Sh:=[.agg 3,.int .i32,.int .i32,.int .i32,.ptr 0 0,.obox 1,.int .i32]
def Lo42:Outs:=[(.ret,[.bool,.obox 1,.int .i32])]
def Li43:List Sh:=[.lst YqC,.func (.func 141) 0 1,.ptr 0 0,.obox 1,.int .i32]
def Lo44:Outs:=[(.ret,[.int .i64,.obox 1,.int .i32])]
def Li45:List Sh := .lst YqC :: .func (.func 141) 0 1 :: .ptr 0 0::tp 5 (.int .i64 :: .int .i64::tp 10 (.obox 1 :: .int .i32::[]))
def Lo46:Outs:=[((.exit 0),tp 19 (.obox 1 :: .int .i32::[])),(.ret,tp 4 (.int .i64::tp 14 (.obox 1 :: .int .i32::[])))]
def Li47:List Sh:=[.lst (.int .i32),.func (.func 114) 1 0,.agg 5,.lst YqA,.lst YqB,.lst YqC,.opq 0,.opq 1]
def Li48:List Sh := .top :: .func (.func 114) 1 0 :: .agg 5 :: .lst YqA :: .lst YqB :: .lst YqC :: .opq 0 :: .opq 1::tp 3 (.row 0 :: .top :: .top :: .lst (.int .i32) :: .int .i64 :: .int .i64::tp 11 (.orow 21 (.int .i32)::[]))
def Lo49:Outs:=[(.ret,[.tuple 2,.str,.bool])]
def Li50:List Sh:=tp 4 (.row 0 :: .top :: .top :: .lst (.int .i32) :: .int .i64 :: .int .i64::tp 71 (.orow 5 .byte::[]))
def Lo51:Outs:=[((.exit 0),tp 4 (.row 0::tp 76 (.orow 5 .byte::[]))),(.ret,.top :: .top :: .str :: .bool::tp 77 ([]))]
def Li52:List Sh:=[.int .i32,.int .i32,.int .i64]
def Li53:List Sh:=[.lst (.lst (.int .i32))]
def Li54:List Sh := .lst (.lst (.int .i32)) :: .top :: .top :: .int .i64::tp 5 (.lst (.lst (.int .i32)) :: .int .i64 :: .int .i64::tp 24 ([]))
def Lo55:Outs:=[((.exit 0),.lst (.lst (.int .i32)) :: .top :: .top :: .int .i64::tp 32 ([]))]
def Li56:List Sh:=tp 6 (.row 0::tp 18 (.lst (.lst (.int .i32)) :: .int .i64 :: .int .i64::tp 8 (.orow 21 (.int .i32)::[])))
def Lo57:Outs:=[((.exit 2),tp 6 (.row 0::tp 29 (.orow 21 (.int .i32)::[])))]
def Li58:List Sh:=[.agg 5,.lst YqA,.lst YqB,.lst YqC,.opq 0,.opq 1,.int .i32,.bool]
def Li59:List Sh := .top :: .int .i32 :: .bool :: .ptr 0 0::tp 3 (.ptr 1 0::tp 12 (.bool::tp 33 (.obox 5 :: .lst YqA :: .lst YqB :: .lst YqC :: .opq 0 :: .opq 1 :: .obox 5 :: .int .i32 :: .int .i32 :: .int .i32 :: .bool :: .bool::[])))
def Lo60:Outs:=[(.ret,tp 6 (.lst (.int .i32)::tp 47 ([]))),(.normal,.top :: .top :: .bool :: .ptr 0 0::tp 3 (.ptr 1 0::tp 46 (.obox 5 :: .lst YqA :: .lst YqB :: .lst YqC :: .opq 0 :: .opq 1 :: .obox 5 :: .int .i32 :: .int .i32 :: .int .i32 :: .bool :: .bool::[])))]
def Li61:List Sh:=[.agg 5,.lst YqA,.lst YqB,.lst YqC,.opq 0,.opq 1,.lst (.int .i32),.bool]
def Li62:List Sh := .top :: .top :: .bool :: .ptr 0 0::tp 3 (.row 1 :: .top :: .top :: .lst (.int .i32) :: .int .i64 :: .int .i64::tp 11 (.obox 5 :: .lst YqA :: .lst YqB :: .lst YqC :: .opq 0 :: .opq 1 :: .orow 21 (.int .i32)::[]))
def Lo63:Outs:=[((.exit 0),tp 7 (.row 0::tp 16 (.orow 21 (.int .i32)::[])))]
def Li64:List Sh:=[.agg 4,.int .i32,.int .i32,.int .i64,.int .i64,.ptr 0 0,.obox 1,.int .i32]
def Li65:List Sh:=[.lst YqB,.func (.func 223) 0 1,.ptr 0 0,.obox 1,.int .i32]
def Li66:List Sh := .lst YqB :: .func (.func 223) 0 1 :: .ptr 0 0::tp 5 (.int .i64 :: .int .i64::tp 10 (.obox 1 :: .int .i32::[]))
def Li67:List Sh:=[.int .i32,.int .i32,.ptr 0 0,.obox 5,.lst YqA,.lst YqB,.lst YqC,.opq 0,.opq 1]
def Lo68:Outs:=[(.ret,[.int .i64,.obox 5,.lst YqA,.lst YqB,.lst YqC,.opq 0,.opq 1])]
def Li69:List Sh:=[.win 0 1,.int .i64,.int .i64,.func (.func 177) 0 1,.ptr 1 0,.orow 21 (.int .i32),.obox 5,.lst YqA,.lst YqB,.lst YqC,.opq 0,.opq 1]
def Lo70:Outs:=[(.ret,[.tuple 0,.orow 21 (.int .i32),.obox 5,.lst YqA,.lst YqB,.lst YqC,.opq 0,.opq 1])]
def Li71:List Sh := .win 0 1 :: .int .i64 :: .int .i64 :: .func (.func 177) 0 1 :: .ptr 1 0::tp 4 (.int .i64 :: .int .i64::tp 43 (.orow 21 (.int .i32) :: .obox 5 :: .lst YqA :: .lst YqB :: .lst YqC :: .opq 0 :: .opq 1::[]))
def Lo72:Outs:=[(.normal,.win 0 1 :: .int .i64 :: .int .i64 :: .func (.func 177) 0 1 :: .ptr 1 0::tp 4 (.int .i64 :: .int .i64::tp 43 (.orow 21 (.int .i32) :: .obox 5 :: .lst YqA :: .lst YqB :: .lst YqC :: .opq 0 :: .opq 1::[])))]
def Lo73:Outs:=[((.exit 2),.win 0 1 :: .int .i64 :: .int .i64 :: .func (.func 177) 0 1 :: .ptr 1 0::tp 4 (.int .i64::tp 44 (.orow 21 (.int .i32) :: .obox 5 :: .lst YqA :: .lst YqB :: .lst YqC :: .opq 0 :: .opq 1::[])))]
def Li74:List Sh := .win 0 1 :: .int .i64 :: .int .i64 :: .func (.func 177) 0 1 :: .ptr 1 0::tp 4 (.int .i64::tp 44 (.orow 21 (.int .i32) :: .obox 5 :: .lst YqA :: .lst YqB :: .lst YqC :: .opq 0 :: .opq 1::[]))
def Lo75:Outs:=[((.exit 0),tp 53 (.orow 21 (.int .i32) :: .obox 5 :: .lst YqA :: .lst YqB :: .lst YqC :: .opq 0 :: .opq 1::[]))]
def Li76:List Sh:=[.win 0 1,.int .i64,.int .i64,.int .i64,.func (.func 177) 0 1,.ptr 1 0,.orow 21 (.int .i32),.obox 5,.lst YqA,.lst YqB,.lst YqC,.opq 0,.opq 1]
def Li77:List Sh := .win 0 1 :: .int .i64 :: .int .i64 :: .int .i64::tp 6 (.int .i64::tp 27 (.orow 21 (.int .i32) :: .obox 5 :: .lst YqA :: .lst YqB :: .lst YqC :: .opq 0 :: .opq 1::[]))
def Lo78:Outs:=[((.exit 0),tp 38 (.orow 21 (.int .i32) :: .obox 5 :: .lst YqA :: .lst YqB :: .lst YqC :: .opq 0 :: .opq 1::[]))]
def Li79:List Sh := .win 0 1 :: .top :: .int .i64 :: .top :: .func (.func 177) 0 1 :: .ptr 1 0::tp 5 (.int .i64 :: .int .i64::tp 46 (.orow 21 (.int .i32) :: .obox 5 :: .lst YqA :: .lst YqB :: .lst YqC :: .opq 0 :: .opq 1::[]))
def Lo80:Outs:=[((.exit 0),.win 0 1 :: .top :: .int .i64 :: .top :: .func (.func 177) 0 1 :: .ptr 1 0::tp 5 (.int .i64::tp 47 (.orow 21 (.int .i32) :: .obox 5 :: .lst YqA :: .lst YqB :: .lst YqC :: .opq 0 :: .opq 1::[])))]
def Li81:List Sh := .win 0 1 :: .int .i64 :: .top :: .top :: .func (.func 177) 0 1 :: .ptr 1 0::tp 5 (.int .i64 :: .int .i64::tp 208 (.orow 21 (.int .i32) :: .obox 5 :: .lst YqA :: .lst YqB :: .lst YqC :: .opq 0 :: .opq 1::[]))
def Lo82:Outs:=[((.exit 0),.win 0 1 :: .int .i64::tp 8 (.int .i64::tp 209 (.orow 21 (.int .i32) :: .obox 5 :: .lst YqA :: .lst YqB :: .lst YqC :: .opq 0 :: .opq 1::[])))]
def Li83:List Sh := .win 0 1::tp 9 (.int .i64 :: .top :: .top :: .int .i64::tp 206 (.orow 21 (.int .i32) :: .obox 5 :: .lst YqA :: .lst YqB :: .lst YqC :: .opq 0 :: .opq 1::[]))
def Lo84:Outs:=[((.exit 2),tp 220 (.orow 21 (.int .i32) :: .obox 5 :: .lst YqA :: .lst YqB :: .lst YqC :: .opq 0 :: .opq 1::[]))]
def Li85:List Sh := .win 0 1 :: .top :: .int .i64 :: .top :: .func (.func 177) 0 1 :: .ptr 1 0::tp 9 (.int .i64 :: .int .i64::tp 204 (.orow 21 (.int .i32) :: .obox 5 :: .lst YqA :: .lst YqB :: .lst YqC :: .opq 0 :: .opq 1::[]))
def Lo86:Outs:=[((.exit 4),.win 0 1 :: .top :: .int .i64::tp 11 (.int .i64::tp 205 (.orow 21 (.int .i32) :: .obox 5 :: .lst YqA :: .lst YqB :: .lst YqC :: .opq 0 :: .opq 1::[])))]
def Li87:List Sh := .win 0 1::tp 13 (.int .i64 :: .top :: .top :: .int .i64::tp 202 (.orow 21 (.int .i32) :: .obox 5 :: .lst YqA :: .lst YqB :: .lst YqC :: .opq 0 :: .opq 1::[]))
def Lo88:Outs:=[((.exit 6),tp 220 (.orow 21 (.int .i32) :: .obox 5 :: .lst YqA :: .lst YqB :: .lst YqC :: .opq 0 :: .opq 1::[]))]
def Li89:List Sh := .win 0 1 :: .int .i64 :: .int .i64 :: .int .i64 :: .func (.func 177) 0 1 :: .ptr 1 0::tp 13 (.int .i64 :: .int .i64 :: .int .i64 :: .int .i64 :: .int .i64::tp 197 (.orow 21 (.int .i32) :: .obox 5 :: .lst YqA :: .lst YqB :: .lst YqC :: .opq 0 :: .opq 1::[]))
def Lo90:Outs:=[((.exit 8),.win 0 1 :: .int .i64 :: .int .i64 :: .int .i64 :: .func (.func 177) 0 1 :: .ptr 1 0::tp 13 (.int .i64 :: .int .i64 :: .int .i64::tp 199 (.orow 21 (.int .i32) :: .obox 5 :: .lst YqA :: .lst YqB :: .lst YqC :: .opq 0 :: .opq 1::[])))]
def Li91:List Sh := .win 0 1 :: .top :: .top :: .int .i64 :: .func (.func 177) 0 1 :: .ptr 1 0::tp 13 (.int .i64::tp 5 (.int .i64::tp 195 (.orow 21 (.int .i32) :: .obox 5 :: .lst YqA :: .lst YqB :: .lst YqC :: .opq 0 :: .opq 1::[])))
def Lo92:Outs:=[(.normal,tp 220 (.orow 21 (.int .i32) :: .obox 5 :: .lst YqA :: .lst YqB :: .lst YqC :: .opq 0 :: .opq 1::[]))]
def Li93:List Sh := .win 0 1 :: .int .i64 :: .top :: .int .i64 :: .func (.func 177) 0 1 :: .ptr 1 0::tp 13 (.int .i64 :: .top :: .int .i64::tp 3 (.int .i64::tp 195 (.orow 21 (.int .i32) :: .obox 5 :: .lst YqA :: .lst YqB :: .lst YqC :: .opq 0 :: .opq 1::[])))
def Li94:List Sh := .win 0 1 :: .int .i64 :: .int .i64 :: .int .i64 :: .func (.func 177) 0 1 :: .ptr 1 0::tp 13 (.int .i64 :: .int .i64 :: .int .i64 :: .int .i64::tp 198 (.orow 21 (.int .i32) :: .obox 5 :: .lst YqA :: .lst YqB :: .lst YqC :: .opq 0 :: .opq 1::[]))
def Li95:List Sh:=[.win 0 1,.int .i64,.func (.func 177) 0 1,.ptr 1 0,.orow 21 (.int .i32),.obox 5,.lst YqA,.lst YqB,.lst YqC,.opq 0,.opq 1]
def Li96:List Sh := .win 0 1 :: .int .i64 :: .func (.func 177) 0 1 :: .ptr 1 0::tp 3 (.int .i64 :: .int .i64 :: .int .i64::tp 54 (.orow 21 (.int .i32) :: .obox 5 :: .lst YqA :: .lst YqB :: .lst YqC :: .opq 0 :: .opq 1::[]))
def Lo97:Outs:=[((.exit 0),.win 0 1 :: .int .i64 :: .func (.func 177) 0 1 :: .ptr 1 0::tp 3 (.int .i64 :: .int .i64::tp 55 (.orow 21 (.int .i32) :: .obox 5 :: .lst YqA :: .lst YqB :: .lst YqC :: .opq 0 :: .opq 1::[])))]
def Lo98:Outs:=[((.exit 4),.win 0 1 :: .int .i64 :: .func (.func 177) 0 1 :: .ptr 1 0::tp 3 (.int .i64 :: .int .i64::tp 55 (.orow 21 (.int .i32) :: .obox 5 :: .lst YqA :: .lst YqB :: .lst YqC :: .opq 0 :: .opq 1::[])))]
def Li99:List Sh := .win 0 1 :: .int .i64 :: .func (.func 177) 0 1 :: .ptr 1 0::tp 3 (.int .i64::tp 56 (.orow 21 (.int .i32) :: .obox 5 :: .lst YqA :: .lst YqB :: .lst YqC :: .opq 0 :: .opq 1::[]))
def Lo100:Outs:=[((.exit 2),tp 63 (.orow 21 (.int .i32) :: .obox 5 :: .lst YqA :: .lst YqB :: .lst YqC :: .opq 0 :: .opq 1::[]))]
def Li101:List Sh:=[.win 0 1,.func (.func 177) 0 1,.ptr 1 0,.orow 21 (.int .i32),.obox 5,.lst YqA,.lst YqB,.lst YqC,.opq 0,.opq 1]
def Li102:List Sh := .top :: .top :: .ptr 0 0 :: .top :: .top :: .row 1 :: .int .i64 :: .int .i64::tp 30 (.obox 5 :: .lst YqA :: .lst YqB :: .lst YqC :: .opq 0 :: .opq 1 :: .orow 21 (.int .i32)::[])
def Lo103:Outs:=[(.normal,.top :: .top :: .ptr 0 0 :: .top :: .top :: .row 1 :: .int .i64 :: .int .i64::tp 30 (.obox 5 :: .lst YqA :: .lst YqB :: .lst YqC :: .opq 0 :: .opq 1 :: .orow 21 (.int .i32)::[]))]
def Lo104:Outs:=[((.exit 0),tp 5 (.row 0::tp 32 (.orow 21 (.int .i32)::[])))]
def Li105:List Sh := .top :: .int .i32 :: .int .i32 :: .ptr 0 0::tp 4 (.bool::tp 37 (.obox 5 :: .lst YqA :: .lst YqB :: .lst YqC :: .opq 0 :: .opq 1::[]))
def Lo106:Outs:=[(.ret,tp 6 (.int .i32 :: .bool::tp 38 ([]))),(.normal,.top :: .int .i32 :: .int .i32 :: .ptr 0 0::tp 42 (.obox 5 :: .lst YqA :: .lst YqB :: .lst YqC :: .opq 0 :: .opq 1::[]))]
def Li107:List Sh := .top :: .top :: .ptr 0 0 :: .top :: .top :: .row 1 :: .int .i64 :: .int .i64 :: .top :: .int .i32 :: .int .i64 :: .top :: .top :: .lst (.int .i32) :: .int .i64 :: .int .i64::tp 19 (.bool::tp 29 (.obox 5 :: .lst YqA :: .lst YqB :: .lst YqC :: .opq 0 :: .opq 1 :: .orow 21 (.int .i32)::[]))
def Lo108:Outs:=[((.exit 1),.top :: .top :: .ptr 0 0 :: .top :: .top :: .row 1 :: .int .i64 :: .int .i64::tp 5 (.lst (.int .i32) :: .int .i64 :: .int .i64::tp 49 (.obox 5 :: .lst YqA :: .lst YqB :: .lst YqC :: .opq 0 :: .opq 1 :: .orow 21 (.int .i32)::[]))),(.normal,.top :: .top :: .ptr 0 0 :: .top :: .top :: .row 1 :: .int .i64 :: .int .i64 :: .top :: .int .i32 :: .int .i64 :: .top :: .top :: .lst (.int .i32) :: .int .i64 :: .int .i64::tp 49 (.obox 5 :: .lst YqA :: .lst YqB :: .lst YqC :: .opq 0 :: .opq 1 :: .orow 21 (.int .i32)::[]))]
def Li109:List Sh := .top :: .top :: .ptr 0 0 :: .top :: .top :: .row 1 :: .int .i64 :: .int .i64::tp 5 (.lst (.int .i32) :: .int .i64 :: .int .i64::tp 49 (.obox 5 :: .lst YqA :: .lst YqB :: .lst YqC :: .opq 0 :: .opq 1 :: .orow 21 (.int .i32)::[]))
def Lo110:Outs:=[((.exit 0),tp 5 (.row 0::tp 59 (.orow 21 (.int .i32)::[])))]
def Li111:List Sh:=[.agg 5,.lst YqA,.lst YqB,.lst YqC,.opq 0,.opq 1,.str,.bool,.bool]
def Li112:List Sh:=[.str,.str]
def Li113:List Sh := .str::tp 4 (.int .i64 :: .int .i64::tp 8 ([]))
def Lo114:Outs:=[((.exit 0),tp 15 ([])),(.ret,.top :: .top :: .int .i64::tp 12 ([]))]
def Li115:List Sh:=[.lst (.int .i32),.int .i32]
def Li116:List Sh := .top :: .int .i32::tp 3 (.int .i32 :: .top :: .top :: .lst (.int .i32) :: .int .i64 :: .int .i64::tp 18 ([]))
def Lo117:Outs:=[((.exit 0),tp 5 (.int .i32::tp 23 ([])))]
def Li118:List Sh:=[.int .i64,.int .i64]
def Li119:List Sh:=[.int .i64]
def Lo120:Outs:=[(.ret,[.tuple 2,.int .u8,.bool])]
def Li121:List Sh := .int .i64::tp 3 (.bool::tp 20 ([]))
def Lo122:Outs:=[(.ret,.top :: .top :: .int .u8 :: .bool::tp 21 ([])),(.normal,tp 25 ([]))]
def Li123:List Sh:=[.row 0,.int .i64,.int .i64,.orow 5 .byte]
def Lo124:Outs:=[(.ret,[.row 1,.odead,.orow 5 .byte])]
def Li125:List Sh := .row 1 :: .int .i64 :: .int .i64::tp 4 (.int .i64::tp 44 (.odead :: .orow 5 .byte::[]))
def Lo126:Outs:=[(.ret,tp 6 (.row 1::tp 45 (.odead :: .orow 5 .byte::[])))]
def Li127:List Sh:=[.int .i64,.int .i64,.bool]
def Li128:List Sh := .int .i64::tp 6 (.int .i64::tp 24 ([]))
def Lo129:Outs:=[((.exit 0),.int .i64::tp 6 (.int .i64::tp 24 ([])))]
def Li130:List Sh := .int .i64 :: .int .i64::tp 30 ([])
def Lo131:Outs:=[(.ret,tp 6 (.int .i64::tp 25 ([])))]
def Li132:List Sh := .lst (.int .i32)::tp 3 (.row 0::tp 10 (.lst (.int .i32) :: .int .i64 :: .int .i64::tp 77 (.orow 5 .byte::[])))
def Lo133:Outs:=[((.exit 0),.lst (.int .i32)::tp 3 (.row 0::tp 90 (.orow 5 .byte::[]))),(.ret,.top :: .top :: .str :: .bool::tp 91 ([]))]
def Li134:List Sh := .lst (.int .i32)::tp 3 (.row 0 :: .top :: .top :: .int .i64 :: .int .i32 :: .int .i64 :: .int .i64 :: .int .i64::tp 47 (.lst (.int .i32) :: .int .i64 :: .int .i64::tp 33 (.orow 5 .byte::[])))
def Lo135:Outs:=[((.exit 4),.lst (.int .i32)::tp 3 (.row 0 :: .top :: .top :: .int .i64 :: .int .i32 :: .int .i64 :: .int .i64 :: .int .i64::tp 83 (.orow 5 .byte::[])))]
def Li136:List Sh := .lst (.int .i32)::tp 3 (.row 0 :: .top :: .top :: .int .i64 :: .int .i32 :: .int .i64 :: .int .i64 :: .int .i64::tp 83 (.orow 5 .byte::[]))
def Lo137:Outs:=[((.exit 2),tp 4 (.row 0::tp 90 (.orow 5 .byte::[]))),(.ret,.top :: .top :: .str :: .bool::tp 91 ([]))]
def Li138:List Sh := .lst (.int .i32)::tp 3 (.row 0 :: .top :: .top :: .int .i64::tp 87 (.orow 5 .byte::[]))
def Lo139:Outs:=[(.ret,.top :: .top :: .str :: .bool::tp 91 ([]))]
def Li140:List Sh:=[.ptr 0 0,.obox 1,.int .i64]
def Lo141:Outs:=[(.ret,[.bool,.obox 1,.int .i64])]
def Li142:List Sh:=[.ptr 0 0,.ptr 1 0,.obox 1,.str,.obox 5,.lst YqA,.lst YqB,.lst YqC,.opq 0,.opq 1]
def Lo143:Outs:=[(.ret,[.bool,.obox 1,.str,.obox 5,.lst YqA,.lst YqB,.lst YqC,.opq 0,.opq 1])]
def Li144:List Sh:=[.ptr 0 0,.obox 1,.str]
def Lo145:Outs:=[(.ret,[.bool,.obox 1,.str])]
def Li146:List Sh:=[.agg 6,.int .i32,.int .i32,.int .i64,.int .i64,.int .i64,.int .i64,.int .i32]
def Li147:List Sh:=[.lst YqA,.int .i32,.func (.func 188) 0 0]
def Lo148:Outs:=[(.ret,[.tuple 2,.int .i64,.bool])]
def Li149:List Sh := .lst YqA :: .int .i32 :: .func (.func 188) 0 0::tp 5 (.int .i64 :: .int .i64 :: .int .i64::tp 38 ([]))
def Lo150:Outs:=[((.exit 0),.lst YqA :: .int .i32 :: .func (.func 188) 0 0::tp 5 (.int .i64 :: .int .i64::tp 39 ([])))]
def Lo151:Outs:=[(.ret,[.agg 6,.int .i32,.int .i32,.int .i64,.int .i64,.int .i64,.int .i64])]
def Li152:List Sh:=[.ptr 0 0,.ptr 1 0,.obox 5,.lst YqA,.lst YqB,.lst YqC,.opq 0,.opq 1,.obox 1,.lst (.int .i32)]
def Lo153:Outs:=[(.ret,[.bool,.obox 5,.lst YqA,.lst YqB,.lst YqC,.opq 0,.opq 1,.obox 1,.lst (.int .i32)])]
def Lo154:Outs:=[(.ret,[.func (.func 146) 0 0]),(.ret,[.func (.func 149) 0 0]),(.ret,[.func (.func 181) 0 0]),(.ret,[.func (.func 182) 0 0]),(.ret,[.func (.func 183) 0 0]),(.ret,[.func (.func 184) 0 0]),(.ret,[.func (.func 185) 0 0]),(.ret,[.func (.func 186) 0 0]),(.ret,[.nilf])]
def Li155:List Sh:=[.lst (.int .i32),.func (.func 148) 0 0]
def Li156:List Sh := .lst (.int .i32) :: .func (.func 148) 0 0::tp 5 (.int .i64 :: .int .i64::tp 10 ([]))
def Lo157:Outs:=[((.exit 0),tp 19 ([])),(.ret,tp 4 (.int .i64::tp 14 ([])))]
def Li158:List Sh:=[.agg 7,.lst YqA,.lst YqB,.lst YqC,.opq 0,.opq 1,.lst (.int .i32),.int .i64]
def Li159:List Sh:=[.lst (.int .i32),.func (.func 145) 0 0]
def Li160:List Sh := .lst (.int .i32) :: .func (.func 145) 0 0::tp 5 (.int .i64 :: .int .i64::tp 10 ([]))
def Li161:List Sh:=[.agg 7,.lst YqA,.lst YqB,.lst YqC,.opq 0,.opq 1,.lst (.int .i32),.int .i64,.int .i64]
def Li162:List Sh := .top :: .int .i64 :: .ptr 0 0 :: .top :: .top :: .int .i64::tp 18 (.obox 7 :: .lst YqA :: .lst YqB :: .lst YqC :: .opq 0 :: .opq 1 :: .lst (.int .i32) :: .int .i64::[])
def Lo163:Outs:=[((.exit 0),tp 24 ([])),(.ret,tp 4 (.int .i64::tp 19 ([])))]
def Li164:List Sh:=[.int .i32,.ptr 0 0,.obox 7,.lst YqA,.lst YqB,.lst YqC,.opq 0,.opq 1,.lst (.int .i32),.int .i64]
def Lo165:Outs:=[(.ret,[.bool,.obox 7,.lst YqA,.lst YqB,.lst YqC,.opq 0,.opq 1,.lst (.int .i32),.int .i64])]
def Li166:List Sh:=[.lst (.int .i32),.func (.func 232) 0 1,.ptr 0 0,.obox 7,.lst YqA,.lst YqB,.lst YqC,.opq 0,.opq 1,.lst (.int .i32),.int .i64]
def Lo167:Outs:=[(.ret,[.int .i64,.obox 7,.lst YqA,.lst YqB,.lst YqC,.opq 0,.opq 1,.lst (.int .i32),.int .i64])]
def Li168:List Sh := .lst (.int .i32) :: .func (.func 232) 0 1 :: .ptr 0 0::tp 5 (.int .i64 :: .int .i64::tp 10 (.obox 7 :: .lst YqA :: .lst YqB :: .lst YqC :: .opq 0 :: .opq 1 :: .lst (.int .i32) :: .int .i64::[]))
def Lo169:Outs:=[((.exit 0),tp 19 (.obox 7 :: .lst YqA :: .lst YqB :: .lst YqC :: .opq 0 :: .opq 1 :: .lst (.int .i32) :: .int .i64::[])),(.ret,tp 4 (.int .i64::tp 14 (.obox 7 :: .lst YqA :: .lst YqB :: .lst YqC :: .opq 0 :: .opq 1 :: .lst (.int .i32) :: .int .i64::[])))]
def Li170:List Sh:=[.agg 5,.lst YqA,.lst YqB,.lst YqC,.opq 0,.opq 1,.lst (.int .i32),.int .i64]
def Li171:List Sh := .top :: .lst (.int .i32) :: .ptr 0 0::tp 4 (.lst (.int .i32) :: .int .i64 :: .int .i64::tp 17 (.obox 5 :: .lst YqA :: .lst YqB :: .lst YqC :: .opq 0 :: .opq 1::[]))
def Lo172:Outs:=[((.exit 0),tp 27 ([])),(.ret,tp 4 (.bool::tp 22 ([])))]
def Lo173:Outs:=[(.ret,[.agg 8,.int .i64,.int .i64,.int .i64,.int .i64,.int .i64,.int .i64,.int .i64,.int .i64])]
def Li174:List Sh := .top :: .top :: .ptr 0 0 :: .top :: .ptr 1 0 :: .ptr 2 0 :: .top :: .top :: .lst (.int .i32) :: .int .i64 :: .int .i64::tp 12 (.obox 5 :: .lst YqA :: .lst YqB :: .lst YqC :: .opq 0 :: .opq 1 :: .oarr 3 (.int .i64) :: .oarr 3 (.int .i64)::[])
def Lo175:Outs:=[((.exit 0),tp 4 (.ptr 0 0 :: .ptr 1 0::tp 17 (.oarr 3 (.int .i64) :: .oarr 3 (.int .i64)::[])))]
def Li176:List Sh:=tp 5 (.ptr 0 0 :: .top :: .bool :: .bool::tp 60 (.oarr 3 (.int .i64)::[]))
def Lo177:Outs:=[(.ret,tp 4 (.bool::tp 64 ([])))]
def Li178:List Sh:=tp 5 (.ptr 0 0 :: .int .i64 :: .bool::tp 61 (.oarr 3 (.int .i64)::[]))
def Li179:List Sh:=[.ptr 0 0,.ptr 1 0,.ptr 2 0,.obox 1,.lst (.int .i32),.obox 1,.str,.obox 1,.bool]
def Lo180:Outs:=[(.ret,[.bool,.obox 1,.lst (.int .i32),.obox 1,.str,.obox 1,.bool])]
def Li181:List Sh:=[.row 0,.ovals 224 8 16,.int .i64,.func (.func 194) 0 1,.ptr 1 0,.int .i64,.func (.func 195) 0 2,.ptr 2 0,.ptr 3 0,.int .i64,.func (.func 197) 0 1,.ptr 2 0,.int .i64,.func (.func 199) 0 2,.ptr 3 0,.ptr 4 0,.int .i64,.func (.func 200) 0 2,.ptr 3 0,.ptr 4 0,.int .i64,.func (.func 202) 0 2,.ptr 3 0,.ptr 4 0,.int .i64,.func (.func 203) 0 3,.ptr 4 0,.ptr 5 0,.ptr 6 0,.int .i64,.func (.func 204) 0 1,.ptr 5 0,.obox 1,.int .i64,.obox 1,.str,.obox 5,.lst YqA,.lst YqB,.lst YqC,.opq 0,.opq 1,.obox 1,.lst (.int .i32),.obox 1,.str,.obox 1,.bool]
def Lo182:Outs:=[(.ret,[.int .i64,.ovals 224 8 16,.int .i64,.func (.func 194) 0 1,.ptr 1 0,.int .i64,.func (.func 195) 0 2,.ptr 2 0,.ptr 3 0,.int .i64,.func (.func 197) 0 1,.ptr 2 0,.int .i64,.func (.func 199) 0 2,.ptr 3 0,.ptr 4 0,.int .i64,.func (.func 200) 0 2,.ptr 3 0,.ptr 4 0,.int .i64,.func (.func 202) 0 2,.ptr 3 0,.ptr 4 0,.int .i64,.func (.func 203) 0 3,.ptr 4 0,.ptr 5 0,.ptr 6 0,.int .i64,.func (.func 204) 0 1,.ptr 5 0,.obox 1,.int .i64,.obox 1,.str,.obox 5,.lst YqA,.lst YqB,.lst YqC,.opq 0,.opq 1,.obox 1,.lst (.int .i32),.obox 1,.str,.obox 1,.bool])]
def Li183:List Sh := .int .i32 :: .top :: .top :: .bool::tp 20 ([])
def Lo184:Outs:=[(.normal,tp 3 (.bool::tp 20 ([])))]
def Li185:List Sh:=[.str,.func (.func 208) 0 0,.bool]
def Li186:List Sh := .top :: .func (.func 208) 0 0 :: .bool::tp 7 (.ptr 0 0::tp 10 (.oiter::[]))
def Lo187:Outs:=[(.ret,tp 6 (.int .i64::tp 14 ([]))),((.exit 0),tp 21 ([]))]
def Li188:List Sh:=[.str,.func (.func 208) 0 0]
def Li189:List Sh:=[.row 0,.ovals 224 4 8,.int .i64,.func (.func 205) 0 1,.ptr 1 0,.int .i64,.func (.func 206) 0 1,.ptr 1 0,.int .i64,.func (.func 207) 0 1,.ptr 1 0,.int .i64,.func (.func 209) 0 1,.ptr 1 0,.obox 1,.str]
def Lo190:Outs:=[(.ret,[.int .i64,.ovals 224 4 8,.int .i64,.func (.func 205) 0 1,.ptr 1 0,.int .i64,.func (.func 206) 0 1,.ptr 1 0,.int .i64,.func (.func 207) 0 1,.ptr 1 0,.int .i64,.func (.func 209) 0 1,.ptr 1 0,.obox 1,.str])]
def Li191:List Sh := .str :: .int .u8::tp 3 (.int .i64::tp 13 ([]))
def Li192:List Sh := .int .u8::tp 14 (.bool::tp 19 ([]))
def Lo193:Outs:=[(.ret,.top :: .top :: .int .i64 :: .bool::tp 31 ([])),(.normal,tp 35 ([]))]
def Li194:List Sh := .int .u8::tp 3 (.bool::tp 30 ([]))
def Li195:List Sh:=[.str,.int .i64]
def Lo196:Outs:=[(.ret,[.tuple 2,.int .i64,.str])]
def Li197:List Sh := .str :: .int .i64::tp 4 (.int .i64 :: .int .i64::tp 5 (.int .i64 :: .int .i64::tp 46 ([])))
def Lo198:Outs:=[((.exit 0),tp 61 ([])),((.goto 0),tp 61 ([])),(.ret,tp 4 (.int .i64 :: .str::tp 55 ([])))]
def Li199:List Sh:=tp 61 ([])
def Lo200:Outs:=[(.ret,tp 4 (.int .i64 :: .str::tp 55 ([])))]
def Lo201:Outs:=[(.ret,[.tuple 2,.lst (.int .i32),.bool])]
def Li202:List Sh := .str::tp 3 (.row 0 :: .top :: .int .i64 :: .int .i64 :: .int .i64 :: .bool::tp 70 (.orow 21 (.int .i32)::[]))
def Lo203:Outs:=[((.exit 0),tp 4 (.row 0::tp 75 (.orow 21 (.int .i32)::[]))),(.ret,.top :: .top :: .nils :: .bool::tp 76 ([]))]
def Li204:List Sh := .str::tp 3 (.row 0::tp 75 (.orow 21 (.int .i32)::[]))
def Lo205:Outs:=[(.ret,.top :: .top :: .row 0 :: .bool::tp 76 (.orow 21 (.int .i32)::[]))]
def Lo206:Outs:=[(.ret,[.tuple 2,.str,.int .i64])]
def Li207:List Sh := .str :: .str::tp 3 (.int .i64::tp 10 (.bool::tp 126 ([])))
def Lo208:Outs:=[(.ret,tp 4 (.int .i64::tp 138 ([])))]
def Lo209:Outs:=[(.ret,[.tuple 3,.str,.str,.bool])]
def Li210:List Sh := .int .u8 :: .top :: .top :: .bool::tp 23 ([])
def Lo211:Outs:=[(.normal,.int .u8 :: .top :: .top :: .bool::tp 23 ([]))]
def Li212:List Sh:=[.ptr 0 0,.obox 4,.str,.int .i64,.int .i64,.int .i64]
def Lo213:Outs:=[(.ret,[.str,.obox 4,.str,.int .i64,.int .i64,.int .i64])]
def Li214:List Sh := .ptr 0 0 :: .top :: .top :: .int .i64::tp 43 (.obox 4 :: .str :: .int .i64 :: .int .i64 :: .int .i64::[])
def Lo215:Outs:=[(.normal,.ptr 0 0 :: .top :: .top :: .int .i64::tp 43 (.obox 4 :: .str :: .int .i64 :: .int .i64 :: .int .i64::[]))]
def Lo216:Outs:=[((.exit 0),.ptr 0 0 :: .top :: .top :: .int .i64::tp 43 (.obox 4 :: .str :: .int .i64 :: .int .i64 :: .int .i64::[]))]
def Li217:List Sh:=[.ptr 0 0,.int .i64,.int .i64,.obox 4,.str,.int .i64,.int .i64,.int .i64]
def Lo218:Outs:=[(.ret,[.tuple 0,.obox 4,.str,.int .i64,.int .i64,.int .i64])]
def Li219:List Sh := .ptr 0 0 :: .top :: .top :: .row 1 :: .int .i64::tp 67 (.obox 4 :: .str :: .int .i64 :: .int .i64 :: .int .i64 :: .orow 5 .byte::[])
def Lo220:Outs:=[(.ret,.top :: .top :: .str::tp 69 (.obox 4 :: .str :: .int .i64 :: .int .i64 :: .int .i64::[])),(.normal,.ptr 0 0 :: .top :: .top :: .row 1 :: .int .i64::tp 67 (.obox 4 :: .str :: .int .i64 :: .int .i64 :: .int .i64 :: .orow 5 .byte::[]))]
def Lo221:Outs:=[((.exit 0),.ptr 0 0::tp 71 (.obox 4 :: .str :: .int .i64 :: .int .i64 :: .int .i64::[])),(.ret,.top :: .top :: .str::tp 69 (.obox 4 :: .str :: .int .i64 :: .int .i64 :: .int .i64::[]))]
def Li222:List Sh := .ptr 0 0 :: .top :: .top :: .int .i64 :: .top :: .str::tp 65 (.obox 4 :: .str :: .int .i64 :: .int .i64 :: .int .i64::[])
def Lo223:Outs:=[(.ret,.top :: .top :: .str::tp 68 (.obox 4 :: .str :: .int .i64 :: .int .i64 :: .int .i64::[]))]
def Li224:List Sh := .ptr 0 0 :: .top :: .top :: .int .i64::tp 67 (.obox 4 :: .str :: .int .i64 :: .int .i64 :: .int .i64::[])
def Lo225:Outs:=[((.exit 0),.ptr 0 0::tp 70 (.obox 4 :: .str :: .int .i64 :: .int .i64 :: .int .i64::[])),(.ret,.top :: .top :: .str::tp 68 (.obox 4 :: .str :: .int .i64 :: .int .i64 :: .int .i64::[]))]
def Li226:List Sh := .ptr 0 0 :: .top :: .top :: .int .i64 :: .int .i64 :: .int .i64 :: .int .i64::tp 72 (.obox 4 :: .str :: .int .i64 :: .int .i64 :: .int .i64::[])
def Lo227:Outs:=[((.exit 0),.ptr 0 0 :: .top :: .top :: .int .i64 :: .top :: .int .i64::tp 73 (.obox 4 :: .str :: .int .i64 :: .int .i64 :: .int .i64::[])),((.goto 0),.ptr 0 0::tp 4 (.int .i64 :: .int .i64::tp 72 (.obox 4 :: .str :: .int .i64 :: .int .i64 :: .int .i64::[]))),(.ret,.top :: .top :: .str::tp 76 (.obox 4 :: .str :: .int .i64 :: .int .i64 :: .int .i64::[]))]
def Li228:List Sh := .ptr 0 0::tp 4 (.int .i64 :: .int .i64::tp 72 (.obox 4 :: .str :: .int .i64 :: .int .i64 :: .int .i64::[]))
def Lo229:Outs:=[(.ret,.top :: .top :: .str::tp 76 (.obox 4 :: .str :: .int .i64 :: .int .i64 :: .int .i64::[]))]
def Li230:List Sh := .ptr 0 0 :: .top :: .top :: .int .i64::tp 45 (.bool::tp 30 (.obox 4 :: .str :: .int .i64 :: .int .i64 :: .int .i64::[]))
def Lo231:Outs:=[(.normal,.ptr 0 0 :: .top :: .top :: .int .i64::tp 76 (.obox 4 :: .str :: .int .i64 :: .int .i64 :: .int .i64::[])),(.ret,.top :: .top :: .str::tp 77 (.obox 4 :: .str :: .int .i64 :: .int .i64 :: .int .i64::[]))]
def Li232:List Sh := .ptr 0 0 :: .top :: .top :: .int .i64::tp 76 (.obox 4 :: .str :: .int .i64 :: .int .i64 :: .int .i64::[])
def Lo233:Outs:=[((.exit 0),.ptr 0 0 :: .top :: .top :: .int .i64::tp 76 (.obox 4 :: .str :: .int .i64 :: .int .i64 :: .int .i64::[])),(.ret,.top :: .top :: .str::tp 77 (.obox 4 :: .str :: .int .i64 :: .int .i64 :: .int .i64::[]))]
def Lo234:Outs:=[(.ret,[.agg 3,.int .i64,.str,.int .i64,.obox 4,.str,.int .i64,.int .i64,.int .i64])]
def Li235:List Sh := .ptr 0 0 :: .top :: .ptr 1 0 :: .int .i64 :: .int .u8::tp 78 (.obox 4 :: .str :: .int .i64 :: .int .i64 :: .int .i64 :: .obox 3 :: .int .i64 :: .str :: .int .i64::[])
def Lo236:Outs:=[(.ret,.top :: .top :: .ptr 1 0::tp 80 (.obox 4 :: .str :: .int .i64 :: .int .i64 :: .int .i64 :: .obox 3 :: .int .i64 :: .str :: .int .i64::[]))]
def Lo237:Outs:=[(.ret,[.tuple 3,.lst YqD,.int .i64,.int .i64])]
def Li238:List Sh := .str::tp 6 (.row 0 :: .ptr 1 0::tp 40 (.orow 84 YqD :: .obox 4 :: .str :: .int .i64 :: .int .i64 :: .int .i64::[]))
def Lo239:Outs:=[((.exit 0),tp 7 (.row 0::tp 41 (.orow 84 YqD::[]))),(.ret,.top :: .top :: .nils :: .int .i64 :: .int .i64::tp 44 ([]))]
def Li240:List Sh:=[.ptr 0 0,.int .i64,.obox 4,.lst YqD,.int .i64,.str,.str]
def Lo241:Outs:=[(.ret,[.int .i64,.obox 4,.lst YqD,.int .i64,.str,.str])]
def Li242:List Sh := .ptr 0 0 :: .int .i64::tp 28 (.obox 4 :: .lst YqD :: .int .i64 :: .str :: .str::[])
def Lo243:Outs:=[(.ret,tp 4 (.int .i64::tp 25 (.obox 4 :: .lst YqD :: .int .i64 :: .str :: .str::[])))]
def Li244:List Sh:=[.ptr 0 0,.obox 4,.lst YqD,.int .i64,.str,.str]
def Lo245:Outs:=[(.ret,[.bool,.obox 4,.lst YqD,.int .i64,.str,.str])]
def Li246:List Sh := .ptr 0 0::tp 17 (.obox 4 :: .lst YqD :: .int .i64 :: .str :: .str::[])
def Lo247:Outs:=[((.exit 0),tp 18 (.obox 4 :: .lst YqD :: .int .i64 :: .str :: .str::[]))]
def Li248:List Sh:=[.ptr 0 0,.str,.obox 4,.lst YqD,.int .i64,.str,.str]
def Lo249:Outs:=[(.ret,[.tuple 2,.str,.bool,.obox 4,.lst YqD,.int .i64,.str,.str])]
def Li250:List Sh := .ptr 0 0::tp 3 (.str::tp 51 (.obox 4 :: .lst YqD :: .int .i64 :: .str :: .str::[]))
def Lo251:Outs:=[((.exit 0),tp 4 (.str::tp 51 (.obox 4 :: .lst YqD :: .int .i64 :: .str :: .str::[])))]
def Lo252:Outs:=[(.ret,.top :: .top :: .str :: .bool::tp 52 (.obox 4 :: .lst YqD :: .int .i64 :: .str :: .str::[]))]
def Li253:List Sh := .ptr 0 0::tp 37 (.obox 4 :: .lst YqD :: .int .i64 :: .str :: .str::[])
def Lo254:Outs:=[(.ret,.top :: .top :: .bool::tp 35 (.obox 4 :: .lst YqD :: .int .i64 :: .str :: .str::[]))]
def Lo255:Outs:=[(.ret,[.str])]
def Li256:List Sh := .str :: .top :: .top :: .row 0 :: .top :: .top :: .int .i64 :: .int .i64::tp 24 (.orow 5 .byte::[])
def Lo257:Outs:=[((.exit 0),tp 3 (.row 0::tp 28 (.orow 5 .byte::[])))]
def Li258:List Sh:=[.agg 3,.int .i64,.str,.int .i64]
def Li259:List Sh:=[.lst YqD]
def Lo260:Outs:=[(.ret,[.tuple 3,.agg 2,.str,.str,.int .i64,.bool])]
def Li261:List Sh:=[.str,.func (.func 36) 0 0,.bool]
def Li262:List Sh := .top :: .func (.func 36) 0 0 :: .bool::tp 7 (.ptr 0 0::tp 10 (.oiter::[]))
def Li263:List Sh:=[.str,.func (.func 36) 0 0]
def Li264:List Sh:=[.agg 5,.lst YqA,.lst YqB,.lst YqC,.opq 0,.opq 1,.agg 2,.str,.str]
def Lo265:Outs:=[(.ret,[.tuple 2,.agg 2,.str,.str,.int .i64])]
def Li266:List Sh := .top :: .top :: .ptr 0 0 :: .ptr 1 0 :: .ptr 2 0::tp 3 (.bool::tp 33 (.obox 5 :: .lst YqA :: .lst YqB :: .lst YqC :: .opq 0 :: .opq 1 :: .obox 2 :: .str :: .str :: .obox 2 :: .str :: .str::[]))
def Lo267:Outs:=[(.ret,tp 4 (.ptr 0 0 :: .int .i64::tp 36 (.obox 2 :: .str :: .str::[]))),(.normal,.top :: .top :: .ptr 0 0 :: .ptr 1 0 :: .ptr 2 0::tp 37 (.obox 5 :: .lst YqA :: .lst YqB :: .lst YqC :: .opq 0 :: .opq 1 :: .obox 2 :: .str :: .str :: .obox 2 :: .str :: .str::[]))]
def Li268:List Sh := .top :: .int .i32 :: .ptr 0 0::tp 4 (.bool::tp 32 (.obox 5 :: .lst YqA :: .lst YqB :: .lst YqC :: .opq 0 :: .opq 1::[]))
def Lo269:Outs:=[(.ret,tp 4 (.bool::tp 35 ([]))),(.normal,.top :: .int .i32 :: .ptr 0 0::tp 37 (.obox 5 :: .lst YqA :: .lst YqB :: .lst YqC :: .opq 0 :: .opq 1::[]))]
def Li270:List Sh:=[.int .i64,.ptr 0 0,.ptr 1 0,.obox 5,.lst YqA,.lst YqB,.lst YqC,.opq 0,.opq 1,.obox 1,.lst (.int .i32)]
def Li271:List Sh:=tp 7 (.func (.func 86) 0 2 :: .ptr 0 0 :: .ptr 1 0::tp 15 (.int .i64 :: .int .i64::tp 6 (.obox 5 :: .lst YqA :: .lst YqB :: .lst YqC :: .opq 0 :: .opq 1 :: .obox 1 :: .lst (.int .i32)::[])))
def Lo272:Outs:=[((.exit 1),tp 31 ([])),(.ret,tp 4 (.int .i64::tp 26 ([])))]
def Lo273:Outs:=[(.ret,[.int .u8])]
def Li274:List Sh:=[.lst .byte,.func (.func 61) 0 0]
def Lo275:Outs:=[(.ret,[.lst .byte])]
def Li276:List Sh := .top :: .func (.func 61) 0 0::tp 3 (.row 0 :: .top :: .top :: .lst .byte :: .int .i64 :: .int .i64::tp 11 (.orow 5 .byte::[]))
def Lo277:Outs:=[((.exit 0),tp 5 (.row 0::tp 16 (.orow 5 .byte::[])))]
def Lo278:Outs:=[(.ret,[.agg 2,.str,.str])]
def Li279:List Sh := .top :: .top :: .ptr 0 0 :: .ptr 1 0 :: .ptr 2 0::tp 35 (.obox 5 :: .lst YqA :: .lst YqB :: .lst YqC :: .opq 0 :: .opq 1 :: .obox 2 :: .str :: .str :: .obox 2 :: .str :: .str::[])
def Lo280:Outs:=[(.ret,tp 4 (.ptr 0 0::tp 35 (.obox 2 :: .str :: .str::[])))]
def Li281:List Sh := .top :: .top :: .int .i64 :: .top :: .ptr 0 0::tp 5 (.oiter::[])
def Lo282:Outs:=[((.exit 0),.top :: .top :: .int .i64::tp 7 ([]))]
def Lo283:Outs:=[(.ret,[.tuple 2,.int .i32,.int .i64])]
def Li284:List Sh := .str::tp 9 (.bool::tp 8 ([]))
def Lo285:Outs:=[(.ret,.top :: .top :: .int .i32 :: .int .i64::tp 15 ([])),(.normal,.top :: .top :: .int .i32 :: .int .i64::tp 15 ([]))]
def Lo286:Outs:=[(.ret,[.lst .str])]
def Li287:List Sh := .str :: .int .i64::tp 4 (.row 0 :: .int .i64::tp 42 (.orow 9 .str::[]))
def Lo288:Outs:=[((.exit 0),.str :: .int .i64::tp 4 (.row 0::tp 43 (.orow 9 .str::[])))]
def Li289:List Sh := .str :: .int .i64::tp 48 ([])
def Lo290:Outs:=[(.ret,tp 4 (.row 0::tp 45 (.orow 9 .str::[])))]
def Li291:List Sh := .str :: .str::tp 3 (.int .i64::tp 28 ([]))
def Lo292:Outs:=[(.ret,tp 4 (.int .i64::tp 29 ([])))]
def Li293:List Sh:=[.str,.str,.int .i64,.int .i64]
def Li294:List Sh := .str :: .str :: .int .i64 :: .int .i64::tp 5 (.row 0 :: .int .i64::tp 55 (.orow 9 .str::[]))
def Lo295:Outs:=[((.exit 0),.str::tp 8 (.row 0 :: .int .i64::tp 55 (.orow 9 .str::[])))]
def Li296:List Sh := .str :: .str :: .int .i64 :: .int .i64::tp 62 ([])
def Lo297:Outs:=[(.ret,tp 8 (.lst .str::tp 57 ([])))]
def Li298:List Sh := .str::tp 4 (.int .i64 :: .int .i64::tp 10 ([]))
def Lo299:Outs:=[((.exit 0),.str::tp 16 ([])),(.ret,.top :: .top :: .bool::tp 14 ([]))]
def Li300:List Sh:=tp 6 (.lst .str :: .int .i64 :: .int .i64::tp 7 ([]))
def Lo301:Outs:=[((.exit 0),tp 16 ([])),(.ret,.top :: .top :: .bool::tp 13 ([]))]
def Li302:List Sh:=[.agg 2,.str,.str]
def Li303:List Sh:=[.agg 3,.int .i64,.str,.int .i64,.str]
def Li304:List Sh:=[.lst YqD,.func (.func 69) 0 0]
def m4x:List Sh := .lst YqD :: .func (.func 69) 0 0::tp 5 (.int .i64 :: .int .i64::tp 10 ([]))
def m4q:List Sh:=[.agg 3,.bool,.str,.str]
def m4v:Outs:=[(.ret,[.tuple 2,.agg 3,.bool,.str,.str,.int .i64])]
def m4y:List Sh := .top :: .top :: .ptr 0 0 :: .top :: .ptr 1 0 :: .top :: .ptr 2 0::tp 89 (.obox 5 :: .lst YqA :: .lst YqB :: .lst YqC :: .opq 0 :: .opq 1 :: .obox 3 :: .bool :: .str :: .str :: .obox 3 :: .bool :: .str :: .str::[])
def m4t:Outs:=[(.ret,tp 4 (.ptr 0 0 :: .int .i64::tp 90 (.obox 3 :: .bool :: .str :: .str::[])))]
def m4u:List Sh := .top :: .top :: .ptr 0 0 :: .top :: .ptr 1 0 :: .top :: .ptr 2 0 :: .top :: .int .i64 :: .top :: .lst YqD :: .top :: .int .i64::tp 83 (.obox 5 :: .lst YqA :: .lst YqB :: .lst YqC :: .opq 0 :: .opq 1 :: .obox 3 :: .bool :: .str :: .str :: .obox 3 :: .bool :: .str :: .str::[])
def m5b:Outs:=[((.goto 0),tp 4 (.ptr 0 0::tp 7 (.int .i64::tp 83 (.obox 3 :: .bool :: .str :: .str::[])))),(.ret,tp 4 (.ptr 0 0 :: .int .i64::tp 90 (.obox 3 :: .bool :: .str :: .str::[])))]
def m5c:Outs:=[(.ret,tp 4 (.ptr 0 0 :: .int .i64::tp 90 (.obox 3 :: .bool :: .str :: .str::[]))),((.goto 0),tp 4 (.ptr 0 0::tp 7 (.int .i64::tp 83 (.obox 3 :: .bool :: .str :: .str::[]))))]
def m4r:List Sh:=tp 4 (.ptr 0 0::tp 7 (.int .i64::tp 83 (.obox 3 :: .bool :: .str :: .str::[])))
def m4s:List Sh:=[.agg 5,.lst YqA,.lst YqB,.lst YqC,.opq 0,.opq 1,.agg 3,.bool,.str,.str]
def m4z:List Sh := .top :: .top :: .ptr 0 0 :: .ptr 1 0 :: .top :: .bool::tp 19 (.obox 5 :: .lst YqA :: .lst YqB :: .lst YqC :: .opq 0 :: .opq 1 :: .obox 3 :: .bool :: .str :: .str::[])
def m5d:Outs:=[(.ret,tp 4 (.int .i64::tp 20 ([]))),(.normal,.top :: .top :: .ptr 0 0 :: .ptr 1 0::tp 21 (.obox 5 :: .lst YqA :: .lst YqB :: .lst YqC :: .opq 0 :: .opq 1 :: .obox 3 :: .bool :: .str :: .str::[]))]
def m5e:Outs:=[(.ret,[.agg 3,.bool,.str,.str])]
def m5a:List Sh:=[.agg 5,.lst YqA,.lst YqB,.lst YqC,.opq 0,.opq 1,.agg 3,.bool,.str,.str,.agg 3,.bool,.str,.str]
abbrev T119:=LqA×LqB×LqC×Int×Unit→Option (Int×Int×Int×Bool×Bool×Bool×Unit)
def E119 (f:T119):FEnt:=⟨Li0,Lo1,f⟩
abbrev T244:=Int×Unit→Option (List (Int)×Unit)
def E244 (f:T244):FEnt:=⟨Li2,Lo3,f⟩
abbrev T174:=List (Int)×Unit→Option (List (Int)×Unit)
def E174 (f:T174):FEnt:=⟨Li4,Lo3,f⟩
abbrev T228:=LqA×LqB×LqC×Int×Int×Unit→Option (Int×Bool×Unit)
def E228 (f:T228):FEnt:=⟨Li5,Lo6,f⟩
abbrev T150:=Unit→Option (Unit)
def E150 (f:T150):FEnt:=⟨Li7,Lo8,f⟩
abbrev T90:=LqA×LqB×LqC×List (Int)×Unit→Option (Int×Unit)
def E90 (f:T90):FEnt:=⟨Li9,Lo10,f⟩
abbrev T212:=Int×List (Int)×List (Int)×Unit→Option (List (Int)×Unit)
def E212 (f:T212):FEnt:=⟨Li11,Lo12,f⟩
abbrev T163:=LqS×Int×Unit→Option (Int×Unit)
def E163 (f:T163):FEnt:=⟨Li13,Lo10,f⟩
abbrev T9:=Unit→Option (LqA×LqB×LqC×Unit)
def E9 (f:T9):FEnt:=⟨Li7,Lo14,f⟩
abbrev T62:=LqA×LqB×LqC×LqS×Unit→Option (LqS×LqS×Int×Unit)
def E62 (f:T62):FEnt:=⟨Li15,Lo16,f⟩
abbrev T173:=LqS×Int×Unit→Option (Int×Unit)
def E173 (f:T173):FEnt:=⟨Li13,Lo10,f⟩
abbrev AqF (K:Calls') (np:Nat) (f:Func) (n:Ann) (ins:List Sh) (os:Outs) (F:HS ins→Option (OTy os)):Prop:=∀v,afun Γ K np f.ntmps f.results.toList (code f) n (em id ins v).1 (em id ins v).2 (ofin np os)=F v
abbrev AqC (K:Calls') (np:Nat) (c:Code) (n:Ann) (ins:List Sh) (os:Outs) (F:HS ins→Option (OTy os)):Prop:=∀v,aev Γ K np c n (stof ins v) (oout np os)=F v
abbrev AqL (K:Calls') (np:Nat) (c:Code) (n:Ann) (ins:List Sh) (os:Outs) (F:HS ins→Option (HS ins⊕OTy os)):Prop:=∀v,aev Γ K np c n (stof ins v) (around np ins os)=F v
theorem fnx {np:Nat} {K:Calls'} {f:FuncId} {fn:Func} {n:Ann} {e:FEnt} (hK:KOk Tryz.prog K) (hf:Tryz.prog.funcs[f]? = some fn) (hb:fn.body=some (code fn)) (hname:(fn.name == "runtime.NumGoroutine")=false) (hn:AnnOk Tryz.prog np (code fn) n) (hnp:∀v,Nat.ble (em id e.ins v).2.length np=true)
 (h:∀v,afun Γ K np fn.ntmps fn.results.toList (code fn) n (em id e.ins v).1 (em id e.ins v).2 (ofin np e.outs)=e.fn v):FnOk Tryz.prog f e:=fn_ok hm hΓ hK hf hb (name_ne hname) hn (fun v=>Nat.le_of_ble_eq_true (hnp v)) h
abbrev lk (l:List (Nat×FEnt)):Calls':=fun f=>Ae.lookA f l
def KqZ:=lk []
theorem kn:KOk Tryz.prog KqZ:=kok_nil _
theorem kc {f:FuncId} {e:FEnt} {l:List (Nat×FEnt)} (h:FnOk Tryz.prog f e) (t:KOk Tryz.prog (lk l)):KOk Tryz.prog (lk ((f,e)::l)):=kok_cons h t
abbrev FO (f:FuncId) (e:FEnt):Prop:=FnOk Tryz.prog f e
abbrev LpOk (np:Nat) (c:Code) (e:LEnt):Prop:=FragOk Tryz.prog np (fun Q a w=>(Code.loop c).wp Tryz.prog Q a w) e
abbrev CdOk (np:Nat) (c:Code) (e:LEnt):Prop:=FragOk Tryz.prog np (fun Q a w=>c.wp Tryz.prog Q a w) e
theorem frl {np:Nat} {K:Calls'} {c:Code} {i:List Sh} {o:Outs} {F:HS i→Option (HS i⊕OTy o)} (hK:KOk Tryz.prog K) (h:AqL K np c .nil i o F):LpOk np c ⟨i,o,loopN F big⟩:=frag_big (C:=loopN F big) (frag_loop hm hΓ hK (fun _=>big) (ann_nil _) h) rfl
theorem frm {np:Nat} {K:Calls'} {c:Code} {n:Ann} {i:List Sh} {o:Outs} {F:HS i→Option (HS i⊕OTy o)} {Q:Prop} (hK:KOk Tryz.prog K) (q:Q) (h:AqL K np c n i o F) (ho:Obs Tryz.prog np c n True=Q:=by kernel_rfl):LpOk np c ⟨i,o,loopN F big⟩:=frag_big (C:=loopN F big) (frag_loop hm hΓ hK (fun _=>big) (ann_obs q ho) h) rfl
theorem frc {np:Nat} {K:Calls'} {c:Code} {i:List Sh} {o:Outs} {F:HS i→Option (OTy o)} (hK:KOk Tryz.prog K) (h:AqC K np c .nil i o F):CdOk np c ⟨i,o,F⟩:=frag_code hm hΓ hK (ann_nil _) h
theorem frd {np:Nat} {K:Calls'} {c:Code} {n:Ann} {i:List Sh} {o:Outs} {F:HS i→Option (OTy o)} {Q:Prop} (hK:KOk Tryz.prog K) (q:Q) (h:AqC K np c n i o F) (ho:Obs Tryz.prog np c n True=Q:=by kernel_rfl):CdOk np c ⟨i,o,F⟩:=frag_code hm hΓ hK (ann_obs q ho) h
theorem q0 {np:Nat} {K:Calls'} {f:FuncId} {fn:Func} {e:FEnt} (hK:KOk Tryz.prog K) (hf:Tryz.prog.funcs[f]? = some fn) (h:∀v,afun Γ K np fn.ntmps fn.results.toList (code fn) .nil (em id e.ins v).1 (em id e.ins v).2 (ofin np e.outs)=e.fn v) (hb:fn.body=some (code fn):=by kernel_rfl) (hname:(fn.name == "runtime.NumGoroutine")=false:=by kernel_rfl) (hnp:∀v,Nat.ble (em id e.ins v).2.length np=true:=by intro _;kernel_rfl):FO f e:=fnx hK hf hb hname (ann_nil _) hnp h
theorem qo {np:Nat} {K:Calls'} {f:FuncId} {fn:Func} {n:Ann} {e:FEnt} {Q:Prop} (hK:KOk Tryz.prog K) (hf:Tryz.prog.funcs[f]? = some fn) (q:Q) (h:∀v,afun Γ K np fn.ntmps fn.results.toList (code fn) n (em id e.ins v).1 (em id e.ins v).2 (ofin np e.outs)=e.fn v) (ho:Obs Tryz.prog np (code fn) n True=Q:=by kernel_rfl) (hb:fn.body=some (code fn):=by kernel_rfl) (hname:(fn.name == "runtime.NumGoroutine")=false:=by kernel_rfl) (hnp:∀v,Nat.ble (em id e.ins v).2.length np=true:=by intro _;kernel_rfl):FO f e:=fnx hK hf hb hname (ann_obs q ho) hnp h
theorem zc0 {np:Nat} {c:Code} (i:List Sh) (o:Outs) (K:Calls') (F:HS i→Option (OTy o)) (hK:KOk Tryz.prog (K)) (h:AqC (K) np c .nil i o (F):=by intro _;kernel_rfl):CdOk np c ⟨i,o,F⟩:=frc hK (h)
theorem zc1 {X0:Type} {np:Nat} {c:Code} (i:List Sh) (o:Outs) (K:X0→Calls') (F:X0→HS i→Option (OTy o)) (x0:X0) (hK:KOk Tryz.prog (K x0)) (h:∀(x0:X0),AqC (K x0) np c .nil i o (F x0):=by intro _ _;kernel_rfl):CdOk np c ⟨i,o,F x0⟩:=frc hK (h x0)
theorem zc2 {X0 X1:Type} {np:Nat} {c:Code} (i:List Sh) (o:Outs) (K:X0→X1→Calls') (F:X0→X1→HS i→Option (OTy o)) (x0:X0) (x1:X1) (hK:KOk Tryz.prog (K x0 x1)) (h:∀(x0:X0) (x1:X1),AqC (K x0 x1) np c .nil i o (F x0 x1):=by intro _ _ _;kernel_rfl):CdOk np c ⟨i,o,F x0 x1⟩:=frc hK (h x0 x1)
theorem zc3 {X0 X1 X2:Type} {np:Nat} {c:Code} (i:List Sh) (o:Outs) (K:X0→X1→X2→Calls') (F:X0→X1→X2→HS i→Option (OTy o)) (x0:X0) (x1:X1) (x2:X2) (hK:KOk Tryz.prog (K x0 x1 x2)) (h:∀(x0:X0) (x1:X1) (x2:X2),AqC (K x0 x1 x2) np c .nil i o (F x0 x1 x2):=by intro _ _ _ _;kernel_rfl):CdOk np c ⟨i,o,F x0 x1 x2⟩:=frc hK (h x0 x1 x2)
theorem zl0 {np:Nat} {c:Code} (i:List Sh) (o:Outs) (K:Calls') (F:HS i→Option (HS i⊕OTy o)) (hK:KOk Tryz.prog (K)) (h:AqL (K) np c .nil i o (F):=by intro _;kernel_rfl):LpOk np c ⟨i,o,loopN (F) big⟩:=frl hK (h)
theorem zl1 {X0:Type} {np:Nat} {c:Code} (i:List Sh) (o:Outs) (K:X0→Calls') (F:X0→HS i→Option (HS i⊕OTy o)) (x0:X0) (hK:KOk Tryz.prog (K x0)) (h:∀(x0:X0),AqL (K x0) np c .nil i o (F x0):=by intro _ _;kernel_rfl):LpOk np c ⟨i,o,loopN (F x0) big⟩:=frl hK (h x0)
theorem zl2 {X0 X1:Type} {np:Nat} {c:Code} (i:List Sh) (o:Outs) (K:X0→X1→Calls') (F:X0→X1→HS i→Option (HS i⊕OTy o)) (x0:X0) (x1:X1) (hK:KOk Tryz.prog (K x0 x1)) (h:∀(x0:X0) (x1:X1),AqL (K x0 x1) np c .nil i o (F x0 x1):=by intro _ _ _;kernel_rfl):LpOk np c ⟨i,o,loopN (F x0 x1) big⟩:=frl hK (h x0 x1)
theorem zq0 {f:FuncId} {fn:Func} (i:List Sh) (o:Outs) (K:Calls') (F:HS i→Option (OTy o)) (hK:KOk Tryz.prog (K)) (hf:Tryz.prog.funcs[f]? = some fn) (h:AqF (K) 0 fn .nil i o (F):=by intro _;kernel_rfl) (hb:fn.body=some (code fn):=by kernel_rfl) (hname:(fn.name == "runtime.NumGoroutine")=false:=by kernel_rfl) (hnp:∀v,Nat.ble (em id i v).2.length 0=true:=by intro _;kernel_rfl):FO f ⟨i,o,F⟩:=fnx hK hf hb hname (ann_nil _) hnp (h)
theorem zq0_1 {Y0:Type} {f:FuncId} {fn:Func} (i:List Sh) (o:Outs) (K:Calls') (N:Y0→Ann) (F:Y0→HS i→Option (OTy o)) (y0:Y0) {Q:Prop} (hK:KOk Tryz.prog (K)) (hf:Tryz.prog.funcs[f]? = some fn) (q:Q) (h:∀(y0:Y0),AqF (K) 0 fn (N y0) i o (F y0):=by intro _ _;kernel_rfl) (ho:Obs Tryz.prog 0 (code fn) (N y0) True=Q:=by kernel_rfl) (hb:fn.body=some (code fn):=by kernel_rfl) (hname:(fn.name == "runtime.NumGoroutine")=false:=by kernel_rfl) (hnp:∀v,Nat.ble (em id i v).2.length 0=true:=by intro _;kernel_rfl):FO f ⟨i,o,F y0⟩:=fnx hK hf hb hname (ann_obs q ho) hnp (h y0)
theorem zq1 {X0:Type} {f:FuncId} {fn:Func} (i:List Sh) (o:Outs) (K:X0→Calls') (F:X0→HS i→Option (OTy o)) (x0:X0) (hK:KOk Tryz.prog (K x0)) (hf:Tryz.prog.funcs[f]? = some fn) (h:∀(x0:X0),AqF (K x0) 0 fn .nil i o (F x0):=by intro _ _;kernel_rfl) (hb:fn.body=some (code fn):=by kernel_rfl) (hname:(fn.name == "runtime.NumGoroutine")=false:=by kernel_rfl) (hnp:∀v,Nat.ble (em id i v).2.length 0=true:=by intro _;kernel_rfl):FO f ⟨i,o,F x0⟩:=fnx hK hf hb hname (ann_nil _) hnp (h x0)
theorem zq1_1 {X0 Y0:Type} {f:FuncId} {fn:Func} (i:List Sh) (o:Outs) (K:X0→Calls') (N:Y0→Ann) (F:X0→Y0→HS i→Option (OTy o)) (x0:X0) (y0:Y0) {Q:Prop} (hK:KOk Tryz.prog (K x0)) (hf:Tryz.prog.funcs[f]? = some fn) (q:Q) (h:∀(x0:X0) (y0:Y0),AqF (K x0) 0 fn (N y0) i o (F x0 y0):=by intro _ _ _;kernel_rfl) (ho:Obs Tryz.prog 0 (code fn) (N y0) True=Q:=by kernel_rfl) (hb:fn.body=some (code fn):=by kernel_rfl) (hname:(fn.name == "runtime.NumGoroutine")=false:=by kernel_rfl) (hnp:∀v,Nat.ble (em id i v).2.length 0=true:=by intro _;kernel_rfl):FO f ⟨i,o,F x0 y0⟩:=fnx hK hf hb hname (ann_obs q ho) hnp (h x0 y0)
theorem zq2 {X0 X1:Type} {f:FuncId} {fn:Func} (i:List Sh) (o:Outs) (K:X0→X1→Calls') (F:X0→X1→HS i→Option (OTy o)) (x0:X0) (x1:X1) (hK:KOk Tryz.prog (K x0 x1)) (hf:Tryz.prog.funcs[f]? = some fn) (h:∀(x0:X0) (x1:X1),AqF (K x0 x1) 0 fn .nil i o (F x0 x1):=by intro _ _ _;kernel_rfl) (hb:fn.body=some (code fn):=by kernel_rfl) (hname:(fn.name == "runtime.NumGoroutine")=false:=by kernel_rfl) (hnp:∀v,Nat.ble (em id i v).2.length 0=true:=by intro _;kernel_rfl):FO f ⟨i,o,F x0 x1⟩:=fnx hK hf hb hname (ann_nil _) hnp (h x0 x1)
theorem zq2_1 {X0 X1 Y0:Type} {f:FuncId} {fn:Func} (i:List Sh) (o:Outs) (K:X0→X1→Calls') (N:Y0→Ann) (F:X0→X1→Y0→HS i→Option (OTy o)) (x0:X0) (x1:X1) (y0:Y0) {Q:Prop} (hK:KOk Tryz.prog (K x0 x1)) (hf:Tryz.prog.funcs[f]? = some fn) (q:Q) (h:∀(x0:X0) (x1:X1) (y0:Y0),AqF (K x0 x1) 0 fn (N y0) i o (F x0 x1 y0):=by intro _ _ _ _;kernel_rfl) (ho:Obs Tryz.prog 0 (code fn) (N y0) True=Q:=by kernel_rfl) (hb:fn.body=some (code fn):=by kernel_rfl) (hname:(fn.name == "runtime.NumGoroutine")=false:=by kernel_rfl) (hnp:∀v,Nat.ble (em id i v).2.length 0=true:=by intro _;kernel_rfl):FO f ⟨i,o,F x0 x1 y0⟩:=fnx hK hf hb hname (ann_obs q ho) hnp (h x0 x1 y0)
theorem zq3_1 {X0 X1 X2 Y0:Type} {f:FuncId} {fn:Func} (i:List Sh) (o:Outs) (K:X0→X1→X2→Calls') (N:Y0→Ann) (F:X0→X1→X2→Y0→HS i→Option (OTy o)) (x0:X0) (x1:X1) (x2:X2) (y0:Y0) {Q:Prop} (hK:KOk Tryz.prog (K x0 x1 x2)) (hf:Tryz.prog.funcs[f]? = some fn) (q:Q) (h:∀(x0:X0) (x1:X1) (x2:X2) (y0:Y0),AqF (K x0 x1 x2) 0 fn (N y0) i o (F x0 x1 x2 y0):=by intro _ _ _ _ _;kernel_rfl) (ho:Obs Tryz.prog 0 (code fn) (N y0) True=Q:=by kernel_rfl) (hb:fn.body=some (code fn):=by kernel_rfl) (hname:(fn.name == "runtime.NumGoroutine")=false:=by kernel_rfl) (hnp:∀v,Nat.ble (em id i v).2.length 0=true:=by intro _;kernel_rfl):FO f ⟨i,o,F x0 x1 x2 y0⟩:=fnx hK hf hb hname (ann_obs q ho) hnp (h x0 x1 x2 y0)
end Go.Proofs.YtbifjondkjgkmaaGreatDoorA.W
set_option linter.unusedSimpArgs false
namespace Go.Ae
open Go.Shelf Go.RowKit Go.Proofs
variable {P:Program} {ρ:Ren}
theorem enters {f:FuncId} {fn:Func} (hf:P.funcs[f]? = some fn) (hb:fn.body.isSome=true) (hname:(fn.name == "runtime.NumGoroutine")=false) (args:Array Value) (w:World):(callFunc f args).run P w = .ok (.enter f args) w:=by
 obtain ⟨c,hc⟩:=Option.isSome_iff_exists.1 hb;have hn:fn.name ≠ "runtime.NumGoroutine" := by simpa using hname
 simp [callFunc,hf,hc,hn]
end Go.Ae
namespace Go.Ae
open Go.RowKit
variable {P:Program} {f:FuncId}
mutual
def AV.pur:AV→Bool
 | .top=>true | .int _ _=>true | .bool _=>true | .str _=>true | .lst _ _=>true
 | .nils=>true | .nilp=>true | .nilf=>true | .nili=>true | .nilm=>true | .opq _=>true | .elt _ _ _=>true
 | .func _ f c=>purL f&&purL c | .iface _ v=>v.pur | .agg cs=>purL cs | .tuple vs=>purL vs
 | .row _=>false | .win _ _ _ _=>false | .ptr _ _=>false | .rel _ _ _ _=>false | .rowc _ _ _=>false | .frow _ _=>false | .siter _ _=>false | .arrc _ _ _=>false | .vals _ _ _=>false | .bldr _ _=>false
def purL:List AV→Bool
 | []=>true
 | a::l=>a.pur&&purL l
end
mutual
theorem RepV.move {w:World} {m m':Md} {g g':List Value} (hm:∀b,m' b→m b):∀(a:AV) (v:Value),a.pur=true→RepV w m g a v→RepV w m' g' a v
 | .top,_,_,_=>trivial
 | .int _ _,_,_,h=>h
 | .bool _,_,_,h=>h
 | .str _,_,_,h=>h
 | .lst T _,_,_,h=>RepT.less (T := .lst T) hm h
 | .nils,_,_,h=>h
 | .nilp,_,_,h=>h
 | .nilf,_,_,h=>h
 | .nili,_,_,h=>h
 | .nilm,_,_,h=>h
 | .opq _,_,_,⟨b,o,h1,h2,h3,h4,h5⟩=>⟨b,o,h1,h2,fun h'=>h3 (hm b h'),h4,h5⟩
 | .elt _ _ _,_,_,⟨b,o,us,h1,h2,h3,h4,h5⟩=>⟨b,o,us,h1,h2.less hm,h3,fun h'=>h4 (hm b h'),h5⟩
 | .func _ f c,_,hp,⟨fs,cs,h1,h2,h3⟩=>by
  simp only [AV.pur,Bool.and_eq_true] at hp;exact ⟨fs,cs,h1,RepL.move hm f _ hp.1 h2,RepL.move hm c _ hp.2 h3⟩
 | .iface _ a,_,hp,⟨u,h1,h2⟩=>⟨u,h1,RepV.move hm a u (by simpa [AV.pur] using hp) h2⟩
 | .agg cs,_,hp,⟨a,h1,h2⟩=>⟨a,h1,RepL.move hm cs _ (by simpa [AV.pur] using hp) h2⟩
 | .tuple vs,_,hp,⟨a,h1,h2⟩=>⟨a,h1,RepL.move hm vs _ (by simpa [AV.pur] using hp) h2⟩
 | .row _,_,hp,_=>by simp [AV.pur] at hp
 | .win _ _ _ _,_,hp,_=>by simp [AV.pur] at hp
 | .ptr _ _,_,hp,_=>by simp [AV.pur] at hp
 | .rel _ _ _ _,_,hp,_=>by simp [AV.pur] at hp
 | .rowc _ _ _,_,hp,_=>by simp [AV.pur] at hp
 | .frow _ _,_,hp,_=>by simp [AV.pur] at hp
 | .siter _ _,_,hp,_=>by simp [AV.pur] at hp
 | .arrc _ _ _,_,hp,_=>by simp [AV.pur] at hp
 | .vals _ _ _,_,hp,_=>by simp [AV.pur] at hp
 | .bldr _ _,_,hp,_=>by simp [AV.pur] at hp
theorem RepL.move {w:World} {m m':Md} {g g':List Value} (hm:∀b,m' b→m b):∀(l:List AV) (vs:List Value),purL l=true→RepL w m g l vs→RepL w m' g' l vs
 | [],_,_,h=>h
 | a::l,_,hp,⟨v,r,h1,h2,h3⟩=>by
  simp only [purL,Bool.and_eq_true] at hp;exact ⟨v,r,h1,RepV.move hm a v hp.1 h2,RepL.move hm l r hp.2 h3⟩
end
theorem below_stp {w w':World} {m m':Md} (h:Stp w m w' m') (hn:∀b,¬m.n b):Below w.heap.size w w':=⟨h.os,h.tape,h.output,h.size,fun b hb=>h.keep b hb (hn b)⟩
theorem hand {fn:Func} (hf:P.funcs[f]? = some fn) (hb:fn.body.isSome=true) (hname:(fn.name == "runtime.NumGoroutine")=false) {ins:List Sh} {os:Outs} {F:HS ins→Option (OTy os)}
 (he:∀v,(em id ins v).2=[]) (hp:∀v,purL (em id ins v).1=true)
 (h:∀(v:HS ins) (y:OTy os),F v=some y→∀(w:World) (m:Md) (args:Array Value),GI w m→(∀b,¬m.n b)→(∀b,m.a b→b<w.heap.size)→RepL w m [] (em id ins v).1 args.toList →
  Calls P f args w fun e w'=>∃r,e = .returned r∧Below w.heap.size w w'∧∃ax l u,OSel os y ax l u∧(em id l u).2=[]∧purL (em id l u).1=true∧RepL w' m [] (em id l u).1 [r]):FnOk P f ⟨ins,os,F⟩:=by
 intro w m g v args y hob hargs hy;have hob':RepOb w m g []:=by have:=hob;rwa [show (em id (FEnt.ins ⟨ins,os,F⟩) v).2=[] from he v] at this
 refine .inr ⟨enters hf hb hname _ w,?_⟩;have hlt:=hob.lt;have hargs':RepL w m g (em id ins v).1 args.toList:=hargs;refine (h v y hy w ⟨fun _=>False,m.a⟩ args ⟨hob.gi.i,hob.gi.b⟩ (fun _=>id) hlt (RepL.move (m':=⟨fun _=>False,m.a⟩) (g':=[]) (fun b (h:m.a b)=>h) _ _ (hp v) hargs')).mono fun e w' ⟨r,h1,h2,ax,l,u,h3,h4,h5,h6⟩ => ?_;refine ⟨r,h1,ax,l,u,m,g,h3,stp_below h2 hob.nm,?_,fun _ _ h=>h,RepL.move (m:=⟨fun _=>False,m.a⟩) (fun b (h:m.a b)=>h) _ _ h5 h6⟩;rw [h4];exact repOb_nil hob' (stp_below h2 hob.nm)
theorem FnOk.call0 {ins:List Sh} {os:Outs} {F:HS ins→Option (OTy os)} (h:FnOk P f ⟨ins,os,F⟩) {fn:Func} (hf:P.funcs[f]? = some fn) (hb:fn.body.isSome=true) (hname:(fn.name == "runtime.NumGoroutine")=false)
 {w:World} {m:Md} {v:HS ins} {y:OTy os} {args:Array Value} (gi:GI w m) (hlt:∀b,m.a b→b<w.heap.size) (he:(em id ins v).2=[]) (hargs:RepL w m [] (em id ins v).1 args.toList) (hpa:purL (em id ins v).1=true) (hy:F v=some y)
 (hpo:∀ax l u,OSel os y ax l u→purL (em id l u).1=true) :
 Calls P f args w fun e w'=>∃r,e = .returned r∧Below w.heap.size w w'∧∃ax l u,OSel os y ax l u∧RepL w' m [] (em id l u).1 [r]:=by
 have hob:RepOb w ⟨fun _=>False,m.a⟩ [] []:=⟨⟨gi.i,gi.b⟩,rfl,fun b ⟨i,hi⟩=>by simp at hi,fun _ h=>h.elim,hlt,fun i gi cs h1 h2=>by simp at h2,fun i j gi gj ci cj b _ h1 h2=>by simp at h2⟩
 have hob':RepOb w ⟨fun _=>False,m.a⟩ [] (em id ins v).2:=by rw [he];exact hob
 rcases h w ⟨fun _=>False,m.a⟩ [] v args y hob' (RepL.move (m':=⟨fun _=>False,m.a⟩) (fun b (h:m.a b)=>h) _ _ hpa hargs) hy with ⟨v1,w1,hr,_⟩|⟨_,hc⟩
 · rw [enters hf hb hname args w] at hr;cases hr
 · refine hc.mono fun e w' ⟨r,h1,ax,l,u,m',g',h2,h3,h4,h5,h6⟩=>⟨r,h1,below_stp h3 (fun _=>id),ax,l,u,h2,?_⟩
   exact RepL.move (fun b hb=>h3.stay b (hlt b hb) hb id) _ _ (hpo ax l u h2) h6
end Go.Ae
namespace Go.Ae
open Go.RowKit
variable {P:Program} {f:FuncId}
theorem osel_one (l:List Sh) (y:HS l):OSel [(AX.ret,l)] y .ret l y:=⟨by simp,fun R k=>rfl⟩
theorem osel_one_inv {l:List Sh} {y:HS l} {ax:AX} {l':List Sh} {u:HS l'} (h:OSel [(AX.ret,l)] y ax l' u):(⟨l',u⟩:(l:List Sh)×HS l)=⟨l,y⟩:=by
 have:=h.2 ((l:List Sh)×HS l) fun _ l u=>some ⟨l,u⟩;simpa [ocase] using this.symm
theorem hand_row {fn:Func} (hf:P.funcs[f]? = some fn) (hb:fn.body.isSome=true) (hname:(fn.name == "runtime.NumGoroutine")=false) {ins:List Sh} {e:TypeId} {T:Ty} {F:HS ins→Option (List T.den×Unit)}
 (hT:T.hasLst=false) (he:∀v,(em id ins v).2=[]) (hp:∀v,purL (em id ins v).1=true)
 (h:∀(v:HS ins) (y:List T.den),F v=some (y,())→∀(w:World) (m:Md) (args:Array Value),GI w m→(∀b,¬m.n b)→(∀b,m.a b→b<w.heap.size)→RepL w m [] (em id ins v).1 args.toList →
  Calls P f args w fun en w'=>∃r xs,en = .returned r∧Below w.heap.size w w'∧w'.ownsRow w.heap.size e T.size r y.length xs∧RepE w' m T y xs):FnOk P f ⟨ins,[(.ret,[.row 0,.orow e T])],F⟩:=by
 intro w m g v args y hob hargs hy;have hob':RepOb w m g []:=by have:=hob;rwa [show (em id (FEnt.ins ⟨ins,[(AX.ret,[Sh.row 0,Sh.orow e T])],F⟩) v).2=[] from he v] at this
 refine .inr ⟨enters hf hb hname _ w,?_⟩;have hlt:=hob.lt;have hargs':RepL w m g (em id ins v).1 args.toList:=hargs;have hg:g=[]:=List.eq_nil_of_length_eq_zero hob'.len;subst hg
 change List T.den×Unit at y
 obtain ⟨y,u⟩:=y;refine (h v y hy w ⟨fun _=>False,m.a⟩ args ⟨hob.gi.i,hob.gi.b⟩ (fun _=>id) hlt (RepL.move (m':=⟨fun _=>False,m.a⟩) (g':=[]) (fun b (h:m.a b)=>h) _ _ (hp v) hargs')).mono fun en w' ⟨r,xs,h1,h2,h3,h4⟩ => ?_;have hfresh:∀b,r.ownBlock=some b→w.heap.size≤b:=by
  intro b hb;rcases h3.2 with ⟨rfl,_⟩|⟨q,cap,cur,rfl,hq,_⟩
  · cases hb
  · cases hb;exact hq
 have hst:=stp_below h2 hob.nm;have h3':w'.ownsRow 0 e T.size r y.length xs:=by
  refine ⟨h3.1,?_⟩;rcases h3.2 with h|⟨q,cap,cur,k1,k2,k3⟩
  · exact .inl h
  · exact .inr ⟨q,cap,cur,k1,Nat.zero_le _,k3⟩
 obtain ⟨q1,q2,q3⟩:=hob'.add (w':=w') r [.rowc e T y] h2.os h2.tape h2.output h2.size (fun b hb _=>h2.block b hb) (fun b hb hlt=>by
  have:=hfresh b hb;omega)
  (fun hs=>⟨fun e' T' l' he=>by
   cases he;exact ⟨xs,h3',fun j x hj=>(h4 j x hj).noLst hT⟩,(fun T' l' he=>by cases he),(fun h=>by simp [isBox] at h),(fun _ _ he=>by cases he),trivial⟩)
 have hsl:∃ao n c,r = .slice ao n c:=by
  rcases h3.2 with ⟨rfl,_⟩|⟨q,cap,cur,rfl,_⟩
  · exact ⟨_,_,_,rfl⟩
  · exact ⟨_,_,_,rfl⟩
 exact ⟨r,h1,.ret,[.row 0,.orow e T],(y,()),_,[r],⟨by simp,fun R k=>by cases u;rfl⟩,q2,q1,fun o v hv=>by simp at hv,⟨r,[],rfl,⟨rfl,hsl⟩,rfl⟩⟩
def joinF (v:List (List UInt8)×List UInt8×Unit):Option (List UInt8×Unit) :=
 bif decide (v.1.length≤140737488355328)&&decide ((Lib.join v.1 v.2.1).length≤140737488355328) then some (Lib.join v.1 v.2.1,()) else none
theorem lib_join {fn:Func} (hf:P.funcs[f]? = some fn) (hb:fn.body.isSome=true) (hname:(fn.name == "runtime.NumGoroutine")=false)
 (h0:∀(a:Option Addr) (c:Nat) (sep:ByteArray) (w:World),Calls P f #[.slice a 0 c,.string sep] w fun e w'=>e = .returned (.string ⟨#[]⟩)∧w'=w)
 (h1:∀(bk o c:Nat) (xs:List ByteArray) (sep:ByteArray) (w:World),(∀(j:Nat) x,xs[j]? = some x→w.cell? ⟨bk,o+j,none⟩=some (.string x))→bk<w.heap.size→xs.length≤140737488355328→xs.length≤c →
  (Lib.join (xs.map (·.data.toList)) sep.data.toList).length≤140737488355328 →
  Calls P f #[.slice (some ⟨bk,o,none⟩) xs.length c,.string sep] w fun e w'=>e = .returned (.string ⟨(Lib.join (xs.map (·.data.toList)) sep.data.toList).toArray⟩)∧Below w.heap.size w w') :
 FnOk P f ⟨[.lst .str,.str],[(.ret,[.str])],joinF⟩:=by
 intro w m g v args y hob hargs hy
 change List (List UInt8)×List UInt8×Unit at v
 obtain ⟨l,s,u⟩:=v;obtain ⟨v1,r1,e1,r2,r3⟩:=hargs;obtain ⟨v2,r4,e2,r5,r6⟩:=r3;have r6':r4=[]:=r6;have r5':v2 = .string ⟨⟨s⟩⟩:=r5;subst r5' r6' e2;have ha:args = #[v1,.string ⟨⟨s⟩⟩]:=by cases args;simpa using e1
 subst ha
 change List UInt8×Unit at y
 have hy':(bif decide (l.length≤140737488355328)&&decide ((Lib.join l s).length≤140737488355328) then some (Lib.join l s,()) else none)=some y:=hy;rcases cond_some hy' with ⟨hb2,hy2⟩|⟨_,hy2⟩
 case inr=>cases hy2
 cases hy2;simp only [Bool.and_eq_true,decide_eq_true_eq] at hb2;refine .inr ⟨enters hf hb hname _ w,?_⟩;have key:Calls P f #[v1,.string ⟨⟨s⟩⟩] w fun e w'=>e = .returned (.string ⟨⟨Lib.join l s⟩⟩)∧Below w.heap.size w w':=by
  obtain ⟨ao,cap,he,k1,k2,k3,k4⟩:=(show RepT w m (.lst .str) l [v1] from r2)
  have hev:v1 = .slice ao l.length cap:=(List.cons.inj he).1;subst hev;have k1':l.length≤cap:=k1;have k4':∀(j:Nat) (q:List UInt8),l[j]? = some q→∃b o,ao=some ⟨b,o,none⟩∧b<w.heap.size∧w.cell? ⟨b,o+j,none⟩=some (.string ⟨⟨q⟩⟩):=by
   intro j q hq;obtain ⟨b',o',us',e1,e2,_,e4,_,e3⟩:=k4 j q hq;have e2':us'=[.string ⟨⟨q⟩⟩]:=e2;have:=e3 0 _ (by rw [e2'];rfl);exact ⟨b',o',e1,e4,by simpa [Ty.size] using this⟩
  clear k4 k1 he r2;cases l with
  | nil =>
   refine (h0 ao cap ⟨⟨s⟩⟩ w).mono fun e w' ⟨q1,q2⟩=>⟨by rw [q1];rfl,q2▸Below.refl _ _⟩
  | cons x l =>
   obtain ⟨b,o,rfl,hlt,_⟩:=k4' 0 x rfl;have:=h1 b o cap ((x::l).map fun s=>⟨⟨s⟩⟩) ⟨⟨s⟩⟩ w (fun j z hj=>by
    rw [List.getElem?_map] at hj;obtain ⟨q,hq,rfl⟩:=Option.map_eq_some_iff.1 hj;obtain ⟨b',o',e1,_,e3⟩:=k4' j q hq;cases e1;exact e3) hlt (by rw [List.length_map];exact hb2.1) (by rw [List.length_map];exact k1') (by rw [List.map_map];simpa [Function.comp_def] using hb2.2)
   rw [List.length_map] at this;refine this.mono fun e w' ⟨q1,q2⟩=>⟨?_,q2⟩
   rw [q1,List.map_map];simp [Function.comp_def]
 refine key.mono fun e w' ⟨he,hbl⟩=>⟨_,he,?_⟩
 exact ⟨.ret,[.str],(Lib.join l s,()),m,g,⟨by simp,fun R k=>rfl⟩,stp_below hbl hob.nm,repOb_nil hob (stp_below hbl hob.nm),fun _ _ h=>h,⟨_,[],rfl,rfl,rfl⟩⟩
end Go.Ae
namespace Go.Proofs.YtbifjondkjgkmaaGreatDoorA.W
open Go Go.Ae Go.RowKit
def C163 (v:List UInt8×Int×Unit):Option (Int×Unit):=some (Lib.indexByte v.1 v.2.1.toNat.toUInt8,())
theorem ok163:FnOk Tryz.prog 163 (E163 C163):=ext_sbi (fun _ _=>rfl) fun s c w=>by
 rw [run_callFunc_extern Tryz.func163 (by kernel_rfl) (by kernel_rfl) (by kernel_rfl) (e:=Extern.BytealgIndexByte.indexByte) (by kernel_rfl),Lib.run_indexByteString];rfl
def C173 (v:List UInt8×Int×Unit):Option (Int×Unit):=some ((Lib.countByte v.1 v.2.1.toNat.toUInt8:Nat),())
theorem ok173:FnOk Tryz.prog 173 (E173 C173):=ext_sbi (fun _ _=>rfl) fun s c w=>by
 rw [run_callFunc_extern Tryz.func173 (by kernel_rfl) (by kernel_rfl) (by kernel_rfl) (e:=Extern.BytealgCount.count) (by kernel_rfl),Lib.run_countString];rfl
def f97_ins:List Sh:=[.lst .str,.str]
def f97_outs:Outs:=[(.ret,[.str])]
abbrev T97:=List (List UInt8)×List UInt8×Unit→Option (List UInt8×Unit)
def E97 (f:T97):FEnt:=⟨f97_ins,f97_outs,f⟩
def C97:T97:=joinF
theorem ok97:FnOk Tryz.prog 97 (E97 C97) :=
 lib_join Tryz.func97 (by kernel_rfl) (by kernel_rfl) (fun a c sep w=>Any.strings_Join_none Tryz.lays156 Tryz.Builder_Extra_156 a c sep w) (fun bk o c xs sep w h1 h2 h3 h4 h5=>Any.strings_Join Tryz.lays156 Tryz.Builder_Extra_156 bk o c xs sep w h1 h2 h3 h4 h5)
def splitD (r:Int):Option (Int×Int×Int×Bool×Bool):=splitT.find? fun s=>r==s.1
def C119:T119:=fun (_,_,_,r,_)=>bif decide (65281≤r)&&decide (r≤65374) then some (r,r-65248,0,true,true,true,()) else match splitD r with
  | some s=>some (s.1,s.2.1,s.2.2.1,s.2.2.2.1,s.2.2.2.2,true,())
  | none=>some (0,0,0,false,false,false,())
theorem lookE_split (r:Int):∀l:List (Int×Int×Int×Bool×Bool),lookE (isInt r) (splitE l)=(l.find? fun s=>r==s.1).map splitV
 | []=>rfl
 | s::l=>by
  simp only [splitE,List.map_cons,lookE,isInt,List.find?_cons];cases h:r==s.1 with
  | true=>rfl
  | false=>exact lookE_split r l
def splitR (s:Int×Int×Int×Bool×Bool×Bool×Unit):Value := .tuple #[.agg #[.int .i32 s.1,.int .i32 s.2.1,.int .i32 s.2.2.1,.bool s.2.2.2.1,.bool s.2.2.2.2.1],.bool s.2.2.2.2.2.1]
set_option maxHeartbeats 1000000 in
theorem split_walk (r:Int) (a0 a1 a2 a4:Value) (b:Nat) (es:Array MapEntry) (clock:Nat) (w:World) (hb:b<w.heap.size) (hb3:w.heap[b]? = some (.map es clock)) (hes:es.toList.map (fun e=>(e.key,e.val))=splitE splitT) (y:Int×Int×Int×Bool×Bool×Bool×Unit)
 (hy:C119 ((default:List (Int×Int×Int×Int×Int×Int)),(default:List (Int×Int×Int×Int)),(default:List (Int×Int×Int)),r,())=some y) :
 Calls Tryz.prog 119 #[.agg #[a0,a1,a2,.map (some b),a4],.int .i32 r] w fun e w'=>e = .returned (splitR y)∧Below w.heap.size w w':=by
 have hlk:∀w0:World,w0.heap[b]? = some (.map es clock)→(Instr.lookup 29 (.map (some b)) (.int .i32 r) true).run Tryz.prog w0 = .ok (.tuple (match (splitD r).map splitV with|some v => #[v,.bool true]|none => #[.agg #[.int .i32 0,.int .i32 0,.int .i32 0,.bool false,.bool false],.bool false])) w0:=by
  intro w0 h0;have hint:∀en∈es.toList,∃n,en.key = .int .i32 n:=by
   intro en hen;have:(en.key,en.val)∈splitE splitT:=hes▸List.mem_map_of_mem (f:=fun e:MapEntry=>(e.key,e.val)) hen;obtain ⟨q',_,e'⟩:=List.mem_map.1 this;exact ⟨q'.1,(Prod.mk.inj e').1.symm⟩
  have hfk:=findKey_int (P:=Tryz.prog) (w:=w0) (x:=r) (kt:=21) Tryz.underlying21 hint;have hl:=findE_look (isInt r) es.toList 0;rw [hes,lookE_split] at hl;have hck:∀k,(Instr.checkKey es.isEmpty (k+1) 21 (.int .i32 r)).run Tryz.prog w0 = .ok () w0:=by
   intro k;simp only [Instr.checkKey,Sem.run_bind,run_underlying (Tryz.underlying21),Result.andThen_ok];rfl
  have:=run_lookup (P:=Tryz.prog) (w:=w0) (t:=29) (kt:=21) (et:=68) (z := .agg #[.int .i32 0,.int .i32 0,.int .i32 0,.bool false,.bool false]) Tryz.underlying29 h0 (hck 9999) hfk (Tryz.zeroValue68 w0);rw [this,hl];rfl
 have hal:∀X Y:Obj,((w.alloc X).alloc Y).heap[b]? = some (.map es clock):=fun X Y=>by
  rw [Below.heap_alloc _ _ _ (by rw [World.size_alloc];omega),Below.heap_alloc _ _ _ hb,hb3]
 have hlk2:=fun X Y=>hlk _ (hal X Y);clear hlk hal hes;by_cases h1:65281≤r
 · by_cases h2:r≤65374
   · have hy':y=(r,r-65248,0,true,true,true,()):=by
      simp only [C119,decide_eq_true h1,decide_eq_true h2,Bool.and_self,cond_true] at hy;exact (Option.some.inj hy).symm
     subst hy'
     go_enter Tryz.func119,Tryz.ntmps119
     go_wp2
     go_returns
     exact ⟨rfl,((Below.refl _ w).alloc (Nat.le_refl _) _).alloc (by simp) _⟩
   · have h2':65374<r:=by omega
     simp only [C119,decide_eq_true h1,decide_eq_false h2,Bool.and_false,cond_false] at hy;cases hs:splitD r with
     | none =>
      rw [hs] at hy hlk2;have hy':y=(0,0,0,false,false,false,()):=(Option.some.inj hy).symm;subst hy';simp only [Option.map_none] at hlk2
      go_enter Tryz.func119,Tryz.ntmps119
      go_wp2
      go_returns
      exact ⟨rfl,(((Below.refl _ w).alloc (Nat.le_refl _) _).alloc (by simp) _).alloc (by simp;omega) _⟩
     | some s =>
      rw [hs] at hy hlk2;have hy':y=(s.1,s.2.1,s.2.2.1,s.2.2.2.1,s.2.2.2.2,true,()):=(Option.some.inj hy).symm;subst hy';simp only [Option.map_some,splitV] at hlk2
      go_enter Tryz.func119,Tryz.ntmps119
      go_wp2
      go_returns
      exact ⟨rfl,(((Below.refl _ w).alloc (Nat.le_refl _) _).alloc (by simp) _).alloc (by simp;omega) _⟩
 · have h1':r<65281:=by omega
   simp only [C119,decide_eq_false h1,Bool.false_and,cond_false] at hy;cases hs:splitD r with
   | none =>
    rw [hs] at hy hlk2;have hy':y=(0,0,0,false,false,false,()):=(Option.some.inj hy).symm;subst hy';simp only [Option.map_none] at hlk2
    go_enter Tryz.func119,Tryz.ntmps119
    go_wp2
    go_returns
    exact ⟨rfl,(((Below.refl _ w).alloc (Nat.le_refl _) _).alloc (by simp) _).alloc (by simp;omega) _⟩
   | some s =>
    rw [hs] at hy hlk2;have hy':y=(s.1,s.2.1,s.2.2.1,s.2.2.2.1,s.2.2.2.2,true,()):=(Option.some.inj hy).symm;subst hy';simp only [Option.map_some,splitV] at hlk2
    go_enter Tryz.func119,Tryz.ntmps119
    go_wp2
    go_returns
    exact ⟨rfl,(((Below.refl _ w).alloc (Nat.le_refl _) _).alloc (by simp) _).alloc (by simp;omega) _⟩
theorem ok119:FnOk Tryz.prog 119 (E119 C119):=by
 refine hand Tryz.func119 (by kernel_rfl) (by kernel_rfl) (fun _=>rfl) (fun _=>rfl) ?_;rintro ⟨rs,cs,ls,r,u⟩ y hy w m args gi hn hlt hargs;obtain ⟨v1,r1,e1,⟨arr,rfl,h2⟩,v2,r2,rfl,h3,h4⟩:=hargs;have h4':r2=[]:=h4;subst h4';have ha:args = #[.agg arr,v2]:=by cases args;simpa using e1
 subst ha;obtain ⟨a0,q0,e2,_,a1,q1,rfl,_,a2,q2,rfl,_,a3,q3,rfl,h5,a4,q4,rfl,_,h6⟩:=h2;have h6':q4=[]:=h6;subst h6';have ha2:arr = #[a0,a1,a2,a3,a4]:=by cases arr;simpa using e2
 subst ha2;obtain ⟨b,o,rfl,hb1,hb2,hb3,es,clock,rfl,hes⟩:=h5;have h3':v2 = .int .i32 r:=h3.1;subst h3'
 change Int×Int×Int×Bool×Bool×Bool×Unit at y
 refine (split_walk r a0 a1 a2 a4 b es clock w hb1 hb3 hes y hy).mono fun e w' ⟨k1,k2⟩=>⟨_,k1,k2,.ret,[.tuple 2,.agg 5,.int .i32,.int .i32,.int .i32,.bool,.bool,.bool],y,osel_one [.tuple 2,.agg 5,.int .i32,.int .i32,.int .i32,.bool,.bool,.bool] y,rfl,rfl,?_⟩
 have nr:∀n:Int,Rng .i32 n:=fun n=>Rng.of_ne (by simp);exact ⟨_,[],rfl,⟨_,rfl,_,_,rfl,⟨_,rfl,_,_,rfl,⟨rfl,nr _⟩,_,_,rfl,⟨rfl,nr _⟩,_,_,rfl,⟨rfl,nr _⟩,_,_,rfl,rfl,_,_,rfl,rfl,rfl⟩,_,_,rfl,rfl,rfl⟩,rfl⟩
def isPair (a b:Int):Value→Bool
 | .agg ⟨[.int _ c,.int _ d]⟩=>a==c&&b==d
 | _=>false
theorem part32 (cs:Array Value) (i:Nat) (v:Value) (h:cs[i]? = some v) (w:World):(Go.part 21 cs i).run Tryz.prog w = .ok v w:=by
 simp [Go.part,Tryz.isAgg21,h]
theorem eq_pair (a b c d:Int) (k:Nat) (w:World):(Op.equalIn (k+2) 70 (.agg #[.int .i32 a,.int .i32 b]) (.agg #[.int .i32 c,.int .i32 d])).run Tryz.prog w = .ok (a==c&&b==d) w:=by
 have p1:=part32 #[.int .i32 a,.int .i32 b] 0 _ rfl;have p2:=part32 #[.int .i32 a,.int .i32 b] 1 _ rfl;have p3:=part32 #[.int .i32 c,.int .i32 d] 0 _ rfl;have p4:=part32 #[.int .i32 c,.int .i32 d] 1 _ rfl;have e1:∀(x y:Int) (w:World),(Op.equalIn (k+1) 21 (.int .i32 x) (.int .i32 y)).run Tryz.prog w = .ok (x==y) w:=fun x y w=>by
  simp only [Op.equalIn,Sem.run_bind,run_underlying Tryz.underlying21,Result.andThen_ok];rfl
 have st:Tryz.prog.stoodInHeld 70=false:=by kernel_rfl
 rw [show k+2=(k+1)+1 from rfl,Op.equalIn];simp only [Sem.run_bind,run_underlying Tryz.underlying70,Result.andThen_ok];cases h1:(a==c)<;>cases h2:(b==d)<;>simp [st,p1,p2,p3,p4,e1,h1,h2]
theorem check_pair (a b:Int) (k:Nat) (e:Bool) (w:World):(Instr.checkKey e (k+2) 70 (.agg #[.int .i32 a,.int .i32 b])).run Tryz.prog w = .ok () w:=by
 have p1:=part32 #[.int .i32 a,.int .i32 b] 0 _ rfl;have p2:=part32 #[.int .i32 a,.int .i32 b] 1 _ rfl;have e1:∀(x:Int) (w:World),(Instr.checkKey e (k+1) 21 (.int .i32 x)).run Tryz.prog w = .ok () w:=fun x w=>by
  simp only [Instr.checkKey,Sem.run_bind,run_underlying Tryz.underlying21,Result.andThen_ok];rfl
 rw [show k+2=(k+1)+1 from rfl,Instr.checkKey];simp only [Sem.run_bind,run_underlying Tryz.underlying70,Result.andThen_ok];simp [p1,p2,e1]
def pairD (a b:Int):Option (Int×Int×Int×Bool×Bool):=(splitT.filter fun s => !s.2.2.2.1 && !s.2.2.2.2).find? fun s=>a==s.2.1&&b==s.2.2.1
def C228:T228:=fun (_,_,_,a,b,_)=>match pairD a b with
 | some s=>some (s.1,true,())
 | none=>some (0,false,())
theorem lookE_pair (a b:Int):∀l:List (Int×Int×Int×Bool×Bool),lookE (isPair a b) (l.map fun s=>((Value.agg #[.int .i32 s.2.1,.int .i32 s.2.2.1],Value.int .i32 s.1):Value×Value))=(l.find? fun s=>a==s.2.1&&b==s.2.2.1).map fun s=>Value.int .i32 s.1
 | []=>rfl
 | s::l=>by
  simp only [List.map_cons,lookE,isPair,List.find?_cons];cases h:(a==s.2.1&&b==s.2.2.1) with
  | true=>rfl
  | false=>exact lookE_pair a b l
set_option maxHeartbeats 1000000 in
theorem pair_walk (p q:Int) (a0 a1 a2 a3:Value) (b:Nat) (es:Array MapEntry) (clock:Nat) (w:World) (hb:b<w.heap.size) (hb3:w.heap[b]? = some (.map es clock)) (hes:es.toList.map (fun e=>(e.key,e.val))=pairE splitT) (y:Int×Bool×Unit)
 (hy:C228 ((default:List (Int×Int×Int×Int×Int×Int)),(default:List (Int×Int×Int×Int)),(default:List (Int×Int×Int)),p,q,())=some y) :
 Calls Tryz.prog 228 #[.agg #[a0,a1,a2,a3,.map (some b)],.int .i32 p,.int .i32 q] w fun e w'=>e = .returned (.tuple #[.int .i32 y.1,.bool y.2.1])∧Below w.heap.size w w':=by
 have hlk:∀w0:World,w0.heap[b]? = some (.map es clock)→(Instr.lookup 30 (.map (some b)) (.agg #[.int .i32 p,.int .i32 q]) true).run Tryz.prog w0 = .ok (.tuple (match (pairD p q).map fun s=>Value.int .i32 s.1 with|some v => #[v,.bool true]|none => #[.int .i32 0,.bool false])) w0:=by
  intro w0 h0;have hkey:∀en∈es.toList,(Op.equal 70 (.agg #[.int .i32 p,.int .i32 q]) en.key).run Tryz.prog w0 = .ok (isPair p q en.key) w0:=by
   intro en hen;have:(en.key,en.val)∈pairE splitT:=hes▸List.mem_map_of_mem (f:=fun e:MapEntry=>(e.key,e.val)) hen;obtain ⟨q',_,e'⟩:=List.mem_map.1 this;rw [←(Prod.mk.inj e').1];exact eq_pair p q q'.2.1 q'.2.2.1 9998 w0
  have hfk:=findKey_agg (P:=Tryz.prog) (w:=w0) (kt:=70) (p:=isPair p q) Tryz.underlying70 hkey;have hl:=findE_look (isPair p q) es.toList 0;rw [hes,pairE,lookE_pair] at hl;have:=run_lookup (P:=Tryz.prog) (w:=w0) (t:=30) (kt:=70) (et:=21) (z := .int .i32 0) Tryz.underlying30 h0 (check_pair p q 9998 _ w0) hfk (Tryz.zeroValue21 w0);rw [this,hl];rfl
 have hal:∀X:Obj,(w.alloc X).heap[b]? = some (.map es clock):=fun X=>by rw [Below.heap_alloc _ _ _ hb,hb3]
 have hlk2:=fun X=>hlk _ (hal X);clear hlk hal hes;have hy1:(match pairD p q with|some s=>some (s.1,true,())|none=>some (0,false,()))=some y:=hy;cases hs:pairD p q with
 | none =>
  rw [hs] at hy1 hlk2;have hy':y=(0,false,()):=(Option.some.inj hy1).symm;subst hy';simp only [Option.map_none] at hlk2
  go_enter Tryz.func228,Tryz.ntmps228
  go_wp2
  go_returns
  exact ⟨rfl,(Below.refl _ w).alloc (Nat.le_refl _) _⟩
 | some s =>
  rw [hs] at hy1 hlk2;have hy':y=(s.1,true,()):=(Option.some.inj hy1).symm;subst hy';simp only [Option.map_some] at hlk2
  go_enter Tryz.func228,Tryz.ntmps228
  go_wp2
  go_returns
  exact ⟨rfl,(Below.refl _ w).alloc (Nat.le_refl _) _⟩
theorem ok228:FnOk Tryz.prog 228 (E228 C228):=by
 refine hand Tryz.func228 (by kernel_rfl) (by kernel_rfl) (fun _=>rfl) (fun _=>rfl) ?_;rintro ⟨rs,cs,ls,p,q,u⟩ y hy w m args gi hn hlt hargs;obtain ⟨v1,r1,e1,⟨arr,rfl,h2⟩,v2,r2,rfl,h3,v3,r3,rfl,h3',h4⟩:=hargs;have h4':r3=[]:=h4;subst h4';have ha:args = #[.agg arr,v2,v3]:=by cases args;simpa using e1
 subst ha;obtain ⟨a0,q0,e2,_,a1,q1,rfl,_,a2,q2,rfl,_,a3,q3,rfl,_,a4,q4,rfl,h5,h6⟩:=h2;have h6':q4=[]:=h6;subst h6';have ha2:arr = #[a0,a1,a2,a3,a4]:=by cases arr;simpa using e2
 subst ha2;obtain ⟨b,o,rfl,hb1,hb2,hb3,es,clock,rfl,hes⟩:=h5;have h3a:v2 = .int .i32 p:=h3.1;have h3b:v3 = .int .i32 q:=h3'.1;subst h3a h3b
 change Int×Bool×Unit at y
 refine (pair_walk p q a0 a1 a2 a3 b es clock w hb1 hb3 hes y hy).mono fun e w' ⟨k1,k2⟩=>⟨_,k1,k2,.ret,[.tuple 2,.int .i32,.bool],y,osel_one [.tuple 2,.int .i32,.bool] y,rfl,rfl,?_⟩
 exact ⟨_,[],rfl,⟨_,rfl,_,_,rfl,⟨rfl,Rng.of_ne (by simp)⟩,_,_,rfl,rfl,rfl⟩,rfl⟩
def C150:T150:=fun _=>some ()
def keyNew (k:Int) (es:List MapEntry):Bool:=es.all fun e=>match e.key with | .int .i32 n=>k != n|_=>false
theorem findE_new (k:Int):∀(es:List MapEntry) (i:Nat),keyNew k es=true→findE (isInt k) es i=none∧∀e∈es,∃n,e.key = .int .i32 n
 | [],i,_=>⟨rfl,fun e h=>by cases h⟩
 | e::es,i,h=>by
  simp only [keyNew,List.all_cons,Bool.and_eq_true] at h;obtain ⟨h1,h2⟩:=h;obtain ⟨k1,k2⟩:=findE_new k es (i+1) h2;split at h1
  · rename_i n hn
    have hne:(k==n)=false:=by simpa using h1
    refine ⟨by simp only [findE,hn,isInt,hne];exact k1,fun e' he => ?_⟩;rcases List.mem_cons.1 he with rfl|he
    · exact ⟨n,hn⟩
    · exact k2 e' he
  · cases h1
theorem upd_int {t et:TypeId} (w:World) (es:Array MapEntry) (clock:Nat) (k:Int) (v:Value) (ht:Tryz.prog.underlying t=some (.map 21 et)) (h:keyNew k es.toList=true) :
 (Instr.mapUpdate t (.map (some w.heap.size)) (.int .i32 k) v).run Tryz.prog (w.alloc (.map es clock)) = .ok () (w.alloc (.map (es.push { key := .int .i32 k,val:=v,born:=clock }) (clock+1))):=by
 obtain ⟨h1,h2⟩:=findE_new k es.toList 0 h;have hck:∀j (w0:World),(Instr.checkKey false (j+1) 21 (.int .i32 k)).run Tryz.prog w0 = .ok () w0:=by
  intro j w0;simp only [Instr.checkKey,Sem.run_bind,run_underlying (Tryz.underlying21),Result.andThen_ok];rfl
 have hnew:(w.alloc (.map es clock)).heap[w.heap.size]? = some (.map es clock):=by
  show (w.heap.push _)[w.heap.size]? = _;simp
 have:=run_update_new (P:=Tryz.prog) (w:=w.alloc (.map es clock)) (t:=t) (kt:=21) (et:=et) (key := .int .i32 k) (val:=v) ht hnew (hck 9999 _) (h1▸findKey_int (P:=Tryz.prog) (w:=w.alloc (.map es clock)) (x:=k) (kt:=21) Tryz.underlying21 h2);rw [this];have hs:(w.heap.push (Obj.map es clock)).setIfInBounds w.heap.size (.map (es.push { key := .int .i32 k,val:=v,born:=clock }) (clock+1))=w.heap.push (.map (es.push { key := .int .i32 k,val:=v,born:=clock }) (clock+1)):=by
  apply Array.ext';rw [Array.toList_setIfInBounds,Array.toList_push,Array.toList_push,List.set_append,if_neg (by simp)];simp
 show Result.ok () ({ w with heap:=(w.heap.push (Obj.map es clock)).setIfInBounds w.heap.size _ }:World)=_;rw [hs];rfl
theorem run_mkMap (t:TypeId) (w:World):(Instr.makeMap t none).run Tryz.prog w = .ok (.map (some w.heap.size)) (w.alloc (.map #[] 0)):=by
 simp [Instr.makeMap,newObj];rfl
set_option maxHeartbeats 2000000 in
theorem rules_walk (w:World):Calls Tryz.prog 150 #[] w fun e w'=>e = .returned (.map (some w.heap.size))∧w'=w.alloc (.map ((rulesT.zipIdx.map fun p=>({ key := .int .i32 p.1.1,val := .func (.func p.1.2) #[] #[],born:=p.2 }:MapEntry)).toArray) 7):=by
 have hT:=Tryz.underlying192;have hmk:=run_mkMap 192 w;have u1:=fun v=>upd_int w #[] 0 8205 v hT rfl;have u2:=fun a v=>upd_int w #[{ key := .int .i32 8205,val:=a,born:=0 }] 1 8204 v hT rfl;have u3:=fun a b v=>upd_int w #[{ key := .int .i32 8205,val:=a,born:=0 },{ key := .int .i32 8204,val:=b,born:=1 }] 2 183 v hT rfl;have u4:=fun a b c v=>upd_int w #[{ key := .int .i32 8205,val:=a,born:=0 },{ key := .int .i32 8204,val:=b,born:=1 },{ key := .int .i32 183,val:=c,born:=2 }] 3 885 v hT rfl;have u5:=fun a b c d v=>upd_int w #[{ key := .int .i32 8205,val:=a,born:=0 },{ key := .int .i32 8204,val:=b,born:=1 },{ key := .int .i32 183,val:=c,born:=2 },{ key := .int .i32 885,val:=d,born:=3 }] 4 1523 v hT rfl;have u6:=fun a b c d e v=>upd_int w #[{ key := .int .i32 8205,val:=a,born:=0 },{ key := .int .i32 8204,val:=b,born:=1 },{ key := .int .i32 183,val:=c,born:=2 },{ key := .int .i32 885,val:=d,born:=3 },{ key := .int .i32 1523,val:=e,born:=4 }] 5 1524 v hT rfl;have u7:=fun a b c d e f v=>upd_int w #[{ key := .int .i32 8205,val:=a,born:=0 },{ key := .int .i32 8204,val:=b,born:=1 },{ key := .int .i32 183,val:=c,born:=2 },{ key := .int .i32 885,val:=d,born:=3 },{ key := .int .i32 1523,val:=e,born:=4 },{ key := .int .i32 1524,val:=f,born:=5 }] 6 12539 v hT rfl;simp only [List.push_toArray,List.nil_append,List.cons_append,Nat.zero_add,Nat.reduceAdd] at u1 u2 u3 u4 u5 u6 u7;clear hT
 go_enter Tryz.func150,Tryz.ntmps150
 go_wp2
 go_returns
 exact ⟨rfl,rfl⟩
theorem ok150:FnOk Tryz.prog 150 (E150 C150):=by
 refine hand Tryz.func150 (by kernel_rfl) (by kernel_rfl) (fun _=>rfl) (fun _=>rfl) ?_;intro v y hy w m args gi hn hlt hargs;have ha0:args.toList=[]:=hargs;have ha:args = #[]:=by cases args;simpa using ha0
 subst ha;refine (rules_walk w).mono fun e w' ⟨k1,k2⟩ => ?_;subst k2;refine ⟨_,k1,(Below.refl _ w).alloc (Nat.le_refl _) _,.ret,[.opq 2],(),osel_one [.opq 2] (),rfl,rfl,?_⟩;exact ⟨_,[],rfl,⟨w.heap.size,_,rfl,by simp,fun h=>Nat.lt_irrefl _ (hlt _ h),heap_alloc_new w _,_,_,rfl,rfl⟩,rfl⟩
def C174:T174:=fun (l,_)=>bif decide (l.length≤35184372088832) then some (l,()) else none
theorem eq_nil_slice {t e:TypeId} (ht:Tryz.prog.underlying t=some (.slice e)) (a:Option Addr) (n cap:Nat) (w:World):(binOp .eql t (.slice a n cap) (.slice none 0 0)).run Tryz.prog w = .ok (.bool a.isNone) w:=by
 have h:(Op.equalIn (9999+1) t (.slice a n cap) (.slice none 0 0)).run Tryz.prog w = .ok a.isNone w:=by
  rw [Op.equalIn];simp only [Sem.run_bind,run_underlying ht,Result.andThen_ok];cases a<;>rfl
 exact (bin_eq h rfl rfl).1
theorem clone_nil (w:World):Calls Tryz.prog 174 #[.slice none 0 0] w fun e w'=>e = .returned (.slice none 0 0)∧w'=w:=by
 have he:=eq_nil_slice Tryz.underlying75 none 0 0;simp only [Option.isNone_none] at he
 go_enter Tryz.func174,Tryz.ntmps174
 go_wp2
 go_returns
 exact ⟨rfl,rfl⟩
theorem clone_some (w w2:World) (ad:Addr) (n cap:Nat) (v':Value) (happ:(Builtin.append_ #[75,75] 75 #[.slice (some ⟨w.heap.size,0,none⟩) 0 0,.slice (some ad) n cap]).run Tryz.prog (w.alloc (.cells #[] 21)) = .ok v' w2) :
 Calls Tryz.prog 174 #[.slice (some ad) n cap] w fun e w'=>e = .returned v'∧w'=w2:=by
 have he:=eq_nil_slice Tryz.underlying75 (some ad) n cap;simp only [Option.isNone_some] at he
 go_enter Tryz.func174,Tryz.ntmps174
 go_wp2_with (at_builtin;refine Go.Great.wpList_runTo rfl _ rfl v' w2 (by simp [execOp,resolve,invoke,builtin,happ,Act.eval]) ?_)
 go_returns
 exact ⟨rfl,rfl⟩
def ei32:TI:=⟨.int .i32,1,4,some (.int .i32),[.int .i32 0],false,false⟩
theorem own_base {w:World} {e:TypeId} {size n B:Nat} {v:Value} {xs:List Value} (h:w.ownsRow 0 e size v n xs) (hb:∀b,v.ownBlock=some b→B≤b):w.ownsRow B e size v n xs:=by
 refine ⟨h.1,?_⟩;rcases h.2 with h|⟨q,cap,cur,rfl,k2,k3⟩
 · exact .inl h
 · exact .inr ⟨q,cap,cur,rfl,hb _ rfl,k3⟩
theorem ok174:FnOk Tryz.prog 174 (E174 C174):=by
 refine hand_row (T := .int .i32) (e:=21) Tryz.func174 (by kernel_rfl) (by kernel_rfl) rfl (fun _=>rfl) (fun _=>rfl) ?_;rintro ⟨l,u⟩ y hy w m args gi hn hlt hargs;obtain ⟨v,r1,e1,h2,h3⟩:=hargs;have h3':r1=[]:=h3;subst h3';have ha:args = #[v]:=by cases args;simpa using e1
 subst ha;have hy1:(bif decide (l.length≤35184372088832) then some (l,()) else none)=some (y,()):=hy;rcases cond_some hy1 with ⟨hl,hy2⟩|⟨_,hy2⟩
 case inr=>cases hy2
 have hy':l=y:=(Prod.mk.inj (Option.some.inj hy2)).1;subst hy';have hlim:l.length≤35184372088832:=of_decide_eq_true hl;have h2':RepT w m (.lst (.int .i32)) l [v]:=h2;obtain ⟨ao,cap,he,k1,k2,k3,k4⟩:=h2;have hev:v = .slice ao l.length cap:=(List.cons.inj he).1;subst hev;cases ao with
 | none =>
  have hc0:=k3 rfl;subst hc0;have hl0:l=[]:=List.eq_nil_of_length_eq_zero (by have:l.length≤0:=k1;omega);subst hl0;refine (clone_nil w).mono fun e w' ⟨q1,q2⟩ => ?_;subst q2;exact ⟨_,[],q1,Below.refl _ _,⟨rfl,.inl ⟨rfl,rfl⟩⟩,fun j x hj=>by simp at hj⟩
 | some ad =>
  have hst:Stp w m (w.alloc (.cells #[] 21)) m:=stp_below ((Below.refl _ w).alloc (Nat.le_refl _) _) fun b hb=>(hn b hb).elim;obtain ⟨v',w',news,r1,r2,r3,r4,r5,r6⟩:=run_append_slice (P:=Tryz.prog) (w:=w.alloc (.cells #[] 21)) (t:=75) (e:=21) (ty:=75) (T := .int .i32) (v := .slice (some ⟨w.heap.size,0,none⟩) 0 0) (n:=0) (xs:=[]) (m:=m) (ei:=ei32) hΓ (by kernel_rfl) (by kernel_rfl) rfl (by decide) rfl
   ⟨rfl,.inr ⟨w.heap.size,0,#[],rfl,Nat.zero_le _,heap_alloc_new w _,Nat.le_refl _,Nat.zero_le _,rfl,rfl⟩⟩ (RepT.mono (T := .lst (.int .i32)) hst h2') (by show 0+l.length≤35184372088832;omega)
  refine (clone_some w w' ad l.length cap v' r1).mono fun e w2 ⟨q1,q2⟩ => ?_;subst q2;have hB:Below w.heap.size w (w.alloc (.cells #[] 21)):=(Below.refl _ w).alloc (Nat.le_refl _) _;refine ⟨v',news,q1,?_,?_,r4⟩
  · exact hB.grown r5 hB.size (fun k e=>by cases e;exact Nat.le_refl _)
  · rw [Nat.zero_add] at r2
    refine own_base r2 fun b hb => ?_;rcases r6 b hb with h|h
    · cases h;exact Nat.le_refl _
    · rw [h];simp
def C244:T244:=fun (n,_)=>bif decide (0≤n)&&decide (n≤35184372088832) then some ([],()) else none
theorem zeroCells_len (n:Nat):(Builtin.zeroCells (Value.int .i32 0).cells n).size=n:=by simp [Builtin.zeroCells,Value.cells]
theorem run_append_made (w:World) (n:Nat) (h0:0<n) (hn:n≤35184372088832) :
 (Builtin.append_ #[75,3] 75 #[.slice none 0 0,.int .i64 (n:Int)]).run Tryz.prog w =
  .ok (.slice (some ⟨w.heap.size,0,none⟩) n (grownCap w n 0 21)) (w.drew.alloc (.cells (Builtin.zeroCells (Value.int .i32 0).cells n++Builtin.zeroCells (Value.int .i32 0).cells (grownCap w n 0 21-n)) 21)):=by
 obtain ⟨info,i1,i2,i3,i4⟩:∃info,Tryz.prog.info? 21=some info∧info.zero=some (.int .i32 0)∧info.size=1∧info.bytes=4:=by
  have h:(Tryz.prog.info? 21).map (fun i=>(i.zero,i.size,i.bytes))=some (some (.int .i32 0),1,4):=by kernel_rfl
  obtain ⟨info,h1,h2⟩:=Option.map_eq_some_iff.1 h;simp only [Prod.mk.injEq] at h2;exact ⟨info,h1,h2.1,h2.2.1,h2.2.2⟩
 have hw:IntKind.i64.wrap (n:Int)=n:=wrap_small _ (by omega) (by omega);have h1:¬n=0:=by omega
 have h2:¬(281474976710656:Int)<(n:Int)*4:=by omega
 have h3:¬(9223372036854775807:Int)<(n:Int):=by omega
 have h4:Builtin.nextslicecap n 0=n:=by simp [Builtin.nextslicecap];omega
 have h5:¬(281474976710656<n*4):=by omega
 simp [Builtin.append_,run_underlying Tryz.underlying75,run_underlying Tryz.underlying3,sizeOf,typeInfo,zeroValue,i1,i2,i3,i4,hw,asInt,asIntOf,h1,h2,h3,h4,h5,Question.forced,newRow,grownCap,Builtin.firstCells];intro h;omega
theorem grow_zero (w:World):Calls Tryz.prog 244 #[.slice none 0 0,.int .i64 0] w fun e w'=>e = .returned (.slice none 0 0)∧w'=w:=by
 go_enter Tryz.func244,Tryz.ntmps244
 go_wp2
 go_returns
 exact ⟨rfl,rfl⟩
theorem grow_some (w:World) (n:Nat) (h0:0<n) (hn:n≤35184372088832):Calls Tryz.prog 244 #[.slice none 0 0,.int .i64 (n:Int)] w fun e w'=>e = .returned (.slice (some ⟨w.heap.size,0,none⟩) 0 (grownCap w n 0 21)) ∧
 w'=w.drew.alloc (.cells (Builtin.zeroCells (Value.int .i32 0).cells n++Builtin.zeroCells (Value.int .i32 0).cells (grownCap w n 0 21-n)) 21):=by
 have happ:=run_append_made w n h0 hn;have hcap:=grownCap_ge w n 0 21;generalize grownCap w n 0 21=cap at happ hcap ⊢;generalize (w.drew.alloc (.cells (Builtin.zeroCells (Value.int .i32 0).cells n++Builtin.zeroCells (Value.int .i32 0).cells (cap-n)) 21))=w2 at happ ⊢;have h0':(0:Int)<(n:Int):=by omega
 go_enter Tryz.func244,Tryz.ntmps244
 go_wp2_with (at_builtin;refine Go.Great.wpList_runTo rfl _ rfl _ _ (by simp [execOp,resolve,invoke,builtin,happ,Act.eval];exact ⟨rfl,rfl⟩) ?_)
 go_returns
 exact ⟨rfl,rfl⟩
theorem ok244:FnOk Tryz.prog 244 (E244 C244):=by
 refine hand_row (T := .int .i32) (e:=21) Tryz.func244 (by kernel_rfl) (by kernel_rfl) rfl (fun _=>rfl) (fun _=>rfl) ?_;rintro ⟨n,u⟩ y hy w m args gi hn hlt hargs;obtain ⟨v,r1,e1,h2,v2,r2,rfl,h3,h4⟩:=hargs;have h4':r2=[]:=h4;have h2':v = .slice none 0 0:=h2;have h3':v2 = .int .i64 n:=h3.1;subst h4' h2' h3';have ha:args = #[.slice none 0 0,.int .i64 n]:=by cases args;simpa using e1
 subst ha
 change Int at n
 have hy1:(bif decide (0≤n)&&decide (n≤35184372088832) then some (([]:List Int),()) else none)=some (y,()):=hy;rcases cond_some hy1 with ⟨hl,hy2⟩|⟨_,hy2⟩
 case inr=>cases hy2
 have hy':([]:List Int)=y:=(Prod.mk.inj (Option.some.inj hy2)).1;subst hy';simp only [Bool.and_eq_true,decide_eq_true_eq] at hl;obtain ⟨k,rfl⟩:∃k:Nat,n=k:=⟨n.toNat,by omega⟩
 by_cases hk:k=0
 · subst hk
   refine (grow_zero w).mono fun e w' ⟨q1,q2⟩ => ?_;subst q2;exact ⟨_,[],q1,Below.refl _ _,⟨rfl,.inl ⟨rfl,rfl⟩⟩,fun j x hj=>by
    have h:([]:List Int)[j]? = some x:=hj;simp at h⟩
 · refine (grow_some w k (by omega) (by omega)).mono fun e w' ⟨q1,q2⟩ => ?_
   have hge:=grownCap_ge w k 0 21;have hle:=grownCap_le_maxLen w k 0 21 (by simp only [maxLen];omega);subst q2;refine ⟨_,[],q1,(Below.refl _ w).drew.alloc (Nat.le_refl _) _,⟨rfl,.inr ⟨w.heap.size,_,_,rfl,Nat.le_refl _,heap_alloc_new w.drew _,Nat.zero_le _,hle,?_,rfl⟩⟩,fun j x hj=>by
    have h:([]:List Int)[j]? = some x:=hj;simp at h⟩
   rw [Array.size_append,zeroCells_len,zeroCells_len];show _=_*1;omega
theorem size21:(Tryz.prog.info? 21).map (·.size)=some 1:=by kernel_rfl
theorem sizeOf21 (w:World):(Go.sizeOf 21).run Tryz.prog w = .ok 1 w:=by
 obtain ⟨info,h1,h2⟩:=Option.map_eq_some_iff.1 size21;simp [Go.sizeOf,typeInfo,h1,h2]
set_option maxHeartbeats 4000000 in
theorem ins_room (w:World) (b vb i n c vc m:Nat) (cur:Array Value) (vcur:Array Value) (xs vs:List Value) (hi:i<n) (hm:0<m) (hroom:n+m≤c) (hc63:c≤9223372036854775807) (hcs:cur.size=c) (hvb:vb≠b)
 (hb:w.heap[b]? = some (.cells cur 21 (0,0))) (hv:w.heap[vb]? = some (.cells vcur 21 (0,0))) (hxl:xs.length=n) (hvl:vs.length=m) (hx:∀(j:Nat) v,xs[j]? = some v→cur[j]? = some v) (hvs:∀(j:Nat) v,vs[j]? = some v→vcur[j]? = some v)
 (h1x:∀v∈xs,v.oneCell'=true) (h1v:∀v∈vs,v.oneCell'=true) :
 Calls Tryz.prog 212 #[.slice (some ⟨b,0,none⟩) n c,.int .i64 i,.slice (some ⟨vb,0,none⟩) m vc] w fun e w' =>
  ∃l1:List Value,l1=cur.toList.take (i+m)++xs.drop i++cur.toList.drop (i+m+(xs.drop i).length)∧e = .returned (.slice (some ⟨b,0,none⟩) (n+m) c) ∧
   w'=(w.drew.setRow b l1.toArray).setRow b (l1.take i++vs++l1.drop (i+vs.length)).toArray:=by
 have hbl:b<w.heap.size:=(Array.getElem?_eq_some_iff.1 hb).1;have hz1:¬((m:Int)=0):=by omega
 have hz2:¬((i:Int)=(n:Int)):=by omega
 have hc0:c≠0:=by omega
 have hov:∀lb cb,(callFunc 238 #[.slice (some ⟨vb,0,none⟩) m vc,.slice (some ⟨b,i+m,none⟩) lb cb]).run Tryz.prog w = .ok (.value (.bool false)) w:=fun lb cb=>by
  rw [run_callFunc_extern Tryz.func238 (by kernel_rfl) (by kernel_rfl) (by kernel_rfl) (e:=Extern.SlicesOverlaps.overlaps #[75,75] #[4]) (by kernel_rfl),
   Lib.run_overlaps_apart w 75 4 21 Tryz.underlying75 1 sizeOf21 ⟨vb,0,none⟩ ⟨b,i+m,none⟩ m vc lb cb hvb 21 21 vcur.size cur.size (by simp [World.shape?,hv]) (by simp [World.shape?,hb]) (by omega) (by simp [World.frozen?,hv]) (by simp [World.frozen?,hv])]
  rfl
 have hdl:(xs.drop i).length=n-i:=by rw [List.length_drop,hxl]
 have hw1:IntKind.i64.wrap ((i:Int)+(m:Int))=(i:Int)+(m:Int):=by rw [IntKind.wrap_i64];omega
 have hb1:(0:Int)≤(i:Int)+(m:Int):=by omega
 have hin:i≤n:=by omega
 have htn:((i:Int)+(m:Int)).toNat=i+m:=by omega
 have hb2:¬(c=i+m):=by omega
 have hb3:(i:Int)≤(n:Int)+(m:Int):=by omega
 have hb4:¬(c=i):=by omega
 obtain ⟨l1,hl1⟩:∃l1:List Value,l1=cur.toList.take (i+m)++xs.drop i++cur.toList.drop (i+m+(xs.drop i).length):=⟨_,rfl⟩
 have hcp1:∀ty dc sc,(Builtin.copy_ #[75,75] ty #[.slice (some ⟨b,i+m,none⟩) (n+m-(i+m)) dc,.slice (some ⟨b,i,none⟩) (n+m-i) sc]).run Tryz.prog w.drew = .ok (goInt (xs.drop i).length) (w.drew.setRow b l1.toArray):=fun ty dc sc=>by
  rw [hl1];exact run_copy_row Tryz.prog w.drew 75 75 ty 21 b (i+m) (n+m-(i+m)) dc ⟨b,i,none⟩ (n+m-i) sc cur 21 (xs.drop i) Tryz.underlying75 size21 hb (by rw [hdl];simp only [Nat.min_def];split<;>omega)
   (fun j v hj=>by
    rw [Addr.add_lit];show w.cell? ⟨b,i+j,none⟩=some v;simp only [World.cell?,hb];exact hx (i+j) v (by rwa [List.getElem?_drop] at hj))
   (by rw [hdl];omega) (fun v hv=>h1x v (List.mem_of_mem_drop hv))
 have hl1l:l1.length=c:=by
  rw [hl1];simp only [List.length_append,List.length_take,List.length_drop,Array.length_toList,hxl,hcs];omega
 have hcp2:∀ty dc,(Builtin.copy_ #[75,75] ty #[.slice (some ⟨b,i,none⟩) (n+m-i) dc,.slice (some ⟨vb,0,none⟩) m vc]).run Tryz.prog (w.drew.setRow b l1.toArray) = .ok (goInt vs.length) ((w.drew.setRow b l1.toArray).setRow b (l1.take i++vs++l1.drop (i+vs.length)).toArray):=fun ty dc=>by
  have:=run_copy_row Tryz.prog (w.drew.setRow b l1.toArray) 75 75 ty 21 b i (n+m-i) dc ⟨vb,0,none⟩ m vc l1.toArray 21 vs Tryz.underlying75 size21 (setRow_heap w.drew b cur _ 21 (0,0) hb) (by rw [hvl];simp only [Nat.min_def];split<;>omega)
   (fun j v hj=>by
    rw [Addr.add_lit];simp only [World.cell?];rw [setRow_other w.drew b vb _ hvb];show (match w.heap[vb]? with|some (.cells cs _ _)=>_|_=>_)=_;simp only [hv,Nat.zero_add];exact hvs j v hj)
   (by rw [List.size_toArray,hl1l,hvl];omega) h1v
  simpa using this
 refine (?_:Calls Tryz.prog 212 #[.slice (some ⟨b,0,none⟩) n c,.int .i64 i,.slice (some ⟨vb,0,none⟩) m vc] w fun e w'=>e = .returned (.slice (some ⟨b,0,none⟩) (n+m) c)∧w'=(w.drew.setRow b l1.toArray).setRow b (l1.take i++vs++l1.drop (i+vs.length)).toArray).mono fun e w' h=>⟨l1,hl1,h.1,h.2⟩
 obtain ⟨W1,hW1⟩:∃W1,W1=w.drew.setRow b l1.toArray:=⟨_,rfl⟩
 obtain ⟨W2,hW2⟩:∃W2,W2=W1.setRow b (l1.take i++vs++l1.drop (i+vs.length)).toArray:=⟨_,rfl⟩
 rw [←hW1] at hcp1 hcp2 ⊢;rw [←hW2] at hcp2 ⊢;clear hx hvs h1x h1v hl1 hl1l;have mixed:Tryz.prog.follows .mixedOrders=true:=by kernel_rfl
 go_enter Tryz.func212,Tryz.ntmps212
 go_wp2_with (simp only [hov])
 go_region_law_o (refine step_copy_runI rfl _ _ 75 75 rfl _ _ (by simp [Act.eval,Act.put]) (by simp [Act.eval,Act.put]) (hcp1 _ _ _) ?_)
 subst hW1
 go_wp2_with (simp only [hcp2])
 go_returns
 exact ⟨rfl,by rw [hW2,hvl,List.append_assoc]⟩
set_option maxHeartbeats 4000000 in
theorem ins_grow (w:World) (b vb i n c vc m:Nat) (cur:Array Value) (vcur:Array Value) (xs vs:List Value) (hi:i<n) (hm:0<m) (hnc:n≤c) (hroom:c<n+m) (hbig:(n+m)*4≤140737488355328)
 (hb:w.heap[b]? = some (.cells cur 21 (0,0))) (hv:w.heap[vb]? = some (.cells vcur 21 (0,0))) (hxl:xs.length=n) (hvl:vs.length=m) (hx:∀(j:Nat) v,xs[j]? = some v→cur[j]? = some v) (hvs:∀(j:Nat) v,vs[j]? = some v→vcur[j]? = some v)
 (h1x:∀v∈xs,v.oneCell'=true) (h1v:∀v∈vs,v.oneCell'=true) :
 Calls Tryz.prog 212 #[.slice (some ⟨b,0,none⟩) n c,.int .i64 i,.slice (some ⟨vb,0,none⟩) m vc] w fun e w' =>
  ∃(G:Nat) (cells:Array Value),n+m≤G∧G≤9223372036854775807∧cells.size=G∧(∀(j:Nat) v,(xs.take i++vs++xs.drop i)[j]? = some v→cells[j]? = some v)∧e = .returned (.slice (some ⟨w.heap.size,0,none⟩) (n+m) G) ∧
   Below w.heap.size w w'∧w'.heap[w.heap.size]? = some (.cells cells 21 (0,0)):=by
 have hbl:b<w.heap.size:=(Array.getElem?_eq_some_iff.1 hb).1;have hvw:vb<w.heap.size:=(Array.getElem?_eq_some_iff.1 hv).1;obtain ⟨info,i1,i2,i3,i4⟩:∃info,Tryz.prog.info? 21=some info∧info.zero=some (.int .i32 0)∧info.size=1∧info.bytes=4:=by
  have h:(Tryz.prog.info? 21).map (fun i=>(i.zero,i.size,i.bytes))=some (some (.int .i32 0),1,4):=by kernel_rfl
  obtain ⟨info,h1,h2⟩:=Option.map_eq_some_iff.1 h;simp only [Prod.mk.injEq] at h2;exact ⟨info,h1,h2.1,h2.2.1,h2.2.2⟩
 have hz1:¬((m:Int)=0):=by omega
 have hz2:¬((i:Int)=(n:Int)):=by omega
 have hz3:(c:Int)<(n:Int)+(m:Int):=by omega
 have hkk:(n:Int)+(m:Int)-(i:Int)=((n+m-i:Nat):Int):=by omega
 have hik:i+(n+m-i)=n+m:=by omega
 have hold:(Builtin.firstCells info.size i (.slice (some ⟨b,0,none⟩) i c)).run Tryz.prog w.drew = .ok (xs.take i).toArray w.drew:=by
  rw [i3];exact run_firstCells_some w.drew 1 i ⟨b,0,none⟩ i c (xs.take i) (by rw [List.length_take];omega) (fun j v hj=>by
   rw [Addr.add_lit];rw [List.getElem?_take] at hj;split at hj
   · show w.cell? ⟨b,0+j,none⟩=some v
     simp only [World.cell?,hb,Nat.zero_add];exact hx j v hj
   · cases hj)
 obtain ⟨G,hG⟩:∃G,G=grownCap w (n+m) c 21:=⟨_,rfl⟩
 obtain ⟨ROW,hROW⟩:∃ROW:Array Value,ROW=(xs.take i).toArray++Builtin.zeroCells (Value.int .i32 0).cells (n+m-i)++Builtin.zeroCells (Value.int .i32 0).cells (G-(n+m)):=⟨_,rfl⟩
 have hrz:∀ty,(Builtin.append_ #[75,3] ty #[.slice (some ⟨b,0,none⟩) i c,.int .i64 ((n:Int)+(m:Int)-(i:Int))]).run Tryz.prog w =
  .ok (.slice (some ⟨w.heap.size,0,none⟩) (n+m) G) (w.drew.alloc (.cells ROW 21)):=fun ty=>by
  have h:=Lib.run_append_grow_zeros w 75 3 ty 21 info _ .i64 .i64 Tryz.underlying75 Tryz.underlying3 i1 i2 (some ⟨b,0,none⟩) i c (xs.take i) hold (n+m-i) (by omega) (by omega) (by omega) (by omega) (by rw [i4];omega) (by rw [i4,hik];exact growslice_fits hroom hbig);rw [hik,←hG] at h;rw [hkk,hROW];exact h
 have hGn:n+m≤G:=by rw [hG];exact grownCap_ge w _ _ _
 have hG63:G≤9223372036854775807:=by
  have:=grownCap_le_maxLen w (n+m) c 21 (by unfold maxLen;omega);rw [←hG] at this;unfold maxLen at this;omega
 have hRl:ROW.size=G:=by
  rw [hROW];simp [Builtin.zeroCells,Value.cells,hxl];omega
 have hdl:(xs.drop i).length=n-i:=by rw [List.length_drop,hxl]
 have hbN:b≠w.heap.size:=by omega
 have hvN:vb≠w.heap.size:=by omega
 obtain ⟨L1,hL1⟩:∃L1:List Value,L1=ROW.toList.take i++vs++ROW.toList.drop (i+vs.length):=⟨_,rfl⟩
 have hL1l:L1.length=G:=by
  rw [hL1];simp only [List.length_append,List.length_take,List.length_drop,Array.length_toList,hvl,hRl];omega
 obtain ⟨L2,hL2⟩:∃L2:List Value,L2=L1.take (i+m)++xs.drop i++L1.drop (i+m+(xs.drop i).length):=⟨_,rfl⟩
 have hL2l:L2.length=G:=by
  rw [hL2];simp only [List.length_append,List.length_take,List.length_drop,hL1l,hxl];omega
 have hcpA:∀(W:World),W.heap[w.heap.size]? = some (.cells ROW 21 (0,0))→W.heap[vb]? = some (.cells vcur 21 (0,0))→∀ty dc,(Builtin.copy_ #[75,75] ty #[.slice (some ⟨w.heap.size,i,none⟩) (n+m-i) dc,.slice (some ⟨vb,0,none⟩) m vc]).run Tryz.prog W = .ok (goInt vs.length) (W.setRow w.heap.size L1.toArray):=fun W hR hV ty dc=>by
  have:=run_copy_row Tryz.prog W 75 75 ty 21 w.heap.size i (n+m-i) dc ⟨vb,0,none⟩ m vc ROW 21 vs Tryz.underlying75 size21 hR (by rw [hvl];simp only [Nat.min_def];split<;>omega)
   (fun j v hj=>by
    rw [Addr.add_lit];simp only [World.cell?,hV,Nat.zero_add];exact hvs j v hj)
   (by rw [hvl,hRl];omega) h1v
  rw [hL1];exact this
 have hcpB:∀(W:World),W.heap[w.heap.size]? = some (.cells L1.toArray 21 (0,0))→W.heap[b]? = some (.cells cur 21 (0,0))→∀ty dc sc,(Builtin.copy_ #[75,75] ty #[.slice (some ⟨w.heap.size,i+m,none⟩) (n+m-(i+m)) dc,.slice (some ⟨b,i,none⟩) (n-i) sc]).run Tryz.prog W = .ok (goInt (xs.drop i).length) (W.setRow w.heap.size L2.toArray):=fun W hR hV ty dc sc=>by
  have:=run_copy_row Tryz.prog W 75 75 ty 21 w.heap.size (i+m) (n+m-(i+m)) dc ⟨b,i,none⟩ (n-i) sc L1.toArray 21 (xs.drop i) Tryz.underlying75 size21 hR (by rw [hdl];simp only [Nat.min_def];split<;>omega)
   (fun j v hj=>by
    rw [Addr.add_lit];simp only [World.cell?,hV];exact hx (i+j) v (by rwa [List.getElem?_drop] at hj))
   (by rw [List.size_toArray,hdl,hL1l];omega) (fun v hv=>h1x v (List.mem_of_mem_drop hv))
  rw [hL2];simpa using this
 have hcells:∀(j:Nat) v,(xs.take i++vs++xs.drop i)[j]? = some v→L2.toArray[j]? = some v:=by
  intro j v hj;have hpre:L2=(xs.take i++vs++xs.drop i)++L1.drop (i+m+(xs.drop i).length):=by
   rw [hL2];congr 2;rw [hL1,hROW];have e1:((xs.take i).toArray++Builtin.zeroCells (Value.int .i32 0).cells (n+m-i)++Builtin.zeroCells (Value.int .i32 0).cells (G-(n+m))).toList.take i=xs.take i:=by
    simp only [Array.toList_append];rw [List.append_assoc,List.take_append_of_le_length (by simp;omega),List.take_of_length_le (by simp;omega)]
   rw [e1];rw [List.take_append_of_le_length (by simp;omega),List.take_of_length_le (by simp;omega)]
  rw [hpre];rw [List.getElem?_toArray];have hlt:j<(xs.take i++vs++xs.drop i).length:=(List.getElem?_eq_some_iff.1 hj).1;rw [List.getElem?_append_left hlt];exact hj
 obtain ⟨W1,hW1⟩:∃W1,W1=w.drew.alloc (.cells ROW 21):=⟨_,rfl⟩
 have f1:W1.heap[w.heap.size]? = some (.cells ROW 21 (0,0)):=by rw [hW1];exact heap_alloc_new w.drew _
 have f2:W1.heap[vb]? = some (.cells vcur 21 (0,0)):=by rw [hW1];exact (Below.heap_alloc w.drew _ _ hvw).trans hv
 have f3:W1.heap[b]? = some (.cells cur 21 (0,0)):=by rw [hW1];exact (Below.heap_alloc w.drew _ _ hbl).trans hb
 have hb1':Below w.heap.size w W1:=by rw [hW1];exact (Below.refl _ w).drew.alloc (Nat.le_refl _) _
 rw [←hW1] at hrz;have hA:=hcpA W1 f1 f2;obtain ⟨W2,hW2⟩:∃W2,W2=W1.setRow w.heap.size L1.toArray:=⟨_,rfl⟩
 have g1:W2.heap[w.heap.size]? = some (.cells L1.toArray 21 (0,0)):=by rw [hW2];exact setRow_heap W1 _ _ _ _ _ f1
 have g3:W2.heap[b]? = some (.cells cur 21 (0,0)):=by rw [hW2];exact (setRow_other W1 _ _ _ hbN).trans f3
 have hb2':Below w.heap.size w W2:=by rw [hW2];exact below_setRow hb1' (Nat.le_refl _) _
 rw [←hW2] at hA;have hB:=hcpB W2.drew g1 g3;obtain ⟨W3,hW3⟩:∃W3,W3=W2.drew.setRow w.heap.size L2.toArray:=⟨_,rfl⟩
 have k1:W3.heap[w.heap.size]? = some (.cells L2.toArray 21 (0,0)):=by rw [hW3];exact setRow_heap W2.drew _ _ _ _ _ g1
 have hb3':Below w.heap.size w W3:=by rw [hW3];exact below_setRow hb2'.drew (Nat.le_refl _) _
 rw [←hW3] at hB;refine (?_:Calls Tryz.prog 212 #[.slice (some ⟨b,0,none⟩) n c,.int .i64 i,.slice (some ⟨vb,0,none⟩) m vc] w fun e w'=>e = .returned (.slice (some ⟨w.heap.size,0,none⟩) (n+m) G)∧w'=W3).mono fun e w' h=>⟨G,L2.toArray,hGn,hG63,by rw [List.size_toArray,hL2l],hcells,h.1,by rw [h.2];exact hb3',by rw [h.2];exact k1⟩
 clear hW1 hW2 hW3;have hGi:¬(G=i):=by omega
 have hGim:¬(G=i+m):=by omega
 have hci:¬(c=i):=by omega
 have hw1:IntKind.i64.wrap ((i:Int)+(m:Int))=(i:Int)+(m:Int):=by rw [IntKind.wrap_i64];omega
 have hb1:(0:Int)≤(i:Int)+(m:Int):=by omega
 have hin:i≤n:=by omega
 have htn:((i:Int)+(m:Int)).toNat=i+m:=by omega
 have hb3:(i:Int)≤(n:Int):=by omega
 clear hkk hik hold hROW hG hRl hcpA hcpB hcells hL1 hL2 hL1l hL2l f1 f2 f3 g1 g3 k1 hb1' hb2' hb3' hx hvs h1x h1v i1 i2 i3 i4;have mixed:Tryz.prog.follows .mixedOrders=true:=by kernel_rfl
 go_enter Tryz.func212,Tryz.ntmps212
 go_wp2_with (first|(at_builtin;refine Lib.wpList_append_run _ rfl _ _ _ _ rfl _ _ rfl rfl _ _ (hrz _) ?_)|simp only [hA])
 go_region_law_o (refine step_copy_runI rfl _ _ 75 75 rfl (.slice (some ⟨w.heap.size,i+m,none⟩) (n+m-(i+m)) (G-(i+m))) (.slice (some ⟨b,i,none⟩) (n-i) (c-i)) (by simp [Act.eval,Act.put]) (by simp [Act.eval,Act.put]) (hB 3 (G-(i+m)) (c-i)) ?_)
 go_wp2
 go_returns
 exact ⟨rfl,rfl⟩
set_option maxHeartbeats 4000000 in
theorem ins_end (w w2:World) (ao:Option Addr) (n c vc m:Nat) (va:Addr) (v':Value) (hm:0<m) (hnc:n≤c) (hc63:c≤9223372036854775807) (hnil:ao=none→n=0∧c=0)
 (happ:∀ty,(Builtin.append_ #[75,75] ty #[.slice ao n c,.slice (some va) m vc]).run Tryz.prog w = .ok v' w2) :
 Calls Tryz.prog 212 #[.slice ao n c,.int .i64 n,.slice (some va) m vc] w fun e w'=>e = .returned v'∧w'=w2:=by
 have hz1:¬((m:Int)=0):=by omega
 have mixed:Tryz.prog.follows .mixedOrders=true:=by kernel_rfl
 cases ao with
 | none =>
  obtain ⟨h0,h1⟩:=hnil rfl;subst h0 h1
  go_enter Tryz.func212,Tryz.ntmps212
  go_wp2_with (at_builtin;refine Lib.wpList_append_run _ rfl _ _ _ _ rfl _ _ rfl rfl _ _ (happ _) ?_)
  go_returns
  exact ⟨rfl,rfl⟩
 | some a =>
  obtain ⟨ab,ao,asp⟩:=a
  go_enter Tryz.func212,Tryz.ntmps212
  go_wp2_with (at_builtin;refine Lib.wpList_append_run _ rfl _ _ _ _ rfl _ _ rfl rfl _ _ (happ _) ?_)
  all_goals (go_returns;exact ⟨rfl,rfl⟩)
theorem ints_of {w:World} {m:Md} {l:List Int} {xs:List Value} (h:RepE w m (.int .i32) l xs) (hl:xs.length=l.length):xs=l.map (Value.int .i32):=by
 refine List.ext_getElem? fun j => ?_;rw [List.getElem?_map];cases hj:l[j]? with
 | none =>
  have:l.length≤j:=List.getElem?_eq_none_iff.1 hj;rw [List.getElem?_eq_none (by omega)];rfl
 | some x =>
  have h1:(xs.drop (j*1)).take 1=[Value.int .i32 x]:=(h j x hj).1;have hlt:j<xs.length:=by have:=(List.getElem?_eq_some_iff.1 hj).1;omega
  rw [Nat.mul_one,List.drop_eq_getElem_cons hlt] at h1;simp only [List.take_succ_cons,List.take_zero,List.cons.injEq,and_true] at h1;rw [List.getElem?_eq_getElem hlt,h1];rfl
theorem ints_rep {w:World} {m:Md} (l:List Int):RepE w m (.int .i32) l (l.map (Value.int .i32)):=by
 intro j x hj
 change l[j]? = some x at hj
 have hlt:j<(l.map (Value.int .i32)).length:=by rw [List.length_map];exact (List.getElem?_eq_some_iff.1 hj).1
 show ((l.map (Value.int .i32)).drop (j*1)).take 1=[Value.int .i32 x]∧Rng .i32 x;refine ⟨?_,fun h=>by cases h⟩;rw [Nat.mul_one,List.drop_eq_getElem_cons hlt];simp only [List.take_succ_cons,List.take_zero,List.getElem_map];exact congrArg (fun z=>[Value.int .i32 z]) (List.getElem?_eq_some_iff.1 hj).2
theorem one_ints (l:List Int):∀v∈l.map (Value.int .i32),v.oneCell'=true:=by
 intro v hv;obtain ⟨x,_,rfl⟩:=List.mem_map.1 hv;rfl
def C212:T212:=fun (i,l,v,_)=>bif (decide (0≤i)&&decide (i≤(l.length:Int)))&&(decide (v.length=1)&&decide (l.length≤1000000000000)) then some (l.take i.toNat++v++l.drop i.toNat,()) else none
theorem ok212:FnOk Tryz.prog 212 (E212 C212):=by
 intro w m g v args y hob hargs hy
 change Int×List Int×List Int×Unit at v
 obtain ⟨i,l,vs,u⟩:=v
 change RepOb w m g [[.rowc 21 (.int .i32) l],[.rowc 21 (.int .i32) vs]] at hob
 obtain ⟨v0,r1,e1,⟨hg0,-⟩,r⟩:=hargs;obtain ⟨vi,r2,e2,⟨hi,-⟩,r⟩:=r;obtain ⟨v2,r3,e3,⟨hg1,-⟩,r⟩:=r;have r':r3=[]:=r;subst r' e3 e2;subst hi;have ha:args = #[v0,.int .i64 i,v2]:=by cases args;simpa using e1
 subst ha
 change List Int×Unit at y
 have hy1:(bif (decide (0≤i)&&decide (i≤(l.length:Int)))&&(decide (vs.length=1)&&decide (l.length≤1000000000000)) then some (l.take i.toNat++vs++l.drop i.toNat,()) else none)=some y:=hy;rcases cond_some hy1 with ⟨hl,hy2⟩|⟨_,hy2⟩
 case inr=>cases hy2
 cases hy2;simp only [Bool.and_eq_true,decide_eq_true_eq] at hl;obtain ⟨⟨h0,h1⟩,h2,h3⟩:=hl;obtain ⟨k,rfl⟩:∃k:Nat,i=k:=⟨i.toNat,by omega⟩
 rw [Int.toNat_natCast];obtain ⟨xs,own0,rep0⟩:=(hob.obj 0 v0 _ hg0 rfl).rowc _ _ _ rfl;obtain ⟨ys,own1,rep1⟩:=(hob.obj 1 v2 _ hg1 rfl).rowc _ _ _ rfl;have hx:=ints_of rep0 (by have h:=own0.1;change xs.length=l.length*1 at h;omega);have hys:=ints_of rep1 (by have h:=own1.1;change ys.length=vs.length*1 at h;omega);subst hx hys;have hbytes:l.length+vs.length≤140737488355328/4:=by omega
 rcases own1.2 with ⟨_,hn⟩|⟨vb,vc,vcur,rfl,q1,q2,q3,q4,q5,q6⟩
 · change vs.length=0 at hn;omega
 have hmu0:∀b,v0.ownBlock=some b→m.n b:=fun b hb=>hob.sub b ⟨0,v0,_,hg0,rfl,hb⟩;have hlt0:∀b,v0.ownBlock=some b→b<w.heap.size:=fun b hb=>hob.lt b (hob.nm b (hmu0 b hb));refine .inr ⟨enters Tryz.func212 (by kernel_rfl) (by kernel_rfl) _ w,?_⟩;have fin:∀(r:Value) (w':World),w'.os=w.os→w'.tape=w.tape→w'.output=w.output→w.heap.size≤w'.heap.size→(∀b,b<w.heap.size→v0.ownBlock≠some b→w'.heap[b]? = w.heap[b]?)→(∀b,r.ownBlock=some b→b<w.heap.size→v0.ownBlock=some b) →
  (∃ao n c,r = .slice ao n c)→w'.ownsRow 0 21 1 r (l.take k++vs++l.drop k).length ((l.take k++vs++l.drop k).map (Value.int .i32)) →
  ∃ax l' u m' g',OSel (E212 C212).outs ((l.take k++vs++l.drop k,()):List Int×Unit) ax l' u∧Stp w m w' m'∧RepOb w' m' g' (em id l' u).2∧(∀(o:Nat) v,g[o]? = some v→g'[o]? = some v)∧RepL w' m' g' (em id l' u).1 [r]:=by
  intro r w' k1 k2 k3 k4 k5 k6 k7 k8;have hob0:RepOb w m g [[],[]]:=(hob.kill 0).kill 1;have hnomu:∀b,¬Mu g [[],[]] b:=by
   rintro b ⟨i,gi,cs,a1,a2,a3⟩;have:cs=[]:=by
    match i,a2 with
    | 0,a2=>exact (Option.some.inj a2).symm
    | 1,a2=>exact (Option.some.inj a2).symm
    | i+2,a2=>cases a2
   subst this;cases a3
  have hlen:g.length=2:=hob.len;obtain ⟨t1,t2,t3⟩:=hob0.add (w':=w') r [.rowc 21 (.int .i32) (l.take k++vs++l.drop k)] k1 k2 k3 k4
   (fun b hb h=>k5 b hb fun hv=>by
    rcases h with h|h
    · exact h (hmu0 b hv)
    · exact hnomu b h)
   (fun b hb hlt=>⟨hmu0 b (k6 b hb hlt),hnomu b⟩)
   (fun hs=>⟨fun e' T' l' he=>by
    cases he;exact ⟨_,k8,ints_rep _⟩,(fun T' l' he=>by cases he),(fun h=>by simp [isBox] at h),(fun _ _ he=>by cases he),trivial⟩)
  refine ⟨.ret,[.row 2,.odead,.odead,.orow 21 (.int .i32)],(l.take k++vs++l.drop k,()),_,g++[r],osel_one [.row 2,.odead,.odead,.orow 21 (.int .i32)] ((l.take k++vs++l.drop k,()):List Int×Unit),t2,t1,t3,⟨r,[],rfl,⟨?_,k7⟩,rfl⟩⟩;show (g++[r])[2]? = some r;rw [List.getElem?_append_right (by omega),hlen];rfl
 have hylen:(l.take k++vs++l.drop k).length=l.length+1:=by simp only [List.length_append,List.length_take,List.length_drop];omega
 have hmap:(l.take k++vs++l.drop k).map (Value.int .i32)=(l.map (Value.int .i32)).take k++vs.map (Value.int .i32)++(l.map (Value.int .i32)).drop k:=by
  simp only [List.map_append,List.map_take,List.map_drop]
 have hvq:∀(j:Nat) v,(vs.map (Value.int .i32))[j]? = some v→vcur[j]? = some v:=fun j v hj=>by
  have hlt:j<vs.length:=by have:=(List.getElem?_eq_some_iff.1 hj).1;simpa using this
  have hj':(vcur.toList.take (vs.length*1))[j]? = some v:=by rw [show vcur.toList.take (vs.length*1)=vs.map (Value.int .i32) from q6];exact hj
  rw [List.getElem?_take_of_lt (by omega),Array.getElem?_toList] at hj';exact hj'
 by_cases hk:k=l.length
 · 
   subst hk;have hrep:RepT w ⟨fun _=>False,fun _=>False⟩ (.lst (.int .i32)) vs [.slice (some ⟨vb,0,none⟩) vs.length vc]:=by
    refine ⟨_,vc,rfl,q3,q4,(fun h=>by cases h),fun j x hj=>⟨vb,0,[.int .i32 x],rfl,⟨rfl,fun h=>by cases h⟩,rfl,(Array.getElem?_eq_some_iff.1 q2).1,fun h=>h,fun i u hu => ?_⟩⟩
    match i,hu with
    | 0,hu =>
     cases hu
     change vs[j]? = some x at hj
     simp only [World.cell?,q2];have:=hvq j (.int .i32 x) (by rw [List.getElem?_map,hj];rfl);simpa [Ty.size] using this
    | i+1,hu=>cases hu
   have hap:∀ty,∃v' w' news,(Builtin.append_ #[75,75] ty #[v0,.slice (some ⟨vb,0,none⟩) vs.length vc]).run Tryz.prog w = .ok v' w'∧w'.ownsRow 0 21 1 v' (l.length+vs.length) (l.map (Value.int .i32)++news)∧news.length=vs.length*1∧RepE w ⟨fun _=>False,fun _=>False⟩ (.int .i32) vs news∧w.grownBy w' v0.ownBlock∧∀b,v'.ownBlock=some b→v0.ownBlock=some b∨b=w.heap.size:=fun ty =>
    run_append_slice (P:=Tryz.prog) (w:=w) (t:=75) (e:=21) (ty:=ty) (T := .int .i32) (ei:=ei32) hΓ (by kernel_rfl) (by kernel_rfl) rfl (by decide) rfl own0 hrep hbytes
   obtain ⟨v',w',news,a1,a2,a3,a4,a5,a6⟩:=hap 75;have a1':∀ty,(Builtin.append_ #[75,75] ty #[v0,.slice (some ⟨vb,0,none⟩) vs.length vc]).run Tryz.prog w = .ok v' w':=fun ty=>a1;have hnews:=ints_of a4 (by simpa using a3);subst hnews;obtain ⟨ao,n0,c0,rfl,hn0,hnc,hc63,hnil⟩:∃ao n0 c0,v0 = .slice ao n0 c0∧n0=l.length∧n0≤c0∧c0≤9223372036854775807∧(ao=none→n0=0∧c0=0):=by
    rcases own0.2 with ⟨rfl,hn⟩|⟨b,c,cur,rfl,p1,p2,p3,p4,p5,p6⟩
    · exact ⟨none,0,0,rfl,hn.symm,Nat.le_refl _,Nat.zero_le _,fun _=>⟨rfl,rfl⟩⟩
    · exact ⟨_,_,_,rfl,rfl,p3,p4,fun h=>by cases h⟩
   subst hn0;refine (ins_end w w' ao l.length c0 vc vs.length _ v' (by omega) hnc hc63 hnil a1').mono fun e w2 ⟨d1,d2⟩ => ?_;subst d2;refine ⟨v',d1,fin v' w2 a5.os a5.tape a5.output a5.size (fun b hb hne=>a5.block b hb fun e=>hne e.symm) (fun b hb hlt => ?_) ?_ ?_⟩
   · rcases a6 b hb with h|h
     · exact h
     · omega
   · rcases a2.2 with ⟨rfl,_⟩|⟨q,cap,cur,rfl,_⟩
     · exact ⟨_,_,_,rfl⟩
     · exact ⟨_,_,_,rfl⟩
   · rw [hylen,hmap,List.take_of_length_le (by simp),List.drop_of_length_le (by simp),List.append_nil]
     rw [h2] at a2;exact a2
 · rcases own0.2 with ⟨_,hn⟩|⟨b,c,cur,rfl,p1,p2,p3,p4,p5,p6⟩
   · change l.length=0 at hn;omega
   have hvb:vb≠b:=by
    rintro rfl;exact hob.sep 0 1 _ _ _ _ vb (by omega) hg0 rfl hg1 rfl rfl rfl
   have hxq:∀(j:Nat) v,(l.map (Value.int .i32))[j]? = some v→cur[j]? = some v:=fun j v hj=>by
    have hlt:j<l.length:=by have:=(List.getElem?_eq_some_iff.1 hj).1;simpa using this
    have hj':(cur.toList.take (l.length*1))[j]? = some v:=by rw [show cur.toList.take (l.length*1)=l.map (Value.int .i32) from p6];exact hj
    rw [List.getElem?_take_of_lt (by omega),Array.getElem?_toList] at hj';exact hj'
   have p5':cur.size=c:=by simpa [Ty.size] using p5
   have hcl:cur.toList.length=c:=by rw [Array.length_toList];exact p5'
   have hkn:k<l.length:=by omega
   by_cases hroom:l.length+vs.length≤c
   · refine (ins_room w b vb k l.length c vc vs.length cur vcur _ _ hkn (by omega) hroom p4 p5' hvb p2 q2 (by simp) (by simp) hxq hvq (one_ints _) (one_ints _)).mono fun e w2 ⟨l1,hl1,d1,d2⟩ => ?_
     have hbl:b<w.heap.size:=(Array.getElem?_eq_some_iff.1 p2).1;have hcur:cur.toList.take k=(l.map (Value.int .i32)).take k:=by
      rw [←show cur.toList.take (l.length*1)=l.map (Value.int .i32) from p6,List.take_take,Nat.min_eq_left (by omega)]
     have e1:l1.take k=(l.map (Value.int .i32)).take k:=by
      rw [hl1,List.append_assoc,List.take_append_of_le_length (by rw [List.length_take,hcl];omega),List.take_take,Nat.min_eq_left (by omega),hcur]
     have e2:l1.drop (k+(vs.map (Value.int .i32)).length)=(l.map (Value.int .i32)).drop k++cur.toList.drop (k+vs.length+((l.map (Value.int .i32)).drop k).length):=by
      rw [hl1,List.append_assoc,List.drop_append_of_le_length (by rw [List.length_take,List.length_map,hcl];omega),List.drop_of_length_le (by rw [List.length_take,List.length_map];omega),List.nil_append]
     have hw:w2.heap[b]? = some (.cells (l1.take k++vs.map (Value.int .i32)++l1.drop (k+(vs.map (Value.int .i32)).length)).toArray 21 (0,0)):=by
      rw [d2];exact setRow_heap _ _ _ _ _ _ (setRow_heap w.drew _ _ _ _ _ p2)
     have hsize:w2.heap.size=w.heap.size:=by rw [d2];simp [World.setRow]
     refine ⟨_,d1,fin _ w2 (by rw [d2];rfl) (by rw [d2];rfl) (by rw [d2];rfl) (by omega) (fun b' hb' hne => ?_) (fun b' hb' _=>hb') ⟨_,_,_,rfl⟩ ?_⟩
     · have:b'≠b:=by rintro rfl;exact hne rfl
       rw [d2,setRow_other _ _ _ _ this,setRow_other _ _ _ _ this];rfl
     · rw [hylen,hmap]
       have hfull:l1.take k++vs.map (Value.int .i32)++l1.drop (k+(vs.map (Value.int .i32)).length)=((l.map (Value.int .i32)).take k++vs.map (Value.int .i32)++(l.map (Value.int .i32)).drop k)++cur.toList.drop (k+vs.length+((l.map (Value.int .i32)).drop k).length):=by
        rw [e1,e2];simp only [List.append_assoc]
       refine ⟨by simp only [List.length_append,List.length_take,List.length_drop,List.length_map];omega,.inr ⟨b,c,_,by rw [h2],Nat.zero_le _,hw,by omega,p4,?_,?_⟩⟩
       · rw [List.size_toArray,hfull]
         simp only [List.length_append,List.length_take,List.length_drop,List.length_map,Array.length_toList,p5'];omega
       · rw [hfull,List.take_append_of_le_length (by simp only [List.length_append,List.length_take,List.length_drop,List.length_map];omega)]
         exact List.take_of_length_le (by simp only [List.length_append,List.length_take,List.length_drop,List.length_map];omega)
   · refine (ins_grow w b vb k l.length c vc vs.length cur vcur _ _ hkn (by omega) p3 (by omega) (by omega) p2 q2 (by simp) (by simp) hxq hvq (one_ints _) (one_ints _)).mono fun e w2 ⟨G,cells,d1,d2,d3,d4,d5,d6,d7⟩ => ?_
     refine ⟨_,d5,fin _ w2 d6.os d6.tape d6.output d6.size (fun b' hb' _=>d6.block b' hb') (fun b' hb' hlt => ?_) ⟨_,_,_,rfl⟩ ?_⟩
     · cases hb';exact absurd hlt (Nat.lt_irrefl _)
     · rw [hylen,hmap]
       refine ⟨by simp only [List.length_append,List.length_take,List.length_drop,List.length_map];omega,.inr ⟨w.heap.size,G,cells,by rw [h2],Nat.zero_le _,d7,by omega,d2,by omega,?_⟩⟩;refine List.ext_getElem? fun j => ?_;have hL:((l.map (Value.int .i32)).take k++vs.map (Value.int .i32)++(l.map (Value.int .i32)).drop k).length=l.length+1:=by simp only [List.length_append,List.length_take,List.length_drop,List.length_map];omega
       by_cases hj:j<l.length+1
       · rw [List.getElem?_take_of_lt (by omega),Array.getElem?_toList,List.getElem?_eq_getElem (show j<((l.map (Value.int .i32)).take k++vs.map (Value.int .i32)++(l.map (Value.int .i32)).drop k).length by omega)]
         exact d4 j _ (List.getElem?_eq_getElem _)
       · rw [List.getElem?_eq_none (by rw [List.length_take];omega),List.getElem?_eq_none (by omega)]
end Go.Proofs.YtbifjondkjgkmaaGreatDoorA.W
namespace Go.Proofs.YtbifjondkjgkmaaGreatDoorA.W
open Go Go.Ae
abbrev T26:=Unit→Option (LqA×Unit)
def E26 (f:T26):FEnt:=⟨Li7,Lo17,f⟩
def F26:T26:=fun (_)=>some ([(0,31,9,0,0,0),(32,32,8,0,0,0),(33,44,6,0,0,0),(45,47,6,7,0,0),(48,57,5,4,0,0),(58,64,6,0,0,0),(65,90,1,1,0,1),(91,96,6,0,0,0),(97,122,2,1,0,1),(123,126,7,0,0,0),(127,127,9,0,0,0),(160,160,8,0,0,0),(178,179,7,4,0,0),(183,183,6,0,0,0),(192,214,1,1,0,1),(215,215,7,0,0,0),(216,222,1,1,0,1),(223,246,2,1,0,1),(247,247,7,0,0,0),(248,255,2,1,0,1),(768,772,4,6,3,0),(774,776,4,6,3,0),(778,778,4,6,3,0),(803,803,4,6,3,0),(807,807,4,6,3,0),(885,885,7,0,0,2),(913,929,1,1,0,2),(931,937,1,1,0,2),(945,969,2,1,0,2),(1040,1071,1,1,0,3),(1072,1103,2,1,0,3),(1456,1465,4,6,3,4),(1488,1514,3,2,0,4),(1523,1524,6,2,0,4),(1575,1575,3,3,2,5),(1576,1576,3,3,1,5),(1577,1577,3,3,2,5),(1578,1582,3,3,1,5),(1583,1586,3,3,2,5),(1587,1594,3,3,1,5),(1601,1607,3,3,1,5),(1608,1608,3,3,2,5),(1610,1610,3,3,1,5),(1611,1618,4,6,3,0),(1632,1641,5,5,0,5),(1776,1785,5,4,0,5),(2325,2361,3,1,0,6),(2364,2364,4,6,3,6),(2381,2381,4,6,3,6),(2392,2392,3,1,0,6),(4352,4370,3,1,0,9),(4449,4469,3,1,0,9),(4520,4546,3,1,0,9),(7844,7844,1,1,0,1),(7845,7845,2,1,0,1),(8204,8205,10,0,0,0),(8490,8491,1,1,0,1),(12290,12290,6,0,0,0),(12353,12438,3,1,0,7),(12441,12441,4,6,3,0),(12449,12538,3,1,0,7),(12539,12539,6,0,0,0),(19968,40959,3,1,0,8),(44032,55203,3,1,0,9),(64257,64258,2,1,0,1),(65281,65295,6,0,0,0),(65296,65305,5,4,0,0),(65306,65312,6,0,0,0),(65313,65338,1,1,0,1),(65339,65344,6,0,0,0),(65345,65370,2,1,0,1),(65371,65374,7,0,0,0),(66560,66599,1,1,0,10),(66600,66639,2,1,0,10)],())
def C26:T26:=F26
theorem ok26:FO 26 (E26 C26):=zq0 Li7 Lo17 KqZ F26 kn Tryz.func26
abbrev T27:=Unit→Option (LqB×Unit)
def E27 (f:T27):FEnt:=⟨Li7,Lo18,f⟩
def F27:T27:=fun (_)=>some ([(768,772,230,0),(774,776,230,0),(778,778,230,0),(803,803,220,0),(807,807,202,0),(1456,1465,10,1),(1611,1618,27,1),(2364,2364,7,0),(2381,2381,9,0),(12441,12441,8,0)],())
def C27:T27:=F27
theorem ok27:FO 27 (E27 C27):=zq0 Li7 Lo18 KqZ F27 kn Tryz.func27
abbrev T28:=Unit→Option (LqC×Unit)
def E28 (f:T28):FEnt:=⟨Li7,Lo19,f⟩
def F28:T28:=fun (_)=>some ([(65,90,32),(192,214,32),(216,222,32),(913,929,32),(931,937,32),(1040,1071,32),(7844,7844,1),(8490,8490,-8383),(8491,8491,-8262),(65313,65338,32),(66560,66599,40)],())
def C28:T28:=F28
theorem ok28:FO 28 (E28 C28):=zq0 Li7 Lo19 KqZ F28 kn Tryz.func28
abbrev T29:=Unit→Option (List ((Int×(Int×(Int×(Bool×Bool)))))×Unit)
def E29 (f:T29):FEnt:=⟨Li7,Lo20,f⟩
def F29:T29:=fun (_)=>some ([(160,32,0,true,true),(178,50,0,true,true),(179,51,0,true,true),(192,65,768,false,false),(193,65,769,false,false),(194,65,770,false,false),(195,65,771,false,false),(196,65,776,false,false),(197,65,778,false,false),(199,67,807,false,false),(200,69,768,false,false),(201,69,769,false,false),(202,69,770,false,false),(203,69,776,false,false),(209,78,771,false,false),(214,79,776,false,false),(220,85,776,false,false),(224,97,768,false,false),(225,97,769,false,false),(226,97,770,false,false),(227,97,771,false,false),(228,97,776,false,false),(229,97,778,false,false),(231,99,807,false,false),(232,101,768,false,false),(233,101,769,false,false),(234,101,770,false,false),(235,101,776,false,false),(241,110,771,false,false),(246,111,776,false,false),(252,117,776,false,false),(1049,1048,774,false,false),(1081,1080,774,false,false),(2392,2325,2364,false,true),(7844,194,769,false,false),(7845,226,769,false,false),(8490,75,0,false,true),(8491,197,0,false,true),(12460,12459,12441,false,false),(12468,12467,12441,false,false),(64257,102,105,true,true),(64258,102,108,true,true)],())
def C29:T29:=F29
theorem ok29:FO 29 (E29 C29):=zq0 Li7 Lo20 KqZ F29 kn Tryz.func29
end Go.Proofs.YtbifjondkjgkmaaGreatDoorA.W
namespace Go.Proofs.YtbifjondkjgkmaaGreatDoorA.W
open Go Go.Ae Go.RowKit
def C9:T9:=fun _=>(C26 ()).bind fun a=>(C27 ()).bind fun b=>(C28 ()).bind fun c=>some (a.1,b.1,c.1,())
theorem call_lst {f:FuncId} {fn:Func} {T:Ty} {F:Unit→Option (List T.den×Unit)} (h:FnOk Tryz.prog f ⟨[],[(.ret,[.lst T])],F⟩) (hf:Tryz.prog.funcs[f]? = some fn) (hb:fn.body.isSome=true) (hname:(fn.name == "runtime.NumGoroutine")=false) {l:List T.den} (hl:F ()=some (l,()))
 (w:World) (m:Md) (gi:GI w m) (hlt:∀b,m.a b→b<w.heap.size):Calls Tryz.prog f #[] w fun e w'=>∃v,e = .returned v∧Below w.heap.size w w'∧RepT w' m (.lst T) l [v]:=by
 refine (FnOk.call0 (v:=()) (y:=(l,())) h hf hb hname gi hlt rfl rfl rfl hl ?_).mono fun e w' ⟨r,h1,h2,ax,l',u,h3,h4⟩ => ?_
 · intro ax l' u h3
   cases osel_one_inv h3;rfl
 · cases osel_one_inv h3
   obtain ⟨v,r',e1,e2,e3⟩:=h4;have e3':r'=[]:=e3;subst e3';cases e1;exact ⟨r,h1,h2,e2⟩
theorem call_lst_b {f:FuncId} {fn:Func} {T:Ty} {F:Unit→Option (List T.den×Unit)} (h:FnOk Tryz.prog f ⟨[],[(.ret,[.lst T])],F⟩) (hf:Tryz.prog.funcs[f]? = some fn) (hb:fn.body.isSome=true) (hname:(fn.name == "runtime.NumGoroutine")=false) {l:List T.den} (hl:F ()=some (l,()))
 {w:World} {m:Md} (gi:GI w m) (hn:∀b,m.n b→m.a b) (hlt:∀b,m.a b→b<w.heap.size) {W:World} (hB:Below w.heap.size w W) (N:Nat) (hN:l.length=N):Calls Tryz.prog f #[] W fun e w'=>∃ao cap,e = .returned (.slice ao N cap)∧Below w.heap.size w w'∧Below W.heap.size W w'∧RepT w' m (.lst T) l [.slice ao N cap]:=by
 have hst:Stp w m W m:=stp_below hB hn;refine (call_lst h hf hb hname hl W m (gi.mono hst) (fun b hb=>Nat.lt_of_lt_of_le (hlt b hb) hB.size)).mono fun e w' ⟨v,h1,h2,h3⟩ => ?_;have h3':=h3;obtain ⟨ao,cap,he,_⟩:=h3';have hev:v = .slice ao l.length cap:=(List.cons.inj he).1;rw [hN] at hev;subst hev;exact ⟨ao,cap,h1,hB.trans (h2.mono hB.size),h2,h3⟩
def rangesT:List (Ty.pair (.int .i32) (.pair (.int .i32) (.pair (.int .i64) (.pair (.int .i64) (.pair (.int .i64) (.int .i64)))))).den:=((C26 ()).getD ([],())).1
def classesT:List (Ty.pair (.int .i32) (.pair (.int .i32) (.pair (.int .i64) (.int .i64)))).den:=((C27 ()).getD ([],())).1
def lowersT:List (Ty.pair (.int .i32) (.pair (.int .i32) (.int .i32))).den:=((C28 ()).getD ([],())).1
theorem c_ranges:C26 ()=some (rangesT,()):=by kernel_rfl
theorem c_classes:C27 ()=some (classesT,()):=by kernel_rfl
theorem c_lowers:C28 ()=some (lowersT,()):=by kernel_rfl
theorem c_splits:C29 ()=some ((splitT:List (Ty.pair (.int .i32) (.pair (.int .i32) (.pair (.int .i32) (.pair .bool .bool)))).den),()):=by kernel_rfl
def kv (es:Array MapEntry):List (Value×Value):=es.toList.map fun e=>(e.key,e.val)
structure NewI (S:Nat) (w4:World) (k:Nat) (wr:World):Prop where
 m1:∃es c,wr.heap[S]? = some (.map es c)∧kv es=splitE (splitT.take k)
 m2:∃es c,wr.heap[S+1]? = some (.map es c)∧kv es=pairE (splitT.take k)
 keep:∀b,b<w4.heap.size→b≠S→b≠S+1→wr.heap[b]? = w4.heap[b]?
 size:w4.heap.size≤wr.heap.size
 os:wr.os=w4.os
 tape:wr.tape=w4.tape
 output:wr.output=w4.output
theorem split_new:(List.range 42).all (fun k=>match splitT[k]? with
 | some s=>((splitT.take k).find? fun s'=>s.1==s'.1).isNone&&(((splitT.take k).filter fun s => !s.2.2.2.1 && !s.2.2.2.2).find? fun s'=>s.2.1==s'.2.1&&s.2.2.1==s'.2.2.1).isNone
 | none=>true)=true:=by kernel_rfl
theorem put_split {S k:Nat} {w4 wr:World} (h:NewI S w4 k wr) (hS:S+3≤w4.heap.size) (hk:k<42) {s:Int×Int×Int×Bool×Bool} (hs:splitT[k]? = some s) (X:Obj) :
 ∃W1 es c,(Instr.mapUpdate 29 (.map (some S)) (.int .i32 s.1) (splitV s)).run Tryz.prog (wr.alloc X) = .ok () W1∧W1.heap[S]? = some (.map es c)∧kv es=splitE (splitT.take (k+1)) ∧
  (∀b,b≠S→W1.heap[b]? = (wr.alloc X).heap[b]?)∧W1.heap.size=wr.heap.size+1∧W1.os=wr.os∧W1.tape=wr.tape∧W1.output=wr.output:=by
 obtain ⟨es,c,h1,h2⟩:=h.m1;have hSr:S<wr.heap.size:=by have:=h.size;omega
 have hb:(wr.alloc X).heap[S]? = some (.map es c):=by rw [Below.heap_alloc _ _ _ hSr,h1]
 have hn:=List.all_eq_true.1 split_new k (List.mem_range.2 hk);rw [hs] at hn;simp only [Bool.and_eq_true,Option.isNone_iff_eq_none] at hn;have hint:∀en∈es.toList,∃n,en.key = .int .i32 n:=by
  intro en hen;have:(en.key,en.val)∈splitE (splitT.take k):=h2▸List.mem_map_of_mem (f:=fun e:MapEntry=>(e.key,e.val)) hen;obtain ⟨q',_,e'⟩:=List.mem_map.1 this;exact ⟨q'.1,(Prod.mk.inj e').1.symm⟩
 have hl:=findE_look (isInt s.1) es.toList 0;rw [show es.toList.map (fun e=>(e.key,e.val))=splitE (splitT.take k) from h2,lookE_split,hn.1] at hl;have hnone:findE (isInt s.1) es.toList 0=none:=by simpa using hl
 have hck:∀j (w0:World),(Instr.checkKey false (j+1) 21 (.int .i32 s.1)).run Tryz.prog w0 = .ok () w0:=by
  intro j w0;simp only [Instr.checkKey,Sem.run_bind,run_underlying (Tryz.underlying21),Result.andThen_ok];rfl
 refine ⟨_,es.push { key := .int .i32 s.1,val:=splitV s,born:=c },c+1,run_update_new (P:=Tryz.prog) (w:=wr.alloc X) (t:=29) (kt:=21) (et:=68) (key := .int .i32 s.1) (val:=splitV s) Tryz.underlying29 hb (hck 9999 _) (hnone▸findKey_int (P:=Tryz.prog) (w:=wr.alloc X) (x:=s.1) (kt:=21) Tryz.underlying21 hint),?_,?_,?_,?_,rfl,rfl,rfl⟩
 · show ((wr.alloc X).heap.setIfInBounds S _)[S]? = _
   rw [Array.getElem?_setIfInBounds_self_of_lt (by rw [World.size_alloc];omega)]
 · show kv (es.push _)=_
   have ht:splitT.take (k+1)=splitT.take k++[s]:=by rw [List.take_add_one,hs];rfl
   rw [ht];simp only [kv,Array.toList_push,List.map_append,List.map_cons,List.map_nil,splitE];rw [show es.toList.map (fun e=>(e.key,e.val))=splitE (splitT.take k) from h2];rfl
 · intro b hbS
   show ((wr.alloc X).heap.setIfInBounds S _)[b]? = _;rw [Array.getElem?_setIfInBounds_ne (fun e=>hbS e.symm)]
 · show ((wr.alloc X).heap.setIfInBounds S _).size=_
   rw [Array.size_setIfInBounds,World.size_alloc]
theorem put_pair {B k:Nat} {W:World} {es:Array MapEntry} {c:Nat} (hb:W.heap[B]? = some (.map es c)) (h2:kv es=pairE (splitT.take k)) (hk:k<42) {s:Int×Int×Int×Bool×Bool} (hs:splitT[k]? = some s) (hso:(!s.2.2.2.1 && !s.2.2.2.2)=true) :
 ∃W1 es c,(Instr.mapUpdate 30 (.map (some B)) (.agg #[.int .i32 s.2.1,.int .i32 s.2.2.1]) (.int .i32 s.1)).run Tryz.prog W = .ok () W1∧W1.heap[B]? = some (.map es c)∧kv es=pairE (splitT.take (k+1)) ∧
  (∀b,b≠B→W1.heap[b]? = W.heap[b]?)∧W1.heap.size=W.heap.size∧W1.os=W.os∧W1.tape=W.tape∧W1.output=W.output:=by
 have hn:=List.all_eq_true.1 split_new k (List.mem_range.2 hk);rw [hs] at hn;simp only [Bool.and_eq_true,Option.isNone_iff_eq_none] at hn;have hkey:∀en∈es.toList,(Op.equal 70 (.agg #[.int .i32 s.2.1,.int .i32 s.2.2.1]) en.key).run Tryz.prog W = .ok (isPair s.2.1 s.2.2.1 en.key) W:=by
  intro en hen;have:(en.key,en.val)∈pairE (splitT.take k):=h2▸List.mem_map_of_mem (f:=fun e:MapEntry=>(e.key,e.val)) hen;obtain ⟨q',_,e'⟩:=List.mem_map.1 this;rw [←(Prod.mk.inj e').1];exact eq_pair s.2.1 s.2.2.1 q'.2.1 q'.2.2.1 9998 W
 have hl:=findE_look (isPair s.2.1 s.2.2.1) es.toList 0;rw [show es.toList.map (fun e=>(e.key,e.val))=pairE (splitT.take k) from h2,pairE,lookE_pair,hn.2] at hl;have hnone:findE (isPair s.2.1 s.2.2.1) es.toList 0=none:=by simpa using hl
 have hlt:B<W.heap.size:=(Array.getElem?_eq_some_iff.1 hb).1;refine ⟨_,es.push { key := .agg #[.int .i32 s.2.1,.int .i32 s.2.2.1],val := .int .i32 s.1,born:=c },c+1,run_update_new (P:=Tryz.prog) (w:=W) (t:=30) (kt:=70) (et:=21) (key := .agg #[.int .i32 s.2.1,.int .i32 s.2.2.1]) (val := .int .i32 s.1) Tryz.underlying30 hb (check_pair _ _ 9998 _ W) (hnone▸findKey_agg (P:=Tryz.prog) (w:=W) (kt:=70) (p:=isPair s.2.1 s.2.2.1) Tryz.underlying70 hkey),?_,?_,?_,?_,rfl,rfl,rfl⟩
 · show (W.heap.setIfInBounds B _)[B]? = _
   rw [Array.getElem?_setIfInBounds_self_of_lt hlt]
 · show kv (es.push _)=_
   have ht:splitT.take (k+1)=splitT.take k++[s]:=by rw [List.take_add_one,hs];rfl
   rw [ht];simp only [kv,Array.toList_push,List.map_append,List.map_cons,List.map_nil,pairE,List.filter_append,List.filter_cons,hso,if_true,List.filter_nil];rw [show es.toList.map (fun e=>(e.key,e.val))=pairE (splitT.take k) from h2];rfl
 · intro b hbS
   show (W.heap.setIfInBounds B _)[b]? = _;rw [Array.getElem?_setIfInBounds_ne (fun e=>hbS e.symm)]
 · show (W.heap.setIfInBounds B _).size=_
   rw [Array.size_setIfInBounds]
theorem pairE_skip {k:Nat} {s:Int×Int×Int×Bool×Bool} (hs:splitT[k]? = some s) (hso:(!s.2.2.2.1 && !s.2.2.2.2)=false):pairE (splitT.take (k+1))=pairE (splitT.take k):=by
 have ht:splitT.take (k+1)=splitT.take k++[s]:=by rw [List.take_add_one,hs];rfl
 rw [ht];simp [pairE,List.filter_append,List.filter_cons,hso]
theorem split_cells {w:World} {m:Md} {a:Option Addr} {p:Nat} (h:RepT w m (.lst (.pair (.int .i32) (.pair (.int .i32) (.pair (.int .i32) (.pair .bool .bool))))) splitT [.slice a 42 p]) :
 ∃bs o,a=some ⟨bs,o,none⟩∧bs<w.heap.size∧∀k s,splitT[k]? = some s→w.cell? ⟨bs,o+k*5,none⟩=some (.int .i32 s.1)∧w.cell? ⟨bs,o+k*5+1,none⟩=some (.int .i32 s.2.1)∧w.cell? ⟨bs,o+k*5+2,none⟩=some (.int .i32 s.2.2.1) ∧
  w.cell? ⟨bs,o+k*5+3,none⟩=some (.bool s.2.2.2.1)∧w.cell? ⟨bs,o+k*5+4,none⟩=some (.bool s.2.2.2.2):=by
 obtain ⟨ao,cap,he,_,_,_,h4⟩:=h;have hao:a=ao:=by have:=(List.cons.inj he).1;injection this
 subst hao;obtain ⟨s0,hs0⟩:∃s0,splitT[0]? = some s0:=⟨_,rfl⟩
 obtain ⟨b,o,us,e1,_,_,e2,_⟩:=h4 0 s0 hs0;refine ⟨b,o,e1,e2,fun k s hs => ?_⟩;obtain ⟨b',o',us,e1',r1,_,_,_,r3⟩:=h4 k s hs;rw [e1] at e1';cases e1';obtain ⟨v1,u1,rfl,⟨rfl,_⟩,v2,u2,rfl,⟨rfl,_⟩,v3,u3,rfl,⟨rfl,_⟩,v4,u4,rfl,rfl,rfl⟩:=r1;exact ⟨r3 0 _ rfl,r3 1 _ rfl,r3 2 _ rfl,r3 3 _ rfl,r3 4 _ rfl⟩
theorem cell_of_map {w:World} {b o:Nat} {es:Array MapEntry} {c:Nat} (h:w.heap[b]? = some (.map es c)):w.cell? ⟨b,o,none⟩=none:=by simp [World.cell?,h]
theorem cell_of_cells {w:World} {b o:Nat} {cs:Array Value} {t:TypeId} {fr:Nat×Nat} (h:w.heap[b]? = some (.cells cs t fr)):w.cell? ⟨b,o,none⟩=cs[o]? := by simp [World.cell?,h]
theorem frozen_of_cells {w:World} {b o:Nat} {cs:Array Value} {t:TypeId} (h:w.heap[b]? = some (.cells cs t)):w.frozen? ⟨b,o,none⟩=false:=by simp [World.frozen?,h]
set_option maxHeartbeats 4000000 in
theorem new_walk (w:World) (m:Md) (gi:GI w m) (hn:∀b,¬m.n b) (hlt:∀b,m.a b→b<w.heap.size):Calls Tryz.prog 9 #[] w fun e w'=>∃v0 v1 v2 b1 b2 o1 o2,e = .returned (.agg #[v0,v1,v2,.map (some b1),.map (some b2)])∧Below w.heap.size w w' ∧
 RepT w' m (.lst (.pair (.int .i32) (.pair (.int .i32) (.pair (.int .i64) (.pair (.int .i64) (.pair (.int .i64) (.int .i64))))))) rangesT [v0]∧RepT w' m (.lst (.pair (.int .i32) (.pair (.int .i32) (.pair (.int .i64) (.int .i64))))) classesT [v1]∧RepT w' m (.lst (.pair (.int .i32) (.pair (.int .i32) (.int .i32)))) lowersT [v2] ∧
 (b1<w'.heap.size∧w.heap.size≤b1∧w'.heap[b1]? = some o1∧Opq 0 o1)∧(b2<w'.heap.size∧w.heap.size≤b2∧w'.heap[b2]? = some o2∧Opq 1 o2):=by
 have mk1:=run_mkMap 29;have mk2:=run_mkMap 30;have hw0:Hid (Below w.heap.size w (w.alloc (.cells #[.slice none 0 0,.slice none 0 0,.slice none 0 0,.map none,.map none] 32))∧(w.alloc (.cells #[.slice none 0 0,.slice none 0 0,.slice none 0 0,.map none,.map none] 32)).heap[w.heap.size]? = some (.cells #[.slice none 0 0,.slice none 0 0,.slice none 0 0,.map none,.map none] 32)):=⟨(Below.refl _ w).alloc (Nat.le_refl _) _,heap_alloc_new w _⟩
 have gi0:GI (w.alloc (.cells #[.slice none 0 0,.slice none 0 0,.slice none 0 0,.map none,.map none] 32)) ⟨fun b=>b=w.heap.size,fun b=>m.a b∨b=w.heap.size⟩:=by
  refine gi.mono ⟨rfl,rfl,rfl,by rw [World.size_alloc];omega,fun b hb=>(hn b hb).elim,fun b hb _=>Below.heap_alloc _ _ _ hb,fun b hb h => ?_,fun b hb h => ?_,fun b hb h _ => .inl h⟩
  · rcases h with h|h
    · exact h
    · omega
  · have h':b=w.heap.size:=h
    omega
 have hn0:∀b,(⟨fun b=>b=w.heap.size,fun b=>m.a b∨b=w.heap.size⟩:Md).n b→(⟨fun b=>b=w.heap.size,fun b=>m.a b∨b=w.heap.size⟩:Md).a b:=fun b h => .inr h;have hlt0:∀b,(⟨fun b=>b=w.heap.size,fun b=>m.a b∨b=w.heap.size⟩:Md).a b→b<(w.alloc (.cells #[.slice none 0 0,.slice none 0 0,.slice none 0 0,.map none,.map none] 32)).heap.size:=fun b h=>by
  rw [World.size_alloc];rcases h with h|h
  · have:=hlt b h;omega
  · omega
 have hless:Hid (∀b,m.a b→(⟨fun b=>b=w.heap.size,fun b=>m.a b∨b=w.heap.size⟩:Md).a b):=fun b h => .inl h;have hn00:Hid (∀b,(⟨fun b=>b=w.heap.size,fun b=>m.a b∨b=w.heap.size⟩:Md).n b→(⟨fun b=>b=w.heap.size,fun b=>m.a b∨b=w.heap.size⟩:Md).a b):=fun b h => .inr h;have hnn:Hid (∀b,¬(⟨fun b=>b=w.heap.size,fun b=>m.a b∨b=w.heap.size⟩:Md).n b↔b≠w.heap.size):=fun b=>Iff.rfl;generalize hm':(⟨fun b=>b=w.heap.size,fun b=>m.a b∨b=w.heap.size⟩:Md)=m' at gi0 hn0 hlt0 hless hnn hn00;clear hm' gi hn hlt
 go_enter Tryz.func9,Tryz.ntmps9
 go_wp2_with (first
  | (go_at_call 26;refine (call_lst_b ok26 Tryz.func26 (by kernel_rfl) (by kernel_rfl) c_ranges gi0 hn0 hlt0 (Below.refl _ _) 74 (by kernel_rfl)).mono ?_;rintro e w1 ⟨a0,p0,rfl,hB1,hb1,hr1⟩;have hs1:=hb1.size;simp only [World.size_alloc] at hs1)
  | (go_at_call 27;refine (call_lst_b ok27 Tryz.func27 (by kernel_rfl) (by kernel_rfl) c_classes gi0 hn0 hlt0 hB1 10 (by kernel_rfl)).mono ?_;rintro e w2 ⟨a1,p1,rfl,hB2,hb2,hr2⟩;have hs2:=hb2.size)
  | (go_at_call 28;refine (call_lst_b ok28 Tryz.func28 (by kernel_rfl) (by kernel_rfl) c_lowers gi0 hn0 hlt0 hB2 11 (by kernel_rfl)).mono ?_;rintro e w3 ⟨a2,p2,rfl,hB3,hb3,hr3⟩;have hs3:=hb3.size;have hs30:w.heap.size<w3.heap.size:=by omega)
  | (go_at_call 29;refine (call_lst_b ok29 Tryz.func29 (by kernel_rfl) (by kernel_rfl) c_splits gi0 hn0 hlt0 (by go_grown<;>(simp only [World.size_alloc];omega)) 42 (by kernel_rfl)).mono ?_;rintro e w4 ⟨a3,p3,rfl,hB4,hb4,hr4⟩)
  | go_in)
 have hs4:=hb4.size;simp only [World.size_alloc] at hs4;have f1:w4.heap[w3.heap.size]? = some (.map #[] 0):=by
  rw [hb4.block _ (by simp only [World.size_alloc];omega),Below.heap_alloc _ _ _ (by simp only [World.size_alloc];omega),Below.heap_alloc _ _ _ (by simp only [World.size_alloc];omega),heap_alloc_new]
 have f2:w4.heap[w3.heap.size+1]? = some (.map #[] 0):=by
  rw [hb4.block _ (by simp only [World.size_alloc];omega),Below.heap_alloc _ _ _ (by simp only [World.size_alloc];omega),show w3.heap.size+1=(w3.alloc (.map #[] 0)).heap.size from (World.size_alloc ..).symm,heap_alloc_new]
 have f3:w4.heap[w3.heap.size+2]? = some (.cells #[.slice a0 74 p0,.slice a1 10 p1,.slice a2 11 p2,.map (some w3.heap.size),.map (some (w3.heap.size+1))] 32):=by
  rw [hb4.block _ (by simp only [World.size_alloc];omega),show w3.heap.size+2=((w3.alloc (.map #[] 0)).alloc (.map #[] 0)).heap.size by simp only [World.size_alloc],heap_alloc_new]
 have f0:w4.heap[w.heap.size]? = some (.cells #[.slice none 0 0,.slice none 0 0,.slice none 0 0,.map none,.map none] 32):=by
  rw [hB4.block _ (by simp only [World.size_alloc];omega)];exact hw0.out.2
 have hk1:∀b,b<w1.heap.size→w4.heap[b]? = w1.heap[b]? := fun b hb=>by
  rw [hb4.block _ (by simp only [World.size_alloc];omega),Below.heap_alloc _ _ _ (by simp only [World.size_alloc];omega),Below.heap_alloc _ _ _ (by simp only [World.size_alloc];omega),Below.heap_alloc _ _ _ (by omega),hb3.block _ (by omega),hb2.block _ (by omega)]
 have hk2:∀b,b<w2.heap.size→w4.heap[b]? = w2.heap[b]? := fun b hb=>by
  rw [hb4.block _ (by simp only [World.size_alloc];omega),Below.heap_alloc _ _ _ (by simp only [World.size_alloc];omega),Below.heap_alloc _ _ _ (by simp only [World.size_alloc];omega),Below.heap_alloc _ _ _ (by omega),hb3.block _ (by omega)]
 have hk3:∀b,b<w3.heap.size→w4.heap[b]? = w3.heap[b]? := fun b hb=>by
  rw [hb4.block _ (by simp only [World.size_alloc];omega),Below.heap_alloc _ _ _ (by simp only [World.size_alloc];omega),Below.heap_alloc _ _ _ (by simp only [World.size_alloc];omega),Below.heap_alloc _ _ _ (by omega)]
 obtain ⟨bs,o,rfl,hbs,hcells⟩:=split_cells hr4;have hne:∀b,(∃es c,w4.heap[b]? = some (.map es c))→bs≠b:=by
  rintro b ⟨es,c,h⟩ rfl;obtain ⟨s0,hs0⟩:∃s0,splitT[0]? = some s0:=⟨_,rfl⟩
  have:=(hcells 0 s0 hs0).1;rw [cell_of_map h] at this;cases this
 have hne1:=hne _ ⟨_,_,f1⟩;have hne2:=hne _ ⟨_,_,f2⟩;have H0:Hid (NewI w3.heap.size w4 0 w4):=(⟨⟨_,_,f1,rfl⟩,⟨_,_,f2,rfl⟩,fun _ _ _ _=>rfl,Nat.le_refl _,rfl,rfl,rfl⟩:NewI w3.heap.size w4 0 w4)
 have hcells':Hid (∀k s,splitT[k]? = some s→w4.cell? ⟨bs,o+k*5,none⟩=some (.int .i32 s.1)∧w4.cell? ⟨bs,o+k*5+1,none⟩=some (.int .i32 s.2.1)∧w4.cell? ⟨bs,o+k*5+2,none⟩=some (.int .i32 s.2.2.1) ∧
  w4.cell? ⟨bs,o+k*5+3,none⟩=some (.bool s.2.2.2.1)∧w4.cell? ⟨bs,o+k*5+4,none⟩=some (.bool s.2.2.2.2)):=hcells
 have hh:Hid (Below w.heap.size w w4∧(∀b,b<w1.heap.size→w4.heap[b]? = w1.heap[b]?)∧(∀b,b<w2.heap.size→w4.heap[b]? = w2.heap[b]?)∧(∀b,b<w3.heap.size→w4.heap[b]? = w3.heap[b]?)):=⟨hw0.out.1.trans (hB4.mono (by rw [World.size_alloc];omega)),hk1,hk2,hk3⟩
 have e1:w4.os=w1.os∧w4.tape=w1.tape∧w4.output=w1.output:=⟨hb4.os.trans (hb3.os.trans hb2.os),hb4.tape.trans (hb3.tape.trans hb2.tape),hb4.output.trans (hb3.output.trans hb2.output)⟩
 have e2:w4.os=w2.os∧w4.tape=w2.tape∧w4.output=w2.output:=⟨hb4.os.trans hb3.os,hb4.tape.trans hb3.tape,hb4.output.trans hb3.output⟩
 have e3:w4.os=w3.os∧w4.tape=w3.tape∧w4.output=w3.output:=⟨hb4.os,hb4.tape,hb4.output⟩
 have he:Hid ((w4.os=w1.os∧w4.tape=w1.tape∧w4.output=w1.output)∧(w4.os=w2.os∧w4.tape=w2.tape∧w4.output=w2.output)∧(w4.os=w3.os∧w4.tape=w3.tape∧w4.output=w3.output)):=⟨e1,e2,e3⟩
 have hr:Hid (RepT w1 m' (.lst (.pair (.int .i32) (.pair (.int .i32) (.pair (.int .i64) (.pair (.int .i64) (.pair (.int .i64) (.int .i64))))))) rangesT [.slice a0 74 p0]∧RepT w2 m' (.lst (.pair (.int .i32) (.pair (.int .i32) (.pair (.int .i64) (.int .i64))))) classesT [.slice a1 10 p1]∧RepT w3 m' (.lst (.pair (.int .i32) (.pair (.int .i32) (.int .i32)))) lowersT [.slice a2 11 p2]):=⟨hr1,hr2,hr3⟩
 have hf:Hid (w4.heap[w3.heap.size+2]? = some (.cells #[.slice a0 74 p0,.slice a1 10 p1,.slice a2 11 p2,.map (some w3.heap.size),.map (some (w3.heap.size+1))] 32)∧w4.heap[w.heap.size]? = some (.cells #[.slice none 0 0,.slice none 0 0,.slice none 0 0,.map none,.map none] 32)):=⟨f3,f0⟩
 clear hb4 hB4 hr4 hB1 hb1 hr1 hB2 hb2 hr2 hB3 hb3 hr3 f0 f1 f2 f3 hk1 hk2 hk3 hne hcells gi0 hn0 hlt0 hw0 e1 e2 e3 mk1 mk2;generalize hSd:w3.heap.size=S at *
 go_loopw [12] (fun i wr=>∃k:Nat,i = .int .i64 k∧k≤42∧Hid (NewI S w4 k wr)) (fun i _=>42-(intOf i).toNat)
 case atStart=>exact ⟨0,rfl,Nat.zero_le _,H0⟩
 case round =>
  clear H0;obtain ⟨k,rfl,hk,hI⟩:=hrel;by_cases hk42:k<42
  · obtain ⟨s,hs⟩:∃s,splitT[k]? = some s:=by
     have:k<splitT.length:=hk42;exact ⟨_,List.getElem?_eq_getElem this⟩
    obtain ⟨c0,c1,c2,c3,c4⟩:=hcells'.out k s hs;have hn:=hI.out;have hS3:S+3≤w4.heap.size:=by omega
    have hsz:=hn.size;have q:∀j,wr.cell? ⟨bs,j,none⟩=w4.cell? ⟨bs,j,none⟩:=fun j=>World.cell?_of_block (hn.keep bs hbs hne1 hne2);have t0:wr.heap[S+2]? = w4.heap[S+2]? := hn.keep _ (by omega) (by omega) (by omega);obtain ⟨W1,es1,k1,u1,u2,u3,u4,u5,u6,u7,u8⟩:=put_split hn hS3 hk42 hs (.cells #[.int .i32 s.1,.int .i32 s.2.1,.int .i32 s.2.2.1,.bool s.2.2.2.1,.bool s.2.2.2.2] 68);have hnew:W1.heap[wr.heap.size]? = some (.cells #[.int .i32 s.1,.int .i32 s.2.1,.int .i32 s.2.2.1,.bool s.2.2.2.1,.bool s.2.2.2.2] 68):=by
     rw [u4 _ (by omega),heap_alloc_new]
    have htab:W1.heap[S+2]? = some (.cells #[.slice a0 74 p0,.slice a1 10 p1,.slice a2 11 p2,.map (some S),.map (some (S+1))] 32):=by
     rw [u4 _ (by omega),Below.heap_alloc _ _ _ (by omega),t0];exact hf.out.1
    have d3:(wr.alloc (.cells #[.int .i32 s.1,.int .i32 s.2.1,.int .i32 s.2.2.1,.bool s.2.2.2.1,.bool s.2.2.2.2] 68)).cell? ⟨S+2,3,none⟩=some (.map (some S)):=by
     rw [cell_of_cells (by rw [Below.heap_alloc _ _ _ (by omega),t0];exact hf.out.1)];rfl
    have d4:W1.cell? ⟨S+2,4,none⟩=some (.map (some (S+1))):=by rw [cell_of_cells htab];rfl
    have n0:W1.cell? ⟨wr.heap.size,0,none⟩=some (.int .i32 s.1):=by rw [cell_of_cells hnew];rfl
    have n1:W1.cell? ⟨wr.heap.size,1,none⟩=some (.int .i32 s.2.1):=by rw [cell_of_cells hnew];rfl
    have n2:W1.cell? ⟨wr.heap.size,2,none⟩=some (.int .i32 s.2.2.1):=by rw [cell_of_cells hnew];rfl
    have n3:W1.cell? ⟨wr.heap.size,3,none⟩=some (.bool s.2.2.2.1):=by rw [cell_of_cells hnew];rfl
    have n4:W1.cell? ⟨wr.heap.size,4,none⟩=some (.bool s.2.2.2.2):=by rw [cell_of_cells hnew];rfl
    obtain ⟨es2,k2,v1,v2⟩:=hn.m2;have hB2:W1.heap[S+1]? = some (.map es2 k2):=by rw [u4 _ (by omega),Below.heap_alloc _ _ _ (by omega),v1]
    have hkeep:∀b,b<w4.heap.size→b≠S→W1.heap[b]? = wr.heap[b]? := fun b hb h=>by rw [u4 _ h,Below.heap_alloc _ _ _ (by omega)]
    rw [←q] at c0 c1 c2 c3 c4;by_cases hso:(!s.2.2.2.1 && !s.2.2.2.2)=true
    · obtain ⟨W2,es3,k3,x1,x2,x3,x4,x5,x6,x7,x8⟩:=put_pair hB2 v2 hk42 hs hso
      have H1:Hid (NewI S w4 (k+1) W2):=(⟨⟨_,_,by rw [x4 _ (by omega)];exact u2,u3⟩,⟨_,_,x2,x3⟩,fun b hb h1 h2=>by rw [x4 _ h2,hkeep b hb h1,hn.keep b hb h1 h2],by omega,by rw [x6,u6,hn.os],by rw [x7,u7,hn.tape],by rw [x8,u8,hn.output]⟩:NewI S w4 (k+1) W2)
      clear hI hn hsz q t0 u2 u3 u4 u5 u6 u7 u8 hnew htab v1 v2 hB2 hkeep x2 x3 x4 x5 x6 x7 x8 hs;obtain ⟨s0,s1,s2,s3,s4⟩:=s;have hso3:s3=false:=by cases s3<;>simp_all
      have hso4:s4=false:=by cases s4<;>simp_all
      subst hso3 hso4;clear hso;simp only [splitV] at u1;dsimp only at *
      go_wp2
      exact ⟨⟨k+1,by simp,by omega,H1⟩,by simp [intOf];omega⟩
    · have hso':(!s.2.2.2.1 && !s.2.2.2.2)=false:=by simpa using hso
      have H1:Hid (NewI S w4 (k+1) W1):=(⟨⟨_,_,u2,u3⟩,⟨_,_,hB2,by rw [v2,pairE_skip hs hso']⟩,fun b hb h1 h2=>by rw [hkeep b hb h1,hn.keep b hb h1 h2],by omega,by rw [u6,hn.os],by rw [u7,hn.tape],by rw [u8,hn.output]⟩:NewI S w4 (k+1) W1)
      clear hI hn hsz q t0 u2 u3 u4 u5 u6 u7 u8 hnew htab v1 v2 hB2 hkeep hs hso;obtain ⟨s0,s1,s2,s3,s4⟩:=s;simp only [splitV] at u1;dsimp only at *
      cases s3 with
      | true =>
       go_wp2
       exact ⟨⟨k+1,by simp,by omega,H1⟩,by simp [intOf];omega⟩
      | false =>
       cases s4 with
       | false=>cases hso'
       | true =>
        go_wp2
        exact ⟨⟨k+1,by simp,by omega,H1⟩,by simp [intOf];omega⟩
  · obtain rfl:k=42:=by omega
    have hn:=hI.out;have t0:wr.heap[S+2]? = some (.cells #[.slice a0 74 p0,.slice a1 10 p1,.slice a2 11 p2,.map (some S),.map (some (S+1))] 32):=by rw [hn.keep _ (by omega) (by omega) (by omega)];exact hf.out.1
    have t1:wr.heap[w.heap.size]? = some (.cells #[.slice none 0 0,.slice none 0 0,.slice none 0 0,.map none,.map none] 32):=by rw [hn.keep _ (by omega) (by omega) (by omega)];exact hf.out.2
    have y0:wr.cell? ⟨S+2,0,none⟩=some (.slice a0 74 p0):=by rw [cell_of_cells t0];rfl
    have y1:wr.cell? ⟨S+2,1,none⟩=some (.slice a1 10 p1):=by rw [cell_of_cells t0];rfl
    have y2:wr.cell? ⟨S+2,2,none⟩=some (.slice a2 11 p2):=by rw [cell_of_cells t0];rfl
    have y3:wr.cell? ⟨S+2,3,none⟩=some (.map (some S)):=by rw [cell_of_cells t0];rfl
    have y4:wr.cell? ⟨S+2,4,none⟩=some (.map (some (S+1))):=by rw [cell_of_cells t0];rfl
    have z0:wr.cell? ⟨w.heap.size,0,none⟩=some (.slice none 0 0):=by rw [cell_of_cells t1];rfl
    have z1:wr.cell? ⟨w.heap.size,1,none⟩=some (.slice none 0 0):=by rw [cell_of_cells t1];rfl
    have z2:wr.cell? ⟨w.heap.size,2,none⟩=some (.slice none 0 0):=by rw [cell_of_cells t1];rfl
    have z3:wr.cell? ⟨w.heap.size,3,none⟩=some (.map none):=by rw [cell_of_cells t1];rfl
    have z4:wr.cell? ⟨w.heap.size,4,none⟩=some (.map none):=by rw [cell_of_cells t1];rfl
    have g0:∀i,wr.frozen? ⟨w.heap.size,i,none⟩=false:=fun i=>frozen_of_cells t1;clear t0 t1 hn;have r0:(wr.setCell ⟨w.heap.size,0,none⟩ (.slice a0 74 p0)).cell? ⟨w.heap.size,0,none⟩=some (.slice a0 74 p0):=by
     refine World.cell?_setCell_same _ _ _ (u:=(.slice none 0 0)) ?_;exact z0
    have r1:((wr.setCell ⟨w.heap.size,0,none⟩ (.slice a0 74 p0)).setCell ⟨w.heap.size,1,none⟩ (.slice a1 10 p1)).cell? ⟨w.heap.size,1,none⟩=some (.slice a1 10 p1):=by
     refine World.cell?_setCell_same _ _ _ (u:=(.slice none 0 0)) ?_;rw [World.cell?_setCell_other _ _ _ _ (by simp)];exact z1
    have r2:(((wr.setCell ⟨w.heap.size,0,none⟩ (.slice a0 74 p0)).setCell ⟨w.heap.size,1,none⟩ (.slice a1 10 p1)).setCell ⟨w.heap.size,2,none⟩ (.slice a2 11 p2)).cell? ⟨w.heap.size,2,none⟩=some (.slice a2 11 p2):=by
     refine World.cell?_setCell_same _ _ _ (u:=(.slice none 0 0)) ?_;rw [World.cell?_setCell_other _ _ _ _ (by simp)];rw [World.cell?_setCell_other _ _ _ _ (by simp)];exact z2
    have r3:((((wr.setCell ⟨w.heap.size,0,none⟩ (.slice a0 74 p0)).setCell ⟨w.heap.size,1,none⟩ (.slice a1 10 p1)).setCell ⟨w.heap.size,2,none⟩ (.slice a2 11 p2)).setCell ⟨w.heap.size,3,none⟩ (.map (some S))).cell? ⟨w.heap.size,3,none⟩=some (.map (some S)):=by
     refine World.cell?_setCell_same _ _ _ (u:=(.map none)) ?_;rw [World.cell?_setCell_other _ _ _ _ (by simp)];rw [World.cell?_setCell_other _ _ _ _ (by simp)];rw [World.cell?_setCell_other _ _ _ _ (by simp)];exact z3
    have r4:(((((wr.setCell ⟨w.heap.size,0,none⟩ (.slice a0 74 p0)).setCell ⟨w.heap.size,1,none⟩ (.slice a1 10 p1)).setCell ⟨w.heap.size,2,none⟩ (.slice a2 11 p2)).setCell ⟨w.heap.size,3,none⟩ (.map (some S))).setCell ⟨w.heap.size,4,none⟩ (.map (some (S+1)))).cell? ⟨w.heap.size,4,none⟩=some (.map (some (S+1))):=by
     refine World.cell?_setCell_same _ _ _ (u:=(.map none)) ?_;rw [World.cell?_setCell_other _ _ _ _ (by simp)];rw [World.cell?_setCell_other _ _ _ _ (by simp)];rw [World.cell?_setCell_other _ _ _ _ (by simp)];rw [World.cell?_setCell_other _ _ _ _ (by simp)];exact z4
    go_wp2
    have hB:Hid (Below w.heap.size wr (((((wr.setCell ⟨w.heap.size,0,none⟩ (.slice a0 74 p0)).setCell ⟨w.heap.size,1,none⟩ (.slice a1 10 p1)).setCell ⟨w.heap.size,2,none⟩ (.slice a2 11 p2)).setCell ⟨w.heap.size,3,none⟩ (.map (some S))).setCell ⟨w.heap.size,4,none⟩ (.map (some (S+1))))):=Below.setCell (Below.setCell (Below.setCell (Below.setCell (Below.setCell (Below.refl _ wr) (show w.heap.size≤(⟨w.heap.size,0,none⟩:Addr).block from Nat.le_refl _) _) (show w.heap.size≤(⟨w.heap.size,1,none⟩:Addr).block from Nat.le_refl _) _) (show w.heap.size≤(⟨w.heap.size,2,none⟩:Addr).block from Nat.le_refl _) _) (show w.heap.size≤(⟨w.heap.size,3,none⟩:Addr).block from Nat.le_refl _) _) (show w.heap.size≤(⟨w.heap.size,4,none⟩:Addr).block from Nat.le_refl _) _;have hO:Hid (∀b,b≠w.heap.size→(((((wr.setCell ⟨w.heap.size,0,none⟩ (.slice a0 74 p0)).setCell ⟨w.heap.size,1,none⟩ (.slice a1 10 p1)).setCell ⟨w.heap.size,2,none⟩ (.slice a2 11 p2)).setCell ⟨w.heap.size,3,none⟩ (.map (some S))).setCell ⟨w.heap.size,4,none⟩ (.map (some (S+1)))).heap[b]? = wr.heap[b]?):=fun b hb=>by
     rw [Below.heap_setCell _ _ _ _ hb,Below.heap_setCell _ _ _ _ hb,Below.heap_setCell _ _ _ _ hb,Below.heap_setCell _ _ _ _ hb,Below.heap_setCell _ _ _ _ hb]
    (try simp only [Exit.inBlock,Exit.then])
    refine bodyPost_ret (by simp [results,Tryz.results9,go_sem,r0,r1,r2,r3,r4];try rfl) rfl ?_;clear r0 r1 r2 r3 r4 y0 y1 y2 y3 y4 z0 z1 z2 z3 z4 g0;generalize (((((wr.setCell ⟨w.heap.size,0,none⟩ (.slice a0 74 p0)).setCell ⟨w.heap.size,1,none⟩ (.slice a1 10 p1)).setCell ⟨w.heap.size,2,none⟩ (.slice a2 11 p2)).setCell ⟨w.heap.size,3,none⟩ (.map (some S))).setCell ⟨w.heap.size,4,none⟩ (.map (some (S+1))))=W at hB hO ⊢;have hn:=hI.out;obtain ⟨b1,q1,q2,q3⟩:=hh.out;obtain ⟨p1',p2',p3'⟩:=he.out;obtain ⟨x1,x2,x3⟩:=hr.out;have hBW:=hB.out;obtain ⟨es1,k1,m1,m1'⟩:=hn.m1;obtain ⟨es2,k2,m2,m2'⟩:=hn.m2;have hstp:∀wk:World,wk.heap.size≤S→(∀b,b<wk.heap.size→w4.heap[b]? = wk.heap[b]?)→(w4.os=wk.os∧w4.tape=wk.tape∧w4.output=wk.output)→(∀b,m'.n b→m'.a b)→Stp wk m' W m':=fun wk h1 h2 ⟨h3,h4,h5⟩ h6 =>
     ⟨by rw [hBW.os,hn.os,h3],by rw [hBW.tape,hn.tape,h4],by rw [hBW.output,hn.output,h5],by have:=hBW.size;have:=hn.size;omega,h6,fun b hb hnb=>by rw [hO.out b ((hnn.out b).1 hnb),hn.keep b (by omega) (by omega) (by omega),h2 b hb],fun _ _ h=>h,fun _ _ h=>h,fun _ _ h _=>h⟩
    have hsz1:=hBW.size;have hsz2:=hn.size;refine ⟨_,_,_,S,S+1,_,_,rfl,⟨by rw [hBW.os,hn.os,b1.os],by rw [hBW.tape,hn.tape,b1.tape],by rw [hBW.output,hn.output,b1.output],by have:=b1.size;omega,fun b hb=>by rw [hO.out b (by omega),hn.keep b (by omega) (by omega) (by omega),b1.block b hb]⟩,
     RepT.less hless.out (RepT.mono (hstp w1 (by omega) q1 p1' hn00.out) x1),RepT.less hless.out (RepT.mono (hstp w2 (by omega) q2 p2' hn00.out) x2),RepT.less hless.out (RepT.mono (hstp w3 (by omega) (fun b hb=>q3 b (by omega)) p3' hn00.out) x3),
     ⟨by omega,by omega,by rw [hO.out _ (by omega)];exact m1,?_⟩,⟨by omega,by omega,by rw [hO.out _ (by omega)];exact m2,?_⟩⟩
    · exact ⟨es1,k1,rfl,m1'⟩
    · exact ⟨es2,k2,rfl,m2'⟩
theorem ok9:FnOk Tryz.prog 9 (E9 C9):=by
 refine hand Tryz.func9 (by kernel_rfl) (by kernel_rfl) (fun _=>rfl) (fun _=>rfl) ?_;intro v y hy w m args gi hn hlt hargs;have ha0:args.toList=[]:=hargs;have ha:args = #[]:=by cases args;simpa using ha0
 subst ha;have hy1:((C26 ()).bind fun a=>(C27 ()).bind fun b=>(C28 ()).bind fun c=>some (a.1,b.1,c.1,()))=some y:=hy;rw [c_ranges,c_classes,c_lowers] at hy1;have hy2:(rangesT,classesT,lowersT,())=y:=Option.some.inj hy1;subst hy2;refine (new_walk w m gi hn hlt).mono fun e w' ⟨v0,v1,v2,b1,b2,o1,o2,k0,k1,k2,k3,k4,⟨k5,k6,k7,k8⟩,⟨k9,k10,k11,k12⟩⟩ => ?_;refine ⟨_,k0,k1,.ret,([.agg 5,.lst (.pair (.int .i32) (.pair (.int .i32) (.pair (.int .i64) (.pair (.int .i64) (.pair (.int .i64) (.int .i64)))))),.lst (.pair (.int .i32) (.pair (.int .i32) (.pair (.int .i64) (.int .i64)))),.lst (.pair (.int .i32) (.pair (.int .i32) (.int .i32))),.opq 0,.opq 1]:List Sh),(rangesT,classesT,lowersT,()),osel_one ([.agg 5,.lst (.pair (.int .i32) (.pair (.int .i32) (.pair (.int .i64) (.pair (.int .i64) (.pair (.int .i64) (.int .i64)))))),.lst (.pair (.int .i32) (.pair (.int .i32) (.pair (.int .i64) (.int .i64)))),.lst (.pair (.int .i32) (.pair (.int .i32) (.int .i32))),.opq 0,.opq 1]:List Sh) (rangesT,classesT,lowersT,()),rfl,rfl,?_⟩;exact ⟨_,[],rfl,⟨_,rfl,v0,_,rfl,k2,v1,_,rfl,k3,v2,_,rfl,k4,_,_,rfl,⟨b1,o1,rfl,k5,fun h=>absurd (hlt _ h) (by omega),k7,k8⟩,_,_,rfl,⟨b2,o2,rfl,k9,fun h=>absurd (hlt _ h) (by omega),k11,k12⟩,rfl⟩,rfl⟩
end Go.Proofs.YtbifjondkjgkmaaGreatDoorA.W
namespace Go.Proofs.YtbifjondkjgkmaaGreatDoorA.W
open Go Go.Ae
abbrev T188:=Int×Int×Int×Int×Int×Int×Int×Unit→Option (Int×Unit)
def E188 (f:T188):FEnt:=⟨Li146,Lo10,f⟩
def F188:T188:=fun (x0,x1,x2,x3,x4,x5,x6,_)=>bif decide (x1<x6) then some (-1,()) else bif decide (x0>x6) then some (1,()) else some (0,())
def C188:T188:=F188
theorem ok188:FO 188 (E188 C188):=zq0 Li146 Lo10 KqZ F188 kn Tryz.func188
abbrev T187_l0:=LqA×Int×Int×Int×Int×Unit→Option (LqA×Int×Int×Int×Unit)
def E187_l0 (f:T187_l0):LEnt:=⟨Li149,Lo150,f⟩
abbrev T187:=LqA×Int×Unit→Option (Int×Bool×Unit)
def E187 (f:T187):FEnt:=⟨Li147,Lo148,f⟩
def K187 (f188:T188):=lk [(188,E188 f188)]
theorem kok187:KOk Tryz.prog (K187 C188):=(kc ok188 kn)
def F187_l0 (f188:T188):LpF (LqA×Int×Int×Int×Int×Unit) (LqA×Int×Int×Int×Unit):=fun (x0,x1,x2,x3,x4,_)=>bif decide (x3<x4) then bif decide (0≤IntKind.i64.wrap ((IntKind.u64.wrap (IntKind.i64.wrap (x3+x4))).fdiv (2^min 1 IntKind.u64.bits)))&&decide (IntKind.i64.wrap ((IntKind.u64.wrap (IntKind.i64.wrap (x3+x4))).fdiv (2^min 1 IntKind.u64.bits))<(↑x0.length:Int)) then (f188 ((x0.getD (IntKind.i64.wrap ((IntKind.u64.wrap (IntKind.i64.wrap (x3+x4))).fdiv (2^min 1 IntKind.u64.bits))).toNat (0,(0,(0,(0,(0,0)))))).1,(x0.getD (IntKind.i64.wrap ((IntKind.u64.wrap (IntKind.i64.wrap (x3+x4))).fdiv (2^min 1 IntKind.u64.bits))).toNat (0,(0,(0,(0,(0,0)))))).2.1,(x0.getD (IntKind.i64.wrap ((IntKind.u64.wrap (IntKind.i64.wrap (x3+x4))).fdiv (2^min 1 IntKind.u64.bits))).toNat (0,(0,(0,(0,(0,0)))))).2.2.1,(x0.getD (IntKind.i64.wrap ((IntKind.u64.wrap (IntKind.i64.wrap (x3+x4))).fdiv (2^min 1 IntKind.u64.bits))).toNat (0,(0,(0,(0,(0,0)))))).2.2.2.1,(x0.getD (IntKind.i64.wrap ((IntKind.u64.wrap (IntKind.i64.wrap (x3+x4))).fdiv (2^min 1 IntKind.u64.bits))).toNat (0,(0,(0,(0,(0,0)))))).2.2.2.2.1,(x0.getD (IntKind.i64.wrap ((IntKind.u64.wrap (IntKind.i64.wrap (x3+x4))).fdiv (2^min 1 IntKind.u64.bits))).toNat (0,(0,(0,(0,(0,0)))))).2.2.2.2.2,x1,())).bind fun v=>bif decide (v.1<0) then some (Sum.inl (x0,x1,x2,IntKind.i64.wrap (IntKind.i64.wrap ((IntKind.u64.wrap (IntKind.i64.wrap (x3+x4))).fdiv (2^min 1 IntKind.u64.bits))+1),x4,())) else some (Sum.inl (x0,x1,x2,x3,IntKind.i64.wrap ((IntKind.u64.wrap (IntKind.i64.wrap (x3+x4))).fdiv (2^min 1 IntKind.u64.bits)),())) else none else some (Sum.inr (x0,x1,x2,x3,()))
def C187_l0:T187_l0:=loopN (F187_l0 C188) big
theorem k187_l0:LpOk 0 (subc (code Tryz.f187) [1,1,1,0,0,0]) (E187_l0 C187_l0):=zl1 Li149 Lo150 K187 F187_l0 C188 kok187
def N187 (f187_l0:T187_l0):Ann:=(.seq .nil (.seq .nil (.seq .nil (.seq (.blk (.loop (E187_l0 f187_l0))) .nil))))
def F187 (f188:T188) (f187_l0:T187_l0):T187:=fun (x0,x1,_)=>(f187_l0 (x0,x1,(↑x0.length:Int),0,(↑x0.length:Int),())).bind fun v=>bif decide (v.2.2.2.1<v.2.2.1) then bif decide (0≤v.2.2.2.1)&&decide (v.2.2.2.1<(↑(List.length v.1):Int)) then (f188 ((List.getD v.1 (Int.toNat v.2.2.2.1) (0,(0,(0,(0,(0,0)))))).1,(List.getD v.1 (Int.toNat v.2.2.2.1) (0,(0,(0,(0,(0,0)))))).2.1,(List.getD v.1 (Int.toNat v.2.2.2.1) (0,(0,(0,(0,(0,0)))))).2.2.1,(List.getD v.1 (Int.toNat v.2.2.2.1) (0,(0,(0,(0,(0,0)))))).2.2.2.1,(List.getD v.1 (Int.toNat v.2.2.2.1) (0,(0,(0,(0,(0,0)))))).2.2.2.2.1,(List.getD v.1 (Int.toNat v.2.2.2.1) (0,(0,(0,(0,(0,0)))))).2.2.2.2.2,v.2.1,())).bind fun v1=>some (v.2.2.2.1,v1.1==0,()) else none else some (v.2.2.2.1,false,())
def C187:T187:=F187 C188 C187_l0
theorem ok187:FO 187 (E187 C187):=zq1_1 Li147 Lo148 K187 N187 F187 C188 C187_l0 kok187 Tryz.func187 (And.intro k187_l0 trivial)
abbrev T151:=LqA×LqB×LqC×Int×Unit→Option (Int×Int×Int×Int×Int×Int×Unit)
def E151 (f:T151):FEnt:=⟨Li0,Lo151,f⟩
def K151 (f187:T187):=lk [(187,E187 f187)]
def F151 (f187:T187):T151:=fun (x0,x1,x2,x3,_)=>(f187 (x0,x3,())).bind fun v=>bif !v.2.1 then some (0,0,0,0,0,0,()) else bif decide (0≤v.1)&&decide (v.1<(↑x0.length:Int)) then some ((x0.getD (Int.toNat v.1) (0,(0,(0,(0,(0,0)))))).1,(x0.getD (Int.toNat v.1) (0,(0,(0,(0,(0,0)))))).2.1,(x0.getD (Int.toNat v.1) (0,(0,(0,(0,(0,0)))))).2.2.1,(x0.getD (Int.toNat v.1) (0,(0,(0,(0,(0,0)))))).2.2.2.1,(x0.getD (Int.toNat v.1) (0,(0,(0,(0,(0,0)))))).2.2.2.2.1,(x0.getD (Int.toNat v.1) (0,(0,(0,(0,(0,0)))))).2.2.2.2.2,()) else none
def C151:T151:=F151 C187
theorem ok151:FO 151 (E151 C151):=zq1 Li0 Lo151 K151 F151 C187 (kc ok187 kn) Tryz.func151
abbrev T121:=LqA×LqB×LqC×Int×Unit→Option (Int×Unit)
def E121 (f:T121):FEnt:=⟨Li0,Lo10,f⟩
def K121 (f151:T151):=lk [(151,E151 f151)]
def F121 (f151:T151):T121:=fun (x0,x1,x2,x3,_)=>(f151 (x0,x1,x2,x3,())).bind fun v=>some (v.2.2.2.1,())
def C121:T121:=F121 C151
theorem ok121:FO 121 (E121 C121):=zq1 Li0 Lo10 K121 F121 C151 (kc ok151 kn) Tryz.func121
end Go.Proofs.YtbifjondkjgkmaaGreatDoorA.W
namespace Go.Ae
open Go Go.RowKit
structure Oth (Bs:Nat) (W W':World):Prop where
 os:W'.os=W.os
 tape:W'.tape=W.tape
 output:W'.output=W.output
 size:W.heap.size≤W'.heap.size
 keep:∀b,b<W.heap.size→b≠Bs→W'.heap[b]? = W.heap[b]?
structure OthR (N Bs:Nat) (W W':World):Prop where
 os:W'.os=W.os
 tape:W'.tape=W.tape
 output:W'.output=W.output
 size:W.heap.size≤W'.heap.size
 keep:∀b o,W.heap[b]? = some o→b≠Bs→(b<N∨o.isCells=true)→W'.heap[b]? = some o
theorem lt_of_some {W:World} {b:Nat} {o:Obj} (h:W.heap[b]? = some o):b<W.heap.size:=(Array.getElem?_eq_some_iff.1 h).1
theorem Oth.toR {N Bs:Nat} {A B:World} (h:Oth Bs A B):OthR N Bs A B:=⟨h.os,h.tape,h.output,h.size,fun b o hb hne _=>(h.keep b (lt_of_some hb) hne).trans hb⟩
theorem Oth.of_below {Bs:Nat} {A B:World} (h:Below A.heap.size A B):Oth Bs A B:=⟨h.os,h.tape,h.output,h.size,fun b hb _=>h.block b hb⟩
theorem Oth.set (Bs i:Nat) (A:World) (v:Value):Oth Bs A (A.setCell ⟨Bs,i,none⟩ v) :=
 ⟨rfl,rfl,rfl,by simp,fun b _ hne=>Below.heap_setCell A _ v b hne⟩
theorem Oth.trans {Bs:Nat} {A B C:World} (h:Oth Bs A B) (k:Oth Bs B C):Oth Bs A C :=
 ⟨k.os.trans h.os,k.tape.trans h.tape,k.output.trans h.output,Nat.le_trans h.size k.size,fun b hb hne=>(k.keep b (Nat.lt_of_lt_of_le hb h.size) hne).trans (h.keep b hb hne)⟩
theorem OthR.alloc (N Bs:Nat) (A:World) (o:Obj):OthR N Bs A (A.alloc o):=(Oth.of_below ((Below.refl _ A).alloc (Nat.le_refl _) o)).toR
theorem OthR.putObj {N Bs:Nat} {A:World} {l:Nat} {o:Obj} (o':Obj) (hl:N≤l) (h:A.heap[l]? = some o) (ho:o.isCells=false):OthR N Bs A (A.putObj l o') :=
 ⟨rfl,rfl,rfl,by simp [World.putObj],fun b o1 hb _ hor=>by
  rw [World.putObj_heap_other ?_]
  · exact hb
  · rintro rfl
    rw [h] at hb;cases hb;rcases hor with hor|hor
    · omega
    · rw [ho] at hor;cases hor⟩
def ownPostD {α:Type} (B:Nat) (K:Nat→Prop) (I:List α→World→Prop) (Ix:Code→List α→World→Prop) (xs:List α) (W:World):Exit→Act→World→Prop
 | .normal,_,W'=>KeepsFrom B W W'∧(∀b,K b→W'.heap[b]? = W.heap[b]?)∧I xs W'
 | .ret,_,W'=>KeepsFrom B W W'∧Ix .ret xs W'
 | .exit id,_,W'=>KeepsFrom B W W'∧Ix (.exit id) xs W'
 | .goto t,_,W'=>KeepsFrom B W W'∧Ix (.goto t) xs W'
 | .panic _,_,_=>False
 | .outgrown,_,_=>False
variable {F:Fence} {n:Nat} {P:Program}
def SeqD {α:Type} (F:Fence) (n:Nat) (P:Program) (gf:Nat) (lb:Array Value) (encs:α→Array Value) (K:Nat→Prop) (Bs:Nat) (xs:List α) (w:World):Prop :=
 ∀(l:Nat) (J Jx:List α→World→Prop) (W:World),Below w.heap.size w W→(∀s A B,J s A→Oth Bs A B→J s B)→(∀s A B,Jx s A→Oth Bs A B→Jx s B) →
  (∀pre x W1,pre++[x] <+: xs→J pre W1→YieldAt F (n-1) P l (encs x) W1 fun e W' =>
   (e = .returned (.bool true)∧J (pre++[x]) W'∧W1.heap.size≤W'.heap.size∧∀b,K b→W'.heap[b]? = W1.heap[b]?)∨(e = .returned (.bool false)∧Jx (pre++[x]) W')) →
  J [] W→CallsIn F n P gf (#[.func (.yield l) #[] #[]]++lb) W fun e W'=>(∃v,e = .returned v)∧(J xs W'∨∃pre,pre <+: xs∧Jx pre W')
theorem wpIn_rangeFunc_dir {α:Type} {g:Operand} {ps:Array Tmp} {assign body:Code} {Q:Exit→Act→World→Prop} {a:Act} {w:World}
 (hro:F.round=none) (h1:1≤n) {gf:Nat} {lb:Array Value} (hg:a.eval g = .func (.func gf) #[] lb) (hFg:F.fn gf) (eg:∀args w,(callFunc gf args).run P w = .ok (.enter gf args) w)
 {encs:α→Array Value} {K:Nat→Prop} {Bs:Nat} {xs:List α} (hseq:SeqD F (n-1) P gf lb encs K Bs xs w)
 (hK:∀b,K b→b<w.heap.size) (hBs:Bs<w.heap.size) (hps:∀x,(encs x).size=ps.size)
 (I:List α→World→Prop) (Ix:Code→List α→World→Prop) (hI:∀s A B,I s A→OthR w.heap.size Bs A B→I s B) (hIx:∀c s A B,Ix c s A→OthR w.heap.size Bs A B→Ix c s B) (h0:I [] w) (a₁:α→Act)
 (hassign:∀(l:Nat) (x:α) (W:World) (K:Act→World→Prop),K (a₁ x) W →
  assign.wpIn (F.inRound l) (n-1-1) P (Exit.then K (fun _ _ _=>False)) { tmps:=(ps.zip (encs x)).foldl (fun t (p,v)=>t.setIfInBounds p v) a.tmps,defers:=[] } W)
 (hbody:∀(l:Nat) (pre:List α) (x:α) (W:World),w.heap.size≤W.heap.size→pre++[x] <+: xs→I pre W→body.wpIn (F.inRound l) (n-1-1) P (ownPostD w.heap.size K I Ix (pre++[x]) W) (a₁ x) W)
 (hdone:∀(D:Nat) (W:World),w.heap.size≤D→I xs W→W.heap[D]? = some (.deferred (some []))→Q .normal { a with defers:={ target := .collected D,args := #[] }::a.defers } W)
 (hstop:∀(D:Nat) (c:Code) (pre:List α) (W:World),w.heap.size≤D→pre <+: xs→Ix c pre W→W.heap[D]? = some (.deferred (some []))→c.wpIn F n P Q { a with defers:={ target := .collected D,args := #[] }::a.defers } W) :
 (Code.rangeFunc g ps assign body).wpIn F n P Q a w:=by
 refine wpIn_rangeFunc ?_;intro fn hfn;rw [hro];obtain ⟨rec,hrec⟩:∃rec:LoopState→Option Code→Loop,rec=fun st pe=>{ state:=st,pending:=pe,fn,tmps:=a.tmps,params:=ps,assign,body,defers:=w.heap.size }:=⟨_,rfl⟩
 obtain ⟨W1,hW1⟩:∃W1,(w.alloc (.deferred (some []))).alloc (.loop (rec .ready none))=W1:=⟨_,rfl⟩
 have hL1:W1.heap[w.heap.size+1]? = some (.loop (rec .ready none)):=by
  rw [←hW1];have:=World.alloc_heap_new (w.alloc (.deferred (some []))) (.loop (rec .ready none));rwa [World.size_alloc] at this
 have hK1:W1.heap[w.heap.size]? = some (.deferred (some [])):=by
  rw [←hW1];exact (Below.heap_alloc _ _ _ (by simp)).trans (World.alloc_heap_new w _)
 have hI1:I [] W1:=by rw [←hW1];exact hI _ _ _ (hI _ _ _ h0 (OthR.alloc _ _ _ _)) (OthR.alloc _ _ _ _)
 have hb1:Below w.heap.size w W1:=by
  rw [←hW1];exact ((Below.refl _ w).alloc (Nat.le_refl _) _).alloc (by simp) _
 have keepO:∀{A B:World} {b:Nat} {o:Obj},A.heap[b]? = some o→w.heap.size≤b→Oth Bs A B→B.heap[b]? = some o:=fun h hb ho=>(ho.keep _ (lt_of_some h) (by omega)).trans h;refine ⟨w.heap.size+1,[{ target := .collected w.heap.size,args := #[] }],W1,{ target := .fn (.func gf) lb,args := #[.func (.yield (w.heap.size+1)) #[] #[]] },W1,gf,
  #[.func (.yield (w.heap.size+1)) #[] #[]]++lb,W1,?_,?_,?_,?_,fun _=>h1,?_⟩
 · rw [←hW1,hrec];exact run_enterLoop_outer _ _ _ _ _
 · simp only [resolve,hg]
   simp [go_sem]
 · intro f' hf';simp [Target.leads] at hf';subst hf';exact hFg
 · simp [invoke,go_sem,eg]
 · refine (hseq (w.heap.size+1)
    (fun pre W=>I pre W∧W.heap[w.heap.size+1]? = some (.loop (rec .ready none))∧W.heap[w.heap.size]? = some (.deferred (some [])))
    (fun pre W=>∃c,Ix c pre W∧W.heap[w.heap.size+1]? = some (.loop (rec .done (some c)))∧W.heap[w.heap.size]? = some (.deferred (some [])))
    W1 hb1
    (fun s A B hs ho=>⟨hI s A B hs.1 ho.toR,keepO hs.2.1 (by omega) ho,keepO hs.2.2 (Nat.le_refl _) ho⟩)
    (fun s A B hs ho=>by
     obtain ⟨c,hc,hl,hk⟩:=hs;exact ⟨c,hIx c s A B hc ho.toR,keepO hl (by omega) ho,keepO hk (Nat.le_refl _) ho⟩)
    ?_ ⟨hI1,hL1,hK1⟩).mono ?_
   · rintro pre x W hlen ⟨hi,hl,hk⟩
     have hlt:w.heap.size+1<W.heap.size:=lt_of_some hl;have hy:=run_yield (P:=P) (args:=encs x) hl (by rw [hrec];exact hps x);rw [hrec] at hy;refine ⟨fn,_,assign,body,hy,roundIn_of_wpIn hfn (hassign _ x W _ ⟨_,run_beginRound hl (by rw [hrec]),?_⟩)⟩;have hl2:(W.putObj (w.heap.size+1) (.loop { rec .ready none with state := .busy })).heap[w.heap.size+1]? = some (.loop { rec .ready none with state := .busy }):=World.putObj_heap_same hlt;have hk2:(W.putObj (w.heap.size+1) (.loop { rec .ready none with state := .busy })).heap[w.heap.size]? = some (.deferred (some [])):=(World.putObj_heap_other (by omega)).trans hk;have hw2:∀b,K b→(W.putObj (w.heap.size+1) (.loop { rec .ready none with state := .busy })).heap[b]? = W.heap[b]? := fun b hb=>World.putObj_heap_other (by have:=hK b hb;omega);have hsz2:∀(W:World) l o,(W.putObj l o).heap.size=W.heap.size:=fun W l o=>by simp [World.putObj]
     refine wpIn_mono (hbody _ pre x _ (by rw [hsz2];omega) hlen (hI _ _ _ hi (OthR.putObj _ (by omega) hl rfl))) ?_;have fin:∀(jump:Option Code) (W3:World),KeepsFrom w.heap.size (W.putObj (w.heap.size+1) (.loop { rec .ready none with state := .busy })) W3 →
      (Instr.endRound (w.heap.size+1) jump).run P W3 = .ok (.bool jump.isNone) (W3.putObj (w.heap.size+1) (.loop (rec (if jump.isNone then .ready else .done) jump))) ∧
      W3.heap[w.heap.size+1]? = some (.loop { rec .ready none with state := .busy }) ∧
      (W3.putObj (w.heap.size+1) (.loop (rec (if jump.isNone then .ready else .done) jump))).heap[w.heap.size+1]? = some (.loop (rec (if jump.isNone then .ready else .done) jump)) ∧
      (W3.putObj (w.heap.size+1) (.loop (rec (if jump.isNone then .ready else .done) jump))).heap[w.heap.size]? = some (.deferred (some [])):=fun jump W3 hk3=>by
      have hl3:=hk3.same _ _ (by omega) hl2 rfl;have:=run_endRound (P:=P) jump hl3;rw [hrec] at this ⊢;exact ⟨this,by rw [hrec] at hl3;exact hl3,World.putObj_heap_same (lt_of_some hl3),(World.putObj_heap_other (by omega)).trans (hk3.same _ _ (Nat.le_refl _) hk2 rfl)⟩
     rintro e a3 W3 hp;cases e with
     | normal =>
      obtain ⟨hk3,hkp3,hi3⟩:=hp;obtain ⟨hr,hl3,hl4,hk4⟩:=fin none W3 hk3;have hs3:=hk3.size;exact ⟨_,_,hr,.inl ⟨rfl,⟨hI _ _ _ hi3 (OthR.putObj _ (by omega) hl3 rfl),hl4,hk4⟩,by rw [hsz2] at hs3 ⊢;omega,fun b hb=>(World.putObj_heap_other (by have:=hK b hb;omega)).trans ((hkp3 b hb).trans (hw2 b hb))⟩⟩
     | ret =>
      obtain ⟨hk3,hi3⟩:=hp;obtain ⟨hr,hl3,hl4,hk4⟩:=fin (some .ret) W3 hk3;exact ⟨_,_,hr,.inr ⟨rfl,.ret,hIx _ _ _ _ hi3 (OthR.putObj _ (by omega) hl3 rfl),hl4,hk4⟩⟩
     | exit id =>
      obtain ⟨hk3,hi3⟩:=hp;obtain ⟨hr,hl3,hl4,hk4⟩:=fin (some (.exit id)) W3 hk3;exact ⟨_,_,hr,.inr ⟨rfl,.exit id,hIx _ _ _ _ hi3 (OthR.putObj _ (by omega) hl3 rfl),hl4,hk4⟩⟩
     | goto t =>
      obtain ⟨hk3,hi3⟩:=hp;obtain ⟨hr,hl3,hl4,hk4⟩:=fin (some (.goto t)) W3 hk3;exact ⟨_,_,hr,.inr ⟨rfl,.goto t,hIx _ _ _ _ hi3 (OthR.putObj _ (by omega) hl3 rfl),hl4,hk4⟩⟩
     | panic ch=>exact hp.elim
     | outgrown=>exact hp.elim
   · rintro e W2 ⟨⟨v,rfl⟩,(⟨hi,hl,hk⟩|⟨pre,hSp,c,hi,hl,hk⟩)⟩
     · exact ⟨none,_,by have:=run_endLoop (P:=P) hl (by rw [hrec];simp);rw [hrec] at this;exact this,hdone _ _ (Nat.le_refl _) (hI _ _ _ hi (OthR.putObj _ (by omega) hl rfl)) ((World.putObj_heap_other (by omega)).trans hk)⟩
     · exact ⟨some c,_,by have:=run_endLoop (P:=P) hl (by rw [hrec];simp);rw [hrec] at this;exact this,hstop _ c pre _ (Nat.le_refl _) hSp (hIx _ _ _ _ hi (OthR.putObj _ (by omega) hl rfl)) ((World.putObj_heap_other (by omega)).trans hk)⟩
end Go.Ae
namespace Go.Ae
open Go Go.RowKit
variable {P:Program} {Γ:Tys} {K:Calls'} {a:Act} {w:World} {m:Md} {g:List Value} {ob:Store} {st:St} {L:Nat} {ops:Array Oper}
theorem rows_in {row:String} {args:Array Value} {R:Value→World→Prop} (l n:Nat) (h:Rows P row args w R):RowsIn (Fence.wide.inRound l) n P row args w R :=
 fun c cs _=>let ⟨v,w',r,s⟩:=h c cs;⟨v,w',r,stepsIn_wide.2 s⟩
theorem oper_in {l n:Nat} {o:Oper} {N:Act→World→Prop} {Q:Exit→Act→World→Prop} (hnd:∀c,o.op ≠ .defer c) (h:o.wp P a w N Q):o.wpIn (Fence.wide.inRound l) n P a w N Q:=by
 refine ⟨fun _ _=>trivial,?_⟩;show o.uponIn _ n P a N Q ((o.semAt (some l) a.eval).run P w);rw [Oper.semAt_some _ _ _ hnd];unfold Oper.wp at h;generalize (execOp a.eval o).run P w=r at h;cases r with
 | ok nx w' =>
  cases nx with
  | value v=>exact h
  | skip=>exact h
  | defer d=>exact h
  | enter f args=>exact ⟨by simp [Fence.wide],CallsIn.inRound l (callsIn_wide.2 h)⟩
  | row r args=>exact ⟨by simp [Fence.wide],rows_in l _ h⟩
  | _=>exact h.elim
 | halt hh w' =>
  cases hh<;>first|exact h|exact h.elim
theorem any_in {l n:Nat} {Q:Exit→Act→World→Prop} (hnd:∀(i:Nat) o,ops[i]? = some o→∀c,o.op ≠ .defer c) (hQ:¬LetsOut Q) :
 ∀(fuel:Nat) (listed:Array Bool) (a:Act) (w:World),wpAny P .any ops Q fuel listed a w→wpAnyIn (Fence.wide.inRound l) n P .any ops Q fuel listed a w:=by
 intro fuel
 induction fuel with
 | zero=>intro listed a w h;exact h
 | succ fuel ih =>
  intro listed a w h;refine ⟨h.1,fun i hi => ?_⟩;have h2:=h.2 i hi;unfold wpOp at h2;unfold wpOpIn;split
  · rename_i ho
    simp only [ho] at h2;exact ih _ _ _ h2
  · rename_i o ho
    simp only [ho] at h2;split
    · rename_i hw
      simp only [hw,if_true] at h2;rcases h2 with h2|⟨_,h2⟩
      · exact oper_in (hnd i o ho) (Oper.wp_mono (fun a w h=>ih _ a w h) h2)
      · exact (hQ h2).elim
    · rename_i hw
      simp only [hw] at h2;exact ⟨fun _ _=>trivial,ih _ _ _ h2⟩
theorem dregion_in (l n0:Nat) (hnd:∀(i:Nat) o,ops[i]? = some o→∀c,o.op ≠ .defer c) (hm:P.follows .mixedOrders=true) (hΓ:GOk P Γ) (hK:KOk P K) {R:Type} {κ:St→Option R} {r:R} {id:Nat} (hr:Rep w m g st a) (h:dregion Γ K ops st κ=some r) {Q:Act→World→Prop}
 (hQ:∀st' a' w' m' g',κ st'=some r→Rep w' m' g' st' a'→Stp w m w' m'→(∀(o:Nat) v,g[o]? = some v→g'[o]? = some v)→Q a' w'):(Code.region id ops true).wpIn (Fence.wide.inRound l) n0 P (fun e a' w'=>e = .normal∧Q a' w') a w:=by
 unfold dregion at h;generalize hn:slotsAll K ops.toList=n at h;obtain ⟨li,s,f,h1,h2,h3⟩:=dops_run ops.toList 0 st.o.length [] _ (fun j=>by simp) h;have hl:li.length=ops.size:=by rw [f.len];simp
 obtain ⟨hr1,hs1⟩:=rep_drawn hr;have hr2:=rep_ext hr1 n;have hnum:∀(j:Nat) x,li[j]? = some x→x.k=j:=fun j x hj=>by have:=f.num j x hj;omega
 refine wpIn_region_any hm (any_in hnd (fun ⟨_,_,hq⟩=>by cases hq.1) _ _ _ _ (any_sound (Q:=fun e a' w'=>e = .normal∧Q a' w') (L:=st.o.length+n) hΓ hK ops.size li _ _ a _ m _ (by omega) (by simp) (fun i hi => ?_) ?_ f.sep (fun x hx=>⟨by have:=(f.lo x hx).2;omega,f.back x hx⟩) (fun x hx y hy hlt => ?_) (fun i o hi ho => ?_) h1 hr2 (by simp) (fun x hx q hq => ?_) fun a' w' m' g' k1 k2 k3 => ?_))
 · refine ⟨fun _ => ?_,fun _=>by simp [hi]⟩
   have hlt:i<li.length:=by omega
   exact ⟨li[i],List.getElem_mem hlt,hnum i _ (List.getElem?_eq_getElem hlt)⟩
 · rw [List.pairwise_iff_getElem]
   intro i j hi hj hij;rw [hnum i _ (List.getElem?_eq_getElem hi),hnum j _ (List.getElem?_eq_getElem hj)];exact hij
 · unfold indepAll at h3
   have:=List.all_eq_true.1 (List.all_eq_true.1 h3 x (by simpa using hx)) y (by simpa using hy);rw [show Nat.blt x.k y.k=true by simpa using hlt] at this;simpa using this
 · exfalso
   have hlt:=(Array.getElem?_eq_some_iff.1 ho).1;simp [hlt] at hi
 · have hlo:=f.lo x hx
   rw [List.getElem?_append_right (by rw [hr.obj.len];omega),List.getElem?_replicate,if_pos (by rw [hr.obj.len];omega)]
 · refine ⟨rfl,hQ s a' w' m' g' h2 k1 (hs1.trans k2) fun o v ho => ?_⟩
   have hlt:=(List.getElem?_eq_some_iff.1 ho).1;rw [hr.obj.len] at hlt;exact k3 o v (by rw [List.getElem?_append_left (by rw [hr.obj.len];exact hlt)];exact ho) fun x hx=>by have:=(f.lo x hx).1;omega
end Go.Ae
namespace Go.Proofs.YtbifjondkjgkmaaGreatDoorA.W
open Go Go.Ae Go.RowKit
attribute [local go_sem] Oper.semAt_some
def m0:Md:=⟨fun _=>False,fun _=>False⟩
theorem gi_keep {w w':World} (h:GI w m0) (hs:w.heap.size≤w'.heap.size) (hk:∀b∈GlobB,w'.heap[b]? = w.heap[b]?):GI w' m0 :=
 ⟨glob_st w w' hk h.i,fun b hb=>⟨Nat.lt_of_lt_of_le (h.b b hb).1 hs,fun h=>h⟩⟩
theorem gi_below {w w':World} (h:GI w m0) (hb:Below w.heap.size w w'):GI w' m0:=gi_keep h hb.size fun b hm=>hb.block b (h.b b hm).1
theorem boxed_oth {N Bs:Nat} {A B:World} {b:Nat} {t:TypeId} {v:Value} (h:Boxed A b t v) (hne:b≠Bs) (ho:OthR N Bs A B):Boxed B b t v:=ho.keep b _ h hne (.inr rfl)
theorem below_othR {N Bs B:Nat} {A W W':World} (h:Below B A W) (hBA:B≤A.heap.size) (hN:B≤N) (hBs:B≤Bs) (ho:OthR N Bs W W'):Below B A W' :=
 ⟨ho.os.trans h.os,ho.tape.trans h.tape,ho.output.trans h.output,Nat.le_trans h.size ho.size,fun k hk=>by
  have h1:=h.block k hk;obtain ⟨o,h2⟩:∃o,A.heap[k]? = some o:=⟨_,Array.getElem?_eq_getElem (by omega)⟩
  rw [h2] at h1 ⊢;exact ho.keep k o h1 (by omega) (.inl (by omega))⟩
theorem setBox {X:World} {b b':Nat} {t:TypeId} {v u:Value} (h:Boxed X b t v) (hne:b≠b'):Boxed (X.setCell ⟨b',0,none⟩ u) b t v:=h.other hne u
def tabA (t0:List (Int×(Int×(Int×(Int×(Int×Int)))))) (t1:List (Int×(Int×(Int×Int)))) (t2:List (Int×(Int×Int))):List AV:=[.lst (.pair (.int .i32) (.pair (.int .i32) (.pair (.int .i64) (.pair (.int .i64) (.pair (.int .i64) (.int .i64)))))) t0,.lst (.pair (.int .i32) (.pair (.int .i32) (.pair (.int .i64) (.int .i64)))) t1,.lst (.pair (.int .i32) (.pair (.int .i32) (.int .i32))) t2,.opq 0,.opq 1]
def bk (l:List Int):List (Int×Int):=(List.range l.length).map fun (j:Nat)=>(((l.length:Int)-1-(j:Int)),l.getD (l.length-1-j) 0)
theorem bk_get (l:List Int) (j:Nat) (h:j<l.length):(bk l)[j]? = some (((l.length:Int)-1-(j:Int)),l.getD (l.length-1-j) 0):=by
 simp [bk,h]
theorem bk_len (l:List Int):(bk l).length=l.length:=by simp [bk]
set_option maxHeartbeats 4000000 in
theorem back_seq (n:Nat) (hn:1≤n) (Bs g o cap:Nat) (a:Option Addr) (l:List Int) (w:World) (hlen:l.length≤1000000000000) (hb:Boxed w Bs 75 (.slice a l.length cap)) (ha:l≠[]→a=some ⟨g,o,none⟩)
 (hcl:∀(k:Nat) x,l[k]? = some x→w.cell? ⟨g,o+k,none⟩=some (.int .i32 x)) (Bd:Nat) :
 SeqD Fence.wide n Tryz.prog 152 #[.pointer (some ⟨Bs,0,none⟩)] (fun x:Int×Int => #[Value.int .i64 x.1,Value.int .i32 x.2]) (fun b=>b=Bs∨(l≠[]∧b=g)) Bd (bk l) w:=by
 intro lp J Jx W hW hJ hJx hY h0;have hb':Boxed W Bs 75 (.slice a l.length cap):=(hW.block Bs hb.lt).trans hb;have hcl':∀(k:Nat) x,l[k]? = some x→W.cell? ⟨g,o+k,none⟩=some (.int .i32 x):=fun k x hk=>(hW.cell (p:=⟨g,o+k,none⟩) (World.block_lt_of_cell? _ _ (hcl k x hk))).trans (hcl k x hk);have hkl:=bk_len l;refine callsIn_of_wp Tryz.func152 rfl trivial ?_ rfl;simp only [Tryz.ntmps152,List.size_toArray,List.length_cons,List.length_nil,Nat.reduceAdd,Nat.reduceSub,Array.replicate_succ,Array.replicate_zero,List.push_toArray,List.append_toArray,List.nil_append,List.cons_append];have hc:=hb'.cell;generalize hN:l.length=N at *
 gi_wp2
 gi_loopw [3] (fun i wr=>∃j:Nat,i = .int .i64 ((N:Int)-1-(j:Int))∧j≤N∧Hid (J ((bk l).take j) wr)∧Hid (Boxed wr Bs 75 (.slice a N cap))∧Hid (∀(k:Nat) x,l[k]? = some x→wr.cell? ⟨g,o+k,none⟩=some (.int .i32 x))) (fun i _=>(intOf i+1).toNat)
 case atStart=>exact ⟨0,by simp,Nat.zero_le _,h0,hb',hcl'⟩
 case round =>
  obtain ⟨j,rfl,hj,hJs,hbr,hcr⟩:=hrel;by_cases hlt:j<N
  · have hx:=bk_get l j (by omega)
    rw [hN] at hx;have hl0:l≠[]:=by rintro rfl;simp at hN;omega
    have hae:=ha hl0;subst hae;have htk:(bk l).take (j+1)=(bk l).take j++[(((N:Int)-1-(j:Int)),l.getD (N-1-j) 0)]:=by rw [List.take_add_one,hx];rfl
    have hpre:(bk l).take j++[(((N:Int)-1-(j:Int)),l.getD (N-1-j) 0)] <+: bk l:=htk▸List.take_prefix _ _;have hcx:wr.cell? ⟨g,o+(N-1-j),none⟩=some (.int .i32 (l.getD (N-1-j) 0)):=hcr.out _ _ (by rw [List.getD_eq_getElem?_getD,List.getElem?_eq_getElem (by omega)];rfl);obtain ⟨fn,tmps,assign,body,hy,hR⟩:=hY _ _ wr hpre hJs.out;have hcb:=hbr.out.cell;generalize hi:N-1-j=i at *
    generalize l.getD i 0=x at *
    have hij:(N:Int)-1-(j:Int)=(i:Int):=by omega
    rw [hij];have hiN:i<N:=by omega
    clear hcl' hcl hb' hb hc hW h0 hY;dsimp only at hy;rw [hij] at hy
    gi_wp2
    refine hR.mono ?_;rintro e W3 (⟨rfl,hJ3,hs3,hk3⟩|⟨rfl,hJx3⟩)
    · have hb3:Hid (Boxed W3 Bs 75 (.slice (some ⟨g,o,none⟩) N cap)):=(hk3 Bs (.inl rfl)).trans hbr.out
      have hc3:Hid (∀(k:Nat) x,l[k]? = some x→W3.cell? ⟨g,o+k,none⟩=some (.int .i32 x)):=fun k x hk=>(World.cell?_of_block (hk3 g (.inr ⟨hl0,rfl⟩))).trans (hcr.out k x hk);have hJ4:Hid (J ((bk l).take (j+1)) W3):=by rw [htk];exact hJ3
      gi_wp2
      go_roundw
      case rel=>exact ⟨j+1,by rw [show (N:Int)-1-((j+1:Nat):Int)=(i:Int)-1 by omega],by omega,hJ4,hb3,hc3⟩
      case measure=>first|(simp [intOf];done)|(simp [intOf];omega)
    · gi_wp2
      refine bodyPost_ret (results_none rfl _ _ _) rfl ?_;exact ⟨⟨_,rfl⟩,.inr ⟨_,hpre,hJx3⟩⟩
  · obtain rfl:j=N:=by omega
    have hneg:¬((j:Int)-1-(j:Int)≥0):=by omega
    gi_wp2
    go_end0
    exact ⟨⟨_,rfl⟩,.inl (by have:=hJs.out;rwa [List.take_of_length_le (by omega)] at this)⟩
set_option maxHeartbeats 4000000 in
theorem back_mk (a:Option Addr) (n cap:Nat) (w:World):Calls Tryz.prog 122 #[.slice a n cap] w fun e w'=>e = .returned (.func (.func 152) #[] #[.pointer (some ⟨w.heap.size,0,none⟩)])∧w'=w.alloc (.cells #[.slice a n cap] 75):=by
 go_enter Tryz.func122,Tryz.ntmps122
 go_wp2
 go_returns
 exact ⟨rfl,rfl⟩
def endF (Bd:Int→Option Int):List (Int×Int)→Option Int
 | []=>some 0
 | x::xs=>(Bd x.2).bind fun b=>bif b != 6 then some b else endF Bd xs
set_option maxHeartbeats 4000000 in
theorem end_walk (v0 v1 v2 v3 v4:Value) (a:Option Addr) (g o cap:Nat) (l:List Int) (Bd:Int→Option Int) (r:Int) (w:World) (hg:GI w m0) (hlen:l.length≤1000000000000) (ha:l≠[]→a=some ⟨g,o,none⟩)
 (hcl:∀(k:Nat) x,l[k]? = some x→w.cell? ⟨g,o+k,none⟩=some (.int .i32 x)) (hres:endF Bd (bk l)=some r)
 (hB:∀x r,Bd x=some r→∀W,Below w.heap.size w W→Calls Tryz.prog 121 #[.agg #[v0,v1,v2,v3,v4],.int .i32 x] W fun e W'=>e = .returned (.int .i64 r)∧Below W.heap.size W W') :
 Calls Tryz.prog 90 #[.agg #[v0,v1,v2,v3,v4],.slice a l.length cap] w fun e w'=>e = .returned (.int .i64 r)∧Below w.heap.size w w':=by
 refine (callsIn_wide (n:=3)).1 ?_;refine callsIn_of_wp_marks Tryz.func90 rfl trivial ?_ rfl;simp only [Tryz.ntmps90,List.size_toArray,List.length_cons,List.length_nil,Nat.reduceAdd,Nat.reduceSub,Array.replicate_succ,Array.replicate_zero,List.push_toArray,List.append_toArray,List.nil_append,List.cons_append];have hW0:Below w.heap.size w ((w.alloc (.cells #[v0,v1,v2,v3,v4] 32)).alloc (.cells #[.int .i64 0] 3)):=((Below.refl _ w).alloc (Nat.le_refl _) _).alloc (by simp) _
 gi_wp2_with (refine ⟨trivial,?_⟩;gi_at_call 122;refine (callsIn_wide.2 (back_mk _ _ _ _)).mono ?_;rintro e w2 ⟨rfl,rfl⟩)
 have hsz0:((w.alloc (.cells #[v0,v1,v2,v3,v4] 32)).alloc (.cells #[.int .i64 0] 3)).heap.size=w.heap.size+2:=by simp
 obtain ⟨w1,hw1⟩:∃w1,(w.alloc (.cells #[v0,v1,v2,v3,v4] 32)).alloc (.cells #[.int .i64 0] 3)=w1:=⟨_,rfl⟩
 have hT:∀X,Below w1.heap.size w1 X→X.cell? ⟨w.heap.size,0,none⟩=some v0∧X.cell? ⟨w.heap.size,1,none⟩=some v1∧X.cell? ⟨w.heap.size,2,none⟩=some v2∧X.cell? ⟨w.heap.size,3,none⟩=some v3∧X.cell? ⟨w.heap.size,4,none⟩=some v4:=fun X hX=>by
  have h1:X.heap[w.heap.size]? = some (.cells #[v0,v1,v2,v3,v4] 32):=by
   rw [hX.block _ (by rw [←hw1,hsz0];omega),←hw1,Below.heap_alloc _ _ _ (by simp),heap_alloc_new]
  exact ⟨by rw [cell_of_cells h1];rfl,by rw [cell_of_cells h1];rfl,by rw [cell_of_cells h1];rfl,by rw [cell_of_cells h1];rfl,by rw [cell_of_cells h1];rfl⟩
 have hR:∀X,Below w1.heap.size w1 X→Boxed X (w.heap.size+1) 3 (.int .i64 0):=fun X hX=>by
  show X.heap[_]? = _;rw [hX.block _ (by rw [←hw1,hsz0];omega),←hw1];have:=heap_alloc_new (w.alloc (.cells #[v0,v1,v2,v3,v4] 32)) (.cells #[.int .i64 0] 3)
  rwa [World.size_alloc] at this
 rw [hw1] at hW0 hsz0 ⊢;have hszN:(w1.alloc (.cells #[.slice a l.length cap] 75)).heap.size=w1.heap.size+1:=by simp
 have hW2:Below w1.heap.size w1 (w1.alloc (.cells #[.slice a l.length cap] 75)):=(Below.refl _ w1).alloc (Nat.le_refl _) _;have hs1:w1.heap.size=w.heap.size+1+1:=by rw [hsz0]
 have hbv:Boxed (w1.alloc (.cells #[.slice a l.length cap] 75)) (w.heap.size+1+1) 75 (.slice a l.length cap):=by rw [←hs1];exact Boxed.new _ _ _
 have hgl:∀k,k<l.length→g<w.heap.size:=fun k hk=>World.block_lt_of_cell? _ _ (hcl k l[k] (List.getElem?_eq_getElem hk));have hcl2:∀(k:Nat) x,l[k]? = some x→(w1.alloc (.cells #[.slice a l.length cap] 75)).cell? ⟨g,o+k,none⟩=some (.int .i32 x):=fun k x hk =>
  ((hW0.trans (hW2.mono hW0.size)).cell (p:=⟨g,o+k,none⟩) (World.block_lt_of_cell? _ _ (hcl k x hk))).trans (hcl k x hk)
 refine wpIn_rangeFunc_dir (F:=Fence.wide) (n:=3) rfl (by omega) (gf:=152) (lb := #[.pointer (some ⟨w.heap.size+1+1,0,none⟩)]) rfl trivial (enters_of Tryz.func152 (by kernel_rfl) rfl)
  (K:=fun b=>b=w.heap.size+1+1∨(l≠[]∧b=g))
  (back_seq 2 (by omega) (w.heap.size+1+1) g o cap a l _ hlen hbv ha hcl2 (w.heap.size+1+1))
  (by rintro b (rfl|⟨hb,rfl⟩)
      · rw [hszN];omega
      · have:=hgl 0 (List.length_pos_iff.2 hb);rw [hszN,hsz0];omega) (by rw [hszN];omega) (fun _=>rfl)
  (fun pre W=>∃rest,bk l=pre++rest∧endF Bd rest=some r∧Below w1.heap.size w1 W)
  (fun c pre W=>c = .ret∧Boxed W (w.heap.size+1) 3 (.int .i64 r)∧Below w.heap.size w W)
  (fun pre X Y hs ho=>by
   obtain ⟨rest,h1,h2,h3⟩:=hs;exact ⟨rest,h1,h2,below_othR h3 (Nat.le_refl _) (by rw [hszN];omega) (by omega) ho⟩)
  (fun c pre X Y hs ho=>by
   obtain ⟨h1,h2,h3⟩:=hs;exact ⟨h1,boxed_oth h2 (by omega) ho,below_othR h3 (Nat.le_refl _) (by rw [hszN];omega) (by omega) ho⟩)
  ⟨bk l,rfl,hres,hW2⟩
  (fun x=>{ tmps := #[.agg #[v0,v1,v2,v3,v4],.slice a l.length cap,.pointer (some ⟨w.heap.size,0,none⟩),undef,.pointer (some ⟨w.heap.size+1,0,none⟩),undef,.int .i32 x.2,undef,.slice a l.length cap,
   .func (.func 152) #[] #[.pointer (some ⟨w.heap.size+1+1,0,none⟩)],.int .i64 x.1,.int .i32 x.2,undef,undef,undef,undef,undef,undef],defers:=[] }) ?assign ?body ?done ?stop
 case assign =>
  intro l x W K hK
  gi_wp2
  exact hK
 case body =>
  rintro lp pre ⟨i,x⟩ W hsz hpre ⟨rest,hls,hbf,hbel⟩;obtain ⟨rest',rfl⟩:∃r,rest=(i,x)::r:=by
   obtain ⟨t,ht⟩:=hpre;rw [hls,List.append_assoc] at ht;have:=List.append_cancel_left ht;exact ⟨t,by simpa using this.symm⟩
  simp only [endF] at hbf;obtain ⟨b,hb,hbf2⟩:=Option.bind_eq_some_iff.1 hbf;rw [hszN] at hsz;have hWw:Below w.heap.size w W:=hW0.trans (hbel.mono (by omega));have hcB:=hB x _ hb W hWw;obtain ⟨t0,t1,t2,t3,t4⟩:=hT W hbel;have hls0:=hls;clear hcl hcl2 ha hls hres;by_cases hz:b=6
  · subst hz
    have hbf3:endF Bd rest'=some r:=hbf2
    gi_wp2_with (refine ⟨trivial,?_⟩;gi_at_call 121;refine (CallsIn.inRound lp (callsIn_wide.2 hcB)).mono ?_;rintro e W3 ⟨rfl,hb3⟩;have hbel3:Below w1.heap.size w1 W3:=hbel.trans (hb3.mono (by omega)))
    refine ⟨⟨hb3.size,fun k o _ h _=>(hb3.block k (lt_of_some h)).trans h⟩,?_,rest',?_,hbf3,hbel3⟩
    · rintro b (rfl|⟨hb,rfl⟩)
      · exact hb3.block _ (by omega)
      · exact hb3.block _ (by have:=hgl 0 (List.length_pos_iff.2 hb);omega)
    · rw [hls0];simp
  · have hbf3:some b=some r:=by
     rw [←hbf2,show (b != 6)=true by simpa using hz];rfl
    cases hbf3
    gi_wp2_with (refine ⟨trivial,?_⟩;gi_at_call 121;refine (CallsIn.inRound lp (callsIn_wide.2 hcB)).mono ?_;rintro e W3 ⟨rfl,hb3⟩;have hbel3:Below w1.heap.size w1 W3:=hbel.trans (hb3.mono (by omega));have q1:=hR W3 hbel3;have q4:=q1.cell;have q5:=q1.frozen)
    refine ⟨KeepsFrom.trans ⟨hb3.size,fun k o _ h _=>(hb3.block k (lt_of_some h)).trans h⟩ ((KeepsOthers.setCell _ _ _).from _),rfl,?_,?_⟩
    · exact Boxed.set _ q1
    · exact (hW0.trans (hbel3.mono (by omega))).setCell (p:=⟨w.heap.size+1,0,none⟩) (show w.heap.size≤w.heap.size+1 by omega) _
 case done =>
  rintro D W hD ⟨rest,hls,hbf,hbel⟩ hK;have hrest:rest=[]:=by
   have:=congrArg List.length hls;simp at this;exact this
  subst hrest;cases hbf;have hDW:D<W.heap.size:=lt_of_some hK;rw [hszN] at hD;have q1:=hR W hbel;have q4:=q1.cell;have q5:=q1.frozen;clear hcl hcl2 ha hls hres
  gi_wp2
  have hKX:(W.setCell ⟨w.heap.size+1,0,none⟩ (.int .i64 0)).heap[D]? = some (.deferred (some [])):=by
   rw [Below.heap_setCell _ _ _ _ (show D≠w.heap.size+1 by omega)];exact hK
  refine ⟨by simp,.inl ⟨_,_,rfl,run_takeDeferred hKX,?_⟩⟩;have e1:=Boxed.set (.int .i64 0) q1;have hc1:=cell_kept e1.cell (grownBy_putObj' _ D (.deferred none)) (fun r e=>by cases e;exact ⟨_,hKX,rfl⟩);have hbX:=(hW0.trans (hbel.mono (show w.heap.size≤w1.heap.size by omega))).setCell (p:=⟨w.heap.size+1,0,none⟩) (show w.heap.size≤w.heap.size+1 by omega) (.int .i64 0);refine ⟨.int .i64 0,?_,rfl,hbX.trans (belowK_b (w:=w) (Nat.le_refl _) _ D _ _ (by omega) hKX rfl rfl)⟩;simp [results,Tryz.f90,go_sem,hc1]
 case stop =>
  rintro D c pre W hD hpre ⟨rfl,h1,hbel⟩ hK
  gi_wp2
  refine ⟨by simp,.inl ⟨_,_,rfl,run_takeDeferred hK,?_⟩⟩;have hc1:=cell_kept h1.cell (grownBy_putObj' _ D (.deferred none)) (fun r e=>by cases e;exact ⟨_,hK,rfl⟩);rw [hszN] at hD;refine ⟨.int .i64 r,?_,rfl,hbel.trans (belowK_b (w:=w) (Nat.le_refl _) W D _ _ (by omega) hK rfl rfl)⟩;simp [results,Tryz.f90,go_sem,hc1]
theorem tbl_bidi {t0 t1 t2} {x c:Int} (hF:C121 (t0,t1,t2,x,())=some (c,()))
 {w:World} {m:Md} (gi:GI w m) (hlt:∀b,m.a b→b<w.heap.size) {a:Array Value} (ht:RepL w m [] (tabA t0 t1 t2) a.toList) :
 Calls Tryz.prog 121 #[.agg a,.int .i32 x] w fun e w'=>e = .returned (.int .i64 c)∧Below w.heap.size w w':=by
 refine (FnOk.call0 (v:=(t0,t1,t2,x,())) (y:=(c,())) ok121 Tryz.func121 (by kernel_rfl) (by kernel_rfl) gi hlt rfl ⟨_,_,rfl,⟨a,rfl,ht⟩,_,_,rfl,⟨rfl,fun h=>(by cases h)⟩,rfl⟩ rfl hF ?_).mono fun e w' ⟨rv,h1,h2,ax,l',u,h3,h4⟩ => ?_
 · intro ax l' u h3
   cases osel_one_inv h3;rfl
 · cases osel_one_inv h3
   obtain ⟨v,r',e1,⟨e2,_⟩,e4⟩:=h4;have e4':r'=[]:=e4;subst e4';cases e1;subst h1 e2;exact ⟨rfl,h2⟩
def C90:T90:=fun (t0,t1,t2,l,_)=>bif decide (l.length≤1000000000000) then (endF (fun x=>(C121 (t0,t1,t2,x,())).map fun r=>r.1) (bk l)).map fun r=>(r,()) else none
theorem ok90:FnOk Tryz.prog 90 (E90 C90):=by
 refine hand Tryz.func90 (by kernel_rfl) (by kernel_rfl) (fun _=>rfl) (fun _=>rfl) ?_;rintro ⟨t0,t1,t2,l,u⟩ y hy w m args gi hn hlt hargs
 change List Int at l
 obtain ⟨va,r1,e1,⟨a,rfl,ht⟩,vs,r2,e2,e3,e4⟩:=hargs;have e4':r2=[]:=e4;have e3':RepT w m (.lst (.int .i32)) l [vs]:=e3;subst e4' e2;have ha:args = #[.agg a,vs]:=by cases args;simpa using e1
 subst ha;have ht0:RepL w m [] (tabA t0 t1 t2) a.toList:=ht;have hst:∀W,Below w.heap.size w W→Stp w m W m:=fun W hb=>stp_below hb fun b hb=>(hn b hb).elim;have htW:∀W,Below w.heap.size w W→RepL W m [] (tabA t0 t1 t2) a.toList:=fun W hb=>RepL.mono (hst W hb) (fun _ _ h=>h) _ _ ht0;have hltW:∀W,Below w.heap.size w W→∀b,m.a b→b<W.heap.size:=fun W hb b h=>Nat.lt_of_lt_of_le (hlt b h) hb.size;have g0:GI w m0:=⟨gi.i,fun b hb=>⟨(gi.b b hb).1,fun h=>h⟩⟩
 obtain ⟨v0,v1,v2,v3,v4,rfl⟩:∃v0 v1 v2 v3 v4,a = #[v0,v1,v2,v3,v4]:=by
  obtain ⟨w0,q0,f0,_,w1,q1,f1,_,w2,q2,f2,_,w3,q3,f3,_,w4,q4,f4,_,f5⟩:=ht0;have f5':q4=[]:=f5;subst f5' f4 f3 f2 f1;exact ⟨w0,w1,w2,w3,w4,by cases a;simpa using f0⟩
 have hy1:(bif decide (l.length≤1000000000000) then (endF (fun x=>(C121 (t0,t1,t2,x,())).map fun r=>r.1) (bk l)).map fun r=>(r,()) else none)=some y:=hy;rcases cond_some hy1 with ⟨hl,hy2⟩|⟨_,hy2⟩
 case inr=>cases hy2
 have hlen:l.length≤1000000000000:=of_decide_eq_true hl;obtain ⟨r,hr,rfl⟩:=Option.map_eq_some_iff.1 hy2;obtain ⟨ao,cap,hv,k1,k2,k3,k4⟩:=e3';have hvs:vs = .slice ao l.length cap:=(List.cons.inj hv).1;subst hvs;have hcells:∃g o,(l≠[]→ao=some ⟨g,o,none⟩)∧∀(k:Nat) x,l[k]? = some x→w.cell? ⟨g,o+k,none⟩=some (.int .i32 x):=by
  cases hl0:l with
  | nil=>exact ⟨0,0,fun h=>(h rfl).elim,fun k x h=>by simp at h⟩
  | cons z zs =>
   obtain ⟨b,o,us,q1,q2,q3,q4,q5,q6⟩:=k4 0 z (by rw [hl0];rfl);refine ⟨b,o,fun _=>q1,fun k x hk => ?_⟩;obtain ⟨b',o',us',p1,p2,p3,p4,p5,p6⟩:=k4 k x (by rw [hl0];exact hk);rw [q1] at p1;cases p1;have p2':us'=[.int .i32 x]:=p2.1;subst p2';have:=p6 0 _ rfl;simpa [Ty.size] using this
 obtain ⟨g,o,ha,hcl⟩:=hcells;refine (end_walk v0 v1 v2 v3 v4 ao g o cap l _ r w g0 hlen ha hcl hr ?_).mono fun e w' ⟨q1,q2⟩=>⟨_,q1,q2,.ret,[.int .i64],(r,()),osel_one [.int .i64] (r,()),rfl,rfl,⟨_,[],rfl,⟨rfl,fun h=>(by cases h)⟩,rfl⟩⟩
 intro x c hc W hW;obtain ⟨⟨c',u'⟩,hc',rfl⟩:=Option.map_eq_some_iff.1 hc;exact tbl_bidi hc' (gi.mono (hst W hW)) (hltW W hW) (htW W hW)
end Go.Proofs.YtbifjondkjgkmaaGreatDoorA.W
