/- The texts of the proof, one behind the other: LaidT, LaidC, Laid, LaidE, W0, Ae31, Ae35, Ae36, Ae32, X, XIns, XItoa, XLib, W1, XNew, W2, Ae37, Ae38. -/
import Derived.Shelf.Strings.SlTrimAscii
import Derived.Test.YtgkmfhhghcccjaaGreatDoorProg
import Derived.Shelf.LaysM
import Derived.Shelf.Strconv.Itoa3
import Derived.Shelf.LaysC
import Derived.Shelf.Strings.Builder1
import Derived.Shelf.Strings.OnBuilder
import Derived.Shelf.Strings.Replace
import Derived.Shelf.Strconv.AtoiAll
import Derived.Test.YtgkmfhhghcccjaaGreatDoorAMt2
import Derived.Maps.OwnIn
import Derived.Handy
import Derived.Great.Walk
import Derived.Shelf.Spec.SlicesInsert
import Derived.Lib.AppendZerosOnto
import Derived.Laws.NewBlocks
import Derived.Laws.CopyOwn
import Derived.RangeFuncNested
import Derived.RangeFuncBound
import Derived.RangeFuncCalls
import Derived.RangeFuncLeaves
import Derived.OrdersIn
open Go.Proofs.Tryz
open Array (getElem?_toList length_toList toList_push)
open Bool (and_eq_true)
open List (all_eq_true append_assoc getElem?_eq_getElem getElem?_map getElem?_take_of_lt length_append length_drop length_map length_take map_append map_cons map_map map_nil mem_map mem_map_of_mem size_toArray take_add_one take_of_length_le)
open Nat (le_refl min_def mul_one zero_add zero_le)
open Option (isNone_none isNone_some map_eq_some_iff map_none map_some)
open Go.World (cell? cell?_setCell_other cell?_setCell_same frozen? shape?)
namespace Go.Proofs
open Go.Shelf
def lays160_ren:Go.Shelf.Ren:=⟨fun|160=>68|232=>101|231=>100|227=>102|234=>104|233=>103|236=>106|235=>105|228=>128|271=>131|151=>130|197=>129|120=>163|152=>162|260=>161|137=>66|119=>202|224=>200|225=>199|217=>97|266=>126|n=>n,fun|9=>9|4=>4|3=>3|5=>5|117=>166|116=>165|0=>0|124=>169|21=>21|105=>193|46=>160|119=>244|139=>247|138=>246|n=>n,fun|3=>2|4=>3|n=>n⟩
theorem lays160:Go.Proofs.Lays.n160 prog lays160_ren:={
 mixed:=by kernel_rfl
 f119:=func202.trans (congrArg some (by kernel_rfl))
 f120:=func163.trans (congrArg some (by kernel_rfl))
 f137:=func66.trans (congrArg some (by kernel_rfl))
 f151:=func130.trans (congrArg some (by kernel_rfl))
 f152:=func162.trans (congrArg some (by kernel_rfl))
 f160:=func68.trans (congrArg some (by kernel_rfl))
 f197:=func129.trans (congrArg some (by kernel_rfl))
 f217:=func97.trans (congrArg some (by kernel_rfl))
 f224:=func200.trans (congrArg some (by kernel_rfl))
 f225:=func199.trans (congrArg some (by kernel_rfl))
 f227:=func102.trans (congrArg some (by kernel_rfl))
 f228:=func128.trans (congrArg some (by kernel_rfl))
 f231:=func100.trans (congrArg some (by kernel_rfl))
 f232:=func101.trans (congrArg some (by kernel_rfl))
 f233:=func103.trans (congrArg some (by kernel_rfl))
 f234:=func104.trans (congrArg some (by kernel_rfl))
 f235:=func105.trans (congrArg some (by kernel_rfl))
 f236:=func106.trans (congrArg some (by kernel_rfl))
 f260:=func161.trans (congrArg some (by kernel_rfl))
 f266:=func126.trans (congrArg some (by kernel_rfl))
 f271:=func131.trans (congrArg some (by kernel_rfl))
 t0:=underlying0
 a0:=isAgg0
 z0:=sizeOf0
 v0:=zeroValue0
 t3:=underlying3
 a3:=isAgg3
 z3:=sizeOf3
 v3:=zeroValue3
 t4:=underlying4
 a4:=isAgg4
 z4:=sizeOf4
 v4:=zeroValue4
 t5:=underlying5
 a5:=isAgg5
 z5:=sizeOf5
 v5:=zeroValue5
 t9:=underlying9
 a9:=isAgg9
 z9:=sizeOf9
 v9:=zeroValue9
 t21:=underlying21
 a21:=isAgg21
 z21:=Tryz.sizeOf21
 v21:=zeroValue21
 t46:=underlying160
 a46:=isAgg160
 z46:=sizeOf160
 v46:=zeroValue160
 t105:=underlying193
 a105:=isAgg193
 z105:=sizeOf193
 v105:=zeroValue193
 t116:=underlying165
 a116:=isAgg165
 z116:=sizeOf165
 t117:=underlying166
 a117:=isAgg166
 z117:=sizeOf166
 v117:=zeroValue166
 t119:=underlying244
 a119:=isAgg244
 z119:=sizeOf244
 t124:=underlying169
 a124:=isAgg169
 z124:=sizeOf169
 v124:=zeroValue169
 t138:=underlying246
 a138:=isAgg246
 z138:=sizeOf246
 v138:=zeroValue246
 t139:=underlying247
 a139:=isAgg247
 z139:=sizeOf247
 v139:=zeroValue247
 g3:=by kernel_rfl
 g4:=by kernel_rfl }
def laysM171_ren:Go.Shelf.Ren:=⟨fun|171=>124|243=>159|246=>198|283=>234|284=>235|285=>236|286=>237|129=>283|317=>282|318=>284|319=>285|320=>286|337=>309|338=>310|n=>n,fun|3=>3|9=>9|2=>2|4=>4|171=>277|0=>0|53=>183|37=>170|5=>5|173=>280|212=>311|51=>282|20=>20|213=>312|46=>160|232=>340|233=>341|n=>n,fun|17=>6|18=>7|19=>8|n=>n⟩
theorem laysM171:Go.Proofs.LaysM.n171 prog laysM171_ren:={
 mixed:=by kernel_rfl
 f129:=func283.trans (congrArg some (by kernel_rfl))
 f171:=func124.trans (congrArg some (by kernel_rfl))
 f243:=func159.trans (congrArg some (by kernel_rfl))
 f246:=func198.trans (congrArg some (by kernel_rfl))
 f283:=func234.trans (congrArg some (by kernel_rfl))
 f284:=func235.trans (congrArg some (by kernel_rfl))
 f285:=func236.trans (congrArg some (by kernel_rfl))
 f286:=func237.trans (congrArg some (by kernel_rfl))
 f317:=func282.trans (congrArg some (by kernel_rfl))
 f318:=func284.trans (congrArg some (by kernel_rfl))
 f319:=func285.trans (congrArg some (by kernel_rfl))
 f320:=func286.trans (congrArg some (by kernel_rfl))
 f337:=func309.trans (congrArg some (by kernel_rfl))
 f338:=func310.trans (congrArg some (by kernel_rfl))
 t0:=underlying0
 a0:=isAgg0
 z0:=sizeOf0
 v0:=zeroValue0
 t2:=underlying2
 a2:=isAgg2
 z2:=sizeOf2
 v2:=zeroValue2
 t3:=underlying3
 a3:=isAgg3
 z3:=sizeOf3
 v3:=zeroValue3
 t4:=underlying4
 a4:=isAgg4
 z4:=sizeOf4
 v4:=zeroValue4
 t5:=underlying5
 a5:=isAgg5
 z5:=sizeOf5
 v5:=zeroValue5
 t9:=underlying9
 a9:=isAgg9
 z9:=sizeOf9
 v9:=zeroValue9
 t20:=underlying20
 a20:=isAgg20
 z20:=sizeOf20
 v20:=zeroValue20
 t37:=underlying170
 a37:=isAgg170
 z37:=sizeOf170
 v37:=zeroValue170
 t46:=underlying160
 a46:=isAgg160
 z46:=sizeOf160
 v46:=zeroValue160
 t51:=underlying282
 a51:=isAgg282
 z51:=sizeOf282
 v51:=zeroValue282
 t53:=underlying183
 a53:=isAgg183
 z53:=sizeOf183
 v53:=zeroValue183
 t171:=underlying277
 a171:=isAgg277
 z171:=sizeOf277
 v171:=zeroValue277
 t173:=underlying280
 a173:=isAgg280
 z173:=sizeOf280
 v173:=zeroValue280
 t212:=underlying311
 a212:=isAgg311
 z212:=sizeOf311
 v212:=zeroValue311
 t213:=underlying312
 a213:=isAgg312
 z213:=sizeOf312
 t232:=underlying340
 a232:=isAgg340
 z232:=sizeOf340
 v232:=zeroValue340
 t233:=underlying341
 a233:=isAgg341
 z233:=sizeOf341
 v233:=zeroValue341
 g17:=by kernel_rfl
 g18:=by kernel_rfl
 g19:=by kernel_rfl
 i0:=by kernel_rfl
 i2:=by kernel_rfl
 i3:=by kernel_rfl
 i4:=by kernel_rfl
 i5:=by kernel_rfl
 i9:=by kernel_rfl
 i20:=by kernel_rfl
 i37:=by kernel_rfl
 i46:=by kernel_rfl
 i51:=by kernel_rfl
 i53:=by kernel_rfl
 i171:=by kernel_rfl
 i173:=by kernel_rfl
 i212:=by kernel_rfl
 i232:=by kernel_rfl
 i233:=by kernel_rfl
 m17:=by kernel_rfl
 m18:=by kernel_rfl
 m19:=by kernel_rfl }
def lays156_ren:Go.Shelf.Ren:=⟨fun|156=>144|165=>171|166=>172|169=>173|240=>210|241=>211|276=>262|277=>263|n=>n,fun|31=>27|9=>9|3=>3|4=>4|0=>0|20=>20|72=>219|76=>221|70=>217|37=>170|75=>185|127=>253|164=>295|5=>5|80=>125|n=>n,fun|n=>n⟩
theorem lays156:Go.Proofs.Lays.n156 prog lays156_ren:={
 mixed:=by kernel_rfl
 f156:=func144.trans (congrArg some (by kernel_rfl))
 f165:=func171.trans (congrArg some (by kernel_rfl))
 f166:=func172.trans (congrArg some (by kernel_rfl))
 f169:=func173.trans (congrArg some (by kernel_rfl))
 f240:=func210.trans (congrArg some (by kernel_rfl))
 f241:=func211.trans (congrArg some (by kernel_rfl))
 f276:=func262.trans (congrArg some (by kernel_rfl))
 f277:=func263.trans (congrArg some (by kernel_rfl))
 t0:=underlying0
 a0:=isAgg0
 z0:=sizeOf0
 v0:=zeroValue0
 t3:=underlying3
 a3:=isAgg3
 z3:=sizeOf3
 v3:=zeroValue3
 t4:=underlying4
 a4:=isAgg4
 z4:=sizeOf4
 v4:=zeroValue4
 t9:=underlying9
 a9:=isAgg9
 z9:=sizeOf9
 v9:=zeroValue9
 t20:=underlying20
 a20:=isAgg20
 z20:=sizeOf20
 v20:=zeroValue20
 t31:=underlying27
 a31:=isAgg27
 z31:=sizeOf27
 v31:=zeroValue27
 t37:=underlying170
 a37:=isAgg170
 z37:=sizeOf170
 v37:=zeroValue170
 t70:=underlying217
 a70:=isAgg217
 z70:=sizeOf217
 v70:=zeroValue217
 t72:=underlying219
 a72:=isAgg219
 z72:=sizeOf219
 v72:=zeroValue219
 t75:=underlying185
 a75:=isAgg185
 z75:=sizeOf185
 v75:=zeroValue185
 t76:=underlying221
 a76:=isAgg221
 z76:=sizeOf221
 v76:=zeroValue221
 t127:=underlying253
 a127:=isAgg253
 z127:=sizeOf253
 v127:=zeroValue253
 t164:=underlying295
 a164:=isAgg295
 z164:=sizeOf295
 v164:=zeroValue295 }
theorem Builder_Extra_156:Builder.Extra prog lays156_ren:={
 sizeBuilder:=by kernel_rfl
 liesBuilder:=by kernel_rfl
 t5:=underlying5
 a5:=isAgg5
 z5:=sizeOf5
 v5:=zeroValue5
 infoByte:=by kernel_rfl
 cellsByte:=by kernel_rfl
 sizeByte:=by kernel_rfl
 neB5:=by decide }
def lays155_ren:Go.Shelf.Ren:=⟨fun|155=>166|154=>203|138=>218|165=>171|143=>219|166=>172|197=>129|169=>173|195=>267|218=>268|240=>210|241=>211|219=>160|260=>161|276=>262|277=>263|217=>97|225=>199|224=>200|267=>201|266=>126|314=>238|n=>n,fun|9=>9|3=>3|4=>4|72=>219|0=>0|76=>221|105=>193|21=>21|5=>5|70=>217|20=>20|37=>170|75=>185|127=>253|164=>295|46=>160|119=>244|139=>247|138=>246|146=>283|51=>282|80=>125|n=>n,fun|1=>1|3=>2|4=>3|n=>n⟩
theorem lays155:Go.Proofs.Lays.n155 prog lays155_ren:={
 mixed:=by kernel_rfl
 f138:=func218.trans (congrArg some (by kernel_rfl))
 f143:=func219.trans (congrArg some (by kernel_rfl))
 f154:=func203.trans (congrArg some (by kernel_rfl))
 f155:=func166.trans (congrArg some (by kernel_rfl))
 f165:=func171.trans (congrArg some (by kernel_rfl))
 f166:=func172.trans (congrArg some (by kernel_rfl))
 f169:=func173.trans (congrArg some (by kernel_rfl))
 f195:=func267.trans (congrArg some (by kernel_rfl))
 f197:=func129.trans (congrArg some (by kernel_rfl))
 f217:=func97.trans (congrArg some (by kernel_rfl))
 f218:=func268.trans (congrArg some (by kernel_rfl))
 f219:=func160.trans (congrArg some (by kernel_rfl))
 f224:=func200.trans (congrArg some (by kernel_rfl))
 f225:=func199.trans (congrArg some (by kernel_rfl))
 f240:=func210.trans (congrArg some (by kernel_rfl))
 f241:=func211.trans (congrArg some (by kernel_rfl))
 f260:=func161.trans (congrArg some (by kernel_rfl))
 f266:=func126.trans (congrArg some (by kernel_rfl))
 f267:=func201.trans (congrArg some (by kernel_rfl))
 f276:=func262.trans (congrArg some (by kernel_rfl))
 f277:=func263.trans (congrArg some (by kernel_rfl))
 f314:=func238.trans (congrArg some (by kernel_rfl))
 t0:=underlying0
 a0:=isAgg0
 z0:=sizeOf0
 v0:=zeroValue0
 t3:=underlying3
 a3:=isAgg3
 z3:=sizeOf3
 v3:=zeroValue3
 t4:=underlying4
 a4:=isAgg4
 z4:=sizeOf4
 v4:=zeroValue4
 t5:=underlying5
 a5:=isAgg5
 z5:=sizeOf5
 v5:=zeroValue5
 t9:=underlying9
 a9:=isAgg9
 z9:=sizeOf9
 v9:=zeroValue9
 t20:=underlying20
 a20:=isAgg20
 z20:=sizeOf20
 v20:=zeroValue20
 t21:=underlying21
 a21:=isAgg21
 z21:=Tryz.sizeOf21
 v21:=zeroValue21
 t37:=underlying170
 a37:=isAgg170
 z37:=sizeOf170
 v37:=zeroValue170
 t46:=underlying160
 a46:=isAgg160
 z46:=sizeOf160
 v46:=zeroValue160
 t51:=underlying282
 a51:=isAgg282
 z51:=sizeOf282
 v51:=zeroValue282
 t70:=underlying217
 a70:=isAgg217
 z70:=sizeOf217
 v70:=zeroValue217
 t72:=underlying219
 a72:=isAgg219
 z72:=sizeOf219
 v72:=zeroValue219
 t75:=underlying185
 a75:=isAgg185
 z75:=sizeOf185
 v75:=zeroValue185
 t76:=underlying221
 a76:=isAgg221
 z76:=sizeOf221
 v76:=zeroValue221
 t105:=underlying193
 a105:=isAgg193
 z105:=sizeOf193
 v105:=zeroValue193
 t119:=underlying244
 a119:=isAgg244
 z119:=sizeOf244
 t127:=underlying253
 a127:=isAgg253
 z127:=sizeOf253
 v127:=zeroValue253
 t138:=underlying246
 a138:=isAgg246
 z138:=sizeOf246
 v138:=zeroValue246
 t139:=underlying247
 a139:=isAgg247
 z139:=sizeOf247
 v139:=zeroValue247
 t146:=underlying283
 a146:=isAgg283
 z146:=sizeOf283
 v146:=zeroValue283
 t164:=underlying295
 a164:=isAgg295
 z164:=sizeOf295
 v164:=zeroValue295
 g1:=by kernel_rfl
 g3:=by kernel_rfl
 g4:=by kernel_rfl }
theorem Builder_Extra_155:Builder.Extra prog lays155_ren:={
 sizeBuilder:=by kernel_rfl
 liesBuilder:=by kernel_rfl
 t5:=underlying5
 a5:=isAgg5
 z5:=sizeOf5
 v5:=zeroValue5
 infoByte:=by kernel_rfl
 cellsByte:=by kernel_rfl
 sizeByte:=by kernel_rfl
 neB5:=by decide }
def laysC245_ren:Go.Shelf.Ren:=⟨fun|245=>156|279=>192|280=>193|281=>194|282=>195|316=>230|171=>124|205=>231|243=>159|246=>198|283=>234|284=>235|285=>236|286=>237|129=>283|317=>282|318=>284|319=>285|320=>286|337=>309|338=>310|n=>n,fun|9=>9|3=>3|75=>185|167=>238|4=>4|168=>239|210=>275|37=>170|0=>0|127=>253|145=>309|143=>307|2=>2|171=>277|53=>183|5=>5|173=>280|212=>311|51=>282|20=>20|213=>312|46=>160|232=>340|233=>341|80=>125|n=>n,fun|15=>4|16=>5|17=>6|18=>7|19=>8|n=>n⟩
theorem laysC245:Go.Proofs.LaysC.n245 prog laysC245_ren:={
 mixed:=by kernel_rfl
 f129:=func283.trans (congrArg some (by kernel_rfl))
 f171:=func124.trans (congrArg some (by kernel_rfl))
 f205:=func231.trans (congrArg some (by kernel_rfl))
 f243:=func159.trans (congrArg some (by kernel_rfl))
 f245:=func156.trans (congrArg some (by kernel_rfl))
 f246:=func198.trans (congrArg some (by kernel_rfl))
 f279:=func192.trans (congrArg some (by kernel_rfl))
 f280:=func193.trans (congrArg some (by kernel_rfl))
 f281:=func194.trans (congrArg some (by kernel_rfl))
 f282:=func195.trans (congrArg some (by kernel_rfl))
 f283:=func234.trans (congrArg some (by kernel_rfl))
 f284:=func235.trans (congrArg some (by kernel_rfl))
 f285:=func236.trans (congrArg some (by kernel_rfl))
 f286:=func237.trans (congrArg some (by kernel_rfl))
 f316:=func230.trans (congrArg some (by kernel_rfl))
 f317:=func282.trans (congrArg some (by kernel_rfl))
 f318:=func284.trans (congrArg some (by kernel_rfl))
 f319:=func285.trans (congrArg some (by kernel_rfl))
 f320:=func286.trans (congrArg some (by kernel_rfl))
 f337:=func309.trans (congrArg some (by kernel_rfl))
 f338:=func310.trans (congrArg some (by kernel_rfl))
 t0:=underlying0
 a0:=isAgg0
 z0:=sizeOf0
 v0:=zeroValue0
 t2:=underlying2
 a2:=isAgg2
 z2:=sizeOf2
 v2:=zeroValue2
 t3:=underlying3
 a3:=isAgg3
 z3:=sizeOf3
 v3:=zeroValue3
 t4:=underlying4
 a4:=isAgg4
 z4:=sizeOf4
 v4:=zeroValue4
 t5:=underlying5
 a5:=isAgg5
 z5:=sizeOf5
 v5:=zeroValue5
 t9:=underlying9
 a9:=isAgg9
 z9:=sizeOf9
 v9:=zeroValue9
 t20:=underlying20
 a20:=isAgg20
 z20:=sizeOf20
 v20:=zeroValue20
 t37:=underlying170
 a37:=isAgg170
 z37:=sizeOf170
 v37:=zeroValue170
 t46:=underlying160
 a46:=isAgg160
 z46:=sizeOf160
 v46:=zeroValue160
 t51:=underlying282
 a51:=isAgg282
 z51:=sizeOf282
 v51:=zeroValue282
 t53:=underlying183
 a53:=isAgg183
 z53:=sizeOf183
 v53:=zeroValue183
 t75:=underlying185
 a75:=isAgg185
 z75:=sizeOf185
 v75:=zeroValue185
 t127:=underlying253
 a127:=isAgg253
 z127:=sizeOf253
 v127:=zeroValue253
 t143:=underlying307
 a143:=isAgg307
 z143:=sizeOf307
 v143:=zeroValue307
 t145:=underlying309
 a145:=isAgg309
 z145:=sizeOf309
 v145:=zeroValue309
 t167:=underlying238
 a167:=isAgg238
 z167:=sizeOf238
 v167:=zeroValue238
 t168:=underlying239
 a168:=isAgg239
 z168:=sizeOf239
 v168:=zeroValue239
 t171:=underlying277
 a171:=isAgg277
 z171:=sizeOf277
 v171:=zeroValue277
 t173:=underlying280
 a173:=isAgg280
 z173:=sizeOf280
 v173:=zeroValue280
 t210:=underlying275
 a210:=isAgg275
 z210:=sizeOf275
 v210:=zeroValue275
 t212:=underlying311
 a212:=isAgg311
 z212:=sizeOf311
 v212:=zeroValue311
 t213:=underlying312
 a213:=isAgg312
 z213:=sizeOf312
 t232:=underlying340
 a232:=isAgg340
 z232:=sizeOf340
 v232:=zeroValue340
 t233:=underlying341
 a233:=isAgg341
 z233:=sizeOf341
 v233:=zeroValue341
 g15:=by kernel_rfl
 g16:=by kernel_rfl
 g17:=by kernel_rfl
 g18:=by kernel_rfl
 g19:=by kernel_rfl
 t80:=underlying125
 a80:=isAgg125
 z80:=sizeOf125
 v80:=zeroValue125
 i0:=by kernel_rfl
 i2:=by kernel_rfl
 i3:=by kernel_rfl
 i4:=by kernel_rfl
 i5:=by kernel_rfl
 i9:=by kernel_rfl
 i20:=by kernel_rfl
 i37:=by kernel_rfl
 i46:=by kernel_rfl
 i51:=by kernel_rfl
 i53:=by kernel_rfl
 i75:=by kernel_rfl
 i80:=by kernel_rfl
 i127:=by kernel_rfl
 i143:=by kernel_rfl
 i145:=by kernel_rfl
 i167:=by kernel_rfl
 i168:=by kernel_rfl
 i171:=by kernel_rfl
 i173:=by kernel_rfl
 i210:=by kernel_rfl
 i212:=by kernel_rfl
 i232:=by kernel_rfl
 i233:=by kernel_rfl
 m15:=by kernel_rfl
 m16:=by kernel_rfl
 m17:=by kernel_rfl
 m18:=by kernel_rfl
 m19:=by kernel_rfl
 c0:=by kernel_rfl
 c2:=by kernel_rfl
 c3:=by kernel_rfl
 c4:=by kernel_rfl
 c5:=by kernel_rfl
 c9:=by kernel_rfl
 c20:=by kernel_rfl
 c37:=by kernel_rfl
 c46:=by kernel_rfl
 c51:=by kernel_rfl
 c53:=by kernel_rfl
 c75:=by kernel_rfl
 c80:=by kernel_rfl
 c127:=by kernel_rfl
 c143:=by kernel_rfl
 c145:=by kernel_rfl
 c167:=by kernel_rfl
 c168:=by kernel_rfl
 c171:=by kernel_rfl
 c173:=by kernel_rfl
 c210:=by kernel_rfl
 c212:=by kernel_rfl
 c213:=by kernel_rfl
 c232:=by kernel_rfl
 c233:=by kernel_rfl }
end Go.Proofs
set_option maxRecDepth 100000
set_option linter.unusedVariables false
namespace Go.Proofs.YtgkmfhhghcccjaaGreatDoorA.W
open Go Go.Ae
abbrev qn(A B:Type):=A->Option (A⊕B)
abbrev qa:Type:=List UInt8
abbrev qb:Type:=List ((Int×(Int×(Int×(Int×(Int×Int))))))
abbrev qc:Type:=List ((Int×(Int×(Int×Int))))
abbrev qd:Type:=List ((Int×(Int×Int)))
abbrev LqD:Type:=List ((Int×(qa×Int)))
abbrev qh:Ty:=(.pair (.int .i32) (.pair (.int .i32) (.pair (.int .i64) (.pair (.int .i64) (.pair (.int .i64) (.int .i64))))))
abbrev qi:Ty:=(.pair (.int .i32) (.pair (.int .i32) (.pair (.int .i64) (.int .i64))))
abbrev qj:Ty:=(.pair (.int .i32) (.pair (.int .i32) (.int .i32)))
abbrev YqD:Ty:=(.pair (.int .i64) (.pair .str (.int .i64)))
theorem frag_big{P:Program}{np:Nat}{run:(Exit->Act->World->Prop)->Act->World->Prop}{ins:List Sh}{os:Outs}{F:HS ins->Option (HS ins⊕OTy os)}{C:HS ins->Option (OTy os)}(h:FragOk P np run ⟨ins,os,λv=>loopN F ((λ_=>big) v) v⟩)(e:loopN F big=C):FragOk P np run ⟨ins,os,C⟩:=e▸h
def Γl:List (Nat×TI):=[
 (1,⟨.func,1,8,none,[.nilf],false,false⟩),
 (2,⟨.int .i64,1,8,some (.int .i64),[.int .i64 0],false,false⟩),
 (3,⟨.int .i64,1,8,some (.int .i64),[.int .i64 0],false,false⟩),
 (4,⟨.bool,1,1,some (.bool),[.bool false],false,false⟩),
 (5,⟨.int .u8,1,1,some (.byte),[.int .u8 0],false,false⟩),
 (6,⟨.int .u8,1,1,some (.byte),[.int .u8 0],false,false⟩),
 (7,⟨.struct [(0,2),(1,3),(2,4),(3,6)],4,24,some (.pair (.int .i64) (.pair (.int .i64) (.pair .bool .byte))),[.int .i64 0,.int .i64 0,.bool false,.int .u8 0],false,false⟩),
 (8,⟨.struct [(0,2),(1,3),(2,4),(3,6)],4,24,some (.pair (.int .i64) (.pair (.int .i64) (.pair .bool .byte))),[.int .i64 0,.int .i64 0,.bool false,.int .u8 0],false,false⟩),
 (9,⟨.str,1,16,some (.str),[.str []],true,false⟩),
 (10,⟨.str,1,16,some (.str),[.str []],false,false⟩),
 (11,⟨.str,1,16,some (.str),[.str []],false,false⟩),
 (12,⟨.int .u64,1,8,some (.int .u64),[.int .u64 0],false,false⟩),
 (13,⟨.struct [(0,9),(1,12)],2,24,some (.pair .str (.int .u64)),[.str [],.int .u64 0],false,false⟩),
 (14,⟨.struct [(0,9),(1,12)],2,24,some (.pair .str (.int .u64)),[.str [],.int .u64 0],false,false⟩),
 (15,⟨.ptr 348,1,8,none,[.nilp],false,false⟩),
 (16,⟨.ptr 351,1,8,none,[.nilp],false,false⟩),
 (17,⟨.ptr 358,1,8,none,[.nilp],false,false⟩),
 (18,⟨.struct [(0,17)],1,8,none,[.nilp],false,false⟩),
 (19,⟨.struct [(0,17)],1,8,none,[.nilp],false,false⟩),
 (20,⟨.iface,1,16,none,[.nili],false,false⟩),
 (21,⟨.int .i32,1,4,some (.int .i32),[.int .i32 0],false,false⟩),
 (22,⟨.struct [(0,9),(1,9)],2,32,some (.pair .str .str),[.str [],.str []],false,false⟩),
 (23,⟨.struct [(0,9),(1,9)],2,32,some (.pair .str .str),[.str [],.str []],true,false⟩),
 (24,⟨.struct [(0,4),(1,23)],3,40,some (.pair .bool (.pair .str .str)),[.bool false,.str [],.str []],false,false⟩),
 (25,⟨.struct [(0,4),(1,23)],3,40,some (.pair .bool (.pair .str .str)),[.bool false,.str [],.str []],true,false⟩),
 (26,⟨.slice 25,1,24,some (.lst (.pair .bool (.pair .str .str))),[.nils],false,false⟩),
 (27,⟨.slice 9,1,24,some (.lst .str),[.nils],false,false⟩),
 (28,⟨.struct [(0,4),(1,4),(2,4),(3,3),(4,3)],5,24,some (.pair .bool (.pair .bool (.pair .bool (.pair (.int .i64) (.int .i64))))),[.bool false,.bool false,.bool false,.int .i64 0,.int .i64 0],false,false⟩),
 (29,⟨.struct [(0,4),(1,4),(2,4),(3,3),(4,3)],5,24,some (.pair .bool (.pair .bool (.pair .bool (.pair (.int .i64) (.int .i64))))),[.bool false,.bool false,.bool false,.int .i64 0,.int .i64 0],false,false⟩),
 (30,⟨.struct [(0,25),(3,26),(4,27),(5,29),(10,3)],11,120,some (.pair (.pair .bool (.pair .str .str)) (.pair (.lst (.pair .bool (.pair .str .str))) (.pair (.lst .str) (.pair (.pair .bool (.pair .bool (.pair .bool (.pair (.int .i64) (.int .i64))))) (.int .i64))))),[.bool false,.str [],.str [],.nils,.nils,.bool false,.bool false,.bool false,.int .i64 0,.int .i64 0,.int .i64 0],false,false⟩),
 (31,⟨.struct [(0,25),(3,26),(4,27),(5,29),(10,3)],11,120,some (.pair (.pair .bool (.pair .str .str)) (.pair (.lst (.pair .bool (.pair .str .str))) (.pair (.lst .str) (.pair (.pair .bool (.pair .bool (.pair .bool (.pair (.int .i64) (.int .i64))))) (.int .i64))))),[.bool false,.str [],.str [],.nils,.nils,.bool false,.bool false,.bool false,.int .i64 0,.int .i64 0,.int .i64 0],false,false⟩),
 (32,⟨.slice 34,1,24,some (.lst (.pair (.int .i64) (.lst .str))),[.nils],false,false⟩),
 (33,⟨.struct [(0,3),(1,27)],2,32,some (.pair (.int .i64) (.lst .str)),[.int .i64 0,.nils],false,false⟩),
 (34,⟨.struct [(0,3),(1,27)],2,32,some (.pair (.int .i64) (.lst .str)),[.int .i64 0,.nils],false,false⟩),
 (35,⟨.func,1,8,none,[.nilf],false,false⟩),
 (36,⟨.func,1,8,none,[.nilf],false,false⟩),
 (37,⟨.func,1,8,none,[.nilf],false,false⟩),
 (38,⟨.func,1,8,none,[.nilf],false,false⟩),
 (39,⟨.ptr 81,1,8,none,[.nilp],false,false⟩),
 (40,⟨.func,1,8,none,[.nilf],false,false⟩),
 (41,⟨.slice 113,1,24,some (.lst qh),[.nils],false,false⟩),
 (42,⟨.slice 115,1,24,some (.lst qi),[.nils],false,false⟩),
 (43,⟨.slice 117,1,24,some (.lst qj),[.nils],false,false⟩),
 (44,⟨.map 21 88,1,8,none,[.nilm],false,false⟩),
 (45,⟨.map 90 21,1,8,none,[.nilm],false,false⟩),
 (46,⟨.struct [(0,41),(1,42),(2,43),(3,44),(4,45)],5,88,none,[.nils,.nils,.nils,.nilm,.nilm],false,false⟩),
 (47,⟨.struct [(0,41),(1,42),(2,43),(3,44),(4,45)],5,88,none,[.nils,.nils,.nils,.nilm,.nilm],false,false⟩),
 (48,⟨.func,1,8,none,[.nilf],false,false⟩),
 (49,⟨.func,1,8,none,[.nilf],false,false⟩),
 (50,⟨.slice 53,1,24,some (.lst (.pair (.int .i64) .str)),[.nils],false,false⟩),
 (51,⟨.func,1,8,none,[.nilf],false,false⟩),
 (52,⟨.struct [(0,3),(1,9)],2,24,some (.pair (.int .i64) .str),[.int .i64 0,.str []],false,false⟩),
 (53,⟨.struct [(0,3),(1,9)],2,24,some (.pair (.int .i64) .str),[.int .i64 0,.str []],true,false⟩),
 (55,⟨.func,1,8,none,[.nilf],false,false⟩),
 (56,⟨.func,1,8,none,[.nilf],false,false⟩),
 (57,⟨.ptr 95,1,8,none,[.nilp],false,false⟩),
 (58,⟨.func,1,8,none,[.nilf],false,false⟩),
 (59,⟨.func,1,8,none,[.nilf],false,false⟩),
 (60,⟨.func,1,8,none,[.nilf],false,false⟩),
 (61,⟨.func,1,8,none,[.nilf],false,false⟩),
 (62,⟨.func,1,8,none,[.nilf],false,false⟩),
 (63,⟨.func,1,8,none,[.nilf],false,false⟩),
 (64,⟨.func,1,8,none,[.nilf],false,false⟩),
 (65,⟨.func,1,8,none,[.nilf],false,false⟩),
 (66,⟨.struct [(0,4),(1,4),(2,3)],3,16,some (.pair .bool (.pair .bool (.int .i64))),[.bool false,.bool false,.int .i64 0],false,false⟩),
 (67,⟨.struct [(0,4),(1,4),(2,3)],3,16,some (.pair .bool (.pair .bool (.int .i64))),[.bool false,.bool false,.int .i64 0],true,false⟩),
 (68,⟨.func,1,8,none,[.nilf],false,false⟩),
 (69,⟨.int .i64,1,8,some (.int .i64),[.int .i64 0],false,false⟩),
 (70,⟨.func,1,8,none,[.nilf],false,false⟩),
 (71,⟨.struct [(0,3),(1,9),(2,25),(5,3),(6,4),(7,4)],8,80,some (.pair (.int .i64) (.pair .str (.pair (.pair .bool (.pair .str .str)) (.pair (.int .i64) (.pair .bool .bool))))),[.int .i64 0,.str [],.bool false,.str [],.str [],.int .i64 0,.bool false,.bool false],false,false⟩),
 (72,⟨.struct [(0,3),(1,9),(2,25),(5,3),(6,4),(7,4)],8,80,some (.pair (.int .i64) (.pair .str (.pair (.pair .bool (.pair .str .str)) (.pair (.int .i64) (.pair .bool .bool))))),[.int .i64 0,.str [],.bool false,.str [],.str [],.int .i64 0,.bool false,.bool false],false,false⟩),
 (74,⟨.func,1,8,none,[.nilf],false,false⟩),
 (75,⟨.func,1,8,none,[.nilf],false,false⟩),
 (76,⟨.struct [(0,3),(1,25),(4,25),(7,4),(8,4),(9,3)],10,104,some (.pair (.int .i64) (.pair (.pair .bool (.pair .str .str)) (.pair (.pair .bool (.pair .str .str)) (.pair .bool (.pair .bool (.int .i64)))))),[.int .i64 0,.bool false,.str [],.str [],.bool false,.str [],.str [],.bool false,.bool false,.int .i64 0],false,false⟩),
 (77,⟨.struct [(0,3),(1,25),(4,25),(7,4),(8,4),(9,3)],10,104,some (.pair (.int .i64) (.pair (.pair .bool (.pair .str .str)) (.pair (.pair .bool (.pair .str .str)) (.pair .bool (.pair .bool (.int .i64)))))),[.int .i64 0,.bool false,.str [],.str [],.bool false,.str [],.str [],.bool false,.bool false,.int .i64 0],false,false⟩),
 (78,⟨.func,1,8,none,[.nilf],false,false⟩),
 (79,⟨.func,1,8,none,[.nilf],false,false⟩),
 (80,⟨.struct [(0,47),(5,9),(6,31),(17,25),(20,3),(21,4),(22,3),(23,3),(24,67),(27,77)],37,416,none,[.nils,.nils,.nils,.nilm,.nilm,.str [],.bool false,.str [],.str [],.nils,.nils,.bool false,.bool false,.bool false,.int .i64 0,.int .i64 0,.int .i64 0,.bool false,.str [],.str [],.int .i64 0,.bool false,.int .i64 0,.int .i64 0,.bool false,.bool false,.int .i64 0,.int .i64 0,.bool false,.str [],.str [],.bool false,.str [],.str [],.bool false,.bool false,.int .i64 0],false,false⟩),
 (81,⟨.struct [(0,47),(5,9),(6,31),(17,25),(20,3),(21,4),(22,3),(23,3),(24,67),(27,77)],37,416,none,[.nils,.nils,.nils,.nilm,.nilm,.str [],.bool false,.str [],.str [],.nils,.nils,.bool false,.bool false,.bool false,.int .i64 0,.int .i64 0,.int .i64 0,.bool false,.str [],.str [],.int .i64 0,.bool false,.int .i64 0,.int .i64 0,.bool false,.bool false,.int .i64 0,.int .i64 0,.bool false,.str [],.str [],.bool false,.str [],.str [],.bool false,.bool false,.int .i64 0],false,false⟩),
 (82,⟨.func,1,8,none,[.nilf],false,false⟩),
 (83,⟨.func,1,8,none,[.nilf],false,false⟩),
 (84,⟨.func,1,8,none,[.nilf],false,false⟩),
 (85,⟨.slice 88,1,24,some (.lst (.pair (.int .i32) (.pair (.int .i32) (.pair (.int .i32) (.pair .bool .bool))))),[.nils],false,false⟩),
 (86,⟨.func,1,8,none,[.nilf],false,false⟩),
 (87,⟨.struct [(0,21),(1,21),(2,21),(3,4),(4,4)],5,16,some (.pair (.int .i32) (.pair (.int .i32) (.pair (.int .i32) (.pair .bool .bool)))),[.int .i32 0,.int .i32 0,.int .i32 0,.bool false,.bool false],false,false⟩),
 (88,⟨.struct [(0,21),(1,21),(2,21),(3,4),(4,4)],5,16,some (.pair (.int .i32) (.pair (.int .i32) (.pair (.int .i32) (.pair .bool .bool)))),[.int .i32 0,.int .i32 0,.int .i32 0,.bool false,.bool false],false,false⟩),
 (89,⟨.struct [(0,21),(1,21)],2,8,some (.pair (.int .i32) (.int .i32)),[.int .i32 0,.int .i32 0],false,false⟩),
 (90,⟨.struct [(0,21),(1,21)],2,8,some (.pair (.int .i32) (.int .i32)),[.int .i32 0,.int .i32 0],false,false⟩),
 (91,⟨.func,1,8,none,[.nilf],false,false⟩),
 (92,⟨.func,1,8,none,[.nilf],false,false⟩),
 (93,⟨.array 6 51,6,48,none,[.nilf,.nilf,.nilf,.nilf,.nilf,.nilf],false,false⟩),
 (94,⟨.struct [(0,27),(1,3),(2,3),(3,3),(4,4)],5,56,some (.pair (.lst .str) (.pair (.int .i64) (.pair (.int .i64) (.pair (.int .i64) .bool)))),[.nils,.int .i64 0,.int .i64 0,.int .i64 0,.bool false],false,false⟩),
 (95,⟨.struct [(0,27),(1,3),(2,3),(3,3),(4,4)],5,56,some (.pair (.lst .str) (.pair (.int .i64) (.pair (.int .i64) (.pair (.int .i64) .bool)))),[.nils,.int .i64 0,.int .i64 0,.int .i64 0,.bool false],false,false⟩),
 (97,⟨.func,1,8,none,[.nilf],false,false⟩),
 (98,⟨.func,1,8,none,[.nilf],false,false⟩),
 (99,⟨.func,1,8,none,[.nilf],false,false⟩),
 (100,⟨.func,1,8,none,[.nilf],false,false⟩),
 (101,⟨.slice 104,1,24,some (.lst (.pair .str .str)),[.nils],false,false⟩),
 (102,⟨.func,1,8,none,[.nilf],false,false⟩),
 (103,⟨.struct [(0,9),(1,9)],2,32,some (.pair .str .str),[.str [],.str []],false,false⟩),
 (104,⟨.struct [(0,9),(1,9)],2,32,some (.pair .str .str),[.str [],.str []],false,false⟩),
 (105,⟨.func,1,8,none,[.nilf],false,false⟩),
 (106,⟨.func,1,8,none,[.nilf],false,false⟩),
 (107,⟨.func,1,8,none,[.nilf],false,false⟩),
 (108,⟨.array 8 107,8,64,none,[.nilf,.nilf,.nilf,.nilf,.nilf,.nilf,.nilf,.nilf],false,false⟩),
 (109,⟨.func,1,8,none,[.nilf],false,false⟩),
 (110,⟨.ptr 72,1,8,none,[.nilp],false,false⟩),
 (111,⟨.func,1,8,none,[.nilf],false,false⟩),
 (112,⟨.struct [(0,21),(1,21),(2,3),(3,3),(4,3),(5,3)],6,40,some qh,[.int .i32 0,.int .i32 0,.int .i64 0,.int .i64 0,.int .i64 0,.int .i64 0],false,false⟩),
 (113,⟨.struct [(0,21),(1,21),(2,3),(3,3),(4,3),(5,3)],6,40,some qh,[.int .i32 0,.int .i32 0,.int .i64 0,.int .i64 0,.int .i64 0,.int .i64 0],false,false⟩),
 (114,⟨.struct [(0,21),(1,21),(2,3),(3,3)],4,24,some qi,[.int .i32 0,.int .i32 0,.int .i64 0,.int .i64 0],false,false⟩),
 (115,⟨.struct [(0,21),(1,21),(2,3),(3,3)],4,24,some qi,[.int .i32 0,.int .i32 0,.int .i64 0,.int .i64 0],false,false⟩),
 (116,⟨.struct [(0,21),(1,21),(2,21)],3,12,some qj,[.int .i32 0,.int .i32 0,.int .i32 0],false,false⟩),
 (117,⟨.struct [(0,21),(1,21),(2,21)],3,12,some qj,[.int .i32 0,.int .i32 0,.int .i32 0],false,false⟩),
 (118,⟨.func,1,8,none,[.nilf],false,false⟩),
 (119,⟨.func,1,8,none,[.nilf],false,false⟩),
 (120,⟨.func,1,8,none,[.nilf],false,false⟩),
 (121,⟨.func,1,8,none,[.nilf],false,false⟩),
 (122,⟨.func,1,8,none,[.nilf],false,false⟩),
 (123,⟨.struct [(0,25),(3,25),(6,4),(7,4),(8,3)],9,96,some (.pair (.pair .bool (.pair .str .str)) (.pair (.pair .bool (.pair .str .str)) (.pair .bool (.pair .bool (.int .i64))))),[.bool false,.str [],.str [],.bool false,.str [],.str [],.bool false,.bool false,.int .i64 0],false,false⟩),
 (124,⟨.struct [(0,25),(3,25),(6,4),(7,4),(8,3)],9,96,some (.pair (.pair .bool (.pair .str .str)) (.pair (.pair .bool (.pair .str .str)) (.pair .bool (.pair .bool (.int .i64))))),[.bool false,.str [],.str [],.bool false,.str [],.str [],.bool false,.bool false,.int .i64 0],false,false⟩),
 (125,⟨.func,1,8,none,[.nilf],false,false⟩),
 (126,⟨.func,1,8,none,[.nilf],false,false⟩),
 (127,⟨.func,1,8,none,[.nilf],false,false⟩),
 (128,⟨.slice 21,1,24,some (.lst (.int .i32)),[.nils],false,true⟩),
 (130,⟨.func,1,8,none,[.nilf],false,false⟩),
 (131,⟨.func,1,8,none,[.nilf],false,false⟩),
 (133,⟨.func,1,8,none,[.nilf],false,false⟩),
 (134,⟨.func,1,8,none,[.nilf],false,false⟩),
 (135,⟨.func,1,8,none,[.nilf],false,false⟩),
 (136,⟨.func,1,8,none,[.nilf],false,false⟩),
 (137,⟨.slice 141,1,24,some (.lst YqD),[.nils],false,false⟩),
 (139,⟨.func,1,8,none,[.nilf],false,false⟩),
 (140,⟨.struct [(0,3),(1,9),(2,3)],3,32,some YqD,[.int .i64 0,.str [],.int .i64 0],false,false⟩),
 (141,⟨.struct [(0,3),(1,9),(2,3)],3,32,some YqD,[.int .i64 0,.str [],.int .i64 0],false,false⟩),
 (143,⟨.func,1,8,none,[.nilf],false,false⟩),
 (144,⟨.array 8 9,8,128,none,[.str [],.str [],.str [],.str [],.str [],.str [],.str [],.str []],false,false⟩),
 (145,⟨.func,1,8,none,[.nilf],false,false⟩),
 (146,⟨.func,1,8,none,[.nilf],false,false⟩),
 (147,⟨.func,1,8,none,[.nilf],false,false⟩),
 (148,⟨.func,1,8,none,[.nilf],false,false⟩),
 (149,⟨.func,1,8,none,[.nilf],false,false⟩),
 (150,⟨.func,1,8,none,[.nilf],false,false⟩),
 (151,⟨.func,1,8,none,[.nilf],false,false⟩),
 (152,⟨.func,1,8,none,[.nilf],false,false⟩),
 (154,⟨.func,1,8,none,[.nilf],false,false⟩),
 (155,⟨.func,1,8,none,[.nilf],false,false⟩),
 (156,⟨.func,1,8,none,[.nilf],false,false⟩),
 (157,⟨.func,1,8,none,[.nilf],false,false⟩),
 (159,⟨.func,1,8,none,[.nilf],false,false⟩),
 (160,⟨.int .u64,1,8,some (.int .u64),[.int .u64 0],false,false⟩),
 (161,⟨.func,1,8,none,[.nilf],false,false⟩),
 (162,⟨.func,1,8,none,[.nilf],false,false⟩),
 (163,⟨.func,1,8,none,[.nilf],false,false⟩),
 (167,⟨.func,1,8,none,[.nilf],false,false⟩),
 (168,⟨.func,1,8,none,[.nilf],false,false⟩),
 (169,⟨.ptr 165,1,8,none,[.nilp],false,false⟩),
 (170,⟨.slice 5,1,24,some (.lst .byte),[.nils],false,false⟩),
 (171,⟨.func,1,8,none,[.nilf],false,false⟩),
 (172,⟨.func,1,8,none,[.nilf],false,false⟩),
 (173,⟨.func,1,8,none,[.nilf],false,false⟩),
 (174,⟨.ptr 176,1,8,none,[.nilp],false,false⟩),
 (175,⟨.struct [(0,9),(1,3),(2,3),(3,69)],4,40,some (.pair .str (.pair (.int .i64) (.pair (.int .i64) (.int .i64)))),[.str [],.int .i64 0,.int .i64 0,.int .i64 0],false,false⟩),
 (176,⟨.struct [(0,9),(1,3),(2,3),(3,69)],4,40,some (.pair .str (.pair (.int .i64) (.pair (.int .i64) (.int .i64)))),[.str [],.int .i64 0,.int .i64 0,.int .i64 0],false,false⟩),
 (177,⟨.func,1,8,none,[.nilf],false,false⟩),
 (179,⟨.func,1,8,none,[.nilf],false,false⟩),
 (181,⟨.func,1,8,none,[.nilf],false,false⟩),
 (182,⟨.func,1,8,none,[.nilf],false,false⟩),
 (183,⟨.int .u64,1,8,some (.int .u64),[.int .u64 0],false,false⟩),
 (184,⟨.iface,1,16,none,[.nili],false,false⟩),
 (185,⟨.iface,1,16,none,[.nili],false,false⟩),
 (187,⟨.func,1,8,none,[.nilf],false,false⟩),
 (189,⟨.func,1,8,none,[.nilf],false,false⟩),
 (190,⟨.func,1,8,none,[.nilf],false,false⟩),
 (191,⟨.func,1,8,none,[.nilf],false,false⟩),
 (192,⟨.func,1,8,none,[.nilf],false,false⟩),
 (194,⟨.func,1,8,none,[.nilf],false,false⟩),
 (195,⟨.func,1,8,none,[.nilf],false,false⟩),
 (196,⟨.func,1,8,none,[.nilf],false,false⟩),
 (197,⟨.func,1,8,none,[.nilf],false,false⟩),
 (199,⟨.func,1,8,none,[.nilf],false,false⟩),
 (200,⟨.func,1,8,none,[.nilf],false,false⟩),
 (201,⟨.func,1,8,none,[.nilf],false,false⟩),
 (202,⟨.func,1,8,none,[.nilf],false,false⟩),
 (203,⟨.func,1,8,none,[.nilf],false,false⟩),
 (204,⟨.func,1,8,none,[.nilf],false,false⟩),
 (206,⟨.func,1,8,none,[.nilf],false,false⟩),
 (207,⟨.func,1,8,none,[.nilf],false,false⟩),
 (208,⟨.func,1,8,none,[.nilf],false,false⟩),
 (209,⟨.func,1,8,none,[.nilf],false,false⟩),
 (210,⟨.func,1,8,none,[.nilf],false,false⟩),
 (211,⟨.func,1,8,none,[.nilf],false,false⟩),
 (212,⟨.func,1,8,none,[.nilf],false,false⟩),
 (213,⟨.func,1,8,none,[.nilf],false,false⟩),
 (214,⟨.func,1,8,none,[.nilf],false,false⟩),
 (215,⟨.func,1,8,none,[.nilf],false,false⟩),
 (216,⟨.func,1,8,none,[.nilf],false,false⟩),
 (217,⟨.ptr 219,1,8,none,[.nilp],false,false⟩),
 (218,⟨.struct [(0,217),(1,170)],2,32,none,[.nilp,.nils],false,false⟩),
 (219,⟨.struct [(0,217),(1,170)],2,32,none,[.nilp,.nils],false,false⟩),
 (220,⟨.func,1,8,none,[.nilf],false,false⟩),
 (222,⟨.func,1,8,none,[.nilf],false,false⟩),
 (223,⟨.func,1,8,none,[.nilf],false,false⟩),
 (224,⟨.func,1,8,none,[.nilf],false,false⟩),
 (225,⟨.func,1,8,none,[.nilf],false,false⟩),
 (227,⟨.func,1,8,none,[.nilf],false,false⟩),
 (228,⟨.func,1,8,none,[.nilf],false,false⟩),
 (229,⟨.func,1,8,none,[.nilf],false,false⟩),
 (230,⟨.func,1,8,none,[.nilf],false,false⟩),
 (231,⟨.func,1,8,none,[.nilf],false,false⟩),
 (232,⟨.func,1,8,none,[.nilf],false,false⟩),
 (233,⟨.func,1,8,none,[.nilf],false,false⟩),
 (234,⟨.array 8 3,8,64,none,[.int .i64 0,.int .i64 0,.int .i64 0,.int .i64 0,.int .i64 0,.int .i64 0,.int .i64 0,.int .i64 0],false,false⟩),
 (235,⟨.array 8 3,8,64,none,[.int .i64 0,.int .i64 0,.int .i64 0,.int .i64 0,.int .i64 0,.int .i64 0,.int .i64 0,.int .i64 0],false,false⟩),
 (236,⟨.func,1,8,none,[.nilf],false,false⟩),
 (237,⟨.func,1,8,none,[.nilf],false,false⟩),
 (238,⟨.int .i64,1,8,some (.int .i64),[.int .i64 0],true,false⟩),
 (239,⟨.ptr 275,1,8,none,[.nilp],false,false⟩),
 (240,⟨.func,1,8,none,[.nilf],false,false⟩),
 (241,⟨.func,1,8,none,[.nilf],false,false⟩),
 (242,⟨.func,1,8,none,[.nilf],false,false⟩),
 (243,⟨.func,1,8,none,[.nilf],false,false⟩),
 (245,⟨.struct [(0,5),(1,5)],2,2,some (.pair .byte .byte),[.int .u8 0,.int .u8 0],false,false⟩),
 (246,⟨.struct [(0,5),(1,5)],2,2,some (.pair .byte .byte),[.int .u8 0,.int .u8 0],false,false⟩),
 (247,⟨.array 16 246,32,32,none,List.replicate 32 (.int .u8 0),false,false⟩),
 (248,⟨.func,1,8,none,[.nilf],false,false⟩),
 (249,⟨.func,1,8,none,[.nilf],false,false⟩),
 (250,⟨.func,1,8,none,[.nilf],false,false⟩),
 (252,⟨.func,1,8,none,[.nilf],false,false⟩),
 (253,⟨.ptr 5,1,8,none,[.nilp],false,false⟩),
 (254,⟨.func,1,8,none,[.nilf],false,false⟩),
 (255,⟨.ptr 257,1,8,none,[.nilp],false,false⟩),
 (256,⟨.struct [(0,137),(1,3),(2,23)],4,64,some (.pair (.lst YqD) (.pair (.int .i64) (.pair .str .str))),[.nils,.int .i64 0,.str [],.str []],false,false⟩),
 (257,⟨.struct [(0,137),(1,3),(2,23)],4,64,some (.pair (.lst YqD) (.pair (.int .i64) (.pair .str .str))),[.nils,.int .i64 0,.str [],.str []],false,false⟩),
 (258,⟨.slice 35,1,24,none,[.nils],false,false⟩),
 (259,⟨.func,1,8,none,[.nilf],false,false⟩),
 (260,⟨.func,1,8,none,[.nilf],false,false⟩),
 (261,⟨.func,1,8,none,[.nilf],false,false⟩),
 (262,⟨.struct [(0,47)],5,88,none,[.nils,.nils,.nils,.nilm,.nilm],false,false⟩),
 (263,⟨.struct [(0,47)],5,88,none,[.nils,.nils,.nils,.nilm,.nilm],false,false⟩),
 (264,⟨.func,1,8,none,[.nilf],false,false⟩),
 (265,⟨.func,1,8,none,[.nilf],false,false⟩),
 (266,⟨.func,1,8,none,[.nilf],false,false⟩),
 (267,⟨.struct [(0,47),(5,128),(6,3)],7,120,none,[.nils,.nils,.nils,.nilm,.nilm,.nils,.int .i64 0],false,false⟩),
 (268,⟨.struct [(0,47),(5,128),(6,3)],7,120,none,[.nils,.nils,.nils,.nilm,.nilm,.nils,.int .i64 0],false,false⟩),
 (270,⟨.func,1,8,none,[.nilf],false,false⟩),
 (271,⟨.func,1,8,none,[.nilf],false,false⟩),
 (272,⟨.func,1,8,none,[.nilf],false,false⟩),
 (273,⟨.func,1,8,none,[.nilf],false,false⟩),
 (274,⟨.struct [(0,9),(1,9),(2,185)],3,48,none,[.str [],.str [],.nili],false,false⟩),
 (275,⟨.struct [(0,9),(1,9),(2,185)],3,48,none,[.str [],.str [],.nili],false,false⟩),
 (276,⟨.func,1,8,none,[.nilf],false,false⟩),
 (277,⟨.array 24 5,24,24,none,List.replicate 24 (.int .u8 0),false,false⟩),
 (278,⟨.func,1,8,none,[.nilf],false,false⟩),
 (279,⟨.func,1,8,none,[.nilf],false,false⟩),
 (281,⟨.func,1,8,none,[.nilf],false,false⟩),
 (282,⟨.int .u32,1,4,some (.int .u32),[.int .u32 0],false,false⟩),
 (284,⟨.func,1,8,none,[.nilf],false,false⟩),
 (285,⟨.func,1,8,none,[.nilf],false,false⟩),
 (286,⟨.func,1,8,none,[.nilf],false,false⟩),
 (287,⟨.func,1,8,none,[.nilf],false,false⟩),
 (288,⟨.func,1,8,none,[.nilf],false,false⟩),
 (289,⟨.struct [(0,69),(1,35)],2,16,none,[.int .i64 0,.nilf],false,false⟩),
 (290,⟨.struct [(0,69),(1,35)],2,16,none,[.int .i64 0,.nilf],false,false⟩),
 (291,⟨.func,1,8,none,[.nilf],false,false⟩),
 (293,⟨.func,1,8,none,[.nilf],false,false⟩),
 (294,⟨.func,1,8,none,[.nilf],false,false⟩),
 (296,⟨.func,1,8,none,[.nilf],false,false⟩),
 (297,⟨.func,1,8,none,[.nilf],false,false⟩),
 (298,⟨.func,1,8,none,[.nilf],false,false⟩),
 (299,⟨.func,1,8,none,[.nilf],false,false⟩),
 (300,⟨.func,1,8,none,[.nilf],false,false⟩),
 (301,⟨.func,1,8,none,[.nilf],false,false⟩),
 (302,⟨.func,1,8,none,[.nilf],false,false⟩),
 (303,⟨.map 21 265,1,8,none,[.nilm],false,false⟩),
 (304,⟨.func,1,8,none,[.nilf],false,false⟩),
 (305,⟨.func,1,8,none,[.nilf],false,false⟩),
 (306,⟨.func,1,8,none,[.nilf],false,false⟩),
 (307,⟨.ptr 309,1,8,none,[.nilp],false,false⟩),
 (308,⟨.struct [(0,9)],1,16,some (.str),[.str []],false,false⟩),
 (309,⟨.struct [(0,9)],1,16,some (.str),[.str []],false,false⟩),
 (310,⟨.func,1,8,none,[.nilf],false,false⟩),
 (311,⟨.array 20 183,20,160,none,[.int .u64 0,.int .u64 0,.int .u64 0,.int .u64 0,.int .u64 0,.int .u64 0,.int .u64 0,.int .u64 0,.int .u64 0,.int .u64 0,.int .u64 0,.int .u64 0,.int .u64 0,.int .u64 0,.int .u64 0,.int .u64 0,.int .u64 0,.int .u64 0,.int .u64 0,.int .u64 0],false,false⟩),
 (312,⟨.array 65 5,65,65,none,List.replicate 65 (.int .u8 0),false,false⟩),
 (313,⟨.func,1,8,none,[.nilf],false,false⟩),
 (314,⟨.func,1,8,none,[.nilf],false,false⟩),
 (316,⟨.func,1,8,none,[.nilf],false,false⟩),
 (317,⟨.slice 290,1,24,none,[.nils],false,false⟩),
 (319,⟨.func,1,8,none,[.nilf],false,false⟩),
 (320,⟨.func,1,8,none,[.nilf],false,false⟩),
 (321,⟨.func,1,8,none,[.nilf],false,false⟩),
 (322,⟨.func,1,8,none,[.nilf],false,false⟩),
 (323,⟨.func,1,8,none,[.nilf],false,false⟩),
 (324,⟨.func,1,8,none,[.nilf],false,false⟩),
 (325,⟨.func,1,8,none,[.nilf],false,false⟩),
 (327,⟨.func,1,8,none,[.nilf],false,false⟩),
 (328,⟨.func,1,8,none,[.nilf],false,false⟩),
 (329,⟨.func,1,8,none,[.nilf],false,false⟩),
 (330,⟨.func,1,8,none,[.nilf],false,false⟩),
 (331,⟨.func,1,8,none,[.nilf],false,false⟩),
 (332,⟨.func,1,8,none,[.nilf],false,false⟩),
 (333,⟨.func,1,8,none,[.nilf],false,false⟩),
 (334,⟨.func,1,8,none,[.nilf],false,false⟩),
 (335,⟨.func,1,8,none,[.nilf],false,false⟩),
 (336,⟨.func,1,8,none,[.nilf],false,false⟩),
 (337,⟨.func,1,8,none,[.nilf],false,false⟩),
 (338,⟨.func,1,8,none,[.nilf],false,false⟩),
 (339,⟨.func,1,8,none,[.nilf],false,false⟩),
 (340,⟨.array 32 5,32,32,none,List.replicate 32 (.int .u8 0),false,false⟩),
 (341,⟨.array 64 5,64,64,none,List.replicate 64 (.int .u8 0),false,false⟩),
 (342,⟨.func,1,8,none,[.nilf],false,false⟩),
 (343,⟨.func,1,8,none,[.nilf],false,false⟩),
 (344,⟨.func,1,8,none,[.nilf],false,false⟩),
 (345,⟨.slice 128,1,24,some (.lst (.lst (.int .i32))),[.nils],false,false⟩),
 (346,⟨.func,1,8,none,[.nilf],false,false⟩),
 (347,⟨.struct [(0,17),(1,17),(2,17),(3,9)],4,40,none,[.nilp,.nilp,.nilp,.str []],false,false⟩),
 (348,⟨.struct [(0,17),(1,17),(2,17),(3,9)],4,40,none,[.nilp,.nilp,.nilp,.str []],false,false⟩),
 (349,⟨.array 0 16,0,0,none,[],false,false⟩),
 (350,⟨.struct [(0,349)],0,0,none,[],false,false⟩),
 (351,⟨.struct [(0,349)],0,0,none,[],false,false⟩),
 (352,⟨.int .u8,1,1,some (.byte),[.int .u8 0],false,false⟩),
 (353,⟨.int .u8,1,1,some (.byte),[.int .u8 0],false,false⟩),
 (354,⟨.func,1,8,none,[.nilf],false,false⟩),
 (355,⟨.int .i32,1,4,some (.int .i32),[.int .i32 0],false,false⟩),
 (356,⟨.int .i32,1,4,some (.int .i32),[.int .i32 0],false,false⟩),
 (357,⟨.struct [(0,12),(1,12),(2,282),(3,352),(4,5),(5,5),(6,353),(7,354),(8,253),(9,355),(10,356)],11,48,none,[.int .u64 0,.int .u64 0,.int .u32 0,.int .u8 0,.int .u8 0,.int .u8 0,.int .u8 0,.nilf,.nilp,.int .i32 0,.int .i32 0],false,false⟩),
 (358,⟨.struct [(0,12),(1,12),(2,282),(3,352),(4,5),(5,5),(6,353),(7,354),(8,253),(9,355),(10,356)],11,48,none,[.int .u64 0,.int .u64 0,.int .u32 0,.int .u8 0,.int .u8 0,.int .u8 0,.int .u8 0,.nilf,.nilp,.int .i32 0,.int .i32 0],false,false⟩)]
def Γ:Tys:=λt=>Ae.look t Γl
theorem hΓ:GOk prog Γ:=gok_of (by kernel_rfl)
theorem hm:prog.follows .mixedOrders=true:=by kernel_rfl
def zv:List Sh:=[.agg 5,.lst qh,.lst qi,.lst qj,.opq 0,.opq 1,.int .i32]
def Lo1:Outs:=[(.ret,[.tuple 2,.agg 5,.int .i32,.int .i32,.int .i32,.bool,.bool,.bool])]
def Li2:List Sh:=[.nils,.int .i64]
def Lo3:Outs:=[(.ret,[.row 0,.orow 21 (.int .i32)])]
def Li4:List Sh:=[.lst (.int .i32)]
def Li5:List Sh:=[.agg 5,.lst qh,.lst qi,.lst qj,.opq 0,.opq 1,.int .i32,.int .i32]
def Lo6:Outs:=[(.ret,[.tuple 2,.int .i32,.bool])]
def vj:List Sh:=[]
def Lo8:Outs:=[(.ret,[.opq 2])]
def zw:List Sh:=[.agg 5,.lst qh,.lst qi,.lst qj,.opq 0,.opq 1,.lst (.int .i32)]
def qf:Outs:=[(.ret,[.int .i64])]
def j0l:List Sh:=[.row 0,.int .i64,.row 1,.orow 21 (.int .i32),.orow 21 (.int .i32)]
def j0n:Outs:=[(.ret,[.row 2,.odead,.odead,.orow 21 (.int .i32)])]
def zi:List Sh:=[.str,.int .u8]
def j0o:Outs:=[(.ret,[.agg 5,.lst qh,.lst qi,.lst qj,.opq 0,.opq 1])]
def zz:List Sh:=[.lst .str]
def zk:Outs:=[(.ret,[.lst .str])]
def j0m:List Sh:=[.str,.str,.int .i64,.int .i64,.iface 238,.int .i64]
def j0p:Outs:=[(.ret,[.iface 239,.top])]
def jg:List Sh:=[.agg 5,.lst qh,.lst qi,.lst qj,.opq 0,.opq 1,.str]
def q8b:Outs:=[(.ret,[.tuple 3,.str,.str,.int .i64])]
def za:List Sh:=[.int .i64]
def jp:Outs:=[(.ret,[.str])]
def jb:List Sh:=[.str,.str]
def q9h:Outs:=[(.ret,[.lst qh])]
def q9i:Outs:=[(.ret,[.lst qi])]
def q9j:Outs:=[(.ret,[.lst qj])]
def q9k:Outs:=[(.ret,[.lst (.pair (.int .i32) (.pair (.int .i32) (.pair (.int .i32) (.pair .bool .bool))))])]
def zj:List Sh:=[.int .u8]
def q9l:Outs:=[(.ret,[.tuple 2,.int .i64,.int .i32])]
def q8h:List Sh := .int .u8::tp 18 (.bool::tp 19 ([]))
def kw:Outs:=[(.ret,.top :: .top :: .int .i64 :: .int .i32::tp 35 ([])),(.normal,tp 39 ([]))]
def q8i:List Sh := .int .u8::tp 8 (.bool::tp 29 ([]))
def jo:List Sh:=[.int .i32]
def qe:Outs:=[(.ret,[.bool])]
def qq:List Sh:=[.str]
def q9m:Outs:=[(.ret,[.tuple 2,.lst (.int .i32),.int .i64])]
def q8j:List Sh := .str::tp 3 (.row 0 :: .int .i64 :: .int .i32 :: .int .i64 :: .int .i64::tp 59 (.orow 21 (.int .i32)::[]))
def q9n:Outs:=[((.exit 2),.str::tp 3 (.row 0 :: .int .i64 :: .int .i32 :: .int .i64::tp 60 (.orow 21 (.int .i32)::[]))),((.goto 0),tp 4 (.row 0 :: .top :: .top :: .int .i64::tp 60 (.orow 21 (.int .i32)::[])))]
def q8k:List Sh := .str::tp 3 (.row 0 :: .top :: .top :: .int .i64::tp 60 (.orow 21 (.int .i32)::[]))
def q9o:Outs:=[((.exit 0),tp 4 (.row 0::tp 63 (.orow 21 (.int .i32)::[]))),((.goto 0),tp 4 (.row 0 :: .top :: .top :: .int .i64::tp 60 (.orow 21 (.int .i32)::[])))]
def vh:List Sh:=tp 4 (.row 0 :: .top :: .top :: .int .i64::tp 60 (.orow 21 (.int .i32)::[]))
def kx:Outs:=[(.ret,.top :: .top :: .row 0 :: .int .i64::tp 64 (.orow 21 (.int .i32)::[]))]
def ya:Outs:=[(.ret,[.int .i32])]
def q8l:List Sh:=[.lst (.int .i32),.func (.func 222) 1 0,.agg 5,.lst qh,.lst qi,.lst qj,.opq 0,.opq 1]
def jh:Outs:=[(.ret,[.lst (.int .i32)])]
def q8m:List Sh := .top :: .func (.func 222) 1 0 :: .agg 5 :: .lst qh :: .lst qi :: .lst qj :: .opq 0 :: .opq 1::tp 3 (.row 0 :: .top :: .top :: .lst (.int .i32) :: .int .i64 :: .int .i64::tp 11 (.orow 21 (.int .i32)::[]))
def ky:Outs:=[((.exit 0),tp 5 (.row 0::tp 16 (.orow 21 (.int .i32)::[])))]
def q8n:List Sh:=[.agg 3,.int .i32,.int .i32,.int .i32,.ptr 0 0,.obox 1,.int .i32]
def kz:Outs:=[(.ret,[.bool,.obox 1,.int .i32])]
def q8o:List Sh:=[.lst qj,.func (.func 270) 0 1,.ptr 0 0,.obox 1,.int .i32]
def wa:Outs:=[(.ret,[.int .i64,.obox 1,.int .i32])]
def q8p:List Sh := .lst qj :: .func (.func 270) 0 1 :: .ptr 0 0::tp 5 (.int .i64 :: .int .i64::tp 10 (.obox 1 :: .int .i32::[]))
def wb:Outs:=[((.exit 0),tp 19 (.obox 1 :: .int .i32::[])),(.ret,tp 4 (.int .i64::tp 14 (.obox 1 :: .int .i32::[])))]
def q8q:List Sh:=[.lst (.int .i32),.func (.func 221) 1 0,.agg 5,.lst qh,.lst qi,.lst qj,.opq 0,.opq 1]
def q8r:List Sh := .top :: .func (.func 221) 1 0 :: .agg 5 :: .lst qh :: .lst qi :: .lst qj :: .opq 0 :: .opq 1::tp 3 (.row 0 :: .top :: .top :: .lst (.int .i32) :: .int .i64 :: .int .i64::tp 11 (.orow 21 (.int .i32)::[]))
def jq:Outs:=[(.ret,[.tuple 2,.str,.bool])]
def q8s:List Sh:=tp 4 (.row 0 :: .top :: .top :: .lst (.int .i32) :: .int .i64 :: .int .i64::tp 71 (.orow 5 .byte::[]))
def q9p:Outs:=[((.exit 0),tp 4 (.row 0::tp 76 (.orow 5 .byte::[]))),(.ret,.top :: .top :: .str :: .bool::tp 77 ([]))]
def q8t:List Sh:=[.int .i32,.int .i32,.int .i64]
def q8u:List Sh:=[.lst (.lst (.int .i32))]
def q8v:List Sh := .lst (.lst (.int .i32)) :: .top :: .top :: .int .i64::tp 5 (.lst (.lst (.int .i32)) :: .int .i64 :: .int .i64::tp 24 ([]))
def q9q:Outs:=[((.exit 0),.lst (.lst (.int .i32)) :: .top :: .top :: .int .i64::tp 32 ([]))]
def q8w:List Sh:=tp 6 (.row 0::tp 18 (.lst (.lst (.int .i32)) :: .int .i64 :: .int .i64::tp 8 (.orow 21 (.int .i32)::[])))
def q9r:Outs:=[((.exit 2),tp 6 (.row 0::tp 29 (.orow 21 (.int .i32)::[])))]
def q7y:List Sh:=[.agg 5,.lst qh,.lst qi,.lst qj,.opq 0,.opq 1,.int .i32,.bool]
def q7z:List Sh := .top :: .int .i32 :: .bool :: .ptr 0 0::tp 3 (.ptr 1 0::tp 12 (.bool::tp 33 (.obox 5 :: .lst qh :: .lst qi :: .lst qj :: .opq 0 :: .opq 1 :: .obox 5 :: .int .i32 :: .int .i32 :: .int .i32 :: .bool :: .bool::[])))
def q8c:Outs:=[(.ret,tp 6 (.lst (.int .i32)::tp 47 ([]))),(.normal,.top :: .top :: .bool :: .ptr 0 0::tp 3 (.ptr 1 0::tp 46 (.obox 5 :: .lst qh :: .lst qi :: .lst qj :: .opq 0 :: .opq 1 :: .obox 5 :: .int .i32 :: .int .i32 :: .int .i32 :: .bool :: .bool::[])))]
def q8x:List Sh:=[.agg 5,.lst qh,.lst qi,.lst qj,.opq 0,.opq 1,.lst (.int .i32),.bool]
def q8y:List Sh := .top :: .top :: .bool :: .ptr 0 0::tp 3 (.row 1 :: .top :: .top :: .lst (.int .i32) :: .int .i64 :: .int .i64::tp 11 (.obox 5 :: .lst qh :: .lst qi :: .lst qj :: .opq 0 :: .opq 1 :: .orow 21 (.int .i32)::[]))
def q9s:Outs:=[((.exit 0),tp 7 (.row 0::tp 16 (.orow 21 (.int .i32)::[])))]
def q8z:List Sh:=[.agg 4,.int .i32,.int .i32,.int .i64,.int .i64,.ptr 0 0,.obox 1,.int .i32]
def q9a:List Sh:=[.lst qi,.func (.func 314) 0 1,.ptr 0 0,.obox 1,.int .i32]
def q9b:List Sh := .lst qi :: .func (.func 314) 0 1 :: .ptr 0 0::tp 5 (.int .i64 :: .int .i64::tp 10 (.obox 1 :: .int .i32::[]))
def q9c:List Sh:=[.int .i32,.int .i32,.ptr 0 0,.obox 5,.lst qh,.lst qi,.lst qj,.opq 0,.opq 1]
def q9t:Outs:=[(.ret,[.int .i64,.obox 5,.lst qh,.lst qi,.lst qj,.opq 0,.opq 1])]
def q9d:List Sh:=[.win 0 1,.int .i64,.int .i64,.func (.func 297) 0 1,.ptr 1 0,.orow 21 (.int .i32),.obox 5,.lst qh,.lst qi,.lst qj,.opq 0,.opq 1]
def jx:Outs:=[(.ret,[.tuple 0,.orow 21 (.int .i32),.obox 5,.lst qh,.lst qi,.lst qj,.opq 0,.opq 1])]
def km:List Sh := .win 0 1 :: .int .i64 :: .int .i64 :: .func (.func 297) 0 1 :: .ptr 1 0::tp 4 (.int .i64 :: .int .i64::tp 43 (.orow 21 (.int .i32) :: .obox 5 :: .lst qh :: .lst qi :: .lst qj :: .opq 0 :: .opq 1::[]))
def q9u:Outs:=[(.normal,.win 0 1 :: .int .i64 :: .int .i64 :: .func (.func 297) 0 1 :: .ptr 1 0::tp 4 (.int .i64 :: .int .i64::tp 43 (.orow 21 (.int .i32) :: .obox 5 :: .lst qh :: .lst qi :: .lst qj :: .opq 0 :: .opq 1::[])))]
def q9v:Outs:=[((.exit 2),.win 0 1 :: .int .i64 :: .int .i64 :: .func (.func 297) 0 1 :: .ptr 1 0::tp 4 (.int .i64::tp 44 (.orow 21 (.int .i32) :: .obox 5 :: .lst qh :: .lst qi :: .lst qj :: .opq 0 :: .opq 1::[])))]
def q9e:List Sh := .win 0 1 :: .int .i64 :: .int .i64 :: .func (.func 297) 0 1 :: .ptr 1 0::tp 4 (.int .i64::tp 44 (.orow 21 (.int .i32) :: .obox 5 :: .lst qh :: .lst qi :: .lst qj :: .opq 0 :: .opq 1::[]))
def q9w:Outs:=[((.exit 0),tp 53 (.orow 21 (.int .i32) :: .obox 5 :: .lst qh :: .lst qi :: .lst qj :: .opq 0 :: .opq 1::[]))]
def yg:List Sh:=[.win 0 1,.int .i64,.int .i64,.int .i64,.func (.func 297) 0 1,.ptr 1 0,.orow 21 (.int .i32),.obox 5,.lst qh,.lst qi,.lst qj,.opq 0,.opq 1]
def q9f:List Sh := .win 0 1 :: .int .i64 :: .int .i64 :: .int .i64::tp 6 (.int .i64::tp 27 (.orow 21 (.int .i32) :: .obox 5 :: .lst qh :: .lst qi :: .lst qj :: .opq 0 :: .opq 1::[]))
def q9x:Outs:=[((.exit 0),tp 38 (.orow 21 (.int .i32) :: .obox 5 :: .lst qh :: .lst qi :: .lst qj :: .opq 0 :: .opq 1::[]))]
def q9g:List Sh := .win 0 1 :: .top :: .int .i64 :: .top :: .func (.func 297) 0 1 :: .ptr 1 0::tp 5 (.int .i64 :: .int .i64::tp 46 (.orow 21 (.int .i32) :: .obox 5 :: .lst qh :: .lst qi :: .lst qj :: .opq 0 :: .opq 1::[]))
def q9y:Outs:=[((.exit 0),.win 0 1 :: .top :: .int .i64 :: .top :: .func (.func 297) 0 1 :: .ptr 1 0::tp 5 (.int .i64::tp 47 (.orow 21 (.int .i32) :: .obox 5 :: .lst qh :: .lst qi :: .lst qj :: .opq 0 :: .opq 1::[])))]
def ko:List Sh := .win 0 1 :: .int .i64 :: .top :: .top :: .func (.func 297) 0 1 :: .ptr 1 0::tp 5 (.int .i64 :: .int .i64::tp 208 (.orow 21 (.int .i32) :: .obox 5 :: .lst qh :: .lst qi :: .lst qj :: .opq 0 :: .opq 1::[]))
def wc:Outs:=[((.exit 0),.win 0 1 :: .int .i64::tp 8 (.int .i64::tp 209 (.orow 21 (.int .i32) :: .obox 5 :: .lst qh :: .lst qi :: .lst qj :: .opq 0 :: .opq 1::[])))]
def kp:List Sh := .win 0 1::tp 9 (.int .i64 :: .top :: .top :: .int .i64::tp 206 (.orow 21 (.int .i32) :: .obox 5 :: .lst qh :: .lst qi :: .lst qj :: .opq 0 :: .opq 1::[]))
def wd:Outs:=[((.exit 2),tp 220 (.orow 21 (.int .i32) :: .obox 5 :: .lst qh :: .lst qi :: .lst qj :: .opq 0 :: .opq 1::[]))]
def kq:List Sh := .win 0 1 :: .top :: .int .i64 :: .top :: .func (.func 297) 0 1 :: .ptr 1 0::tp 9 (.int .i64 :: .int .i64::tp 204 (.orow 21 (.int .i32) :: .obox 5 :: .lst qh :: .lst qi :: .lst qj :: .opq 0 :: .opq 1::[]))
def we:Outs:=[((.exit 4),.win 0 1 :: .top :: .int .i64::tp 11 (.int .i64::tp 205 (.orow 21 (.int .i32) :: .obox 5 :: .lst qh :: .lst qi :: .lst qj :: .opq 0 :: .opq 1::[])))]
def kr:List Sh := .win 0 1::tp 13 (.int .i64 :: .top :: .top :: .int .i64::tp 202 (.orow 21 (.int .i32) :: .obox 5 :: .lst qh :: .lst qi :: .lst qj :: .opq 0 :: .opq 1::[]))
def wh:Outs:=[((.exit 6),tp 220 (.orow 21 (.int .i32) :: .obox 5 :: .lst qh :: .lst qi :: .lst qj :: .opq 0 :: .opq 1::[]))]
def ku:List Sh := .win 0 1 :: .int .i64 :: .int .i64 :: .int .i64 :: .func (.func 297) 0 1 :: .ptr 1 0::tp 13 (.int .i64 :: .int .i64 :: .int .i64 :: .int .i64 :: .int .i64::tp 197 (.orow 21 (.int .i32) :: .obox 5 :: .lst qh :: .lst qi :: .lst qj :: .opq 0 :: .opq 1::[]))
def wi:Outs:=[((.exit 8),.win 0 1 :: .int .i64 :: .int .i64 :: .int .i64 :: .func (.func 297) 0 1 :: .ptr 1 0::tp 13 (.int .i64 :: .int .i64 :: .int .i64::tp 199 (.orow 21 (.int .i32) :: .obox 5 :: .lst qh :: .lst qi :: .lst qj :: .opq 0 :: .opq 1::[])))]
def q8a:List Sh := .win 0 1 :: .top :: .top :: .int .i64 :: .func (.func 297) 0 1 :: .ptr 1 0::tp 13 (.int .i64::tp 5 (.int .i64::tp 195 (.orow 21 (.int .i32) :: .obox 5 :: .lst qh :: .lst qi :: .lst qj :: .opq 0 :: .opq 1::[])))
def zx:Outs:=[(.normal,tp 220 (.orow 21 (.int .i32) :: .obox 5 :: .lst qh :: .lst qi :: .lst qj :: .opq 0 :: .opq 1::[]))]
def vk:List Sh := .win 0 1 :: .int .i64 :: .top :: .int .i64 :: .func (.func 297) 0 1 :: .ptr 1 0::tp 13 (.int .i64 :: .top :: .int .i64::tp 3 (.int .i64::tp 195 (.orow 21 (.int .i32) :: .obox 5 :: .lst qh :: .lst qi :: .lst qj :: .opq 0 :: .opq 1::[])))
def vm:List Sh := .win 0 1 :: .int .i64 :: .int .i64 :: .int .i64 :: .func (.func 297) 0 1 :: .ptr 1 0::tp 13 (.int .i64 :: .int .i64 :: .int .i64 :: .int .i64::tp 198 (.orow 21 (.int .i32) :: .obox 5 :: .lst qh :: .lst qi :: .lst qj :: .opq 0 :: .opq 1::[]))
def q0b:List Sh:=[.win 0 1,.int .i64,.func (.func 297) 0 1,.ptr 1 0,.orow 21 (.int .i32),.obox 5,.lst qh,.lst qi,.lst qj,.opq 0,.opq 1]
def yi:List Sh := .win 0 1 :: .int .i64 :: .func (.func 297) 0 1 :: .ptr 1 0::tp 3 (.int .i64 :: .int .i64 :: .int .i64::tp 54 (.orow 21 (.int .i32) :: .obox 5 :: .lst qh :: .lst qi :: .lst qj :: .opq 0 :: .opq 1::[]))
def q4n:Outs:=[((.exit 0),.win 0 1 :: .int .i64 :: .func (.func 297) 0 1 :: .ptr 1 0::tp 3 (.int .i64 :: .int .i64::tp 55 (.orow 21 (.int .i32) :: .obox 5 :: .lst qh :: .lst qi :: .lst qj :: .opq 0 :: .opq 1::[])))]
def q4o:Outs:=[((.exit 4),.win 0 1 :: .int .i64 :: .func (.func 297) 0 1 :: .ptr 1 0::tp 3 (.int .i64 :: .int .i64::tp 55 (.orow 21 (.int .i32) :: .obox 5 :: .lst qh :: .lst qi :: .lst qj :: .opq 0 :: .opq 1::[])))]
def q0c:List Sh := .win 0 1 :: .int .i64 :: .func (.func 297) 0 1 :: .ptr 1 0::tp 3 (.int .i64::tp 56 (.orow 21 (.int .i32) :: .obox 5 :: .lst qh :: .lst qi :: .lst qj :: .opq 0 :: .opq 1::[]))
def q4p:Outs:=[((.exit 2),tp 63 (.orow 21 (.int .i32) :: .obox 5 :: .lst qh :: .lst qi :: .lst qj :: .opq 0 :: .opq 1::[]))]
def q0d:List Sh:=[.win 0 1,.func (.func 297) 0 1,.ptr 1 0,.orow 21 (.int .i32),.obox 5,.lst qh,.lst qi,.lst qj,.opq 0,.opq 1]
def yj:List Sh := .top :: .top :: .ptr 0 0 :: .top :: .top :: .row 1 :: .int .i64 :: .int .i64::tp 30 (.obox 5 :: .lst qh :: .lst qi :: .lst qj :: .opq 0 :: .opq 1 :: .orow 21 (.int .i32)::[])
def q4q:Outs:=[(.normal,.top :: .top :: .ptr 0 0 :: .top :: .top :: .row 1 :: .int .i64 :: .int .i64::tp 30 (.obox 5 :: .lst qh :: .lst qi :: .lst qj :: .opq 0 :: .opq 1 :: .orow 21 (.int .i32)::[]))]
def q4r:Outs:=[((.exit 0),tp 5 (.row 0::tp 32 (.orow 21 (.int .i32)::[])))]
def q0e:List Sh := .top :: .int .i32 :: .int .i32 :: .ptr 0 0::tp 4 (.bool::tp 37 (.obox 5 :: .lst qh :: .lst qi :: .lst qj :: .opq 0 :: .opq 1::[]))
def q4s:Outs:=[(.ret,tp 6 (.int .i32 :: .bool::tp 38 ([]))),(.normal,.top :: .int .i32 :: .int .i32 :: .ptr 0 0::tp 42 (.obox 5 :: .lst qh :: .lst qi :: .lst qj :: .opq 0 :: .opq 1::[]))]
def q0f:List Sh := .top :: .top :: .ptr 0 0 :: .top :: .top :: .row 1 :: .int .i64 :: .int .i64 :: .top :: .int .i32 :: .int .i64 :: .top :: .top :: .lst (.int .i32) :: .int .i64 :: .int .i64::tp 19 (.bool::tp 29 (.obox 5 :: .lst qh :: .lst qi :: .lst qj :: .opq 0 :: .opq 1 :: .orow 21 (.int .i32)::[]))
def q4t:Outs:=[((.exit 1),.top :: .top :: .ptr 0 0 :: .top :: .top :: .row 1 :: .int .i64 :: .int .i64::tp 5 (.lst (.int .i32) :: .int .i64 :: .int .i64::tp 49 (.obox 5 :: .lst qh :: .lst qi :: .lst qj :: .opq 0 :: .opq 1 :: .orow 21 (.int .i32)::[]))),(.normal,.top :: .top :: .ptr 0 0 :: .top :: .top :: .row 1 :: .int .i64 :: .int .i64 :: .top :: .int .i32 :: .int .i64 :: .top :: .top :: .lst (.int .i32) :: .int .i64 :: .int .i64::tp 49 (.obox 5 :: .lst qh :: .lst qi :: .lst qj :: .opq 0 :: .opq 1 :: .orow 21 (.int .i32)::[]))]
def q0g:List Sh := .top :: .top :: .ptr 0 0 :: .top :: .top :: .row 1 :: .int .i64 :: .int .i64::tp 5 (.lst (.int .i32) :: .int .i64 :: .int .i64::tp 49 (.obox 5 :: .lst qh :: .lst qi :: .lst qj :: .opq 0 :: .opq 1 :: .orow 21 (.int .i32)::[]))
def q4u:Outs:=[((.exit 0),tp 5 (.row 0::tp 59 (.orow 21 (.int .i32)::[])))]
def q0h:List Sh:=[.agg 5,.lst qh,.lst qi,.lst qj,.opq 0,.opq 1,.str,.bool,.bool]
def q0i:List Sh := .str::tp 4 (.int .i64 :: .int .i64::tp 8 ([]))
def q4v:Outs:=[((.exit 0),tp 15 ([])),(.ret,.top :: .top :: .int .i64::tp 12 ([]))]
def q0j:List Sh:=[.lst (.int .i32),.int .i32]
def q0k:List Sh := .top :: .int .i32::tp 3 (.int .i32 :: .top :: .top :: .lst (.int .i32) :: .int .i64 :: .int .i64::tp 18 ([]))
def q4w:Outs:=[((.exit 0),tp 5 (.int .i32::tp 23 ([])))]
def q0l:List Sh:=[.int .i64,.int .i64]
def q4x:Outs:=[(.ret,[.tuple 2,.int .u8,.bool])]
def q0m:List Sh := .int .i64::tp 3 (.bool::tp 20 ([]))
def q4y:Outs:=[(.ret,.top :: .top :: .int .u8 :: .bool::tp 21 ([])),(.normal,tp 25 ([]))]
def q0n:List Sh:=[.row 0,.int .i64,.int .i64,.orow 5 .byte]
def q4z:Outs:=[(.ret,[.row 1,.odead,.orow 5 .byte])]
def yk:List Sh := .row 1 :: .int .i64 :: .int .i64::tp 4 (.int .i64::tp 44 (.odead :: .orow 5 .byte::[]))
def xf:Outs:=[(.ret,tp 6 (.row 1::tp 45 (.odead :: .orow 5 .byte::[])))]
def q0o:List Sh:=[.int .i64,.int .i64,.bool]
def q0p:List Sh := .int .i64::tp 6 (.int .i64::tp 24 ([]))
def q5a:Outs:=[((.exit 0),.int .i64::tp 6 (.int .i64::tp 24 ([])))]
def q0q:List Sh := .int .i64 :: .int .i64::tp 30 ([])
def q5b:Outs:=[(.ret,tp 6 (.int .i64::tp 25 ([])))]
def q0r:List Sh := .lst (.int .i32)::tp 3 (.row 0::tp 10 (.lst (.int .i32) :: .int .i64 :: .int .i64::tp 77 (.orow 5 .byte::[])))
def q5c:Outs:=[((.exit 0),.lst (.int .i32)::tp 3 (.row 0::tp 90 (.orow 5 .byte::[]))),(.ret,.top :: .top :: .str :: .bool::tp 91 ([]))]
def q0s:List Sh := .lst (.int .i32)::tp 3 (.row 0 :: .top :: .top :: .int .i64 :: .int .i32 :: .int .i64 :: .int .i64 :: .int .i64::tp 47 (.lst (.int .i32) :: .int .i64 :: .int .i64::tp 33 (.orow 5 .byte::[])))
def q5d:Outs:=[((.exit 4),.lst (.int .i32)::tp 3 (.row 0 :: .top :: .top :: .int .i64 :: .int .i32 :: .int .i64 :: .int .i64 :: .int .i64::tp 83 (.orow 5 .byte::[])))]
def q0t:List Sh := .lst (.int .i32)::tp 3 (.row 0 :: .top :: .top :: .int .i64 :: .int .i32 :: .int .i64 :: .int .i64 :: .int .i64::tp 83 (.orow 5 .byte::[]))
def q5e:Outs:=[((.exit 2),tp 4 (.row 0::tp 90 (.orow 5 .byte::[]))),(.ret,.top :: .top :: .str :: .bool::tp 91 ([]))]
def q0u:List Sh := .lst (.int .i32)::tp 3 (.row 0 :: .top :: .top :: .int .i64::tp 87 (.orow 5 .byte::[]))
def q5f:Outs:=[(.ret,.top :: .top :: .str :: .bool::tp 91 ([]))]
def q0v:List Sh:=[.ptr 0 0,.obox 1,.int .i64]
def q5g:Outs:=[(.ret,[.bool,.obox 1,.int .i64])]
def q0w:List Sh:=[.ptr 0 0,.ptr 1 0,.obox 1,.str,.obox 5,.lst qh,.lst qi,.lst qj,.opq 0,.opq 1]
def q5h:Outs:=[(.ret,[.bool,.obox 1,.str,.obox 5,.lst qh,.lst qi,.lst qj,.opq 0,.opq 1])]
def jk:List Sh:=[.ptr 0 0,.obox 1,.str]
def jl:Outs:=[(.ret,[.bool,.obox 1,.str])]
def q0x:List Sh:=[.agg 6,.int .i32,.int .i32,.int .i64,.int .i64,.int .i64,.int .i64,.int .i32]
def q0y:List Sh:=[.lst qh,.int .i32,.func (.func 308) 0 0]
def xg:Outs:=[(.ret,[.tuple 2,.int .i64,.bool])]
def q0z:List Sh := .lst qh :: .int .i32 :: .func (.func 308) 0 0::tp 5 (.int .i64 :: .int .i64 :: .int .i64::tp 38 ([]))
def q5i:Outs:=[((.exit 0),.lst qh :: .int .i32 :: .func (.func 308) 0 0::tp 5 (.int .i64 :: .int .i64::tp 39 ([])))]
def q5j:Outs:=[(.ret,[.agg 6,.int .i32,.int .i32,.int .i64,.int .i64,.int .i64,.int .i64])]
def zl:List Sh:=[.ptr 0 0,.ptr 1 0,.obox 5,.lst qh,.lst qi,.lst qj,.opq 0,.opq 1,.obox 1,.lst (.int .i32)]
def zo:Outs:=[(.ret,[.bool,.obox 5,.lst qh,.lst qi,.lst qj,.opq 0,.opq 1,.obox 1,.lst (.int .i32)])]
def q5k:Outs:=[(.ret,[.func (.func 275) 0 0]),(.ret,[.func (.func 278) 0 0]),(.ret,[.func (.func 301) 0 0]),(.ret,[.func (.func 302) 0 0]),(.ret,[.func (.func 303) 0 0]),(.ret,[.func (.func 304) 0 0]),(.ret,[.func (.func 305) 0 0]),(.ret,[.func (.func 306) 0 0]),(.ret,[.nilf])]
def yl:List Sh:=[.lst (.int .i32),.func (.func 277) 0 0]
def q1a:List Sh := .lst (.int .i32) :: .func (.func 277) 0 0::tp 5 (.int .i64 :: .int .i64::tp 10 ([]))
def jn:Outs:=[((.exit 0),tp 19 ([])),(.ret,tp 4 (.int .i64::tp 14 ([])))]
def jc:List Sh:=[.agg 7,.lst qh,.lst qi,.lst qj,.opq 0,.opq 1,.lst (.int .i32),.int .i64]
def ym:List Sh:=[.lst (.int .i32),.func (.func 274) 0 0]
def q1b:List Sh := .lst (.int .i32) :: .func (.func 274) 0 0::tp 5 (.int .i64 :: .int .i64::tp 10 ([]))
def yn:List Sh:=[.agg 7,.lst qh,.lst qi,.lst qj,.opq 0,.opq 1,.lst (.int .i32),.int .i64,.int .i64]
def q1c:List Sh := .top :: .int .i64 :: .ptr 0 0 :: .top :: .top :: .int .i64::tp 18 (.obox 7 :: .lst qh :: .lst qi :: .lst qj :: .opq 0 :: .opq 1 :: .lst (.int .i32) :: .int .i64::[])
def q5l:Outs:=[((.exit 0),tp 24 ([])),(.ret,tp 4 (.int .i64::tp 19 ([])))]
def q1d:List Sh:=[.int .i32,.ptr 0 0,.obox 7,.lst qh,.lst qi,.lst qj,.opq 0,.opq 1,.lst (.int .i32),.int .i64]
def xh:Outs:=[(.ret,[.bool,.obox 7,.lst qh,.lst qi,.lst qj,.opq 0,.opq 1,.lst (.int .i32),.int .i64])]
def yp:List Sh:=[.lst (.int .i32),.func (.func 323) 0 1,.ptr 0 0,.obox 7,.lst qh,.lst qi,.lst qj,.opq 0,.opq 1,.lst (.int .i32),.int .i64]
def q5m:Outs:=[(.ret,[.int .i64,.obox 7,.lst qh,.lst qi,.lst qj,.opq 0,.opq 1,.lst (.int .i32),.int .i64])]
def q1e:List Sh := .lst (.int .i32) :: .func (.func 323) 0 1 :: .ptr 0 0::tp 5 (.int .i64 :: .int .i64::tp 10 (.obox 7 :: .lst qh :: .lst qi :: .lst qj :: .opq 0 :: .opq 1 :: .lst (.int .i32) :: .int .i64::[]))
def q5n:Outs:=[((.exit 0),tp 19 (.obox 7 :: .lst qh :: .lst qi :: .lst qj :: .opq 0 :: .opq 1 :: .lst (.int .i32) :: .int .i64::[])),(.ret,tp 4 (.int .i64::tp 14 (.obox 7 :: .lst qh :: .lst qi :: .lst qj :: .opq 0 :: .opq 1 :: .lst (.int .i32) :: .int .i64::[])))]
def q1f:List Sh:=[.agg 5,.lst qh,.lst qi,.lst qj,.opq 0,.opq 1,.lst (.int .i32),.int .i64]
def q1g:List Sh := .top :: .lst (.int .i32) :: .ptr 0 0::tp 4 (.lst (.int .i32) :: .int .i64 :: .int .i64::tp 17 (.obox 5 :: .lst qh :: .lst qi :: .lst qj :: .opq 0 :: .opq 1::[]))
def q5o:Outs:=[((.exit 0),tp 27 ([])),(.ret,tp 4 (.bool::tp 22 ([])))]
def q5p:Outs:=[(.ret,[.agg 8,.int .i64,.int .i64,.int .i64,.int .i64,.int .i64,.int .i64,.int .i64,.int .i64])]
def q1h:List Sh := .top :: .top :: .ptr 0 0 :: .top :: .ptr 1 0 :: .ptr 2 0 :: .top :: .top :: .lst (.int .i32) :: .int .i64 :: .int .i64::tp 12 (.obox 5 :: .lst qh :: .lst qi :: .lst qj :: .opq 0 :: .opq 1 :: .oarr 3 (.int .i64) :: .oarr 3 (.int .i64)::[])
def q5q:Outs:=[((.exit 0),tp 4 (.ptr 0 0 :: .ptr 1 0::tp 17 (.oarr 3 (.int .i64) :: .oarr 3 (.int .i64)::[])))]
def q1i:List Sh:=tp 5 (.ptr 0 0 :: .top :: .bool :: .bool::tp 60 (.oarr 3 (.int .i64)::[]))
def xi:Outs:=[(.ret,tp 4 (.bool::tp 64 ([])))]
def q1j:List Sh:=tp 5 (.ptr 0 0 :: .int .i64 :: .bool::tp 61 (.oarr 3 (.int .i64)::[]))
def q1k:List Sh:=[.ptr 0 0,.ptr 1 0,.ptr 2 0,.obox 1,.lst (.int .i32),.obox 1,.str,.obox 1,.bool]
def q5r:Outs:=[(.ret,[.bool,.obox 1,.lst (.int .i32),.obox 1,.str,.obox 1,.bool])]
def q1l:List Sh:=[.row 0,.ovals 290 8 16,.int .i64,.func (.func 243) 0 1,.ptr 1 0,.int .i64,.func (.func 244) 0 2,.ptr 2 0,.ptr 3 0,.int .i64,.func (.func 246) 0 1,.ptr 2 0,.int .i64,.func (.func 248) 0 2,.ptr 3 0,.ptr 4 0,.int .i64,.func (.func 249) 0 2,.ptr 3 0,.ptr 4 0,.int .i64,.func (.func 251) 0 2,.ptr 3 0,.ptr 4 0,.int .i64,.func (.func 252) 0 3,.ptr 4 0,.ptr 5 0,.ptr 6 0,.int .i64,.func (.func 253) 0 1,.ptr 5 0,.obox 1,.int .i64,.obox 1,.str,.obox 5,.lst qh,.lst qi,.lst qj,.opq 0,.opq 1,.obox 1,.lst (.int .i32),.obox 1,.str,.obox 1,.bool]
def q5s:Outs:=[(.ret,[.int .i64,.ovals 290 8 16,.int .i64,.func (.func 243) 0 1,.ptr 1 0,.int .i64,.func (.func 244) 0 2,.ptr 2 0,.ptr 3 0,.int .i64,.func (.func 246) 0 1,.ptr 2 0,.int .i64,.func (.func 248) 0 2,.ptr 3 0,.ptr 4 0,.int .i64,.func (.func 249) 0 2,.ptr 3 0,.ptr 4 0,.int .i64,.func (.func 251) 0 2,.ptr 3 0,.ptr 4 0,.int .i64,.func (.func 252) 0 3,.ptr 4 0,.ptr 5 0,.ptr 6 0,.int .i64,.func (.func 253) 0 1,.ptr 5 0,.obox 1,.int .i64,.obox 1,.str,.obox 5,.lst qh,.lst qi,.lst qj,.opq 0,.opq 1,.obox 1,.lst (.int .i32),.obox 1,.str,.obox 1,.bool])]
def yq:List Sh := .int .i32 :: .top :: .top :: .bool::tp 20 ([])
def xj:Outs:=[(.normal,tp 3 (.bool::tp 20 ([])))]
def q1m:List Sh:=[.str,.func (.func 257) 0 0,.bool]
def q1n:List Sh := .top :: .func (.func 257) 0 0 :: .bool::tp 7 (.ptr 0 0::tp 10 (.oiter::[]))
def xk:Outs:=[(.ret,tp 6 (.int .i64::tp 14 ([]))),((.exit 0),tp 21 ([]))]
def yr:List Sh:=[.str,.func (.func 257) 0 0]
def q1o:List Sh:=[.row 0,.ovals 290 4 8,.int .i64,.func (.func 254) 0 1,.ptr 1 0,.int .i64,.func (.func 255) 0 1,.ptr 1 0,.int .i64,.func (.func 256) 0 1,.ptr 1 0,.int .i64,.func (.func 258) 0 1,.ptr 1 0,.obox 1,.str]
def q5t:Outs:=[(.ret,[.int .i64,.ovals 290 4 8,.int .i64,.func (.func 254) 0 1,.ptr 1 0,.int .i64,.func (.func 255) 0 1,.ptr 1 0,.int .i64,.func (.func 256) 0 1,.ptr 1 0,.int .i64,.func (.func 258) 0 1,.ptr 1 0,.obox 1,.str])]
def q1p:List Sh := .str :: .int .u8::tp 3 (.int .i64::tp 13 ([]))
def q1q:List Sh := .int .u8::tp 14 (.bool::tp 19 ([]))
def xl:Outs:=[(.ret,.top :: .top :: .int .i64 :: .bool::tp 31 ([])),(.normal,tp 35 ([]))]
def q1r:List Sh := .int .u8::tp 3 (.bool::tp 30 ([]))
def yt:List Sh:=[.str,.int .i64]
def q5u:Outs:=[(.ret,[.tuple 2,.int .i64,.str])]
def q1s:List Sh := .str :: .int .i64::tp 4 (.int .i64 :: .int .i64::tp 5 (.int .i64 :: .int .i64::tp 46 ([])))
def q5v:Outs:=[((.exit 0),tp 61 ([])),((.goto 0),tp 61 ([])),(.ret,tp 4 (.int .i64 :: .str::tp 55 ([])))]
def zm:List Sh:=tp 61 ([])
def xm:Outs:=[(.ret,tp 4 (.int .i64 :: .str::tp 55 ([])))]
def q5w:Outs:=[(.ret,[.tuple 2,.lst (.int .i32),.bool])]
def q1t:List Sh := .str::tp 3 (.row 0 :: .top :: .int .i64 :: .int .i64 :: .int .i64 :: .bool::tp 70 (.orow 21 (.int .i32)::[]))
def q5x:Outs:=[((.exit 0),tp 4 (.row 0::tp 75 (.orow 21 (.int .i32)::[]))),(.ret,.top :: .top :: .nils :: .bool::tp 76 ([]))]
def q1u:List Sh := .str::tp 3 (.row 0::tp 75 (.orow 21 (.int .i32)::[]))
def q5y:Outs:=[(.ret,.top :: .top :: .row 0 :: .bool::tp 76 (.orow 21 (.int .i32)::[]))]
def jr:Outs:=[(.ret,[.tuple 2,.str,.int .i64])]
def q1v:List Sh := .str :: .str::tp 3 (.int .i64::tp 10 (.bool::tp 126 ([])))
def q5z:Outs:=[(.ret,tp 4 (.int .i64::tp 138 ([])))]
def zp:Outs:=[(.ret,[.tuple 3,.str,.str,.bool])]
def q1w:List Sh:=[.agg 5,.lst qh,.lst qi,.lst qj,.opq 0,.opq 1,.str,.agg 11,.bool,.str,.str,.lst (.pair .bool (.pair .str .str)),.lst .str,.bool,.bool,.bool,.int .i64,.int .i64,.int .i64,.agg 3,.bool,.str,.str]
def q6a:Outs:=[(.ret,[.ptr 0 0,.obox 37,.lst qh,.lst qi,.lst qj,.opq 0,.opq 1,.str,.bool,.str,.str,.nils,.lst .str,.bool,.bool,.bool,.int .i64,.int .i64,.int .i64,.bool,.str,.str,.int .i64,.bool,.int .i64,.int .i64,.bool,.bool,.int .i64,.int .i64,.bool,.str,.str,.bool,.str,.str,.bool,.bool,.int .i64])]
def zn:List Sh := .lst .str :: .top :: .top :: .int .i64::tp 14 ([])
def xn:Outs:=[(.ret,.top :: .top :: .int .i64::tp 15 ([]))]
def qy:List Sh:=[.ptr 0 0,.obox 37,.lst qh,.lst qi,.lst qj,.opq 0,.opq 1,.str,.bool,.str,.str,.nils,.lst .str,.bool,.bool,.bool,.int .i64,.int .i64,.int .i64,.bool,.str,.str,.int .i64,.bool,.int .i64,.int .i64,.bool,.bool,.int .i64,.int .i64,.bool,.str,.str,.bool,.str,.str,.bool,.bool,.int .i64]
def qw:Outs:=[(.ret,[.lst (.pair (.int .i64) .str),.obox 37,.lst qh,.lst qi,.lst qj,.opq 0,.opq 1,.str,.bool,.str,.str,.nils,.lst .str,.bool,.bool,.bool,.int .i64,.int .i64,.int .i64,.bool,.str,.str,.int .i64,.bool,.int .i64,.int .i64,.bool,.bool,.int .i64,.int .i64,.bool,.str,.str,.bool,.str,.str,.bool,.bool,.int .i64])]
def q1x:List Sh := .ptr 0 0 :: .top :: .top :: .row 1 :: .int .i64::tp 14 (.lst .str :: .int .i64 :: .int .i64::tp 18 (.obox 37 :: .lst qh :: .lst qi :: .lst qj :: .opq 0 :: .opq 1 :: .str :: .bool :: .str :: .str :: .nils :: .lst .str :: .bool :: .bool :: .bool :: .int .i64 :: .int .i64 :: .int .i64 :: .bool :: .str :: .str :: .int .i64 :: .bool :: .int .i64 :: .int .i64 :: .bool :: .bool :: .int .i64 :: .int .i64 :: .bool :: .str :: .str :: .bool :: .str :: .str :: .bool :: .bool :: .int .i64 :: .orow 53 (.pair (.int .i64) .str)::[]))
def q6b:Outs:=[((.exit 0),.ptr 0 0 :: .top :: .top :: .row 1::tp 36 (.obox 37 :: .lst qh :: .lst qi :: .lst qj :: .opq 0 :: .opq 1 :: .str :: .bool :: .str :: .str :: .nils :: .lst .str :: .bool :: .bool :: .bool :: .int .i64 :: .int .i64 :: .int .i64 :: .bool :: .str :: .str :: .int .i64 :: .bool :: .int .i64 :: .int .i64 :: .bool :: .bool :: .int .i64 :: .int .i64 :: .bool :: .str :: .str :: .bool :: .str :: .str :: .bool :: .bool :: .int .i64 :: .orow 53 (.pair (.int .i64) .str)::[]))]
def q1y:List Sh:=[.ptr 0 0,.int .i64,.str,.obox 37,.lst qh,.lst qi,.lst qj,.opq 0,.opq 1,.str,.bool,.str,.str,.nils,.lst .str,.bool,.bool,.bool,.int .i64,.int .i64,.int .i64,.bool,.str,.str,.int .i64,.bool,.int .i64,.int .i64,.bool,.bool,.int .i64,.int .i64,.bool,.str,.str,.bool,.str,.str,.bool,.bool,.int .i64]
def q1z:List Sh:=[.ptr 0 0,.int .i64,.int .i64,.obox 37,.lst qh,.lst qi,.lst qj,.opq 0,.opq 1,.str,.bool,.str,.str,.nils,.lst .str,.bool,.bool,.bool,.int .i64,.int .i64,.int .i64,.bool,.str,.str,.int .i64,.bool,.int .i64,.int .i64,.bool,.bool,.int .i64,.int .i64,.bool,.str,.str,.bool,.str,.str,.bool,.bool,.int .i64]
def q2a:List Sh := .ptr 0 0::tp 13 (.bool::tp 12 (.obox 37 :: .lst qh :: .lst qi :: .lst qj :: .opq 0 :: .opq 1 :: .str :: .bool :: .str :: .str :: .nils :: .lst .str :: .bool :: .bool :: .bool :: .int .i64 :: .int .i64 :: .int .i64 :: .bool :: .str :: .str :: .int .i64 :: .bool :: .int .i64 :: .int .i64 :: .bool :: .bool :: .int .i64 :: .int .i64 :: .bool :: .str :: .str :: .bool :: .str :: .str :: .bool :: .bool :: .int .i64::[]))
def q6c:Outs:=[(.ret,.top :: .top :: .lst (.pair (.int .i64) .str)::tp 24 (.obox 37 :: .lst qh :: .lst qi :: .lst qj :: .opq 0 :: .opq 1 :: .str :: .bool :: .str :: .str :: .nils :: .lst .str :: .bool :: .bool :: .bool :: .int .i64 :: .int .i64 :: .int .i64 :: .bool :: .str :: .str :: .int .i64 :: .bool :: .int .i64 :: .int .i64 :: .bool :: .bool :: .int .i64 :: .int .i64 :: .bool :: .str :: .str :: .bool :: .str :: .str :: .bool :: .bool :: .int .i64::[])),(.normal,.ptr 0 0::tp 26 (.obox 37 :: .lst qh :: .lst qi :: .lst qj :: .opq 0 :: .opq 1 :: .str :: .bool :: .str :: .str :: .nils :: .lst .str :: .bool :: .bool :: .bool :: .int .i64 :: .int .i64 :: .int .i64 :: .bool :: .str :: .str :: .int .i64 :: .bool :: .int .i64 :: .int .i64 :: .bool :: .bool :: .int .i64 :: .int .i64 :: .bool :: .str :: .str :: .bool :: .str :: .str :: .bool :: .bool :: .int .i64::[]))]
def je:List Sh:=[.ptr 0 0,.agg 2,.int .i64,.lst .str,.obox 37,.lst qh,.lst qi,.lst qj,.opq 0,.opq 1,.str,.bool,.str,.str,.nils,.lst .str,.bool,.bool,.bool,.int .i64,.int .i64,.int .i64,.bool,.str,.str,.int .i64,.bool,.int .i64,.int .i64,.bool,.bool,.int .i64,.int .i64,.bool,.str,.str,.bool,.str,.str,.bool,.bool,.int .i64]
def xp:Outs:=[(.ret,[.int .u8])]
def q2b:List Sh:=[.lst .byte,.func (.func 108) 0 0]
def q6d:Outs:=[(.ret,[.lst .byte])]
def q2c:List Sh := .top :: .func (.func 108) 0 0::tp 3 (.row 0 :: .top :: .top :: .lst .byte :: .int .i64 :: .int .i64::tp 11 (.orow 5 .byte::[]))
def q6e:Outs:=[((.exit 0),tp 5 (.row 0::tp 16 (.orow 5 .byte::[])))]
def yu:List Sh:=[.agg 2,.int .i64,.lst .str]
def q2d:List Sh:=tp 3 (.row 0::tp 6 (.lst .str :: .int .i64 :: .int .i64::tp 19 (.orow 9 .str::[])))
def q6f:Outs:=[((.exit 0),tp 3 (.row 0::tp 28 (.orow 9 .str::[])))]
def yv:List Sh:=[.lst .str,.str]
def q2e:List Sh := .lst .str :: .str::tp 5 (.int .i64 :: .int .i64::tp 10 ([]))
def yw:List Sh := .str :: .top :: .top :: .int .i32 :: .int .i64 :: .bool::tp 88 ([])
def q6g:Outs:=[((.exit 0),tp 3 (.int .i32::tp 90 ([]))),(.ret,.top :: .top :: .bool::tp 91 ([]))]
def xq:Outs:=[(.ret,.top :: .top :: .bool::tp 91 ([]))]
def q2f:List Sh := .str :: .top :: .top :: .int .i32 :: .int .i64::tp 89 ([])
def yx:List Sh:=[.str,.int .i64,.int .i64]
def q6h:Outs:=[(.ret,[.tuple 2,.int .u64,.iface 238,.int .i64]),(.ret,[.tuple 2,.int .u64,.nili])]
def q2g:List Sh := .str :: .top :: .int .i64::tp 5 (.bool :: .str::tp 54 (.bool::tp 107 ([])))
def zq:Outs:=[(.normal,.str :: .int .i64 :: .int .i64::tp 5 (.bool :: .str::tp 162 ([])))]
def q2h:List Sh := .str :: .top :: .int .i64::tp 5 (.bool :: .str::tp 42 (.bool::tp 119 ([])))
def q2i:List Sh := .str :: .top :: .int .i64::tp 5 (.bool :: .str::tp 30 (.bool::tp 131 ([])))
def q2j:List Sh := .str :: .int .i64 :: .int .i64::tp 5 (.bool :: .str::tp 15 (.bool::tp 146 ([])))
def q6i:Outs:=[(.normal,.str :: .int .i64 :: .int .i64::tp 5 (.bool :: .str::tp 162 ([]))),(.ret,tp 6 (.int .u64 :: .iface 238 :: .int .i64::tp 164 ([])))]
def q2k:List Sh := .top :: .int .i64::tp 6 (.bool :: .str :: .int .u64 :: .int .u64 :: .bool :: .int .u64 :: .top :: .int .u8::tp 83 (.lst .byte :: .int .i64 :: .int .i64::tp 19 (.bool::tp 50 ([]))))
def xr:Outs:=[(.normal,.top :: .int .i64::tp 6 (.bool :: .str :: .int .u64 :: .int .u64 :: .bool :: .int .u64 :: .top :: .top :: .int .u8::tp 82 (.lst .byte :: .int .i64 :: .int .i64::tp 70 ([])))),(.ret,tp 6 (.int .u64 :: .iface 238 :: .int .i64::tp 164 ([])))]
def q2l:List Sh := .top :: .int .i64::tp 6 (.bool :: .str :: .int .u64 :: .int .u64 :: .bool :: .int .u64 :: .top :: .int .u8::tp 83 (.lst .byte :: .int .i64 :: .int .i64::tp 10 (.bool::tp 59 ([]))))
def q2m:List Sh := .top :: .int .i64::tp 6 (.bool :: .str :: .int .u64 :: .int .u64 :: .bool :: .int .u64 :: .top :: .int .u8::tp 83 (.lst .byte :: .int .i64 :: .int .i64::tp 4 (.bool::tp 65 ([]))))
def q6j:Outs:=[((.exit 4),.top :: .int .i64::tp 6 (.bool :: .str :: .int .u64 :: .int .u64 :: .bool :: .int .u64::tp 85 (.lst .byte :: .int .i64 :: .int .i64::tp 70 ([])))),(.normal,.top :: .int .i64::tp 6 (.bool :: .str :: .int .u64 :: .int .u64 :: .bool :: .int .u64 :: .top :: .top :: .int .u8::tp 82 (.lst .byte :: .int .i64 :: .int .i64::tp 70 ([])))),(.ret,tp 6 (.int .u64 :: .iface 238 :: .int .i64::tp 164 ([])))]
def q2n:List Sh := .top :: .int .i64::tp 6 (.bool :: .str :: .int .u64 :: .int .u64 :: .bool :: .int .u64::tp 85 (.lst .byte :: .int .i64 :: .int .i64::tp 70 ([])))
def q6k:Outs:=[((.exit 3),tp 9 (.str :: .top :: .top :: .bool :: .int .u64::tp 158 ([]))),(.ret,tp 6 (.int .u64 :: .iface 238 :: .int .i64::tp 164 ([])))]
def q2o:List Sh := .str :: .int .i64 :: .int .i64::tp 5 (.bool :: .str :: .int .u64::tp 161 ([]))
def xt:Outs:=[(.ret,tp 6 (.int .u64 :: .iface 238 :: .int .i64::tp 164 ([]))),(.ret,tp 6 (.int .u64 :: .nili::tp 164 ([])))]
def q2p:List Sh := .str :: .int .i64 :: .int .i64::tp 5 (.bool :: .str::tp 162 ([]))
def q6l:Outs:=[(.ret,[.tuple 2,.int .u64,.iface 239,.top]),(.ret,[.tuple 2,.int .u64,.nili])]
def q6m:Outs:=[(.ret,[.agg 3,.bool,.bool,.int .i64])]
def xu:Outs:=[(.ret,[.agg 10,.int .i64,.bool,.str,.str,.bool,.str,.str,.bool,.bool,.int .i64])]
def q2q:List Sh:=[.agg 3,.bool,.bool,.int .i64,.bool]
def jy:List Sh:=[.agg 3,.bool,.str,.str]
def q2r:List Sh:=[.agg 9,.bool,.str,.str,.bool,.str,.str,.bool,.bool,.int .i64]
def q2s:List Sh:=[.agg 5,.lst qh,.lst qi,.lst qj,.opq 0,.opq 1,.agg 2,.str,.str]
def q6n:Outs:=[(.ret,[.tuple 2,.agg 2,.str,.str,.int .i64])]
def q2t:List Sh := .top :: .top :: .ptr 0 0 :: .ptr 1 0 :: .ptr 2 0::tp 3 (.bool::tp 33 (.obox 5 :: .lst qh :: .lst qi :: .lst qj :: .opq 0 :: .opq 1 :: .obox 2 :: .str :: .str :: .obox 2 :: .str :: .str::[]))
def q6o:Outs:=[(.ret,tp 4 (.ptr 0 0 :: .int .i64::tp 36 (.obox 2 :: .str :: .str::[]))),(.normal,.top :: .top :: .ptr 0 0 :: .ptr 1 0 :: .ptr 2 0::tp 37 (.obox 5 :: .lst qh :: .lst qi :: .lst qj :: .opq 0 :: .opq 1 :: .obox 2 :: .str :: .str :: .obox 2 :: .str :: .str::[]))]
def q2u:List Sh:=[.agg 5,.lst qh,.lst qi,.lst qj,.opq 0,.opq 1,.agg 3,.bool,.str,.str]
def q6p:Outs:=[(.ret,[.tuple 2,.agg 3,.bool,.str,.str,.int .i64])]
def q2v:List Sh:=[.ptr 0 0,.ptr 1 0,.ptr 2 0,.obox 5,.lst qh,.lst qi,.lst qj,.opq 0,.opq 1,.obox 9,.bool,.str,.str,.bool,.str,.str,.bool,.bool,.int .i64,.obox 10,.int .i64,.bool,.str,.str,.bool,.str,.str,.bool,.bool,.int .i64]
def q6q:Outs:=[(.ret,[.bool,.obox 5,.lst qh,.lst qi,.lst qj,.opq 0,.opq 1,.obox 9,.bool,.str,.str,.bool,.str,.str,.bool,.bool,.int .i64,.obox 10,.int .i64,.bool,.str,.str,.bool,.str,.str,.bool,.bool,.int .i64])]
def q2w:List Sh:=[.agg 5,.lst qh,.lst qi,.lst qj,.opq 0,.opq 1,.agg 3,.bool,.bool,.int .i64,.agg 9,.bool,.str,.str,.bool,.str,.str,.bool,.bool,.int .i64]
def q2x:List Sh:=tp 5 (.ptr 0 0 :: .ptr 1 0 :: .ptr 2 0::tp 51 (.bool::tp 21 (.obox 9 :: .bool :: .str :: .str :: .bool :: .str :: .str :: .bool :: .bool :: .int .i64 :: .obox 10 :: .int .i64 :: .bool :: .str :: .str :: .bool :: .str :: .str :: .bool :: .bool :: .int .i64 :: .obox 10 :: .int .i64 :: .bool :: .str :: .str :: .bool :: .str :: .str :: .bool :: .bool :: .int .i64::[])))
def zr:Outs:=[(.ret,tp 6 (.ptr 0 0::tp 74 (.obox 10 :: .int .i64 :: .bool :: .str :: .str :: .bool :: .str :: .str :: .bool :: .bool :: .int .i64::[]))),(.normal,tp 6 (.ptr 0 0 :: .ptr 1 0::tp 73 (.obox 10 :: .int .i64 :: .bool :: .str :: .str :: .bool :: .str :: .str :: .bool :: .bool :: .int .i64 :: .obox 10 :: .int .i64 :: .bool :: .str :: .str :: .bool :: .str :: .str :: .bool :: .bool :: .int .i64::[])))]
def q2y:List Sh:=tp 4 (.ptr 0 0 :: .ptr 1 0 :: .ptr 2 0 :: .ptr 3 0 :: .func (.func 88) 0 3 :: .ptr 4 0 :: .ptr 1 0 :: .ptr 3 0::tp 24 (.bool::tp 47 (.obox 3 :: .bool :: .bool :: .int .i64 :: .obox 9 :: .bool :: .str :: .str :: .bool :: .str :: .str :: .bool :: .bool :: .int .i64 :: .obox 10 :: .int .i64 :: .bool :: .str :: .str :: .bool :: .str :: .str :: .bool :: .bool :: .int .i64 :: .obox 10 :: .int .i64 :: .bool :: .str :: .str :: .bool :: .str :: .str :: .bool :: .bool :: .int .i64 :: .obox 5 :: .lst qh :: .lst qi :: .lst qj :: .opq 0 :: .opq 1::[])))
def q2z:List Sh:=tp 4 (.ptr 0 0 :: .ptr 1 0 :: .ptr 2 0 :: .ptr 3 0 :: .func (.func 88) 0 3 :: .ptr 4 0 :: .ptr 1 0 :: .ptr 3 0::tp 12 (.bool::tp 59 (.obox 3 :: .bool :: .bool :: .int .i64 :: .obox 9 :: .bool :: .str :: .str :: .bool :: .str :: .str :: .bool :: .bool :: .int .i64 :: .obox 10 :: .int .i64 :: .bool :: .str :: .str :: .bool :: .str :: .str :: .bool :: .bool :: .int .i64 :: .obox 10 :: .int .i64 :: .bool :: .str :: .str :: .bool :: .str :: .str :: .bool :: .bool :: .int .i64 :: .obox 5 :: .lst qh :: .lst qi :: .lst qj :: .opq 0 :: .opq 1::[])))
def q3a:List Sh:=tp 3 (.ptr 0 0 :: .ptr 1 0 :: .ptr 2 0 :: .ptr 3 0 :: .ptr 4 0::tp 73 (.obox 5 :: .lst qh :: .lst qi :: .lst qj :: .opq 0 :: .opq 1 :: .obox 3 :: .bool :: .bool :: .int .i64 :: .obox 9 :: .bool :: .str :: .str :: .bool :: .str :: .str :: .bool :: .bool :: .int .i64 :: .obox 10 :: .int .i64 :: .bool :: .str :: .str :: .bool :: .str :: .str :: .bool :: .bool :: .int .i64 :: .obox 10 :: .int .i64 :: .bool :: .str :: .str :: .bool :: .str :: .str :: .bool :: .bool :: .int .i64::[]))
def q6r:Outs:=[(.ret,tp 6 (.ptr 0 0::tp 74 (.obox 10 :: .int .i64 :: .bool :: .str :: .str :: .bool :: .str :: .str :: .bool :: .bool :: .int .i64::[])))]
def q3b:List Sh := .top :: .top :: .int .i64 :: .top :: .ptr 0 0::tp 5 (.oiter::[])
def q6s:Outs:=[((.exit 0),.top :: .top :: .int .i64::tp 7 ([]))]
def xw:Outs:=[(.ret,[.tuple 2,.int .i32,.int .i64])]
def q3c:List Sh := .str::tp 9 (.bool::tp 8 ([]))
def q6t:Outs:=[(.ret,.top :: .top :: .int .i32 :: .int .i64::tp 15 ([])),(.normal,.top :: .top :: .int .i32 :: .int .i64::tp 15 ([]))]
def q3d:List Sh := .str :: .int .i64::tp 4 (.row 0 :: .int .i64::tp 42 (.orow 9 .str::[]))
def q6u:Outs:=[((.exit 0),.str :: .int .i64::tp 4 (.row 0::tp 43 (.orow 9 .str::[])))]
def q3e:List Sh := .str :: .int .i64::tp 48 ([])
def q6v:Outs:=[(.ret,tp 4 (.row 0::tp 45 (.orow 9 .str::[])))]
def q3f:List Sh := .str :: .str::tp 3 (.int .i64::tp 28 ([]))
def q6w:Outs:=[(.ret,tp 4 (.int .i64::tp 29 ([])))]
def q3g:List Sh:=[.str,.str,.int .i64,.int .i64]
def q3h:List Sh := .str :: .str :: .int .i64 :: .int .i64::tp 5 (.row 0 :: .int .i64::tp 55 (.orow 9 .str::[]))
def q6x:Outs:=[((.exit 0),.str::tp 8 (.row 0 :: .int .i64::tp 55 (.orow 9 .str::[])))]
def q3i:List Sh := .str :: .str :: .int .i64 :: .int .i64::tp 62 ([])
def q6y:Outs:=[(.ret,tp 8 (.lst .str::tp 57 ([])))]
def yy:List Sh := .int .u8 :: .top :: .top :: .bool::tp 23 ([])
def xx:Outs:=[(.normal,.int .u8 :: .top :: .top :: .bool::tp 23 ([]))]
def q3j:List Sh := .str::tp 4 (.int .i64 :: .int .i64::tp 10 ([]))
def q6z:Outs:=[((.exit 0),.str::tp 16 ([])),(.ret,.top :: .top :: .bool::tp 14 ([]))]
def q3k:List Sh:=tp 6 (.lst .str :: .int .i64 :: .int .i64::tp 7 ([]))
def q7a:Outs:=[((.exit 0),tp 16 ([])),(.ret,.top :: .top :: .bool::tp 13 ([]))]
def q3l:List Sh := .str :: .top :: .top :: .row 0 :: .top :: .top :: .int .i64 :: .int .i64::tp 24 (.orow 5 .byte::[])
def q7b:Outs:=[((.exit 0),tp 3 (.row 0::tp 28 (.orow 5 .byte::[])))]
def q3m:List Sh:=[.agg 3,.int .i64,.str,.int .i64]
def yz:List Sh:=[.agg 2,.str,.str]
def q3n:List Sh:=[.agg 8,.int .i64,.str,.bool,.str,.str,.int .i64,.bool,.bool]
def q3o:List Sh := .top :: .ptr 0 0 :: .top :: .str::tp 47 (.obox 8 :: .int .i64 :: .str :: .bool :: .str :: .str :: .int .i64 :: .bool :: .bool::[])
def q7c:Outs:=[(.normal,tp 3 (.str::tp 47 ([])))]
def q3p:List Sh := .top :: .ptr 0 0 :: .top :: .str::tp 4 (.int .i64 :: .bool::tp 41 (.obox 8 :: .int .i64 :: .str :: .bool :: .str :: .str :: .int .i64 :: .bool :: .bool::[]))
def q7d:Outs:=[(.ret,.top :: .top :: .str::tp 48 ([])),(.normal,tp 3 (.str::tp 47 ([])))]
def xy:Outs:=[(.ret,[.str,.obox 37,.lst qh,.lst qi,.lst qj,.opq 0,.opq 1,.str,.bool,.str,.str,.nils,.lst .str,.bool,.bool,.bool,.int .i64,.int .i64,.int .i64,.bool,.str,.str,.int .i64,.bool,.int .i64,.int .i64,.bool,.bool,.int .i64,.int .i64,.bool,.str,.str,.bool,.str,.str,.bool,.bool,.int .i64])]
def xa:List Sh := .ptr 0 0::tp 86 (.obox 37 :: .lst qh :: .lst qi :: .lst qj :: .opq 0 :: .opq 1 :: .str :: .bool :: .str :: .str :: .nils :: .lst .str :: .bool :: .bool :: .bool :: .int .i64 :: .int .i64 :: .int .i64 :: .bool :: .str :: .str :: .int .i64 :: .bool :: .int .i64 :: .int .i64 :: .bool :: .bool :: .int .i64 :: .int .i64 :: .bool :: .str :: .str :: .bool :: .str :: .str :: .bool :: .bool :: .int .i64::[])
def zt:Outs:=[(.ret,tp 4 (.lst (.pair (.int .i64) .str)::tp 82 (.obox 37 :: .lst qh :: .lst qi :: .lst qj :: .opq 0 :: .opq 1 :: .str :: .bool :: .str :: .str :: .nils :: .lst .str :: .bool :: .bool :: .bool :: .int .i64 :: .int .i64 :: .int .i64 :: .bool :: .str :: .str :: .int .i64 :: .bool :: .int .i64 :: .int .i64 :: .bool :: .bool :: .int .i64 :: .int .i64 :: .bool :: .str :: .str :: .bool :: .str :: .str :: .bool :: .bool :: .int .i64::[])))]
def q3q:List Sh := .ptr 0 0::tp 4 (.ptr 1 0::tp 81 (.obox 37 :: .lst qh :: .lst qi :: .lst qj :: .opq 0 :: .opq 1 :: .str :: .bool :: .str :: .str :: .nils :: .lst .str :: .bool :: .bool :: .bool :: .int .i64 :: .int .i64 :: .int .i64 :: .bool :: .str :: .str :: .int .i64 :: .bool :: .int .i64 :: .int .i64 :: .bool :: .bool :: .int .i64 :: .int .i64 :: .bool :: .str :: .str :: .bool :: .str :: .str :: .bool :: .bool :: .int .i64 :: .obox 5 :: .bool :: .bool :: .bool :: .int .i64 :: .int .i64::[]))
def q3r:List Sh := .ptr 0 0 :: .top :: .top :: .ptr 1 0 :: .top :: .int .i64::tp 14 (.bool::tp 43 (.obox 37 :: .lst qh :: .lst qi :: .lst qj :: .opq 0 :: .opq 1 :: .str :: .bool :: .str :: .str :: .nils :: .lst .str :: .bool :: .bool :: .bool :: .int .i64 :: .int .i64 :: .int .i64 :: .bool :: .str :: .str :: .int .i64 :: .bool :: .int .i64 :: .int .i64 :: .bool :: .bool :: .int .i64 :: .int .i64 :: .bool :: .str :: .str :: .bool :: .str :: .str :: .bool :: .bool :: .int .i64 :: .obox 2 :: .int .i64 :: .lst .str::[]))
def xz:Outs:=[(.ret,tp 4 (.lst (.pair (.int .i64) .str)::tp 59 (.obox 37 :: .lst qh :: .lst qi :: .lst qj :: .opq 0 :: .opq 1 :: .str :: .bool :: .str :: .str :: .nils :: .lst .str :: .bool :: .bool :: .bool :: .int .i64 :: .int .i64 :: .int .i64 :: .bool :: .str :: .str :: .int .i64 :: .bool :: .int .i64 :: .int .i64 :: .bool :: .bool :: .int .i64 :: .int .i64 :: .bool :: .str :: .str :: .bool :: .str :: .str :: .bool :: .bool :: .int .i64::[]))),(.normal,.ptr 0 0 :: .top :: .top :: .ptr 1 0::tp 60 (.obox 37 :: .lst qh :: .lst qi :: .lst qj :: .opq 0 :: .opq 1 :: .str :: .bool :: .str :: .str :: .nils :: .lst .str :: .bool :: .bool :: .bool :: .int .i64 :: .int .i64 :: .int .i64 :: .bool :: .str :: .str :: .int .i64 :: .bool :: .int .i64 :: .int .i64 :: .bool :: .bool :: .int .i64 :: .int .i64 :: .bool :: .str :: .str :: .bool :: .str :: .str :: .bool :: .bool :: .int .i64 :: .obox 2 :: .int .i64 :: .lst .str::[]))]
def q3s:List Sh := .ptr 0 0 :: .top :: .top :: .ptr 1 0 :: .top :: .int .i64::tp 4 (.bool::tp 53 (.obox 37 :: .lst qh :: .lst qi :: .lst qj :: .opq 0 :: .opq 1 :: .str :: .bool :: .str :: .str :: .nils :: .lst .str :: .bool :: .bool :: .bool :: .int .i64 :: .int .i64 :: .int .i64 :: .bool :: .str :: .str :: .int .i64 :: .bool :: .int .i64 :: .int .i64 :: .bool :: .bool :: .int .i64 :: .int .i64 :: .bool :: .str :: .str :: .bool :: .str :: .str :: .bool :: .bool :: .int .i64 :: .obox 2 :: .int .i64 :: .lst .str::[]))
def q7e:Outs:=[(.ret,[.tuple 2,.int .i64,.int .i64,.obox 37,.lst qh,.lst qi,.lst qj,.opq 0,.opq 1,.str,.bool,.str,.str,.nils,.lst .str,.bool,.bool,.bool,.int .i64,.int .i64,.int .i64,.bool,.str,.str,.int .i64,.bool,.int .i64,.int .i64,.bool,.bool,.int .i64,.int .i64,.bool,.str,.str,.bool,.str,.str,.bool,.bool,.int .i64])]
def q7f:Outs:=[(.ret,[.int .i64,.obox 37,.lst qh,.lst qi,.lst qj,.opq 0,.opq 1,.str,.bool,.str,.str,.nils,.lst .str,.bool,.bool,.bool,.int .i64,.int .i64,.int .i64,.bool,.str,.str,.int .i64,.bool,.int .i64,.int .i64,.bool,.bool,.int .i64,.int .i64,.bool,.str,.str,.bool,.str,.str,.bool,.bool,.int .i64])]
def q7g:Outs:=[(.ret,[.agg 3,.bool,.bool,.int .i64,.obox 37,.lst qh,.lst qi,.lst qj,.opq 0,.opq 1,.str,.bool,.str,.str,.nils,.lst .str,.bool,.bool,.bool,.int .i64,.int .i64,.int .i64,.bool,.str,.str,.int .i64,.bool,.int .i64,.int .i64,.bool,.bool,.int .i64,.int .i64,.bool,.str,.str,.bool,.str,.str,.bool,.bool,.int .i64])]
def q7h:Outs:=[(.ret,[.agg 10,.int .i64,.bool,.str,.str,.bool,.str,.str,.bool,.bool,.int .i64,.obox 37,.lst qh,.lst qi,.lst qj,.opq 0,.opq 1,.str,.bool,.str,.str,.nils,.lst .str,.bool,.bool,.bool,.int .i64,.int .i64,.int .i64,.bool,.str,.str,.int .i64,.bool,.int .i64,.int .i64,.bool,.bool,.int .i64,.int .i64,.bool,.str,.str,.bool,.str,.str,.bool,.bool,.int .i64])]
def q3t:List Sh:=[.agg 11,.bool,.str,.str,.lst (.pair .bool (.pair .str .str)),.lst .str,.bool,.bool,.bool,.int .i64,.int .i64,.int .i64]
def q3u:List Sh := .top :: .ptr 0 0 :: .top :: .int .i64 :: .int .i64::tp 26 (.obox 11 :: .bool :: .str :: .str :: .lst (.pair .bool (.pair .str .str)) :: .lst .str :: .bool :: .bool :: .bool :: .int .i64 :: .int .i64 :: .int .i64::[])
def q7i:Outs:=[((.exit 0),.top :: .ptr 0 0 :: .top :: .int .i64::tp 27 (.obox 11 :: .bool :: .str :: .str :: .lst (.pair .bool (.pair .str .str)) :: .lst .str :: .bool :: .bool :: .bool :: .int .i64 :: .int .i64 :: .int .i64::[]))]
def q3v:List Sh:=[.lst (.pair (.int .i64) (.lst .str))]
def q3w:List Sh := .lst (.pair (.int .i64) (.lst .str)) :: .top :: .top :: .int .i64 :: .int .i64::tp 36 ([])
def q7j:Outs:=[((.exit 2),.lst (.pair (.int .i64) (.lst .str)) :: .top :: .top :: .int .i64::tp 37 ([])),(.ret,.top :: .top :: .bool::tp 38 ([]))]
def q3x:List Sh := .lst (.pair (.int .i64) (.lst .str)) :: .top :: .top :: .int .i64::tp 37 ([])
def q7k:Outs:=[((.exit 0),.lst (.pair (.int .i64) (.lst .str))::tp 40 ([])),(.ret,.top :: .top :: .bool::tp 38 ([]))]
def q7l:Outs:=[(.ret,[.tuple 0,.obox 37,.lst qh,.lst qi,.lst qj,.opq 0,.opq 1,.str,.bool,.str,.str,.nils,.lst .str,.bool,.bool,.bool,.int .i64,.int .i64,.int .i64,.bool,.str,.str,.int .i64,.bool,.int .i64,.int .i64,.bool,.bool,.int .i64,.int .i64,.bool,.str,.str,.bool,.str,.str,.bool,.bool,.int .i64])]
def q3y:List Sh:=[.agg 11,.bool,.str,.str,.lst (.pair .bool (.pair .str .str)),.lst .str,.bool,.bool,.bool,.int .i64,.int .i64,.int .i64,.agg 3,.bool,.str,.str,.lst (.pair (.int .i64) (.lst .str)),.agg 2,.int .i64,.lst .str]
def q3z:List Sh := .top :: .top :: .lst (.pair (.int .i64) (.lst .str))::tp 4 (.ptr 0 0 :: .top :: .bool::tp 3 (.ptr 1 0 :: .int .i64 :: .int .i64 :: .top :: .lst (.pair (.int .i64) .str)::tp 68 (.bool::tp 65 (.obox 2 :: .int .i64 :: .lst .str :: .obox 37 :: .lst qh :: .lst qi :: .lst qj :: .opq 0 :: .opq 1 :: .str :: .bool :: .str :: .str :: .nils :: .lst .str :: .bool :: .bool :: .bool :: .int .i64 :: .int .i64 :: .int .i64 :: .bool :: .str :: .str :: .int .i64 :: .bool :: .int .i64 :: .int .i64 :: .bool :: .bool :: .int .i64 :: .int .i64 :: .bool :: .str :: .str :: .bool :: .str :: .str :: .bool :: .bool :: .int .i64::[]))))
def q7m:Outs:=[(.ret,tp 8 (.bool::tp 143 ([]))),(.normal,.top :: .top :: .lst (.pair (.int .i64) (.lst .str))::tp 4 (.ptr 0 0 :: .top :: .bool::tp 3 (.ptr 1 0 :: .int .i64 :: .int .i64::tp 136 (.obox 2 :: .int .i64 :: .lst .str :: .obox 37 :: .lst qh :: .lst qi :: .lst qj :: .opq 0 :: .opq 1 :: .str :: .bool :: .str :: .str :: .nils :: .lst .str :: .bool :: .bool :: .bool :: .int .i64 :: .int .i64 :: .int .i64 :: .bool :: .str :: .str :: .int .i64 :: .bool :: .int .i64 :: .int .i64 :: .bool :: .bool :: .int .i64 :: .int .i64 :: .bool :: .str :: .str :: .bool :: .str :: .str :: .bool :: .bool :: .int .i64::[]))))]
def q4a:List Sh := .top :: .top :: .lst (.pair (.int .i64) (.lst .str))::tp 4 (.ptr 0 0 :: .top :: .bool::tp 3 (.ptr 1 0 :: .int .i64 :: .int .i64::tp 136 (.obox 2 :: .int .i64 :: .lst .str :: .obox 37 :: .lst qh :: .lst qi :: .lst qj :: .opq 0 :: .opq 1 :: .str :: .bool :: .str :: .str :: .nils :: .lst .str :: .bool :: .bool :: .bool :: .int .i64 :: .int .i64 :: .int .i64 :: .bool :: .str :: .str :: .int .i64 :: .bool :: .int .i64 :: .int .i64 :: .bool :: .bool :: .int .i64 :: .int .i64 :: .bool :: .str :: .str :: .bool :: .str :: .str :: .bool :: .bool :: .int .i64::[])))
def q7n:Outs:=[((.exit 0),tp 7 (.ptr 0 0 :: .top :: .bool::tp 3 (.ptr 1 0 :: .int .i64::tp 137 (.obox 2 :: .int .i64 :: .lst .str :: .obox 37 :: .lst qh :: .lst qi :: .lst qj :: .opq 0 :: .opq 1 :: .str :: .bool :: .str :: .str :: .nils :: .lst .str :: .bool :: .bool :: .bool :: .int .i64 :: .int .i64 :: .int .i64 :: .bool :: .str :: .str :: .int .i64 :: .bool :: .int .i64 :: .int .i64 :: .bool :: .bool :: .int .i64 :: .int .i64 :: .bool :: .str :: .str :: .bool :: .str :: .str :: .bool :: .bool :: .int .i64::[])))),(.ret,tp 8 (.bool::tp 143 ([])))]
def q4b:List Sh := .top :: .top :: .lst (.pair (.int .i64) (.lst .str))::tp 4 (.ptr 0 0 :: .top :: .bool::tp 3 (.ptr 1 0::tp 138 (.obox 2 :: .int .i64 :: .lst .str :: .obox 37 :: .lst qh :: .lst qi :: .lst qj :: .opq 0 :: .opq 1 :: .str :: .bool :: .str :: .str :: .nils :: .lst .str :: .bool :: .bool :: .bool :: .int .i64 :: .int .i64 :: .int .i64 :: .bool :: .str :: .str :: .int .i64 :: .bool :: .int .i64 :: .int .i64 :: .bool :: .bool :: .int .i64 :: .int .i64 :: .bool :: .str :: .str :: .bool :: .str :: .str :: .bool :: .bool :: .int .i64::[])))
def q7o:Outs:=[(.ret,tp 8 (.bool::tp 143 ([])))]
def xb:List Sh:=[.lst .str,.func (.func 47) 0 0]
def q4c:List Sh := .lst .str :: .func (.func 47) 0 0::tp 5 (.int .i64 :: .int .i64::tp 10 ([]))
def xc:List Sh:=[.lst .str,.func (.func 48) 0 0]
def q4d:List Sh := .lst .str :: .func (.func 48) 0 0::tp 5 (.int .i64 :: .int .i64::tp 10 ([]))
def q4e:List Sh:=[.str,.func (.func 99) 0 0,.bool]
def q4f:List Sh := .top :: .func (.func 99) 0 0 :: .bool::tp 7 (.ptr 0 0::tp 10 (.oiter::[]))
def xd:List Sh:=[.str,.func (.func 99) 0 0]
def q7p:Outs:=[(.ret,[.lst (.pair .str .str)])]
def q4g:List Sh:=tp 3 (.row 0 :: .bool::tp 9 (.lst .str :: .int .i64 :: .int .i64::tp 51 (.orow 104 (.pair .str .str)::[])))
def q7q:Outs:=[((.exit 0),tp 3 (.row 0::tp 64 (.orow 104 (.pair .str .str)::[])))]
def q4h:List Sh:=tp 3 (.row 0::tp 48 (.int .i64 :: .int .i64::tp 14 (.orow 104 (.pair .str .str)::[])))
def q7r:Outs:=[((.exit 2),tp 3 (.row 0::tp 64 (.orow 104 (.pair .str .str)::[])))]
def q7s:Outs:=[(.ret,[.agg 5,.bool,.bool,.bool,.int .i64,.int .i64])]
def q4i:List Sh := .top :: .top :: .ptr 0 0::tp 3 (.ptr 1 0::tp 19 (.lst (.pair .str .str) :: .int .i64 :: .int .i64::tp 12 (.obox 5 :: .bool :: .bool :: .bool :: .int .i64 :: .int .i64 :: .obox 5 :: .bool :: .bool :: .bool :: .int .i64 :: .int .i64::[])))
def q7t:Outs:=[((.exit 0),.top :: .top :: .ptr 0 0::tp 3 (.ptr 1 0::tp 34 (.obox 5 :: .bool :: .bool :: .bool :: .int .i64 :: .int .i64 :: .obox 5 :: .bool :: .bool :: .bool :: .int .i64 :: .int .i64::[])))]
def q4j:List Sh:=[.agg 11,.bool,.str,.str,.lst (.pair .bool (.pair .str .str)),.lst .str,.bool,.bool,.bool,.int .i64,.int .i64,.int .i64,.agg 3,.bool,.str,.str,.lst (.pair (.int .i64) (.lst .str))]
def q4k:List Sh := .top :: .top :: .lst (.pair (.int .i64) (.lst .str))::tp 4 (.bool::tp 3 (.ptr 0 0 :: .int .i64 :: .lst (.pair (.int .i64) .str) :: .int .i64::tp 73 (.obox 37 :: .lst qh :: .lst qi :: .lst qj :: .opq 0 :: .opq 1 :: .str :: .bool :: .str :: .str :: .nils :: .lst .str :: .bool :: .bool :: .bool :: .int .i64 :: .int .i64 :: .int .i64 :: .bool :: .str :: .str :: .int .i64 :: .bool :: .int .i64 :: .int .i64 :: .bool :: .bool :: .int .i64 :: .int .i64 :: .bool :: .str :: .str :: .bool :: .str :: .str :: .bool :: .bool :: .int .i64::[])))
def q7u:Outs:=[((.exit 2),.top :: .top :: .lst (.pair (.int .i64) (.lst .str))::tp 4 (.bool::tp 3 (.ptr 0 0 :: .int .i64::tp 75 (.obox 37 :: .lst qh :: .lst qi :: .lst qj :: .opq 0 :: .opq 1 :: .str :: .bool :: .str :: .str :: .nils :: .lst .str :: .bool :: .bool :: .bool :: .int .i64 :: .int .i64 :: .int .i64 :: .bool :: .str :: .str :: .int .i64 :: .bool :: .int .i64 :: .int .i64 :: .bool :: .bool :: .int .i64 :: .int .i64 :: .bool :: .str :: .str :: .bool :: .str :: .str :: .bool :: .bool :: .int .i64::[])))),(.ret,tp 6 (.bool::tp 81 ([])))]
def q4l:List Sh := .top :: .top :: .lst (.pair (.int .i64) (.lst .str))::tp 4 (.bool::tp 3 (.ptr 0 0 :: .int .i64::tp 75 (.obox 37 :: .lst qh :: .lst qi :: .lst qj :: .opq 0 :: .opq 1 :: .str :: .bool :: .str :: .str :: .nils :: .lst .str :: .bool :: .bool :: .bool :: .int .i64 :: .int .i64 :: .int .i64 :: .bool :: .str :: .str :: .int .i64 :: .bool :: .int .i64 :: .int .i64 :: .bool :: .bool :: .int .i64 :: .int .i64 :: .bool :: .str :: .str :: .bool :: .str :: .str :: .bool :: .bool :: .int .i64::[])))
def q7v:Outs:=[((.exit 0),tp 7 (.bool::tp 80 ([]))),(.ret,tp 6 (.bool::tp 81 ([])))]
def q4m:List Sh := .top :: .top :: .lst (.pair (.int .i64) (.lst .str))::tp 4 (.bool::tp 3 (.ptr 0 0::tp 76 (.obox 37 :: .lst qh :: .lst qi :: .lst qj :: .opq 0 :: .opq 1 :: .str :: .bool :: .str :: .str :: .nils :: .lst .str :: .bool :: .bool :: .bool :: .int .i64 :: .int .i64 :: .int .i64 :: .bool :: .str :: .str :: .int .i64 :: .bool :: .int .i64 :: .int .i64 :: .bool :: .bool :: .int .i64 :: .int .i64 :: .bool :: .str :: .str :: .bool :: .str :: .str :: .bool :: .bool :: .int .i64::[])))
def zu:Outs:=[(.ret,tp 6 (.bool::tp 81 ([])))]
def xe:List Sh := .top :: .top :: .lst (.pair (.int .i64) (.lst .str)) :: .ptr 0 0 :: .ptr 1 0 :: .top :: .top :: .bool :: .bool :: .bool :: .bool::tp 77 (.obox 11 :: .bool :: .str :: .str :: .lst (.pair .bool (.pair .str .str)) :: .lst .str :: .bool :: .bool :: .bool :: .int .i64 :: .int .i64 :: .int .i64 :: .obox 3 :: .bool :: .str :: .str::[])
abbrev T226:=qb×qc×qd×Int×Unit->Option (Int×Int×Int×Bool×Bool×Bool×Unit)
def E226(f:T226):FEnt:=⟨zv,Lo1,f⟩
abbrev T327:=Int×Unit->Option (List (Int)×Unit)
def E327(f:T327):FEnt:=⟨Li2,Lo3,f⟩
abbrev T294:=List (Int)×Unit->Option (List (Int)×Unit)
def E294(f:T294):FEnt:=⟨Li4,Lo3,f⟩
abbrev T319:=qb×qc×qd×Int×Int×Unit->Option (Int×Bool×Unit)
def E319(f:T319):FEnt:=⟨Li5,Lo6,f⟩
abbrev T279:=Unit->Option (Unit)
def E279(f:T279):FEnt:=⟨vj,Lo8,f⟩
abbrev T188:=qb×qc×qd×List (Int)×Unit->Option (Int×Unit)
def E188(f:T188):FEnt:=⟨zw,qf,f⟩
abbrev T261:=Int×List (Int)×List (Int)×Unit->Option (List (Int)×Unit)
def E261(f:T261):FEnt:=⟨j0l,j0n,f⟩
abbrev T126:=qa×Int×Unit->Option (Int×Unit)
def E126(f:T126):FEnt:=⟨zi,qf,f⟩
abbrev T12:=Unit->Option (qb×qc×qd×Unit)
def E12(f:T12):FEnt:=⟨vj,j0o,f⟩
abbrev T29:=List (qa)×Unit->Option (List (qa)×Unit)
def E29(f:T29):FEnt:=⟨zz,zk,f⟩
abbrev T56:=List (qa)×Unit->Option (List (qa)×Unit)
def E56(f:T56):FEnt:=⟨zz,zk,f⟩
abbrev T156:=qa×qa×Int×Int×Int×Unit->Option (Unit)
def E156(f:T156):FEnt:=⟨j0m,j0p,f⟩
abbrev T111:=qb×qc×qd×qa×Unit->Option (qa×qa×Int×Unit)
def E111(f:T111):FEnt:=⟨jg,q8b,f⟩
abbrev T268:=qa×Int×Unit->Option (Int×Unit)
def E268(f:T268):FEnt:=⟨zi,qf,f⟩
abbrev T124:=Int×Unit->Option (qa×Unit)
def E124(f:T124):FEnt:=⟨za,jp,f⟩
abbrev T68:=qa×qa×Unit->Option (qa×Unit)
def E68(f:T68):FEnt:=⟨jb,jp,f⟩
abbrev qp(K:Calls')(np:Nat)(f:Func)(n:Ann)(ins:List Sh)(os:Outs)(F:HS ins->Option (OTy os)):Prop:=∀v,afun Γ K np f.ntmps f.results.toList (code f) n (em id ins v).1 (em id ins v).2 (ofin np os)=F v
abbrev jd(K:Calls')(np:Nat)(c:Code)(n:Ann)(ins:List Sh)(os:Outs)(F:HS ins->Option (OTy os)):Prop:=∀v,aev Γ K np c n (stof ins v) (oout np os)=F v
abbrev jv(K:Calls')(np:Nat)(c:Code)(n:Ann)(ins:List Sh)(os:Outs)(F:HS ins->Option (HS ins⊕OTy os)):Prop:=∀v,aev Γ K np c n (stof ins v) (around np ins os)=F v
theorem wo{np:Nat}{K:Calls'}{f:FuncId}{fn:Func}{n:Ann}{e:FEnt}(hK:KOk prog K)(hf:prog.funcs[f]? = some fn)(hb:fn.body=some (code fn))(hname:(fn.name == "runtime.NumGoroutine")=false)(hn:AnnOk prog np (code fn) n)(hnp:∀v,Nat.ble (em id e.ins v).2.length np=true)(h:∀v,afun Γ K np fn.ntmps fn.results.toList (code fn) n (em id e.ins v).1 (em id e.ins v).2 (ofin np e.outs)=e.fn v):FnOk prog f e:=fn_ok hm hΓ hK hf hb (name_ne hname) hn (λv=>Nat.le_of_ble_eq_true (hnp v)) h
abbrev lk(l:List (Nat×FEnt)):Calls':=λf=>Ae.lookA f l
def qu:=lk []
theorem kn:KOk prog qu:=kok_nil _
theorem kc{f:FuncId}{e:FEnt}{l:List (Nat×FEnt)}(h:FnOk prog f e)(t:KOk prog (lk l)):KOk prog (lk ((f,e)::l)):=kok_cons h t
abbrev FO(f:FuncId)(e:FEnt):Prop:=FnOk prog f e
abbrev qg(np:Nat)(c:Code)(e:LEnt):Prop:=FragOk prog np (λQ a w=>(Code.loop c).wp prog Q a w) e
abbrev ql(np:Nat)(c:Code)(e:LEnt):Prop:=FragOk prog np (λQ a w=>c.wp prog Q a w) e
theorem frl{np:Nat}{K:Calls'}{c:Code}{i:List Sh}{o:Outs}{F:HS i->Option (HS i⊕OTy o)}(hK:KOk prog K)(h:jv K np c .nil i o F):qg np c ⟨i,o,loopN F big⟩:=frag_big (C:=loopN F big) (frag_loop hm hΓ hK (λ_=>big) (ann_nil _) h) rfl
theorem vy{np:Nat}{K:Calls'}{c:Code}{n:Ann}{i:List Sh}{o:Outs}{F:HS i->Option (HS i⊕OTy o)}{Q:Prop}(hK:KOk prog K)(q:Q)(h:jv K np c n i o F)(ho:Obs prog np c n True=Q:=by kernel_rfl):qg np c ⟨i,o,loopN F big⟩:=frag_big (C:=loopN F big) (frag_loop hm hΓ hK (λ_=>big) (ann_obs q ho) h) rfl
theorem yc{np:Nat}{K:Calls'}{c:Code}{i:List Sh}{o:Outs}{F:HS i->Option (OTy o)}(hK:KOk prog K)(h:jd K np c .nil i o F):ql np c ⟨i,o,F⟩:=frag_code hm hΓ hK (ann_nil _) h
theorem zc{np:Nat}{K:Calls'}{c:Code}{n:Ann}{i:List Sh}{o:Outs}{F:HS i->Option (OTy o)}{Q:Prop}(hK:KOk prog K)(q:Q)(h:jd K np c n i o F)(ho:Obs prog np c n True=Q:=by kernel_rfl):ql np c ⟨i,o,F⟩:=frag_code hm hΓ hK (ann_obs q ho) h
theorem q0{np:Nat}{K:Calls'}{f:FuncId}{fn:Func}{e:FEnt}(hK:KOk prog K)(hf:prog.funcs[f]? = some fn)(h:∀v,afun Γ K np fn.ntmps fn.results.toList (code fn) .nil (em id e.ins v).1 (em id e.ins v).2 (ofin np e.outs)=e.fn v)(hb:fn.body=some (code fn):=by kernel_rfl)(hname:(fn.name == "runtime.NumGoroutine")=false:=by kernel_rfl)(hnp:∀v,Nat.ble (em id e.ins v).2.length np=true:=by intro _;kernel_rfl):FO f e:=wo hK hf hb hname (ann_nil _) hnp h
theorem qo{np:Nat}{K:Calls'}{f:FuncId}{fn:Func}{n:Ann}{e:FEnt}{Q:Prop}(hK:KOk prog K)(hf:prog.funcs[f]? = some fn)(q:Q)(h:∀v,afun Γ K np fn.ntmps fn.results.toList (code fn) n (em id e.ins v).1 (em id e.ins v).2 (ofin np e.outs)=e.fn v)(ho:Obs prog np (code fn) n True=Q:=by kernel_rfl)(hb:fn.body=some (code fn):=by kernel_rfl)(hname:(fn.name == "runtime.NumGoroutine")=false:=by kernel_rfl)(hnp:∀v,Nat.ble (em id e.ins v).2.length np=true:=by intro _;kernel_rfl):FO f e:=wo hK hf hb hname (ann_obs q ho) hnp h
theorem zc2{X0 X1:Type}{np:Nat}{c:Code}(i:List Sh)(o:Outs)(K:X0->X1->Calls')(F:X0->X1->HS i->Option (OTy o))(x0:X0)(x1:X1)(hK:KOk prog (K x0 x1))(h:∀(x0:X0) (x1:X1),jd (K x0 x1) np c .nil i o (F x0 x1):=by intro _ _ _;kernel_rfl):ql np c ⟨i,o,F x0 x1⟩:=yc hK (h x0 x1)
theorem jz{X0 X1 Y0:Type}{np:Nat}{c:Code}(i:List Sh)(o:Outs)(K:X0->X1->Calls')(N:Y0->Ann)(F:X0->X1->Y0->HS i->Option (OTy o))(x0:X0)(x1:X1)(y0:Y0){Q:Prop}(hK:KOk prog (K x0 x1))(q:Q)(h:∀(x0:X0) (x1:X1) (y0:Y0),jd (K x0 x1) np c (N y0) i o (F x0 x1 y0):=by intro _ _ _ _;kernel_rfl)(ho:Obs prog np c (N y0) True=Q:=by kernel_rfl):ql np c ⟨i,o,F x0 x1 y0⟩:=zc hK q (h x0 x1 y0) ho
theorem zl0{np:Nat}{c:Code}(i:List Sh)(o:Outs)(K:Calls')(F:HS i->Option (HS i⊕OTy o))(hK:KOk prog (K))(h:jv (K) np c .nil i o (F):=by intro _;kernel_rfl):qg np c ⟨i,o,loopN (F) big⟩:=frl hK (h)
theorem zg{X0:Type}{np:Nat}{c:Code}(i:List Sh)(o:Outs)(K:X0->Calls')(F:X0->HS i->Option (HS i⊕OTy o))(x0:X0)(hK:KOk prog (K x0))(h:∀(x0:X0),jv (K x0) np c .nil i o (F x0):=by intro _ _;kernel_rfl):qg np c ⟨i,o,loopN (F x0) big⟩:=frl hK (h x0)
theorem kl{X0 X1:Type}{np:Nat}{c:Code}(i:List Sh)(o:Outs)(K:X0->X1->Calls')(F:X0->X1->HS i->Option (HS i⊕OTy o))(x0:X0)(x1:X1)(hK:KOk prog (K x0 x1))(h:∀(x0:X0) (x1:X1),jv (K x0 x1) np c .nil i o (F x0 x1):=by intro _ _ _;kernel_rfl):qg np c ⟨i,o,loopN (F x0 x1) big⟩:=frl hK (h x0 x1)
theorem zl4{X0 X1 X2 X3:Type}{np:Nat}{c:Code}(i:List Sh)(o:Outs)(K:X0->X1->X2->X3->Calls')(F:X0->X1->X2->X3->HS i->Option (HS i⊕OTy o))(x0:X0)(x1:X1)(x2:X2)(x3:X3)(hK:KOk prog (K x0 x1 x2 x3))(h:∀(x0:X0) (x1:X1) (x2:X2) (x3:X3),jv (K x0 x1 x2 x3) np c .nil i o (F x0 x1 x2 x3):=by intro _ _ _ _ _;kernel_rfl):qg np c ⟨i,o,loopN (F x0 x1 x2 x3) big⟩:=frl hK (h x0 x1 x2 x3)
theorem zd{f:FuncId}{fn:Func}(i:List Sh)(o:Outs)(K:Calls')(F:HS i->Option (OTy o))(hK:KOk prog (K))(hf:prog.funcs[f]? = some fn)(h:qp (K) 0 fn .nil i o (F):=by intro _;kernel_rfl)(hb:fn.body=some (code fn):=by kernel_rfl)(hname:(fn.name == "runtime.NumGoroutine")=false:=by kernel_rfl)(hnp:∀v,Nat.ble (em id i v).2.length 0=true:=by intro _;kernel_rfl):FO f ⟨i,o,F⟩:=wo hK hf hb hname (ann_nil _) hnp (h)
theorem ji{Y0:Type}{f:FuncId}{fn:Func}(i:List Sh)(o:Outs)(K:Calls')(N:Y0->Ann)(F:Y0->HS i->Option (OTy o))(y0:Y0){Q:Prop}(hK:KOk prog (K))(hf:prog.funcs[f]? = some fn)(q:Q)(h:∀(y0:Y0),qp (K) 0 fn (N y0) i o (F y0):=by intro _ _;kernel_rfl)(ho:Obs prog 0 (code fn) (N y0) True=Q:=by kernel_rfl)(hb:fn.body=some (code fn):=by kernel_rfl)(hname:(fn.name == "runtime.NumGoroutine")=false:=by kernel_rfl)(hnp:∀v,Nat.ble (em id i v).2.length 0=true:=by intro _;kernel_rfl):FO f ⟨i,o,F y0⟩:=wo hK hf hb hname (ann_obs q ho) hnp (h y0)
theorem qz{X0:Type}{f:FuncId}{fn:Func}(i:List Sh)(o:Outs)(K:X0->Calls')(F:X0->HS i->Option (OTy o))(x0:X0)(hK:KOk prog (K x0))(hf:prog.funcs[f]? = some fn)(h:∀(x0:X0),qp (K x0) 0 fn .nil i o (F x0):=by intro _ _;kernel_rfl)(hb:fn.body=some (code fn):=by kernel_rfl)(hname:(fn.name == "runtime.NumGoroutine")=false:=by kernel_rfl)(hnp:∀v,Nat.ble (em id i v).2.length 0=true:=by intro _;kernel_rfl):FO f ⟨i,o,F x0⟩:=wo hK hf hb hname (ann_nil _) hnp (h x0)
theorem qx{X0 Y0:Type}{f:FuncId}{fn:Func}(i:List Sh)(o:Outs)(K:X0->Calls')(N:Y0->Ann)(F:X0->Y0->HS i->Option (OTy o))(x0:X0)(y0:Y0){Q:Prop}(hK:KOk prog (K x0))(hf:prog.funcs[f]? = some fn)(q:Q)(h:∀(x0:X0) (y0:Y0),qp (K x0) 0 fn (N y0) i o (F x0 y0):=by intro _ _ _;kernel_rfl)(ho:Obs prog 0 (code fn) (N y0) True=Q:=by kernel_rfl)(hb:fn.body=some (code fn):=by kernel_rfl)(hname:(fn.name == "runtime.NumGoroutine")=false:=by kernel_rfl)(hnp:∀v,Nat.ble (em id i v).2.length 0=true:=by intro _;kernel_rfl):FO f ⟨i,o,F x0 y0⟩:=wo hK hf hb hname (ann_obs q ho) hnp (h x0 y0)
theorem vg{X0 X1:Type}{f:FuncId}{fn:Func}(i:List Sh)(o:Outs)(K:X0->X1->Calls')(F:X0->X1->HS i->Option (OTy o))(x0:X0)(x1:X1)(hK:KOk prog (K x0 x1))(hf:prog.funcs[f]? = some fn)(h:∀(x0:X0) (x1:X1),qp (K x0 x1) 0 fn .nil i o (F x0 x1):=by intro _ _ _;kernel_rfl)(hb:fn.body=some (code fn):=by kernel_rfl)(hname:(fn.name == "runtime.NumGoroutine")=false:=by kernel_rfl)(hnp:∀v,Nat.ble (em id i v).2.length 0=true:=by intro _;kernel_rfl):FO f ⟨i,o,F x0 x1⟩:=wo hK hf hb hname (ann_nil _) hnp (h x0 x1)
theorem zf{X0 X1 Y0:Type}{f:FuncId}{fn:Func}(i:List Sh)(o:Outs)(K:X0->X1->Calls')(N:Y0->Ann)(F:X0->X1->Y0->HS i->Option (OTy o))(x0:X0)(x1:X1)(y0:Y0){Q:Prop}(hK:KOk prog (K x0 x1))(hf:prog.funcs[f]? = some fn)(q:Q)(h:∀(x0:X0) (x1:X1) (y0:Y0),qp (K x0 x1) 0 fn (N y0) i o (F x0 x1 y0):=by intro _ _ _ _;kernel_rfl)(ho:Obs prog 0 (code fn) (N y0) True=Q:=by kernel_rfl)(hb:fn.body=some (code fn):=by kernel_rfl)(hname:(fn.name == "runtime.NumGoroutine")=false:=by kernel_rfl)(hnp:∀v,Nat.ble (em id i v).2.length 0=true:=by intro _;kernel_rfl):FO f ⟨i,o,F x0 x1 y0⟩:=wo hK hf hb hname (ann_obs q ho) hnp (h x0 x1 y0)
theorem yf{X0 X1 X2 Y0:Type}{f:FuncId}{fn:Func}(i:List Sh)(o:Outs)(K:X0->X1->X2->Calls')(N:Y0->Ann)(F:X0->X1->X2->Y0->HS i->Option (OTy o))(x0:X0)(x1:X1)(x2:X2)(y0:Y0){Q:Prop}(hK:KOk prog (K x0 x1 x2))(hf:prog.funcs[f]? = some fn)(q:Q)(h:∀(x0:X0) (x1:X1) (x2:X2) (y0:Y0),qp (K x0 x1 x2) 0 fn (N y0) i o (F x0 x1 x2 y0):=by intro _ _ _ _ _;kernel_rfl)(ho:Obs prog 0 (code fn) (N y0) True=Q:=by kernel_rfl)(hb:fn.body=some (code fn):=by kernel_rfl)(hname:(fn.name == "runtime.NumGoroutine")=false:=by kernel_rfl)(hnp:∀v,Nat.ble (em id i v).2.length 0=true:=by intro _;kernel_rfl):FO f ⟨i,o,F x0 x1 x2 y0⟩:=wo hK hf hb hname (ann_obs q ho) hnp (h x0 x1 x2 y0)
end Go.Proofs.YtgkmfhhghcccjaaGreatDoorA.W
set_option linter.unusedSimpArgs false
namespace Go.Ae
open Go.Shelf Go.RowKit Go.Proofs
variable {P:Program} {ρ:Ren}
theorem enters{f:FuncId}{fn:Func}(hf:P.funcs[f]? = some fn)(hb:fn.body.isSome=true)(hname:(fn.name == "runtime.NumGoroutine")=false)(args:Array Value)(w:World):(callFunc f args).run P w = .ok (.enter f args) w:=by
 obtain⟨c,hc⟩:=Option.isSome_iff_exists.1 hb;have hn:fn.name ≠ "runtime.NumGoroutine" := by simpa using hname
 simp[callFunc,hf,hc,hn]
end Go.Ae
namespace Go.Ae
open Go.RowKit
variable {P:Program} {f:FuncId}
mutual
def AV.pur:AV->Bool
 | .top=>true | .int _ _=>true | .bool _=>true | .str _=>true | .lst _ _=>true
 | .nils=>true | .nilp=>true | .nilf=>true | .nili=>true | .nilm=>true | .opq _=>true | .elt _ _ _=>true
 | .func _ f c=>purL f&&purL c | .iface _ v=>v.pur | .agg cs=>purL cs | .tuple vs=>purL vs
 | .row _=>false | .win _ _ _ _=>false | .ptr _ _=>false | .rel _ _ _ _=>false | .rowc _ _ _=>false | .frow _ _=>false | .siter _ _=>false | .arrc _ _ _=>false | .vals _ _ _=>false | .bldr _ _=>false
def purL:List AV->Bool
 | []=>true
 | a::l=>a.pur&&purL l
end
mutual
theorem RepV.move{w:World}{m m':Md}{g g':List Value}(hm:∀b,m' b->m b):∀(a:AV) (v:Value),a.pur=true->RepV w m g a v->RepV w m' g' a v
 | .top,_,_,_=>trivial
 | .int _ _,_,_,h=>h
 | .bool _,_,_,h=>h
 | .str _,_,_,h=>h
 | .lst T _,_,_,h=>RepT.less (T := .lst T) hm h
 | .nils,_,_,h=>h
 | .nilp,_,_,h=>h
 | .nilf,_,_,h=>h
 | .nili,_,_,h=>h
 | .nilm,_,_,h=>h
 | .opq _,_,_,⟨b,o,h1,h2,h3,h4,h5⟩=>⟨b,o,h1,h2,λh'=>h3 (hm b h'),h4,h5⟩
 | .elt _ _ _,_,_,⟨b,o,us,h1,h2,h3,h4,h5⟩=>⟨b,o,us,h1,h2.less hm,h3,λh'=>h4 (hm b h'),h5⟩
 | .func _ f c,_,hp,⟨fs,cs,h1,h2,h3⟩=>by
  simp only[AV.pur,and_eq_true]at hp;exact⟨fs,cs,h1,RepL.move hm f _ hp.1 h2,RepL.move hm c _ hp.2 h3⟩
 | .iface _ a,_,hp,⟨u,h1,h2⟩=>⟨u,h1,RepV.move hm a u (by simpa[AV.pur]using hp) h2⟩
 | .agg cs,_,hp,⟨a,h1,h2⟩=>⟨a,h1,RepL.move hm cs _ (by simpa[AV.pur]using hp) h2⟩
 | .tuple vs,_,hp,⟨a,h1,h2⟩=>⟨a,h1,RepL.move hm vs _ (by simpa[AV.pur]using hp) h2⟩
 | .row _,_,hp,_=>by simp[AV.pur]at hp
 | .win _ _ _ _,_,hp,_=>by simp[AV.pur]at hp
 | .ptr _ _,_,hp,_=>by simp[AV.pur]at hp
 | .rel _ _ _ _,_,hp,_=>by simp[AV.pur]at hp
 | .rowc _ _ _,_,hp,_=>by simp[AV.pur]at hp
 | .frow _ _,_,hp,_=>by simp[AV.pur]at hp
 | .siter _ _,_,hp,_=>by simp[AV.pur]at hp
 | .arrc _ _ _,_,hp,_=>by simp[AV.pur]at hp
 | .vals _ _ _,_,hp,_=>by simp[AV.pur]at hp
 | .bldr _ _,_,hp,_=>by simp[AV.pur]at hp
theorem RepL.move{w:World}{m m':Md}{g g':List Value}(hm:∀b,m' b->m b):∀(l:List AV) (vs:List Value),purL l=true->RepL w m g l vs->RepL w m' g' l vs
 | [],_,_,h=>h
 | a::l,_,hp,⟨v,r,h1,h2,h3⟩=>by
  simp only[purL,and_eq_true]at hp;exact⟨v,r,h1,RepV.move hm a v hp.1 h2,RepL.move hm l r hp.2 h3⟩
end
theorem below_stp{w w':World}{m m':Md}(h:Stp w m w' m')(hn:∀b,¬m.n b):Below w.heap.size w w':=⟨h.os,h.tape,h.output,h.size,λb hb=>h.keep b hb (hn b)⟩
theorem hand{fn:Func}(hf:P.funcs[f]? = some fn)(hb:fn.body.isSome=true)(hname:(fn.name == "runtime.NumGoroutine")=false){ins:List Sh}{os:Outs}{F:HS ins->Option (OTy os)}(he:∀v,(em id ins v).2=[])(hp:∀v,purL (em id ins v).1=true)(h:∀(v:HS ins) (y:OTy os),F v=some y->∀(w:World) (m:Md) (args:Array Value),GI w m->(∀b,¬m.n b)->(∀b,m.a b->b<w.heap.size)->RepL w m [] (em id ins v).1 args.toList ->
  Calls P f args w λe w'=>∃r,e = .returned r/\Below w.heap.size w w'/\∃ax l u,OSel os y ax l u/\(em id l u).2=[]/\purL (em id l u).1=true/\RepL w' m [] (em id l u).1 [r]):FnOk P f ⟨ins,os,F⟩:=by
 intro w m g v args y hob hargs hy;have hob':RepOb w m g []:=by have:=hob;rwa[show (em id (FEnt.ins ⟨ins,os,F⟩) v).2=[] from he v]at this
 refine .inr ⟨enters hf hb hname _ w,?_⟩;have hlt:=hob.lt;have hargs':RepL w m g (em id ins v).1 args.toList:=hargs;refine(h v y hy w ⟨λ_=>False,m.a⟩ args ⟨hob.gi.i,hob.gi.b⟩ (λ_=>id) hlt (RepL.move (m':=⟨λ_=>False,m.a⟩) (g':=[]) (λb (h:m.a b)=>h) _ _ (hp v) hargs')).mono λe w' ⟨r,h1,h2,ax,l,u,h3,h4,h5,h6⟩ => ?_;refine⟨r,h1,ax,l,u,m,g,h3,stp_below h2 hob.nm,?_,λ_ _ h=>h,RepL.move (m:=⟨λ_=>False,m.a⟩) (λb (h:m.a b)=>h) _ _ h5 h6⟩;rw[h4];exact repOb_nil hob' (stp_below h2 hob.nm)
theorem FnOk.call0{ins:List Sh}{os:Outs}{F:HS ins->Option (OTy os)}(h:FnOk P f ⟨ins,os,F⟩){fn:Func}(hf:P.funcs[f]? = some fn)(hb:fn.body.isSome=true)(hname:(fn.name == "runtime.NumGoroutine")=false){w:World}{m:Md}{v:HS ins}{y:OTy os}{args:Array Value}(gi:GI w m)(hlt:∀b,m.a b->b<w.heap.size)(he:(em id ins v).2=[])(hargs:RepL w m [] (em id ins v).1 args.toList)(hpa:purL (em id ins v).1=true)(hy:F v=some y)(hpo:∀ax l u,OSel os y ax l u->purL (em id l u).1=true) :
 Calls P f args w λe w'=>∃r,e = .returned r/\Below w.heap.size w w'/\∃ax l u,OSel os y ax l u/\RepL w' m [] (em id l u).1 [r]:=by
 have hob:RepOb w ⟨λ_=>False,m.a⟩ [] []:=⟨⟨gi.i,gi.b⟩,rfl,λb ⟨i,hi⟩=>by simp at hi,λ_ h=>h.elim,hlt,λi gi cs h1 h2=>by simp at h2,λi j gi gj ci cj b _ h1 h2=>by simp at h2⟩
 have hob':RepOb w ⟨λ_=>False,m.a⟩ [] (em id ins v).2:=by rw[he];exact hob
 rcases h w ⟨λ_=>False,m.a⟩ [] v args y hob' (RepL.move (m':=⟨λ_=>False,m.a⟩) (λb (h:m.a b)=>h) _ _ hpa hargs) hy with⟨v1,w1,hr,_⟩|⟨_,hc⟩
 . rw[enters hf hb hname args w]at hr;cases hr
 . refine hc.mono λe w' ⟨r,h1,ax,l,u,m',g',h2,h3,h4,h5,h6⟩=>⟨r,h1,below_stp h3 (λ_=>id),ax,l,u,h2,?_⟩
   exact RepL.move (λb hb=>h3.stay b (hlt b hb) hb id) _ _ (hpo ax l u h2) h6
end Go.Ae
namespace Go.Ae
open Go.RowKit
variable {P:Program} {f:FuncId}
theorem osel_one(l:List Sh)(y:HS l):OSel [(AX.ret,l)] y .ret l y:=⟨by simp,λR k=>rfl⟩
theorem osel_one_inv{l:List Sh}{y:HS l}{ax:AX}{l':List Sh}{u:HS l'}(h:OSel [(AX.ret,l)] y ax l' u):(⟨l',u⟩:(l:List Sh)×HS l)=⟨l,y⟩:=by
 have:=h.2 ((l:List Sh)×HS l) λ_ l u=>some ⟨l,u⟩;simpa[ocase]using this.symm
theorem hand_row{fn:Func}(hf:P.funcs[f]? = some fn)(hb:fn.body.isSome=true)(hname:(fn.name == "runtime.NumGoroutine")=false){ins:List Sh}{e:TypeId}{T:Ty}{F:HS ins->Option (List T.den×Unit)}(hT:T.hasLst=false)(he:∀v,(em id ins v).2=[])(hp:∀v,purL (em id ins v).1=true)(h:∀(v:HS ins) (y:List T.den),F v=some (y,())->∀(w:World) (m:Md) (args:Array Value),GI w m->(∀b,¬m.n b)->(∀b,m.a b->b<w.heap.size)->RepL w m [] (em id ins v).1 args.toList ->
  Calls P f args w λen w'=>∃r xs,en = .returned r/\Below w.heap.size w w'/\w'.ownsRow w.heap.size e T.size r y.length xs/\RepE w' m T y xs):FnOk P f ⟨ins,[(.ret,[.row 0,.orow e T])],F⟩:=by
 intro w m g v args y hob hargs hy;have hob':RepOb w m g []:=by have:=hob;rwa[show (em id (FEnt.ins ⟨ins,[(AX.ret,[Sh.row 0,Sh.orow e T])],F⟩) v).2=[] from he v]at this
 refine .inr ⟨enters hf hb hname _ w,?_⟩;have hlt:=hob.lt;have hargs':RepL w m g (em id ins v).1 args.toList:=hargs;have hg:g=[]:=List.eq_nil_of_length_eq_zero hob'.len;subst hg
 change List T.den×Unit at y
 obtain⟨y,u⟩:=y;refine(h v y hy w ⟨λ_=>False,m.a⟩ args ⟨hob.gi.i,hob.gi.b⟩ (λ_=>id) hlt (RepL.move (m':=⟨λ_=>False,m.a⟩) (g':=[]) (λb (h:m.a b)=>h) _ _ (hp v) hargs')).mono λen w' ⟨r,xs,h1,h2,h3,h4⟩ => ?_;have hfresh:∀b,r.ownBlock=some b->w.heap.size<=b:=by
  intro b hb;rcases h3.2 with⟨rfl,_⟩|⟨q,cap,cur,rfl,hq,_⟩
  . cases hb
  . cases hb;exact hq
 have hst:=stp_below h2 hob.nm;have h3':w'.ownsRow 0 e T.size r y.length xs:=by
  refine⟨h3.1,?_⟩;rcases h3.2 with h|⟨q,cap,cur,k1,k2,k3⟩
  . exact .inl h
  . exact .inr ⟨q,cap,cur,k1,zero_le _,k3⟩
 obtain⟨q1,q2,q3⟩:=hob'.add (w':=w') r [.rowc e T y] h2.os h2.tape h2.output h2.size (λb hb _=>h2.block b hb) (λb hb hlt=>by
  have:=hfresh b hb;omega)
  (λhs=>⟨λe' T' l' he=>by
   cases he;exact⟨xs,h3',λj x hj=>(h4 j x hj).noLst hT⟩,(λT' l' he=>by cases he),(λh=>by simp[isBox]at h),(λ_ _ he=>by cases he),trivial⟩)
 have hsl:∃ao n c,r = .slice ao n c:=by
  rcases h3.2 with⟨rfl,_⟩|⟨q,cap,cur,rfl,_⟩
  . exact⟨_,_,_,rfl⟩
  . exact⟨_,_,_,rfl⟩
 exact⟨r,h1,.ret,[.row 0,.orow e T],(y,()),_,[r],⟨by simp,λR k=>by cases u;rfl⟩,q2,q1,λo v hv=>by simp at hv,⟨r,[],rfl,⟨rfl,hsl⟩,rfl⟩⟩
def joinF(v:List (List UInt8)×List UInt8×Unit):Option (List UInt8×Unit) :=
 bif decide (v.1.length<=140737488355328)&&decide ((Lib.join v.1 v.2.1).length<=140737488355328)then some (Lib.join v.1 v.2.1,())else none
theorem lib_join{fn:Func}(hf:P.funcs[f]? = some fn)(hb:fn.body.isSome=true)(hname:(fn.name == "runtime.NumGoroutine")=false)(h0:∀(a:Option Addr) (c:Nat) (sep:ByteArray) (w:World),Calls P f #[.slice a 0 c,.string sep] w λe w'=>e = .returned (.string ⟨#[]⟩)/\w'=w)(h1:∀(bk o c:Nat) (xs:List ByteArray) (sep:ByteArray) (w:World),(∀(j:Nat) x,xs[j]? = some x->w.cell? ⟨bk,o+j,none⟩=some (.string x))->bk<w.heap.size->xs.length<=140737488355328->xs.length<=c ->
  (Lib.join (xs.map (·.data.toList)) sep.data.toList).length<=140737488355328 ->
  Calls P f #[.slice (some ⟨bk,o,none⟩) xs.length c,.string sep] w λe w'=>e = .returned (.string ⟨(Lib.join (xs.map (·.data.toList)) sep.data.toList).toArray⟩)/\Below w.heap.size w w') :
 FnOk P f ⟨[.lst .str,.str],[(.ret,[.str])],joinF⟩:=by
 intro w m g v args y hob hargs hy
 change List (List UInt8)×List UInt8×Unit at v
 obtain⟨l,s,u⟩:=v;obtain⟨v1,r1,e1,r2,r3⟩:=hargs;obtain⟨v2,r4,e2,r5,r6⟩:=r3;have r6':r4=[]:=r6;have r5':v2 = .string ⟨⟨s⟩⟩:=r5;subst r5' r6' e2;have ha:args = #[v1,.string ⟨⟨s⟩⟩]:=by cases args;simpa using e1
 subst ha
 change List UInt8×Unit at y
 have hy':(bif decide (l.length<=140737488355328)&&decide ((Lib.join l s).length<=140737488355328)then some (Lib.join l s,())else none)=some y:=hy;rcases cond_some hy' with⟨hb2,hy2⟩|⟨_,hy2⟩
 case inr=>cases hy2
 cases hy2;simp only[and_eq_true,decide_eq_true_eq]at hb2;refine .inr ⟨enters hf hb hname _ w,?_⟩;have key:Calls P f #[v1,.string ⟨⟨s⟩⟩] w λe w'=>e = .returned (.string ⟨⟨Lib.join l s⟩⟩)/\Below w.heap.size w w':=by
  obtain⟨ao,cap,he,k1,k2,k3,k4⟩:=(show RepT w m (.lst .str) l [v1] from r2)
  have hev:v1 = .slice ao l.length cap:=(List.cons.inj he).1;subst hev;have k1':l.length<=cap:=k1;have k4':∀(j:Nat) (q:List UInt8),l[j]? = some q->∃b o,ao=some ⟨b,o,none⟩/\b<w.heap.size/\w.cell? ⟨b,o+j,none⟩=some (.string ⟨⟨q⟩⟩):=by
   intro j q hq;obtain⟨b',o',us',e1,e2,_,e4,_,e3⟩:=k4 j q hq;have e2':us'=[.string ⟨⟨q⟩⟩]:=e2;have:=e3 0 _ (by rw[e2'];rfl);exact⟨b',o',e1,e4,by simpa[Ty.size]using this⟩
  clear k4 k1 he r2;cases l with
  | nil =>
   refine(h0 ao cap ⟨⟨s⟩⟩ w).mono λe w' ⟨q1,q2⟩=>⟨by rw[q1];rfl,q2▸Below.refl _ _⟩
  | cons x l =>
   obtain⟨b,o,rfl,hlt,_⟩:=k4' 0 x rfl;have:=h1 b o cap ((x::l).map λs=>⟨⟨s⟩⟩) ⟨⟨s⟩⟩ w (λj z hj=>by
    rw[getElem?_map]at hj;obtain⟨q,hq,rfl⟩:=map_eq_some_iff.1 hj;obtain⟨b',o',e1,_,e3⟩:=k4' j q hq;cases e1;exact e3) hlt (by rw[length_map];exact hb2.1) (by rw[length_map];exact k1') (by rw[map_map];simpa[Function.comp_def]using hb2.2)
   rw[length_map]at this;refine this.mono λe w' ⟨q1,q2⟩=>⟨?_,q2⟩
   rw[q1,map_map];simp[Function.comp_def]
 refine key.mono λe w' ⟨he,hbl⟩=>⟨_,he,?_⟩
 exact⟨.ret,[.str],(Lib.join l s,()),m,g,⟨by simp,λR k=>rfl⟩,stp_below hbl hob.nm,repOb_nil hob (stp_below hbl hob.nm),λ_ _ h=>h,⟨_,[],rfl,rfl,rfl⟩⟩
end Go.Ae
namespace Go.Ae
open Go.RowKit
variable {P:Program} {f:FuncId}
theorem args1{w:World}{m:Md}{g:List Value}{a:AV}{args:Array Value}(h:RepL w m g [a] args.toList):∃v,args = #[v]/\RepV w m g a v:=by
 obtain⟨v1,r1,h1,h2,h3⟩:=h;have h3':r1=[]:=h3;subst h3';exact⟨v1,by cases args;simpa using h1,h2⟩
theorem args5{w:World}{m:Md}{g:List Value}{a b c d e:AV}{args:Array Value}(h:RepL w m g [a,b,c,d,e] args.toList) :
 ∃v u t s r,args = #[v,u,t,s,r]/\RepV w m g a v/\RepV w m g b u/\RepV w m g c t/\RepV w m g d s/\RepV w m g e r:=by
 obtain⟨v1,r1,h1,h2,v2,r2,rfl,h4,v3,r3,rfl,h6,v4,r4,rfl,h8,v5,r5,rfl,h10,h11⟩:=h;have h11':r5=[]:=h11;subst h11';exact⟨v1,v2,v3,v4,v5,by cases args;simpa using h1,h2,h4,h6,h8,h10⟩
theorem lib_is{fn:Func}(hf:P.funcs[f]? = some fn)(hb:fn.body.isSome=true)(hname:(fn.name == "runtime.NumGoroutine")=false){k:IntKind}{F:Int×Unit->Option (List UInt8×Unit)}(h:∀(n:Int) (y:List UInt8),F (n,())=some (y,())->∀w,GlobI w->Calls P f #[.int k n] w λe w'=>e = .returned (.string ⟨⟨y⟩⟩)/\Below w.heap.size w w') :
 FnOk P f ⟨[.int k],[(.ret,[.str])],F⟩:=by
 intro w m g v args y hob hargs hy;obtain⟨s,u⟩:=v;obtain⟨v1,rfl,h1⟩:=args1 hargs;have h1':v1 = .int k s:=h1.1;subst h1';refine .inr ⟨enters hf hb hname _ w,?_⟩;obtain⟨y,u'⟩:=y;have hy':F (s,())=some (y,()):=hy;refine(h s y hy' w hob.gi.i).mono λe w' ⟨he,hbl⟩=>⟨_,he,?_⟩
 exact⟨.ret,[.str],(y,()),m,g,⟨by simp,λR k=>rfl⟩,stp_below hbl hob.nm,repOb_nil hob (stp_below hbl hob.nm),λ_ _ h=>h,⟨_,[],rfl,rfl,rfl⟩⟩
theorem lib_err{fn:Func}(hf:P.funcs[f]? = some fn)(hb:fn.body.isSome=true)(hname:(fn.name == "runtime.NumGoroutine")=false){t t':TypeId}{F:List UInt8×List UInt8×Int×Int×Int×Unit->Option Unit}(h:∀(s r:List UInt8) (a b n:Int),F (s,r,a,b,n,())=some ()->∀w,GlobI w->Calls P f #[.string ⟨⟨s⟩⟩,.string ⟨⟨r⟩⟩,.int .i64 a,.int .i64 b,.iface t (.int .i64 n)] w λe w'=>(∃u,e = .returned (.iface t' u))/\Below w.heap.size w w') :
 FnOk P f ⟨[.str,.str,.int .i64,.int .i64,.iface t,.int .i64],[(.ret,[.iface t',.top])],F⟩:=by
 intro w m g v args y hob hargs hy;obtain⟨s,r,a,b,n,u⟩:=v;obtain⟨v1,v2,v3,v4,v5,rfl,h1,h2,h3,h4,h5⟩:=args5 hargs;have h1':v1 = .string ⟨⟨s⟩⟩:=h1;have h2':v2 = .string ⟨⟨r⟩⟩:=h2;have h3':v3 = .int .i64 a:=h3.1;have h4':v4 = .int .i64 b:=h4.1;obtain⟨u5,h5,h6⟩:=h5;have h6':u5 = .int .i64 n:=h6.1;subst h1' h2' h3' h4' h6' h5;refine .inr ⟨enters hf hb hname _ w,?_⟩;have hy':F (s,r,a,b,n,())=some ():=hy;refine(h s r a b n hy' w hob.gi.i).mono λe w' ⟨⟨u2,he⟩,hbl⟩=>⟨_,he,?_⟩
 exact⟨.ret,[.iface t',.top],(),m,g,⟨by simp,λR k=>rfl⟩,stp_below hbl hob.nm,repOb_nil hob (stp_below hbl hob.nm),λ_ _ h=>h,⟨_,[],rfl,⟨_,rfl,trivial⟩,rfl⟩⟩
end Go.Ae
namespace Go.Proofs.YtgkmfhhghcccjaaGreatDoorA.W
open Go Go.Ae Go.RowKit
def C126(v:List UInt8×Int×Unit):Option (Int×Unit):=some (Lib.indexByte v.1 v.2.1.toNat.toUInt8,())
theorem ok126:FnOk prog 126 (E126 C126):=ext_sbi (λ_ _=>rfl) λs c w=>by
 rw[run_callFunc_extern func126 (by kernel_rfl) (by kernel_rfl) (by kernel_rfl) (e:=Extern.BytealgIndexByte.indexByte) (by kernel_rfl),Lib.run_indexByteString];rfl
def C268(v:List UInt8×Int×Unit):Option (Int×Unit):=some ((Lib.countByte v.1 v.2.1.toNat.toUInt8:Nat),())
theorem ok268:FnOk prog 268 (E268 C268):=ext_sbi (λ_ _=>rfl) λs c w=>by
 rw[run_callFunc_extern func268 (by kernel_rfl) (by kernel_rfl) (by kernel_rfl) (e:=Extern.BytealgCount.count) (by kernel_rfl),Lib.run_countString];rfl
def f144_ins:List Sh:=[.lst .str,.str]
def f144_outs:Outs:=[(.ret,[.str])]
abbrev T144:=List (List UInt8)×List UInt8×Unit->Option (List UInt8×Unit)
def E144(f:T144):FEnt:=⟨f144_ins,f144_outs,f⟩
def C144:T144:=joinF
theorem ok144:FnOk prog 144 (E144 C144) :=
 lib_join func144 (by kernel_rfl) (by kernel_rfl) (λa c sep w=>Any.strings_Join_none lays156 Builder_Extra_156 a c sep w) (λbk o c xs sep w h1 h2 h3 h4 h5=>Any.strings_Join lays156 Builder_Extra_156 bk o c xs sep w h1 h2 h3 h4 h5)
def splitD(r:Int):Option (Int×Int×Int×Bool×Bool):=splitT.find? λs=>r==s.1
def C226:T226:=λ(_,_,_,r,_)=>bif decide (65281<=r)&&decide (r<=65374)then some (r,r-65248,0,true,true,true,())else match splitD r with
  | some s=>some (s.1,s.2.1,s.2.2.1,s.2.2.2.1,s.2.2.2.2,true,())
  | none=>some (0,0,0,false,false,false,())
theorem lookE_split(r:Int):∀l:List (Int×Int×Int×Bool×Bool),lookE (isInt r) (splitE l)=(l.find? λs=>r==s.1).map splitV
 | []=>rfl
 | s::l=>by
  simp only[splitE,map_cons,lookE,isInt,List.find?_cons];cases h:r==s.1 with
  | true=>rfl
  | false=>exact lookE_split r l
def splitR(s:Int×Int×Int×Bool×Bool×Bool×Unit):Value := .tuple #[.agg #[.int .i32 s.1,.int .i32 s.2.1,.int .i32 s.2.2.1,.bool s.2.2.2.1,.bool s.2.2.2.2.1],.bool s.2.2.2.2.2.1]
set_option maxHeartbeats 1000000 in
theorem split_walk(r:Int)(a0 a1 a2 a4:Value)(b:Nat)(es:Array MapEntry)(clock:Nat)(w:World)(hb:b<w.heap.size)(hb3:w.heap[b]? = some (.map es clock))(hes:es.toList.map (λe=>(e.key,e.val))=splitE splitT)(y:Int×Int×Int×Bool×Bool×Bool×Unit)(hy:C226 ((default:List (Int×Int×Int×Int×Int×Int)),(default:List (Int×Int×Int×Int)),(default:List (Int×Int×Int)),r,())=some y) :
 Calls prog 226 #[.agg #[a0,a1,a2,.map (some b),a4],.int .i32 r] w λe w'=>e = .returned (splitR y)/\Below w.heap.size w w':=by
 have hlk:∀w0:World,w0.heap[b]? = some (.map es clock)->(Instr.lookup 44 (.map (some b)) (.int .i32 r) true).run prog w0 = .ok (.tuple (match (splitD r).map splitV with|some v => #[v,.bool true]|none => #[.agg #[.int .i32 0,.int .i32 0,.int .i32 0,.bool false,.bool false],.bool false])) w0:=by
  intro w0 h0;have hint:∀en∈es.toList,∃n,en.key = .int .i32 n:=by
   intro en hen;have:(en.key,en.val)∈splitE splitT:=hes▸mem_map_of_mem (f:=λe:MapEntry=>(e.key,e.val)) hen;obtain⟨q',_,e'⟩:=mem_map.1 this;exact⟨q'.1,(Prod.mk.inj e').1.symm⟩
  have hfk:=findKey_int (P:=prog) (w:=w0) (x:=r) (kt:=21) underlying21 hint;have hl:=findE_look (isInt r) es.toList 0;rw[hes,lookE_split]at hl;have hck:∀k,(Instr.checkKey es.isEmpty (k+1) 21 (.int .i32 r)).run prog w0 = .ok () w0:=by
   intro k;simp only[Instr.checkKey,Sem.run_bind,run_underlying (underlying21),Result.andThen_ok];rfl
  have:=run_lookup (P:=prog) (w:=w0) (t:=44) (kt:=21) (et:=88) (z := .agg #[.int .i32 0,.int .i32 0,.int .i32 0,.bool false,.bool false]) underlying44 h0 (hck 9999) hfk (zeroValue88 w0);rw[this,hl];rfl
 have hal:∀X Y:Obj,((w.alloc X).alloc Y).heap[b]? = some (.map es clock):=λX Y=>by
  rw[Below.heap_alloc _ _ _ (by rw[World.size_alloc];omega),Below.heap_alloc _ _ _ hb,hb3]
 have hlk2:=λX Y=>hlk _ (hal X Y);clear hlk hal hes;by_cases h1:65281<=r
 . by_cases h2:r<=65374
   . have hy':y=(r,r-65248,0,true,true,true,()):=by
      simp only[C226,decide_eq_true h1,decide_eq_true h2,Bool.and_self,cond_true]at hy;exact(Option.some.inj hy).symm
     subst hy'
     go_enter func226,ntmps226
     go_wp2
     go_returns
     exact⟨rfl,((Below.refl _ w).alloc (le_refl _) _).alloc (by simp) _⟩
   . have h2':65374<r:=by omega
     simp only[C226,decide_eq_true h1,decide_eq_false h2,Bool.and_false,cond_false]at hy;cases hs:splitD r with
     | none =>
      rw[hs]at hy hlk2;have hy':y=(0,0,0,false,false,false,()):=(Option.some.inj hy).symm;subst hy';simp only[map_none]at hlk2
      go_enter func226,ntmps226
      go_wp2
      go_returns
      exact⟨rfl,(((Below.refl _ w).alloc (le_refl _) _).alloc (by simp) _).alloc (by simp;omega) _⟩
     | some s =>
      rw[hs]at hy hlk2;have hy':y=(s.1,s.2.1,s.2.2.1,s.2.2.2.1,s.2.2.2.2,true,()):=(Option.some.inj hy).symm;subst hy';simp only[map_some,splitV]at hlk2
      go_enter func226,ntmps226
      go_wp2
      go_returns
      exact⟨rfl,(((Below.refl _ w).alloc (le_refl _) _).alloc (by simp) _).alloc (by simp;omega) _⟩
 . have h1':r<65281:=by omega
   simp only[C226,decide_eq_false h1,Bool.false_and,cond_false]at hy;cases hs:splitD r with
   | none =>
    rw[hs]at hy hlk2;have hy':y=(0,0,0,false,false,false,()):=(Option.some.inj hy).symm;subst hy';simp only[map_none]at hlk2
    go_enter func226,ntmps226
    go_wp2
    go_returns
    exact⟨rfl,(((Below.refl _ w).alloc (le_refl _) _).alloc (by simp) _).alloc (by simp;omega) _⟩
   | some s =>
    rw[hs]at hy hlk2;have hy':y=(s.1,s.2.1,s.2.2.1,s.2.2.2.1,s.2.2.2.2,true,()):=(Option.some.inj hy).symm;subst hy';simp only[map_some,splitV]at hlk2
    go_enter func226,ntmps226
    go_wp2
    go_returns
    exact⟨rfl,(((Below.refl _ w).alloc (le_refl _) _).alloc (by simp) _).alloc (by simp;omega) _⟩
theorem ok226:FnOk prog 226 (E226 C226):=by
 refine hand func226 (by kernel_rfl) (by kernel_rfl) (λ_=>rfl) (λ_=>rfl) ?_;rintro⟨rs,cs,ls,r,u⟩ y hy w m args gi hn hlt hargs;obtain⟨v1,r1,e1,⟨arr,rfl,h2⟩,v2,r2,rfl,h3,h4⟩:=hargs;have h4':r2=[]:=h4;subst h4';have ha:args = #[.agg arr,v2]:=by cases args;simpa using e1
 subst ha;obtain⟨a0,q0,e2,_,a1,q1,rfl,_,a2,q2,rfl,_,a3,q3,rfl,h5,a4,q4,rfl,_,h6⟩:=h2;have h6':q4=[]:=h6;subst h6';have ha2:arr = #[a0,a1,a2,a3,a4]:=by cases arr;simpa using e2
 subst ha2;obtain⟨b,o,rfl,hb1,hb2,hb3,es,clock,rfl,hes⟩:=h5;have h3':v2 = .int .i32 r:=h3.1;subst h3'
 change Int×Int×Int×Bool×Bool×Bool×Unit at y
 refine(split_walk r a0 a1 a2 a4 b es clock w hb1 hb3 hes y hy).mono λe w' ⟨k1,k2⟩=>⟨_,k1,k2,.ret,[.tuple 2,.agg 5,.int .i32,.int .i32,.int .i32,.bool,.bool,.bool],y,osel_one [.tuple 2,.agg 5,.int .i32,.int .i32,.int .i32,.bool,.bool,.bool] y,rfl,rfl,?_⟩
 have nr:∀n:Int,Rng .i32 n:=λn=>Rng.of_ne (by simp);exact⟨_,[],rfl,⟨_,rfl,_,_,rfl,⟨_,rfl,_,_,rfl,⟨rfl,nr _⟩,_,_,rfl,⟨rfl,nr _⟩,_,_,rfl,⟨rfl,nr _⟩,_,_,rfl,rfl,_,_,rfl,rfl,rfl⟩,_,_,rfl,rfl,rfl⟩,rfl⟩
def isPair(a b:Int):Value->Bool
 | .agg ⟨[.int _ c,.int _ d]⟩=>a==c&&b==d
 | _=>false
theorem part32(cs:Array Value)(i:Nat)(v:Value)(h:cs[i]? = some v)(w:World):(Go.part 21 cs i).run prog w = .ok v w:=by
 simp[Go.part,isAgg21,h]
theorem eq_pair(a b c d:Int)(k:Nat)(w:World):(Op.equalIn (k+2) 90 (.agg #[.int .i32 a,.int .i32 b]) (.agg #[.int .i32 c,.int .i32 d])).run prog w = .ok (a==c&&b==d) w:=by
 have p1:=part32 #[.int .i32 a,.int .i32 b] 0 _ rfl;have p2:=part32 #[.int .i32 a,.int .i32 b] 1 _ rfl;have p3:=part32 #[.int .i32 c,.int .i32 d] 0 _ rfl;have p4:=part32 #[.int .i32 c,.int .i32 d] 1 _ rfl;have e1:∀(x y:Int) (w:World),(Op.equalIn (k+1) 21 (.int .i32 x) (.int .i32 y)).run prog w = .ok (x==y) w:=λx y w=>by
  simp only[Op.equalIn,Sem.run_bind,run_underlying underlying21,Result.andThen_ok];rfl
 have st:prog.stoodInHeld 90=false:=by kernel_rfl
 rw[show k+2=(k+1)+1 from rfl,Op.equalIn];simp only[Sem.run_bind,run_underlying underlying90,Result.andThen_ok];cases h1:(a==c)<;>cases h2:(b==d)<;>simp[st,p1,p2,p3,p4,e1,h1,h2]
theorem check_pair(a b:Int)(k:Nat)(e:Bool)(w:World):(Instr.checkKey e (k+2) 90 (.agg #[.int .i32 a,.int .i32 b])).run prog w = .ok () w:=by
 have p1:=part32 #[.int .i32 a,.int .i32 b] 0 _ rfl;have p2:=part32 #[.int .i32 a,.int .i32 b] 1 _ rfl;have e1:∀(x:Int) (w:World),(Instr.checkKey e (k+1) 21 (.int .i32 x)).run prog w = .ok () w:=λx w=>by
  simp only[Instr.checkKey,Sem.run_bind,run_underlying underlying21,Result.andThen_ok];rfl
 rw[show k+2=(k+1)+1 from rfl,Instr.checkKey];simp only[Sem.run_bind,run_underlying underlying90,Result.andThen_ok];simp[p1,p2,e1]
def pairD(a b:Int):Option (Int×Int×Int×Bool×Bool):=(splitT.filter λs => !s.2.2.2.1 && !s.2.2.2.2).find? λs=>a==s.2.1&&b==s.2.2.1
def C319:T319:=λ(_,_,_,a,b,_)=>match pairD a b with
 | some s=>some (s.1,true,())
 | none=>some (0,false,())
theorem lookE_pair(a b:Int):∀l:List (Int×Int×Int×Bool×Bool),lookE (isPair a b) (l.map λs=>((Value.agg #[.int .i32 s.2.1,.int .i32 s.2.2.1],Value.int .i32 s.1):Value×Value))=(l.find? λs=>a==s.2.1&&b==s.2.2.1).map λs=>Value.int .i32 s.1
 | []=>rfl
 | s::l=>by
  simp only[map_cons,lookE,isPair,List.find?_cons];cases h:(a==s.2.1&&b==s.2.2.1)with
  | true=>rfl
  | false=>exact lookE_pair a b l
set_option maxHeartbeats 1000000 in
theorem pair_walk(p q:Int)(a0 a1 a2 a3:Value)(b:Nat)(es:Array MapEntry)(clock:Nat)(w:World)(hb:b<w.heap.size)(hb3:w.heap[b]? = some (.map es clock))(hes:es.toList.map (λe=>(e.key,e.val))=pairE splitT)(y:Int×Bool×Unit)(hy:C319 ((default:List (Int×Int×Int×Int×Int×Int)),(default:List (Int×Int×Int×Int)),(default:List (Int×Int×Int)),p,q,())=some y) :
 Calls prog 319 #[.agg #[a0,a1,a2,a3,.map (some b)],.int .i32 p,.int .i32 q] w λe w'=>e = .returned (.tuple #[.int .i32 y.1,.bool y.2.1])/\Below w.heap.size w w':=by
 have hlk:∀w0:World,w0.heap[b]? = some (.map es clock)->(Instr.lookup 45 (.map (some b)) (.agg #[.int .i32 p,.int .i32 q]) true).run prog w0 = .ok (.tuple (match (pairD p q).map λs=>Value.int .i32 s.1 with|some v => #[v,.bool true]|none => #[.int .i32 0,.bool false])) w0:=by
  intro w0 h0;have hkey:∀en∈es.toList,(Op.equal 90 (.agg #[.int .i32 p,.int .i32 q]) en.key).run prog w0 = .ok (isPair p q en.key) w0:=by
   intro en hen;have:(en.key,en.val)∈pairE splitT:=hes▸mem_map_of_mem (f:=λe:MapEntry=>(e.key,e.val)) hen;obtain⟨q',_,e'⟩:=mem_map.1 this;rw[<-(Prod.mk.inj e').1];exact eq_pair p q q'.2.1 q'.2.2.1 9998 w0
  have hfk:=findKey_agg (P:=prog) (w:=w0) (kt:=90) (p:=isPair p q) underlying90 hkey;have hl:=findE_look (isPair p q) es.toList 0;rw[hes,pairE,lookE_pair]at hl;have:=run_lookup (P:=prog) (w:=w0) (t:=45) (kt:=90) (et:=21) (z := .int .i32 0) underlying45 h0 (check_pair p q 9998 _ w0) hfk (zeroValue21 w0);rw[this,hl];rfl
 have hal:∀X:Obj,(w.alloc X).heap[b]? = some (.map es clock):=λX=>by rw[Below.heap_alloc _ _ _ hb,hb3]
 have hlk2:=λX=>hlk _ (hal X);clear hlk hal hes;have hy1:(match pairD p q with|some s=>some (s.1,true,())|none=>some (0,false,()))=some y:=hy;cases hs:pairD p q with
 | none =>
  rw[hs]at hy1 hlk2;have hy':y=(0,false,()):=(Option.some.inj hy1).symm;subst hy';simp only[map_none]at hlk2
  go_enter func319,ntmps319
  go_wp2
  go_returns
  exact⟨rfl,(Below.refl _ w).alloc (le_refl _) _⟩
 | some s =>
  rw[hs]at hy1 hlk2;have hy':y=(s.1,true,()):=(Option.some.inj hy1).symm;subst hy';simp only[map_some]at hlk2
  go_enter func319,ntmps319
  go_wp2
  go_returns
  exact⟨rfl,(Below.refl _ w).alloc (le_refl _) _⟩
theorem ok319:FnOk prog 319 (E319 C319):=by
 refine hand func319 (by kernel_rfl) (by kernel_rfl) (λ_=>rfl) (λ_=>rfl) ?_;rintro⟨rs,cs,ls,p,q,u⟩ y hy w m args gi hn hlt hargs;obtain⟨v1,r1,e1,⟨arr,rfl,h2⟩,v2,r2,rfl,h3,v3,r3,rfl,h3',h4⟩:=hargs;have h4':r3=[]:=h4;subst h4';have ha:args = #[.agg arr,v2,v3]:=by cases args;simpa using e1
 subst ha;obtain⟨a0,q0,e2,_,a1,q1,rfl,_,a2,q2,rfl,_,a3,q3,rfl,_,a4,q4,rfl,h5,h6⟩:=h2;have h6':q4=[]:=h6;subst h6';have ha2:arr = #[a0,a1,a2,a3,a4]:=by cases arr;simpa using e2
 subst ha2;obtain⟨b,o,rfl,hb1,hb2,hb3,es,clock,rfl,hes⟩:=h5;have h3a:v2 = .int .i32 p:=h3.1;have h3b:v3 = .int .i32 q:=h3'.1;subst h3a h3b
 change Int×Bool×Unit at y
 refine(pair_walk p q a0 a1 a2 a3 b es clock w hb1 hb3 hes y hy).mono λe w' ⟨k1,k2⟩=>⟨_,k1,k2,.ret,[.tuple 2,.int .i32,.bool],y,osel_one [.tuple 2,.int .i32,.bool] y,rfl,rfl,?_⟩
 exact⟨_,[],rfl,⟨_,rfl,_,_,rfl,⟨rfl,Rng.of_ne (by simp)⟩,_,_,rfl,rfl,rfl⟩,rfl⟩
def C279:T279:=λ_=>some ()
def keyNew(k:Int)(es:List MapEntry):Bool:=es.all λe=>match e.key with | .int .i32 n=>k != n|_=>false
theorem findE_new(k:Int):∀(es:List MapEntry) (i:Nat),keyNew k es=true->findE (isInt k) es i=none/\∀e∈es,∃n,e.key = .int .i32 n
 | [],i,_=>⟨rfl,λe h=>by cases h⟩
 | e::es,i,h=>by
  simp only[keyNew,List.all_cons,and_eq_true]at h;obtain⟨h1,h2⟩:=h;obtain⟨k1,k2⟩:=findE_new k es (i+1) h2;split at h1
  . rename_i n hn
    have hne:(k==n)=false:=by simpa using h1
    refine⟨by simp only[findE,hn,isInt,hne];exact k1,λe' he => ?_⟩;rcases List.mem_cons.1 he with rfl|he
    . exact⟨n,hn⟩
    . exact k2 e' he
  . cases h1
theorem upd_int{t et:TypeId}(w:World)(es:Array MapEntry)(clock:Nat)(k:Int)(v:Value)(ht:prog.underlying t=some (.map 21 et))(h:keyNew k es.toList=true) :
 (Instr.mapUpdate t (.map (some w.heap.size)) (.int .i32 k) v).run prog (w.alloc (.map es clock)) = .ok () (w.alloc (.map (es.push { key := .int .i32 k,val:=v,born:=clock }) (clock+1))):=by
 obtain⟨h1,h2⟩:=findE_new k es.toList 0 h;have hck:∀j (w0:World),(Instr.checkKey false (j+1) 21 (.int .i32 k)).run prog w0 = .ok () w0:=by
  intro j w0;simp only[Instr.checkKey,Sem.run_bind,run_underlying (underlying21),Result.andThen_ok];rfl
 have hnew:(w.alloc (.map es clock)).heap[w.heap.size]? = some (.map es clock):=by
  show (w.heap.push _)[w.heap.size]? = _;simp
 have:=run_update_new (P:=prog) (w:=w.alloc (.map es clock)) (t:=t) (kt:=21) (et:=et) (key := .int .i32 k) (val:=v) ht hnew (hck 9999 _) (h1▸findKey_int (P:=prog) (w:=w.alloc (.map es clock)) (x:=k) (kt:=21) underlying21 h2);rw[this];have hs:(w.heap.push (Obj.map es clock)).setIfInBounds w.heap.size (.map (es.push { key := .int .i32 k,val:=v,born:=clock }) (clock+1))=w.heap.push (.map (es.push { key := .int .i32 k,val:=v,born:=clock }) (clock+1)):=by
  apply Array.ext';rw[Array.toList_setIfInBounds,toList_push,toList_push,List.set_append,if_neg (by simp)];simp
 show Result.ok () ({ w with heap:=(w.heap.push (Obj.map es clock)).setIfInBounds w.heap.size _ }:World)=_;rw[hs];rfl
theorem run_mkMap(t:TypeId)(w:World):(Instr.makeMap t none).run prog w = .ok (.map (some w.heap.size)) (w.alloc (.map #[] 0)):=by
 simp[Instr.makeMap,newObj];rfl
set_option maxHeartbeats 2000000 in
theorem rules_walk(w:World):Calls prog 279 #[] w λe w'=>e = .returned (.map (some w.heap.size))/\w'=w.alloc (.map ((rulesT.zipIdx.map λp=>({ key := .int .i32 p.1.1,val := .func (.func p.1.2) #[] #[],born:=p.2 }:MapEntry)).toArray) 7):=by
 have hT:=underlying303;have hmk:=run_mkMap 303 w;have u1:=λv=>upd_int w #[] 0 8205 v hT rfl;have u2:=λa v=>upd_int w #[{ key := .int .i32 8205,val:=a,born:=0 }] 1 8204 v hT rfl;have u3:=λa b v=>upd_int w #[{ key := .int .i32 8205,val:=a,born:=0 },{ key := .int .i32 8204,val:=b,born:=1 }] 2 183 v hT rfl;have u4:=λa b c v=>upd_int w #[{ key := .int .i32 8205,val:=a,born:=0 },{ key := .int .i32 8204,val:=b,born:=1 },{ key := .int .i32 183,val:=c,born:=2 }] 3 885 v hT rfl;have u5:=λa b c d v=>upd_int w #[{ key := .int .i32 8205,val:=a,born:=0 },{ key := .int .i32 8204,val:=b,born:=1 },{ key := .int .i32 183,val:=c,born:=2 },{ key := .int .i32 885,val:=d,born:=3 }] 4 1523 v hT rfl;have u6:=λa b c d e v=>upd_int w #[{ key := .int .i32 8205,val:=a,born:=0 },{ key := .int .i32 8204,val:=b,born:=1 },{ key := .int .i32 183,val:=c,born:=2 },{ key := .int .i32 885,val:=d,born:=3 },{ key := .int .i32 1523,val:=e,born:=4 }] 5 1524 v hT rfl;have u7:=λa b c d e f v=>upd_int w #[{ key := .int .i32 8205,val:=a,born:=0 },{ key := .int .i32 8204,val:=b,born:=1 },{ key := .int .i32 183,val:=c,born:=2 },{ key := .int .i32 885,val:=d,born:=3 },{ key := .int .i32 1523,val:=e,born:=4 },{ key := .int .i32 1524,val:=f,born:=5 }] 6 12539 v hT rfl;simp only[List.push_toArray,List.nil_append,List.cons_append,zero_add,Nat.reduceAdd]at u1 u2 u3 u4 u5 u6 u7;clear hT
 go_enter func279,ntmps279
 go_wp2
 go_returns
 exact⟨rfl,rfl⟩
theorem ok279:FnOk prog 279 (E279 C279):=by
 refine hand func279 (by kernel_rfl) (by kernel_rfl) (λ_=>rfl) (λ_=>rfl) ?_;intro v y hy w m args gi hn hlt hargs;have ha0:args.toList=[]:=hargs;have ha:args = #[]:=by cases args;simpa using ha0
 subst ha;refine(rules_walk w).mono λe w' ⟨k1,k2⟩ => ?_;subst k2;refine⟨_,k1,(Below.refl _ w).alloc (le_refl _) _,.ret,[.opq 2],(),osel_one [.opq 2] (),rfl,rfl,?_⟩;exact⟨_,[],rfl,⟨w.heap.size,_,rfl,by simp,λh=>Nat.lt_irrefl _ (hlt _ h),heap_alloc_new w _,_,_,rfl,rfl⟩,rfl⟩
def C294:T294:=λ(l,_)=>bif decide (l.length<=35184372088832)then some (l,())else none
theorem eq_nil_slice{t e:TypeId}(ht:prog.underlying t=some (.slice e))(a:Option Addr)(n cap:Nat)(w:World):(binOp .eql t (.slice a n cap) (.slice none 0 0)).run prog w = .ok (.bool a.isNone) w:=by
 have h:(Op.equalIn (9999+1) t (.slice a n cap) (.slice none 0 0)).run prog w = .ok a.isNone w:=by
  rw[Op.equalIn];simp only[Sem.run_bind,run_underlying ht,Result.andThen_ok];cases a<;>rfl
 exact(bin_eq h rfl rfl).1
theorem clone_nil(w:World):Calls prog 294 #[.slice none 0 0] w λe w'=>e = .returned (.slice none 0 0)/\w'=w:=by
 have he:=eq_nil_slice underlying128 none 0 0;simp only[isNone_none]at he
 go_enter func294,ntmps294
 go_wp2
 go_returns
 exact⟨rfl,rfl⟩
theorem clone_some(w w2:World)(ad:Addr)(n cap:Nat)(v':Value)(happ:(Builtin.append_ #[128,128] 128 #[.slice (some ⟨w.heap.size,0,none⟩) 0 0,.slice (some ad) n cap]).run prog (w.alloc (.cells #[] 21)) = .ok v' w2) :
 Calls prog 294 #[.slice (some ad) n cap] w λe w'=>e = .returned v'/\w'=w2:=by
 have he:=eq_nil_slice underlying128 (some ad) n cap;simp only[isNone_some]at he
 go_enter func294,ntmps294
 go_wp2_with (at_builtin;refine Go.Great.wpList_runTo rfl _ rfl v' w2 (by simp[execOp,resolve,invoke,builtin,happ,Act.eval]) ?_)
 go_returns
 exact⟨rfl,rfl⟩
def ei32:TI:=⟨.int .i32,1,4,some (.int .i32),[.int .i32 0],false,false⟩
theorem own_base{w:World}{e:TypeId}{size n B:Nat}{v:Value}{xs:List Value}(h:w.ownsRow 0 e size v n xs)(hb:∀b,v.ownBlock=some b->B<=b):w.ownsRow B e size v n xs:=by
 refine⟨h.1,?_⟩;rcases h.2 with h|⟨q,cap,cur,rfl,k2,k3⟩
 . exact .inl h
 . exact .inr ⟨q,cap,cur,rfl,hb _ rfl,k3⟩
theorem ok294:FnOk prog 294 (E294 C294):=by
 refine hand_row (T := .int .i32) (e:=21) func294 (by kernel_rfl) (by kernel_rfl) rfl (λ_=>rfl) (λ_=>rfl) ?_;rintro⟨l,u⟩ y hy w m args gi hn hlt hargs;obtain⟨v,r1,e1,h2,h3⟩:=hargs;have h3':r1=[]:=h3;subst h3';have ha:args = #[v]:=by cases args;simpa using e1
 subst ha;have hy1:(bif decide (l.length<=35184372088832)then some (l,())else none)=some (y,()):=hy;rcases cond_some hy1 with⟨hl,hy2⟩|⟨_,hy2⟩
 case inr=>cases hy2
 have hy':l=y:=(Prod.mk.inj (Option.some.inj hy2)).1;subst hy';have hlim:l.length<=35184372088832:=of_decide_eq_true hl;have h2':RepT w m (.lst (.int .i32)) l [v]:=h2;obtain⟨ao,cap,he,k1,k2,k3,k4⟩:=h2;have hev:v = .slice ao l.length cap:=(List.cons.inj he).1;subst hev;cases ao with
 | none =>
  have hc0:=k3 rfl;subst hc0;have hl0:l=[]:=List.eq_nil_of_length_eq_zero (by have:l.length<=0:=k1;omega);subst hl0;refine(clone_nil w).mono λe w' ⟨q1,q2⟩ => ?_;subst q2;exact⟨_,[],q1,Below.refl _ _,⟨rfl,.inl ⟨rfl,rfl⟩⟩,λj x hj=>by simp at hj⟩
 | some ad =>
  have hst:Stp w m (w.alloc (.cells #[] 21)) m:=stp_below ((Below.refl _ w).alloc (le_refl _) _) λb hb=>(hn b hb).elim;obtain⟨v',w',news,r1,r2,r3,r4,r5,r6⟩:=run_append_slice (P:=prog) (w:=w.alloc (.cells #[] 21)) (t:=128) (e:=21) (ty:=128) (T := .int .i32) (v := .slice (some ⟨w.heap.size,0,none⟩) 0 0) (n:=0) (xs:=[]) (m:=m) (ei:=ei32) hΓ (by kernel_rfl) (by kernel_rfl) rfl (by decide) rfl
   ⟨rfl,.inr ⟨w.heap.size,0,#[],rfl,zero_le _,heap_alloc_new w _,le_refl _,zero_le _,rfl,rfl⟩⟩ (RepT.mono (T := .lst (.int .i32)) hst h2') (by show 0+l.length<=35184372088832;omega)
  refine(clone_some w w' ad l.length cap v' r1).mono λe w2 ⟨q1,q2⟩ => ?_;subst q2;have hB:Below w.heap.size w (w.alloc (.cells #[] 21)):=(Below.refl _ w).alloc (le_refl _) _;refine⟨v',news,q1,?_,?_,r4⟩
  . exact hB.grown r5 hB.size (λk e=>by cases e;exact le_refl _)
  . rw[zero_add]at r2
    refine own_base r2 λb hb => ?_;rcases r6 b hb with h|h
    . cases h;exact le_refl _
    . rw[h];simp
def C327:T327:=λ(n,_)=>bif decide (0<=n)&&decide (n<=35184372088832)then some ([],())else none
theorem zeroCells_len(n:Nat):(Builtin.zeroCells (Value.int .i32 0).cells n).size=n:=by simp[Builtin.zeroCells,Value.cells]
theorem run_append_made(w:World)(n:Nat)(h0:0<n)(hn:n<=35184372088832) :
 (Builtin.append_ #[128,3] 128 #[.slice none 0 0,.int .i64 (n:Int)]).run prog w =
  .ok (.slice (some ⟨w.heap.size,0,none⟩) n (grownCap w n 0 21)) (w.drew.alloc (.cells (Builtin.zeroCells (Value.int .i32 0).cells n++Builtin.zeroCells (Value.int .i32 0).cells (grownCap w n 0 21-n)) 21)):=by
 obtain⟨info,i1,i2,i3,i4⟩:∃info,prog.info? 21=some info/\info.zero=some (.int .i32 0)/\info.size=1/\info.bytes=4:=by
  have h:(prog.info? 21).map (λi=>(i.zero,i.size,i.bytes))=some (some (.int .i32 0),1,4):=by kernel_rfl
  obtain⟨info,h1,h2⟩:=map_eq_some_iff.1 h;simp only[Prod.mk.injEq]at h2;exact⟨info,h1,h2.1,h2.2.1,h2.2.2⟩
 have hw:IntKind.i64.wrap (n:Int)=n:=wrap_small _ (by omega) (by omega);have h1:¬n=0:=by omega
 have h2:¬(281474976710656:Int)<(n:Int)*4:=by omega
 have h3:¬(9223372036854775807:Int)<(n:Int):=by omega
 have h4:Builtin.nextslicecap n 0=n:=by simp[Builtin.nextslicecap];omega
 have h5:¬(281474976710656<n*4):=by omega
 simp[Builtin.append_,run_underlying underlying128,run_underlying underlying3,sizeOf,typeInfo,zeroValue,i1,i2,i3,i4,hw,asInt,asIntOf,h1,h2,h3,h4,h5,Question.forced,newRow,grownCap,Builtin.firstCells];intro h;omega
theorem grow_zero(w:World):Calls prog 327 #[.slice none 0 0,.int .i64 0] w λe w'=>e = .returned (.slice none 0 0)/\w'=w:=by
 go_enter func327,ntmps327
 go_wp2
 go_returns
 exact⟨rfl,rfl⟩
theorem grow_some(w:World)(n:Nat)(h0:0<n)(hn:n<=35184372088832):Calls prog 327 #[.slice none 0 0,.int .i64 (n:Int)] w λe w'=>e = .returned (.slice (some ⟨w.heap.size,0,none⟩) 0 (grownCap w n 0 21)) /\
 w'=w.drew.alloc (.cells (Builtin.zeroCells (Value.int .i32 0).cells n++Builtin.zeroCells (Value.int .i32 0).cells (grownCap w n 0 21-n)) 21):=by
 have happ:=run_append_made w n h0 hn;have hcap:=grownCap_ge w n 0 21;generalize grownCap w n 0 21=cap at happ hcap ⊢;generalize (w.drew.alloc (.cells (Builtin.zeroCells (Value.int .i32 0).cells n++Builtin.zeroCells (Value.int .i32 0).cells (cap-n)) 21))=w2 at happ ⊢;have h0':(0:Int)<(n:Int):=by omega
 go_enter func327,ntmps327
 go_wp2_with (at_builtin;refine Go.Great.wpList_runTo rfl _ rfl _ _ (by simp[execOp,resolve,invoke,builtin,happ,Act.eval];exact⟨rfl,rfl⟩) ?_)
 go_returns
 exact⟨rfl,rfl⟩
theorem ok327:FnOk prog 327 (E327 C327):=by
 refine hand_row (T := .int .i32) (e:=21) func327 (by kernel_rfl) (by kernel_rfl) rfl (λ_=>rfl) (λ_=>rfl) ?_;rintro⟨n,u⟩ y hy w m args gi hn hlt hargs;obtain⟨v,r1,e1,h2,v2,r2,rfl,h3,h4⟩:=hargs;have h4':r2=[]:=h4;have h2':v = .slice none 0 0:=h2;have h3':v2 = .int .i64 n:=h3.1;subst h4' h2' h3';have ha:args = #[.slice none 0 0,.int .i64 n]:=by cases args;simpa using e1
 subst ha
 change Int at n
 have hy1:(bif decide (0<=n)&&decide (n<=35184372088832)then some (([]:List Int),())else none)=some (y,()):=hy;rcases cond_some hy1 with⟨hl,hy2⟩|⟨_,hy2⟩
 case inr=>cases hy2
 have hy':([]:List Int)=y:=(Prod.mk.inj (Option.some.inj hy2)).1;subst hy';simp only[and_eq_true,decide_eq_true_eq]at hl;obtain⟨k,rfl⟩:∃k:Nat,n=k:=⟨n.toNat,by omega⟩
 by_cases hk:k=0
 . subst hk
   refine(grow_zero w).mono λe w' ⟨q1,q2⟩ => ?_;subst q2;exact⟨_,[],q1,Below.refl _ _,⟨rfl,.inl ⟨rfl,rfl⟩⟩,λj x hj=>by
    have h:([]:List Int)[j]? = some x:=hj;simp at h⟩
 . refine(grow_some w k (by omega) (by omega)).mono λe w' ⟨q1,q2⟩ => ?_
   have hge:=grownCap_ge w k 0 21;have hle:=grownCap_le_maxLen w k 0 21 (by simp only[maxLen];omega);subst q2;refine⟨_,[],q1,(Below.refl _ w).drew.alloc (le_refl _) _,⟨rfl,.inr ⟨w.heap.size,_,_,rfl,le_refl _,heap_alloc_new w.drew _,zero_le _,hle,?_,rfl⟩⟩,λj x hj=>by
    have h:([]:List Int)[j]? = some x:=hj;simp at h⟩
   rw[Array.size_append,zeroCells_len,zeroCells_len];show _=_*1;omega
def C156(v:List UInt8×List UInt8×Int×Int×Int×Unit):Option Unit:=if v.2.1.length<=281474976710656/\(v.2.2.2.2.1=1\/v.2.2.2.2.1=2)then some ()else none
theorem ok156:FnOk prog 156 (E156 C156):=lib_err func156 (by kernel_rfl) (by kernel_rfl) λs r a b n h w hg=>by
 simp only[C156]at h;obtain⟨_,_,_,⟨t1,p1,h1⟩,t2,p2,h2⟩:=hg;split at h
 . rename_i hc
   obtain⟨hl,rfl|rfl⟩:=hc
   . exact(Any.strconv_toError_range laysC245 ⟨⟨s⟩⟩ ⟨⟨r⟩⟩ a b _ w hl h2 (.inr ⟨_,_,rfl⟩)).mono λe w' ⟨N,he,_,_,hb⟩=>⟨⟨_,he⟩,hb⟩
   . exact(Any.strconv_toError_syntax laysC245 ⟨⟨s⟩⟩ ⟨⟨r⟩⟩ a b _ w hl h1 (.inr ⟨_,_,rfl⟩)).mono λe w' ⟨N,he,_,_,hb⟩=>⟨⟨_,he⟩,hb⟩
 . cases h
theorem size21:(prog.info? 21).map (·.size)=some 1:=by kernel_rfl
theorem sizeOf21(w:World):(Go.sizeOf 21).run prog w = .ok 1 w:=by
 obtain⟨info,h1,h2⟩:=map_eq_some_iff.1 size21;simp[Go.sizeOf,typeInfo,h1,h2]
set_option maxHeartbeats 4000000 in
theorem ins_room(w:World)(b vb i n c vc m:Nat)(cur:Array Value)(vcur:Array Value)(xs vs:List Value)(hi:i<n)(hm:0<m)(hroom:n+m<=c)(hc63:c<=9223372036854775807)(hcs:cur.size=c)(hvb:vb≠b)(hb:w.heap[b]? = some (.cells cur 21 (0,0)))(hv:w.heap[vb]? = some (.cells vcur 21 (0,0)))(hxl:xs.length=n)(hvl:vs.length=m)(hx:∀(j:Nat) v,xs[j]? = some v->cur[j]? = some v)(hvs:∀(j:Nat) v,vs[j]? = some v->vcur[j]? = some v)(h1x:∀v∈xs,v.oneCell'=true)(h1v:∀v∈vs,v.oneCell'=true) :
 Calls prog 261 #[.slice (some ⟨b,0,none⟩) n c,.int .i64 i,.slice (some ⟨vb,0,none⟩) m vc] w λe w' =>
  ∃l1:List Value,l1=cur.toList.take (i+m)++xs.drop i++cur.toList.drop (i+m+(xs.drop i).length)/\e = .returned (.slice (some ⟨b,0,none⟩) (n+m) c) /\
   w'=(w.drew.setRow b l1.toArray).setRow b (l1.take i++vs++l1.drop (i+vs.length)).toArray:=by
 have hbl:b<w.heap.size:=(Array.getElem?_eq_some_iff.1 hb).1;have hz1:¬((m:Int)=0):=by omega
 have hz2:¬((i:Int)=(n:Int)):=by omega
 have hc0:c≠0:=by omega
 have hov:∀lb cb,(callFunc 292 #[.slice (some ⟨vb,0,none⟩) m vc,.slice (some ⟨b,i+m,none⟩) lb cb]).run prog w = .ok (.value (.bool false)) w:=λlb cb=>by
  rw[run_callFunc_extern func292 (by kernel_rfl) (by kernel_rfl) (by kernel_rfl) (e:=Extern.SlicesOverlaps.overlaps #[128,128] #[4]) (by kernel_rfl),
   Lib.run_overlaps_apart w 128 4 21 underlying128 1 sizeOf21 ⟨vb,0,none⟩ ⟨b,i+m,none⟩ m vc lb cb hvb 21 21 vcur.size cur.size (by simp[shape?,hv]) (by simp[shape?,hb]) (by omega) (by simp[frozen?,hv]) (by simp[frozen?,hv])]
  rfl
 have hdl:(xs.drop i).length=n-i:=by rw[length_drop,hxl]
 have hw1:IntKind.i64.wrap ((i:Int)+(m:Int))=(i:Int)+(m:Int):=by rw[IntKind.wrap_i64];omega
 have hb1:(0:Int)<=(i:Int)+(m:Int):=by omega
 have hin:i<=n:=by omega
 have htn:((i:Int)+(m:Int)).toNat=i+m:=by omega
 have hb2:¬(c=i+m):=by omega
 have hb3:(i:Int)<=(n:Int)+(m:Int):=by omega
 have hb4:¬(c=i):=by omega
 obtain⟨l1,hl1⟩:∃l1:List Value,l1=cur.toList.take (i+m)++xs.drop i++cur.toList.drop (i+m+(xs.drop i).length):=⟨_,rfl⟩
 have hcp1:∀ty dc sc,(Builtin.copy_ #[128,128] ty #[.slice (some ⟨b,i+m,none⟩) (n+m-(i+m)) dc,.slice (some ⟨b,i,none⟩) (n+m-i) sc]).run prog w.drew = .ok (goInt (xs.drop i).length) (w.drew.setRow b l1.toArray):=λty dc sc=>by
  rw[hl1];exact run_copy_row prog w.drew 128 128 ty 21 b (i+m) (n+m-(i+m)) dc ⟨b,i,none⟩ (n+m-i) sc cur 21 (xs.drop i) underlying128 size21 hb (by rw[hdl];simp only[min_def];split<;>omega)
   (λj v hj=>by
    rw[Addr.add_lit];show w.cell? ⟨b,i+j,none⟩=some v;simp only[cell?,hb];exact hx (i+j) v (by rwa[List.getElem?_drop]at hj))
   (by rw[hdl];omega) (λv hv=>h1x v (List.mem_of_mem_drop hv))
 have hl1l:l1.length=c:=by
  rw[hl1];simp only[length_append,length_take,length_drop,length_toList,hxl,hcs];omega
 have hcp2:∀ty dc,(Builtin.copy_ #[128,128] ty #[.slice (some ⟨b,i,none⟩) (n+m-i) dc,.slice (some ⟨vb,0,none⟩) m vc]).run prog (w.drew.setRow b l1.toArray) = .ok (goInt vs.length) ((w.drew.setRow b l1.toArray).setRow b (l1.take i++vs++l1.drop (i+vs.length)).toArray):=λty dc=>by
  have:=run_copy_row prog (w.drew.setRow b l1.toArray) 128 128 ty 21 b i (n+m-i) dc ⟨vb,0,none⟩ m vc l1.toArray 21 vs underlying128 size21 (setRow_heap w.drew b cur _ 21 (0,0) hb) (by rw[hvl];simp only[min_def];split<;>omega)
   (λj v hj=>by
    rw[Addr.add_lit];simp only[cell?];rw[setRow_other w.drew b vb _ hvb];show (match w.heap[vb]? with|some (.cells cs _ _)=>_|_=>_)=_;simp only[hv,zero_add];exact hvs j v hj)
   (by rw[size_toArray,hl1l,hvl];omega) h1v
  simpa using this
 refine(?_:Calls prog 261 #[.slice (some ⟨b,0,none⟩) n c,.int .i64 i,.slice (some ⟨vb,0,none⟩) m vc] w λe w'=>e = .returned (.slice (some ⟨b,0,none⟩) (n+m) c)/\w'=(w.drew.setRow b l1.toArray).setRow b (l1.take i++vs++l1.drop (i+vs.length)).toArray).mono λe w' h=>⟨l1,hl1,h.1,h.2⟩
 obtain⟨W1,hW1⟩:∃W1,W1=w.drew.setRow b l1.toArray:=⟨_,rfl⟩
 obtain⟨W2,hW2⟩:∃W2,W2=W1.setRow b (l1.take i++vs++l1.drop (i+vs.length)).toArray:=⟨_,rfl⟩
 rw[<-hW1]at hcp1 hcp2 ⊢;rw[<-hW2]at hcp2 ⊢;clear hx hvs h1x h1v hl1 hl1l;have mixed:prog.follows .mixedOrders=true:=by kernel_rfl
 go_enter func261,ntmps261
 go_wp2_with (simp only[hov])
 go_region_law_o (refine step_copy_runI rfl _ _ 128 128 rfl _ _ (by simp[Act.eval,Act.put]) (by simp[Act.eval,Act.put]) (hcp1 _ _ _) ?_)
 subst hW1
 go_wp2_with (simp only[hcp2])
 go_returns
 exact⟨rfl,by rw[hW2,hvl,append_assoc]⟩
set_option maxHeartbeats 4000000 in
theorem ins_grow(w:World)(b vb i n c vc m:Nat)(cur:Array Value)(vcur:Array Value)(xs vs:List Value)(hi:i<n)(hm:0<m)(hnc:n<=c)(hroom:c<n+m)(hbig:(n+m)*4<=140737488355328)(hb:w.heap[b]? = some (.cells cur 21 (0,0)))(hv:w.heap[vb]? = some (.cells vcur 21 (0,0)))(hxl:xs.length=n)(hvl:vs.length=m)(hx:∀(j:Nat) v,xs[j]? = some v->cur[j]? = some v)(hvs:∀(j:Nat) v,vs[j]? = some v->vcur[j]? = some v)(h1x:∀v∈xs,v.oneCell'=true)(h1v:∀v∈vs,v.oneCell'=true) :
 Calls prog 261 #[.slice (some ⟨b,0,none⟩) n c,.int .i64 i,.slice (some ⟨vb,0,none⟩) m vc] w λe w' =>
  ∃(G:Nat) (cells:Array Value),n+m<=G/\G<=9223372036854775807/\cells.size=G/\(∀(j:Nat) v,(xs.take i++vs++xs.drop i)[j]? = some v->cells[j]? = some v)/\e = .returned (.slice (some ⟨w.heap.size,0,none⟩) (n+m) G) /\
   Below w.heap.size w w'/\w'.heap[w.heap.size]? = some (.cells cells 21 (0,0)):=by
 have hbl:b<w.heap.size:=(Array.getElem?_eq_some_iff.1 hb).1;have hvw:vb<w.heap.size:=(Array.getElem?_eq_some_iff.1 hv).1;obtain⟨info,i1,i2,i3,i4⟩:∃info,prog.info? 21=some info/\info.zero=some (.int .i32 0)/\info.size=1/\info.bytes=4:=by
  have h:(prog.info? 21).map (λi=>(i.zero,i.size,i.bytes))=some (some (.int .i32 0),1,4):=by kernel_rfl
  obtain⟨info,h1,h2⟩:=map_eq_some_iff.1 h;simp only[Prod.mk.injEq]at h2;exact⟨info,h1,h2.1,h2.2.1,h2.2.2⟩
 have hz1:¬((m:Int)=0):=by omega
 have hz2:¬((i:Int)=(n:Int)):=by omega
 have hz3:(c:Int)<(n:Int)+(m:Int):=by omega
 have hkk:(n:Int)+(m:Int)-(i:Int)=((n+m-i:Nat):Int):=by omega
 have hik:i+(n+m-i)=n+m:=by omega
 have hold:(Builtin.firstCells info.size i (.slice (some ⟨b,0,none⟩) i c)).run prog w.drew = .ok (xs.take i).toArray w.drew:=by
  rw[i3];exact run_firstCells_some w.drew 1 i ⟨b,0,none⟩ i c (xs.take i) (by rw[length_take];omega) (λj v hj=>by
   rw[Addr.add_lit];rw[List.getElem?_take]at hj;split at hj
   . show w.cell? ⟨b,0+j,none⟩=some v
     simp only[cell?,hb,zero_add];exact hx j v hj
   . cases hj)
 obtain⟨G,hG⟩:∃G,G=grownCap w (n+m) c 21:=⟨_,rfl⟩
 obtain⟨ROW,hROW⟩:∃ROW:Array Value,ROW=(xs.take i).toArray++Builtin.zeroCells (Value.int .i32 0).cells (n+m-i)++Builtin.zeroCells (Value.int .i32 0).cells (G-(n+m)):=⟨_,rfl⟩
 have hrz:∀ty,(Builtin.append_ #[128,3] ty #[.slice (some ⟨b,0,none⟩) i c,.int .i64 ((n:Int)+(m:Int)-(i:Int))]).run prog w =
  .ok (.slice (some ⟨w.heap.size,0,none⟩) (n+m) G) (w.drew.alloc (.cells ROW 21)):=λty=>by
  have h:=Lib.run_append_grow_zeros w 128 3 ty 21 info _ .i64 .i64 underlying128 underlying3 i1 i2 (some ⟨b,0,none⟩) i c (xs.take i) hold (n+m-i) (by omega) (by omega) (by omega) (by omega) (by rw[i4];omega) (by rw[i4,hik];exact growslice_fits hroom hbig);rw[hik,<-hG]at h;rw[hkk,hROW];exact h
 have hGn:n+m<=G:=by rw[hG];exact grownCap_ge w _ _ _
 have hG63:G<=9223372036854775807:=by
  have:=grownCap_le_maxLen w (n+m) c 21 (by unfold maxLen;omega);rw[<-hG]at this;unfold maxLen at this;omega
 have hRl:ROW.size=G:=by
  rw[hROW];simp[Builtin.zeroCells,Value.cells,hxl];omega
 have hdl:(xs.drop i).length=n-i:=by rw[length_drop,hxl]
 have hbN:b≠w.heap.size:=by omega
 have hvN:vb≠w.heap.size:=by omega
 obtain⟨L1,hL1⟩:∃L1:List Value,L1=ROW.toList.take i++vs++ROW.toList.drop (i+vs.length):=⟨_,rfl⟩
 have hL1l:L1.length=G:=by
  rw[hL1];simp only[length_append,length_take,length_drop,length_toList,hvl,hRl];omega
 obtain⟨L2,hL2⟩:∃L2:List Value,L2=L1.take (i+m)++xs.drop i++L1.drop (i+m+(xs.drop i).length):=⟨_,rfl⟩
 have hL2l:L2.length=G:=by
  rw[hL2];simp only[length_append,length_take,length_drop,hL1l,hxl];omega
 have hcpA:∀(W:World),W.heap[w.heap.size]? = some (.cells ROW 21 (0,0))->W.heap[vb]? = some (.cells vcur 21 (0,0))->∀ty dc,(Builtin.copy_ #[128,128] ty #[.slice (some ⟨w.heap.size,i,none⟩) (n+m-i) dc,.slice (some ⟨vb,0,none⟩) m vc]).run prog W = .ok (goInt vs.length) (W.setRow w.heap.size L1.toArray):=λW hR hV ty dc=>by
  have:=run_copy_row prog W 128 128 ty 21 w.heap.size i (n+m-i) dc ⟨vb,0,none⟩ m vc ROW 21 vs underlying128 size21 hR (by rw[hvl];simp only[min_def];split<;>omega)
   (λj v hj=>by
    rw[Addr.add_lit];simp only[cell?,hV,zero_add];exact hvs j v hj)
   (by rw[hvl,hRl];omega) h1v
  rw[hL1];exact this
 have hcpB:∀(W:World),W.heap[w.heap.size]? = some (.cells L1.toArray 21 (0,0))->W.heap[b]? = some (.cells cur 21 (0,0))->∀ty dc sc,(Builtin.copy_ #[128,128] ty #[.slice (some ⟨w.heap.size,i+m,none⟩) (n+m-(i+m)) dc,.slice (some ⟨b,i,none⟩) (n-i) sc]).run prog W = .ok (goInt (xs.drop i).length) (W.setRow w.heap.size L2.toArray):=λW hR hV ty dc sc=>by
  have:=run_copy_row prog W 128 128 ty 21 w.heap.size (i+m) (n+m-(i+m)) dc ⟨b,i,none⟩ (n-i) sc L1.toArray 21 (xs.drop i) underlying128 size21 hR (by rw[hdl];simp only[min_def];split<;>omega)
   (λj v hj=>by
    rw[Addr.add_lit];simp only[cell?,hV];exact hx (i+j) v (by rwa[List.getElem?_drop]at hj))
   (by rw[size_toArray,hdl,hL1l];omega) (λv hv=>h1x v (List.mem_of_mem_drop hv))
  rw[hL2];simpa using this
 have hcells:∀(j:Nat) v,(xs.take i++vs++xs.drop i)[j]? = some v->L2.toArray[j]? = some v:=by
  intro j v hj;have hpre:L2=(xs.take i++vs++xs.drop i)++L1.drop (i+m+(xs.drop i).length):=by
   rw[hL2];congr 2;rw[hL1,hROW];have e1:((xs.take i).toArray++Builtin.zeroCells (Value.int .i32 0).cells (n+m-i)++Builtin.zeroCells (Value.int .i32 0).cells (G-(n+m))).toList.take i=xs.take i:=by
    simp only[Array.toList_append];rw[append_assoc,List.take_append_of_le_length (by simp;omega),take_of_length_le (by simp;omega)]
   rw[e1];rw[List.take_append_of_le_length (by simp;omega),take_of_length_le (by simp;omega)]
  rw[hpre];rw[List.getElem?_toArray];have hlt:j<(xs.take i++vs++xs.drop i).length:=(List.getElem?_eq_some_iff.1 hj).1;rw[List.getElem?_append_left hlt];exact hj
 obtain⟨W1,hW1⟩:∃W1,W1=w.drew.alloc (.cells ROW 21):=⟨_,rfl⟩
 have f1:W1.heap[w.heap.size]? = some (.cells ROW 21 (0,0)):=by rw[hW1];exact heap_alloc_new w.drew _
 have f2:W1.heap[vb]? = some (.cells vcur 21 (0,0)):=by rw[hW1];exact(Below.heap_alloc w.drew _ _ hvw).trans hv
 have f3:W1.heap[b]? = some (.cells cur 21 (0,0)):=by rw[hW1];exact(Below.heap_alloc w.drew _ _ hbl).trans hb
 have hb1':Below w.heap.size w W1:=by rw[hW1];exact(Below.refl _ w).drew.alloc (le_refl _) _
 rw[<-hW1]at hrz;have hA:=hcpA W1 f1 f2;obtain⟨W2,hW2⟩:∃W2,W2=W1.setRow w.heap.size L1.toArray:=⟨_,rfl⟩
 have g1:W2.heap[w.heap.size]? = some (.cells L1.toArray 21 (0,0)):=by rw[hW2];exact setRow_heap W1 _ _ _ _ _ f1
 have g3:W2.heap[b]? = some (.cells cur 21 (0,0)):=by rw[hW2];exact(setRow_other W1 _ _ _ hbN).trans f3
 have hb2':Below w.heap.size w W2:=by rw[hW2];exact below_setRow hb1' (le_refl _) _
 rw[<-hW2]at hA;have hB:=hcpB W2.drew g1 g3;obtain⟨W3,hW3⟩:∃W3,W3=W2.drew.setRow w.heap.size L2.toArray:=⟨_,rfl⟩
 have k1:W3.heap[w.heap.size]? = some (.cells L2.toArray 21 (0,0)):=by rw[hW3];exact setRow_heap W2.drew _ _ _ _ _ g1
 have hb3':Below w.heap.size w W3:=by rw[hW3];exact below_setRow hb2'.drew (le_refl _) _
 rw[<-hW3]at hB;refine(?_:Calls prog 261 #[.slice (some ⟨b,0,none⟩) n c,.int .i64 i,.slice (some ⟨vb,0,none⟩) m vc] w λe w'=>e = .returned (.slice (some ⟨w.heap.size,0,none⟩) (n+m) G)/\w'=W3).mono λe w' h=>⟨G,L2.toArray,hGn,hG63,by rw[size_toArray,hL2l],hcells,h.1,by rw[h.2];exact hb3',by rw[h.2];exact k1⟩
 clear hW1 hW2 hW3;have hGi:¬(G=i):=by omega
 have hGim:¬(G=i+m):=by omega
 have hci:¬(c=i):=by omega
 have hw1:IntKind.i64.wrap ((i:Int)+(m:Int))=(i:Int)+(m:Int):=by rw[IntKind.wrap_i64];omega
 have hb1:(0:Int)<=(i:Int)+(m:Int):=by omega
 have hin:i<=n:=by omega
 have htn:((i:Int)+(m:Int)).toNat=i+m:=by omega
 have hb3:(i:Int)<=(n:Int):=by omega
 clear hkk hik hold hROW hG hRl hcpA hcpB hcells hL1 hL2 hL1l hL2l f1 f2 f3 g1 g3 k1 hb1' hb2' hb3' hx hvs h1x h1v i1 i2 i3 i4;have mixed:prog.follows .mixedOrders=true:=by kernel_rfl
 go_enter func261,ntmps261
 go_wp2_with (first|(at_builtin;refine Lib.wpList_append_run _ rfl _ _ _ _ rfl _ _ rfl rfl _ _ (hrz _) ?_)|simp only[hA])
 go_region_law_o (refine step_copy_runI rfl _ _ 128 128 rfl (.slice (some ⟨w.heap.size,i+m,none⟩) (n+m-(i+m)) (G-(i+m))) (.slice (some ⟨b,i,none⟩) (n-i) (c-i)) (by simp[Act.eval,Act.put]) (by simp[Act.eval,Act.put]) (hB 3 (G-(i+m)) (c-i)) ?_)
 go_wp2
 go_returns
 exact⟨rfl,rfl⟩
set_option maxHeartbeats 4000000 in
theorem ins_end(w w2:World)(ao:Option Addr)(n c vc m:Nat)(va:Addr)(v':Value)(hm:0<m)(hnc:n<=c)(hc63:c<=9223372036854775807)(hnil:ao=none->n=0/\c=0)(happ:∀ty,(Builtin.append_ #[128,128] ty #[.slice ao n c,.slice (some va) m vc]).run prog w = .ok v' w2) :
 Calls prog 261 #[.slice ao n c,.int .i64 n,.slice (some va) m vc] w λe w'=>e = .returned v'/\w'=w2:=by
 have hz1:¬((m:Int)=0):=by omega
 have mixed:prog.follows .mixedOrders=true:=by kernel_rfl
 cases ao with
 | none =>
  obtain⟨h0,h1⟩:=hnil rfl;subst h0 h1
  go_enter func261,ntmps261
  go_wp2_with (at_builtin;refine Lib.wpList_append_run _ rfl _ _ _ _ rfl _ _ rfl rfl _ _ (happ _) ?_)
  go_returns
  exact⟨rfl,rfl⟩
 | some a =>
  obtain⟨ab,ao,asp⟩:=a
  go_enter func261,ntmps261
  go_wp2_with (at_builtin;refine Lib.wpList_append_run _ rfl _ _ _ _ rfl _ _ rfl rfl _ _ (happ _) ?_)
  all_goals (go_returns;exact⟨rfl,rfl⟩)
theorem ints_of{w:World}{m:Md}{l:List Int}{xs:List Value}(h:RepE w m (.int .i32) l xs)(hl:xs.length=l.length):xs=l.map (Value.int .i32):=by
 refine List.ext_getElem? λj => ?_;rw[getElem?_map];cases hj:l[j]? with
 | none =>
  have:l.length<=j:=List.getElem?_eq_none_iff.1 hj;rw[List.getElem?_eq_none (by omega)];rfl
 | some x =>
  have h1:(xs.drop (j*1)).take 1=[Value.int .i32 x]:=(h j x hj).1;have hlt:j<xs.length:=by have:=(List.getElem?_eq_some_iff.1 hj).1;omega
  rw[mul_one,List.drop_eq_getElem_cons hlt]at h1;simp only[List.take_succ_cons,List.take_zero,List.cons.injEq,and_true]at h1;rw[getElem?_eq_getElem hlt,h1];rfl
theorem ints_rep{w:World}{m:Md}(l:List Int):RepE w m (.int .i32) l (l.map (Value.int .i32)):=by
 intro j x hj
 change l[j]? = some x at hj
 have hlt:j<(l.map (Value.int .i32)).length:=by rw[length_map];exact(List.getElem?_eq_some_iff.1 hj).1
 show ((l.map (Value.int .i32)).drop (j*1)).take 1=[Value.int .i32 x]/\Rng .i32 x;refine⟨?_,λh=>by cases h⟩;rw[mul_one,List.drop_eq_getElem_cons hlt];simp only[List.take_succ_cons,List.take_zero,List.getElem_map];exact congrArg (λz=>[Value.int .i32 z]) (List.getElem?_eq_some_iff.1 hj).2
theorem one_ints(l:List Int):∀v∈l.map (Value.int .i32),v.oneCell'=true:=by
 intro v hv;obtain⟨x,_,rfl⟩:=mem_map.1 hv;rfl
def C261:T261:=λ(i,l,v,_)=>bif(decide (0<=i)&&decide (i<=(l.length:Int)))&&(decide (v.length=1)&&decide (l.length<=1000000000000))then some (l.take i.toNat++v++l.drop i.toNat,())else none
theorem ok261:FnOk prog 261 (E261 C261):=by
 intro w m g v args y hob hargs hy
 change Int×List Int×List Int×Unit at v
 obtain⟨i,l,vs,u⟩:=v
 change RepOb w m g [[.rowc 21 (.int .i32) l],[.rowc 21 (.int .i32) vs]]at hob
 obtain⟨v0,r1,e1,⟨hg0,-⟩,r⟩:=hargs;obtain⟨vi,r2,e2,⟨hi,-⟩,r⟩:=r;obtain⟨v2,r3,e3,⟨hg1,-⟩,r⟩:=r;have r':r3=[]:=r;subst r' e3 e2;subst hi;have ha:args = #[v0,.int .i64 i,v2]:=by cases args;simpa using e1
 subst ha
 change List Int×Unit at y
 have hy1:(bif(decide (0<=i)&&decide (i<=(l.length:Int)))&&(decide (vs.length=1)&&decide (l.length<=1000000000000))then some (l.take i.toNat++vs++l.drop i.toNat,())else none)=some y:=hy;rcases cond_some hy1 with⟨hl,hy2⟩|⟨_,hy2⟩
 case inr=>cases hy2
 cases hy2;simp only[and_eq_true,decide_eq_true_eq]at hl;obtain⟨⟨h0,h1⟩,h2,h3⟩:=hl;obtain⟨k,rfl⟩:∃k:Nat,i=k:=⟨i.toNat,by omega⟩
 rw[Int.toNat_natCast];obtain⟨xs,own0,rep0⟩:=(hob.obj 0 v0 _ hg0 rfl).rowc _ _ _ rfl;obtain⟨ys,own1,rep1⟩:=(hob.obj 1 v2 _ hg1 rfl).rowc _ _ _ rfl;have hx:=ints_of rep0 (by have h:=own0.1;change xs.length=l.length*1 at h;omega);have hys:=ints_of rep1 (by have h:=own1.1;change ys.length=vs.length*1 at h;omega);subst hx hys;have hbytes:l.length+vs.length<=140737488355328/4:=by omega
 rcases own1.2 with⟨_,hn⟩|⟨vb,vc,vcur,rfl,q1,q2,q3,q4,q5,q6⟩
 . change vs.length=0 at hn;omega
 have hmu0:∀b,v0.ownBlock=some b->m.n b:=λb hb=>hob.sub b ⟨0,v0,_,hg0,rfl,hb⟩;have hlt0:∀b,v0.ownBlock=some b->b<w.heap.size:=λb hb=>hob.lt b (hob.nm b (hmu0 b hb));refine .inr ⟨enters func261 (by kernel_rfl) (by kernel_rfl) _ w,?_⟩;have fin:∀(r:Value) (w':World),w'.os=w.os->w'.tape=w.tape->w'.output=w.output->w.heap.size<=w'.heap.size->(∀b,b<w.heap.size->v0.ownBlock≠some b->w'.heap[b]? = w.heap[b]?)->(∀b,r.ownBlock=some b->b<w.heap.size->v0.ownBlock=some b) ->
  (∃ao n c,r = .slice ao n c)->w'.ownsRow 0 21 1 r (l.take k++vs++l.drop k).length ((l.take k++vs++l.drop k).map (Value.int .i32)) ->
  ∃ax l' u m' g',OSel (E261 C261).outs ((l.take k++vs++l.drop k,()):List Int×Unit) ax l' u/\Stp w m w' m'/\RepOb w' m' g' (em id l' u).2/\(∀(o:Nat) v,g[o]? = some v->g'[o]? = some v)/\RepL w' m' g' (em id l' u).1 [r]:=by
  intro r w' k1 k2 k3 k4 k5 k6 k7 k8;have hob0:RepOb w m g [[],[]]:=(hob.kill 0).kill 1;have hnomu:∀b,¬Mu g [[],[]] b:=by
   rintro b ⟨i,gi,cs,a1,a2,a3⟩;have:cs=[]:=by
    match i,a2 with
    | 0,a2=>exact(Option.some.inj a2).symm
    | 1,a2=>exact(Option.some.inj a2).symm
    | i+2,a2=>cases a2
   subst this;cases a3
  have hlen:g.length=2:=hob.len;obtain⟨t1,t2,t3⟩:=hob0.add (w':=w') r [.rowc 21 (.int .i32) (l.take k++vs++l.drop k)] k1 k2 k3 k4
   (λb hb h=>k5 b hb λhv=>by
    rcases h with h|h
    . exact h (hmu0 b hv)
    . exact hnomu b h)
   (λb hb hlt=>⟨hmu0 b (k6 b hb hlt),hnomu b⟩)
   (λhs=>⟨λe' T' l' he=>by
    cases he;exact⟨_,k8,ints_rep _⟩,(λT' l' he=>by cases he),(λh=>by simp[isBox]at h),(λ_ _ he=>by cases he),trivial⟩)
  refine⟨.ret,[.row 2,.odead,.odead,.orow 21 (.int .i32)],(l.take k++vs++l.drop k,()),_,g++[r],osel_one [.row 2,.odead,.odead,.orow 21 (.int .i32)] ((l.take k++vs++l.drop k,()):List Int×Unit),t2,t1,t3,⟨r,[],rfl,⟨?_,k7⟩,rfl⟩⟩;show (g++[r])[2]? = some r;rw[List.getElem?_append_right (by omega),hlen];rfl
 have hylen:(l.take k++vs++l.drop k).length=l.length+1:=by simp only[length_append,length_take,length_drop];omega
 have hmap:(l.take k++vs++l.drop k).map (Value.int .i32)=(l.map (Value.int .i32)).take k++vs.map (Value.int .i32)++(l.map (Value.int .i32)).drop k:=by
  simp only[map_append,List.map_take,List.map_drop]
 have hvq:∀(j:Nat) v,(vs.map (Value.int .i32))[j]? = some v->vcur[j]? = some v:=λj v hj=>by
  have hlt:j<vs.length:=by have:=(List.getElem?_eq_some_iff.1 hj).1;simpa using this
  have hj':(vcur.toList.take (vs.length*1))[j]? = some v:=by rw[show vcur.toList.take (vs.length*1)=vs.map (Value.int .i32) from q6];exact hj
  rw[getElem?_take_of_lt (by omega),getElem?_toList]at hj';exact hj'
 by_cases hk:k=l.length
 . 
   subst hk;have hrep:RepT w ⟨λ_=>False,λ_=>False⟩ (.lst (.int .i32)) vs [.slice (some ⟨vb,0,none⟩) vs.length vc]:=by
    refine⟨_,vc,rfl,q3,q4,(λh=>by cases h),λj x hj=>⟨vb,0,[.int .i32 x],rfl,⟨rfl,λh=>by cases h⟩,rfl,(Array.getElem?_eq_some_iff.1 q2).1,λh=>h,λi u hu => ?_⟩⟩
    match i,hu with
    | 0,hu =>
     cases hu
     change vs[j]? = some x at hj
     simp only[cell?,q2];have:=hvq j (.int .i32 x) (by rw[getElem?_map,hj];rfl);simpa[Ty.size]using this
    | i+1,hu=>cases hu
   have hap:∀ty,∃v' w' news,(Builtin.append_ #[128,128] ty #[v0,.slice (some ⟨vb,0,none⟩) vs.length vc]).run prog w = .ok v' w'/\w'.ownsRow 0 21 1 v' (l.length+vs.length) (l.map (Value.int .i32)++news)/\news.length=vs.length*1/\RepE w ⟨λ_=>False,λ_=>False⟩ (.int .i32) vs news/\w.grownBy w' v0.ownBlock/\∀b,v'.ownBlock=some b->v0.ownBlock=some b\/b=w.heap.size:=λty =>
    run_append_slice (P:=prog) (w:=w) (t:=128) (e:=21) (ty:=ty) (T := .int .i32) (ei:=ei32) hΓ (by kernel_rfl) (by kernel_rfl) rfl (by decide) rfl own0 hrep hbytes
   obtain⟨v',w',news,a1,a2,a3,a4,a5,a6⟩:=hap 128;have a1':∀ty,(Builtin.append_ #[128,128] ty #[v0,.slice (some ⟨vb,0,none⟩) vs.length vc]).run prog w = .ok v' w':=λty=>a1;have hnews:=ints_of a4 (by simpa using a3);subst hnews;obtain⟨ao,n0,c0,rfl,hn0,hnc,hc63,hnil⟩:∃ao n0 c0,v0 = .slice ao n0 c0/\n0=l.length/\n0<=c0/\c0<=9223372036854775807/\(ao=none->n0=0/\c0=0):=by
    rcases own0.2 with⟨rfl,hn⟩|⟨b,c,cur,rfl,p1,p2,p3,p4,p5,p6⟩
    . exact⟨none,0,0,rfl,hn.symm,le_refl _,zero_le _,λ_=>⟨rfl,rfl⟩⟩
    . exact⟨_,_,_,rfl,rfl,p3,p4,λh=>by cases h⟩
   subst hn0;refine(ins_end w w' ao l.length c0 vc vs.length _ v' (by omega) hnc hc63 hnil a1').mono λe w2 ⟨d1,d2⟩ => ?_;subst d2;refine⟨v',d1,fin v' w2 a5.os a5.tape a5.output a5.size (λb hb hne=>a5.block b hb λe=>hne e.symm) (λb hb hlt => ?_) ?_ ?_⟩
   . rcases a6 b hb with h|h
     . exact h
     . omega
   . rcases a2.2 with⟨rfl,_⟩|⟨q,cap,cur,rfl,_⟩
     . exact⟨_,_,_,rfl⟩
     . exact⟨_,_,_,rfl⟩
   . rw[hylen,hmap,take_of_length_le (by simp),List.drop_of_length_le (by simp),List.append_nil]
     rw[h2]at a2;exact a2
 . rcases own0.2 with⟨_,hn⟩|⟨b,c,cur,rfl,p1,p2,p3,p4,p5,p6⟩
   . change l.length=0 at hn;omega
   have hvb:vb≠b:=by
    rintro rfl;exact hob.sep 0 1 _ _ _ _ vb (by omega) hg0 rfl hg1 rfl rfl rfl
   have hxq:∀(j:Nat) v,(l.map (Value.int .i32))[j]? = some v->cur[j]? = some v:=λj v hj=>by
    have hlt:j<l.length:=by have:=(List.getElem?_eq_some_iff.1 hj).1;simpa using this
    have hj':(cur.toList.take (l.length*1))[j]? = some v:=by rw[show cur.toList.take (l.length*1)=l.map (Value.int .i32) from p6];exact hj
    rw[getElem?_take_of_lt (by omega),getElem?_toList]at hj';exact hj'
   have p5':cur.size=c:=by simpa[Ty.size]using p5
   have hcl:cur.toList.length=c:=by rw[length_toList];exact p5'
   have hkn:k<l.length:=by omega
   by_cases hroom:l.length+vs.length<=c
   . refine(ins_room w b vb k l.length c vc vs.length cur vcur _ _ hkn (by omega) hroom p4 p5' hvb p2 q2 (by simp) (by simp) hxq hvq (one_ints _) (one_ints _)).mono λe w2 ⟨l1,hl1,d1,d2⟩ => ?_
     have hbl:b<w.heap.size:=(Array.getElem?_eq_some_iff.1 p2).1;have hcur:cur.toList.take k=(l.map (Value.int .i32)).take k:=by
      rw[<-show cur.toList.take (l.length*1)=l.map (Value.int .i32) from p6,List.take_take,Nat.min_eq_left (by omega)]
     have e1:l1.take k=(l.map (Value.int .i32)).take k:=by
      rw[hl1,append_assoc,List.take_append_of_le_length (by rw[length_take,hcl];omega),List.take_take,Nat.min_eq_left (by omega),hcur]
     have e2:l1.drop (k+(vs.map (Value.int .i32)).length)=(l.map (Value.int .i32)).drop k++cur.toList.drop (k+vs.length+((l.map (Value.int .i32)).drop k).length):=by
      rw[hl1,append_assoc,List.drop_append_of_le_length (by rw[length_take,length_map,hcl];omega),List.drop_of_length_le (by rw[length_take,length_map];omega),List.nil_append]
     have hw:w2.heap[b]? = some (.cells (l1.take k++vs.map (Value.int .i32)++l1.drop (k+(vs.map (Value.int .i32)).length)).toArray 21 (0,0)):=by
      rw[d2];exact setRow_heap _ _ _ _ _ _ (setRow_heap w.drew _ _ _ _ _ p2)
     have hsize:w2.heap.size=w.heap.size:=by rw[d2];simp[World.setRow]
     refine⟨_,d1,fin _ w2 (by rw[d2];rfl) (by rw[d2];rfl) (by rw[d2];rfl) (by omega) (λb' hb' hne => ?_) (λb' hb' _=>hb') ⟨_,_,_,rfl⟩ ?_⟩
     . have:b'≠b:=by rintro rfl;exact hne rfl
       rw[d2,setRow_other _ _ _ _ this,setRow_other _ _ _ _ this];rfl
     . rw[hylen,hmap]
       have hfull:l1.take k++vs.map (Value.int .i32)++l1.drop (k+(vs.map (Value.int .i32)).length)=((l.map (Value.int .i32)).take k++vs.map (Value.int .i32)++(l.map (Value.int .i32)).drop k)++cur.toList.drop (k+vs.length+((l.map (Value.int .i32)).drop k).length):=by
        rw[e1,e2];simp only[append_assoc]
       refine⟨by simp only[length_append,length_take,length_drop,length_map];omega,.inr ⟨b,c,_,by rw[h2],zero_le _,hw,by omega,p4,?_,?_⟩⟩
       . rw[size_toArray,hfull]
         simp only[length_append,length_take,length_drop,length_map,length_toList,p5'];omega
       . rw[hfull,List.take_append_of_le_length (by simp only[length_append,length_take,length_drop,length_map];omega)]
         exact take_of_length_le (by simp only[length_append,length_take,length_drop,length_map];omega)
   . refine(ins_grow w b vb k l.length c vc vs.length cur vcur _ _ hkn (by omega) p3 (by omega) (by omega) p2 q2 (by simp) (by simp) hxq hvq (one_ints _) (one_ints _)).mono λe w2 ⟨G,cells,d1,d2,d3,d4,d5,d6,d7⟩ => ?_
     refine⟨_,d5,fin _ w2 d6.os d6.tape d6.output d6.size (λb' hb' _=>d6.block b' hb') (λb' hb' hlt => ?_) ⟨_,_,_,rfl⟩ ?_⟩
     . cases hb';exact absurd hlt (Nat.lt_irrefl _)
     . rw[hylen,hmap]
       refine⟨by simp only[length_append,length_take,length_drop,length_map];omega,.inr ⟨w.heap.size,G,cells,by rw[h2],zero_le _,d7,by omega,d2,by omega,?_⟩⟩;refine List.ext_getElem? λj => ?_;have hL:((l.map (Value.int .i32)).take k++vs.map (Value.int .i32)++(l.map (Value.int .i32)).drop k).length=l.length+1:=by simp only[length_append,length_take,length_drop,length_map];omega
       by_cases hj:j<l.length+1
       . rw[getElem?_take_of_lt (by omega),getElem?_toList,getElem?_eq_getElem (show j<((l.map (Value.int .i32)).take k++vs.map (Value.int .i32)++(l.map (Value.int .i32)).drop k).length by omega)]
         exact d4 j _ (getElem?_eq_getElem _)
       . rw[List.getElem?_eq_none (by rw[length_take];omega),List.getElem?_eq_none (by omega)]
theorem tab_of{P:Program}{w:World}{name:String}{b:Nat}{k:IntKind}{zs:List Int}(hg:P.globalNamed name=some b)(h:tabAt w b k zs):Lib.TabIs P w name k zs:=by
 obtain⟨ty,fz,h⟩:=h;unfold Lib.TabIs World.var?;rw[hg];simp only[Option.bind_some,h]
def digF:Nat->Nat->List UInt8
 | 0,_=>[]
 | f+1,n=>if n<10 then [UInt8.ofNat (48+n)]else digF f (n/10)++[UInt8.ofNat (48+n%10)]
theorem digF_eq:∀(f n:Nat),n<10^(f+1)->digF (f+1) n=Lib.decDigits n
 | 0,n,h=>by
  have:n<10:=by simpa using h
  rw[digF,if_pos this,Lib.decDigits,dif_pos this]
 | f+1,n,h=>by
  rw[digF,Lib.decDigits];split
  . rfl
  . rw[digF_eq f (n/10) (by rw[Nat.pow_succ]at h;omega)]
def itoaF(n:Int):List UInt8:=if n<0 then 45::digF 20 n.natAbs else digF 20 n.toNat
def C124(v:Int×Unit):Option (List UInt8×Unit):=if -9223372036854775808<=v.1/\v.1<=9223372036854775807 then some (itoaF v.1,())else none
theorem ok124:FnOk prog 124 (E124 C124):=lib_is func124 (by kernel_rfl) (by kernel_rfl) λn y h w hg=>by
 simp only[C124]at h;split at h
 . rename_i hc
   obtain⟨h1,h2⟩:=hc;simp only[Option.some.injEq,Prod.mk.injEq,and_true]at h;have hy:y=Lib.itoa n:=by
    rw[<-h];unfold itoaF Lib.itoa;split
    . rw[digF_eq 19 _ (by omega)]
    . rw[digF_eq 19 _ (by omega)]
   subst hy;obtain⟨_,h4,_⟩:=hg;have ht:Lib.TabIs prog w "internal/strconv.uint64pow10" .u64 Lib.pow10Tab:=by
    have e:Lib.pow10Tab=tens:=by decide
    rw[e];exact tab_of (by kernel_rfl) h4
   refine(Any.strconv_Itoa laysM171 n h1 h2 w ht).mono λe w' ⟨he,k,os,hw⟩=>⟨he,?_⟩
   subst hw;refine⟨rfl,rfl,rfl,by simp[Sort.grow,World.drewN],λi hi => ?_⟩;have hi':i<(w.drewN k).heap.size:=hi;show (((w.drewN k).heap++os)[i]? : Option Obj)=w.heap[i]?;rw[Array.getElem?_append_left hi'];rfl
 . cases h
def C68(v:List UInt8×List UInt8×Unit):Option (List UInt8×Unit) :=
 if v.1.length<=9223372036854775807/\v.2.1.length<4294967281/\v.2.1.all (λb=>decide (b.toNat<128))=true then some (Lib.trimS v.1 v.2.1,())else none
theorem infoSet:(prog.info? 165).map (λi=>(i.zero,i.size))=some (some (.agg (Array.replicate 256 (.bool false))),256):=by kernel_rfl
theorem ok68:FnOk prog 68 (E68 C68):=lib_sss func68 (by kernel_rfl) (by kernel_rfl) λs t y h w=>by
 simp only[C68]at h;split at h
 . rename_i hc
   obtain⟨h1,h2,h3⟩:=hc;simp only[Option.some.injEq,Prod.mk.injEq,and_true]at h;subst h;exact Any.strings_Trim_laid lays160 infoSet ⟨⟨s⟩⟩ ⟨⟨t⟩⟩ w h1 h2 (ascii_of_all h3)
 . cases h
def C29:T29:=λ(l,_)=>bif decide (l.length<=8796093022208)then some (l,())else none
theorem clones_nil(w:World):Calls prog 29 #[.slice none 0 0] w λe w'=>e = .returned (.slice none 0 0)/\w'=w:=by
 have he:=eq_nil_slice underlying27 none 0 0;simp only[isNone_none]at he
 go_enter func29,ntmps29
 go_wp2
 go_returns
 exact⟨rfl,rfl⟩
theorem clones_some(w w2:World)(ad:Addr)(n cap:Nat)(v':Value)(happ:(Builtin.append_ #[27,27] 27 #[.slice (some ⟨w.heap.size,0,none⟩) 0 0,.slice (some ad) n cap]).run prog (w.alloc (.cells #[] 9)) = .ok v' w2) :
 Calls prog 29 #[.slice (some ad) n cap] w λe w'=>e = .returned v'/\w'=w2:=by
 have he:=eq_nil_slice underlying27 (some ad) n cap;simp only[isNone_some]at he
 go_enter func29,ntmps29
 go_wp2_with (at_builtin;refine Go.Great.wpList_runTo rfl _ rfl v' w2 (by simp[execOp,resolve,invoke,builtin,happ,Act.eval]) ?_)
 go_returns
 exact⟨rfl,rfl⟩
def eistr:TI:=⟨.str,1,16,some .str,[.str []],true,false⟩
theorem rowe_repT{W:World}{m:Md}{base:Nat}{v:Value}{l:List (List UInt8)}{xs:List Value}(h:W.ownsRow base 9 1 v l.length xs)(he:RepE W m .str l xs)(hm:∀b,m.a b->b<base):RepT W m (.lst .str) l [v]:=by
 rcases h.2 with⟨rfl,h0⟩|⟨g,cap,cur,rfl,h2,h3,h4,h5,h6,h7⟩
 . have hl:l=[]:=List.eq_nil_of_length_eq_zero h0
   subst hl;exact⟨none,0,rfl,le_refl _,by omega,λ_=>rfl,λj x hj=>by
    have hj':([]:List (List UInt8))[j]? = some x:=hj;simp at hj'⟩
 . refine⟨_,cap,rfl,h4,by simp only[maxLen]at h5;omega,λe=>(by cases e),λj x hj => ?_⟩
   change List UInt8 at x
   change l[j]? = some x at hj
   refine⟨g,0,[.string ⟨⟨x⟩⟩],rfl,rfl,rfl,(Array.getElem?_eq_some_iff.1 h3).1,λhmb=>absurd (hm _ hmb) (by omega),λi u hu => ?_⟩;have hlt:=(List.getElem?_eq_some_iff.1 hj).1
   match i with
   | i+1=>cases hu
   | 0 =>
    cases hu;have h1:((xs.drop (j*1)).take 1)=[.string ⟨⟨x⟩⟩]:=he j x hj;have h2:((xs.drop (j*1)).take 1)[0]? = some (.string ⟨⟨x⟩⟩):=by rw[h1];rfl
    rw[getElem?_take_of_lt (by omega),List.getElem?_drop]at h2;simp only[mul_one,Nat.add_zero]at h2;rw[<-h7,getElem?_take_of_lt (by omega),getElem?_toList]at h2;simp only[cell?,h3];show cur[0+j*1+0]? = _;rw[show 0+j*1+0=j by omega];exact h2
theorem ok29:FnOk prog 29 (E29 C29):=by
 refine hand func29 (by kernel_rfl) (by kernel_rfl) (λ_=>rfl) (λ_=>rfl) ?_;rintro⟨l,u⟩ y hy w m args gi hn hlt hargs
 change List (List UInt8)at l
 obtain⟨v,r1,e1,h2,h3⟩:=hargs;have h3':r1=[]:=h3;subst h3';have ha:args = #[v]:=by cases args;simpa using e1
 subst ha;have hy1:(bif decide (l.length<=8796093022208)then some (l,())else none)=some y:=hy;rcases cond_some hy1 with⟨hl,hy2⟩|⟨_,hy2⟩
 case inr=>cases hy2
 have hy':(l,())=y:=Option.some.inj hy2;subst hy';have hlim:l.length<=8796093022208:=of_decide_eq_true hl;have h2':RepT w m (.lst .str) l [v]:=h2;obtain⟨ao,cap,he,k1,k2,k3,k4⟩:=h2;have hev:v = .slice ao l.length cap:=(List.cons.inj he).1;subst hev;cases ao with
 | none =>
  have hc0:=k3 rfl;subst hc0;have hl0:l=[]:=List.eq_nil_of_length_eq_zero (by have:l.length<=0:=k1;omega);subst hl0;refine(clones_nil w).mono λe w' ⟨q1,q2⟩ => ?_;subst q2;exact⟨_,q1,Below.refl _ _,.ret,[.lst .str],([],()),osel_one [.lst .str] ([],()),rfl,rfl,⟨_,[],rfl,h2',rfl⟩⟩
 | some ad =>
  have hst:Stp w m (w.alloc (.cells #[] 9)) m:=stp_below ((Below.refl _ w).alloc (le_refl _) _) λb hb=>(hn b hb).elim;obtain⟨v',w',news,r1,r2,r3,r4,r5,r6⟩:=run_append_slice (P:=prog) (w:=w.alloc (.cells #[] 9)) (t:=27) (e:=9) (ty:=27) (T := .str) (v := .slice (some ⟨w.heap.size,0,none⟩) 0 0) (n:=0) (xs:=[]) (m:=m) (ei:=eistr) hΓ (by kernel_rfl) (by kernel_rfl) rfl (by decide) rfl
   ⟨rfl,.inr ⟨w.heap.size,0,#[],rfl,zero_le _,heap_alloc_new w _,le_refl _,zero_le _,rfl,rfl⟩⟩ (RepT.mono (T := .lst .str) hst h2') (by show 0+l.length<=8796093022208;omega)
  refine(clones_some w w' ad l.length cap v' r1).mono λe w2 ⟨q1,q2⟩ => ?_;subst q2;have hB:Below w.heap.size w (w.alloc (.cells #[] 9)):=(Below.refl _ w).alloc (le_refl _) _;have hrow:w2.ownsRow w.heap.size 9 1 v' l.length news:=by
   have r2':w2.ownsRow 0 9 1 v' l.length news:=by
    rw[zero_add]at r2;exact r2
   refine own_base r2' λb hb => ?_;rcases r6 b hb with h|h
   . cases h;exact le_refl _
   . rw[h];simp
  exact⟨v',q1,hB.grown r5 hB.size (λk e=>by cases e;exact le_refl _),.ret,[.lst .str],(l,()),osel_one [.lst .str] (l,()),rfl,rfl,⟨_,[],rfl,rowe_repT hrow r4 hlt,rfl⟩⟩
end Go.Proofs.YtgkmfhhghcccjaaGreatDoorA.W
namespace Go.Proofs.YtgkmfhhghcccjaaGreatDoorA.W
open Go Go.Ae
abbrev T30:=Unit->Option (qb×Unit)
def E30(f:T30):FEnt:=⟨vj,q9h,f⟩
def F30:T30:=λ(_)=>some ([(0,31,9,0,0,0),(32,32,8,0,0,0),(33,44,6,0,0,0),(45,47,6,7,0,0),(48,57,5,4,0,0),(58,64,6,0,0,0),(65,90,1,1,0,1),(91,96,6,0,0,0),(97,122,2,1,0,1),(123,126,7,0,0,0),(127,127,9,0,0,0),(160,160,8,0,0,0),(178,179,7,4,0,0),(183,183,6,0,0,0),(192,214,1,1,0,1),(215,215,7,0,0,0),(216,222,1,1,0,1),(223,246,2,1,0,1),(247,247,7,0,0,0),(248,255,2,1,0,1),(768,772,4,6,3,0),(774,776,4,6,3,0),(778,778,4,6,3,0),(803,803,4,6,3,0),(807,807,4,6,3,0),(885,885,7,0,0,2),(913,929,1,1,0,2),(931,937,1,1,0,2),(945,969,2,1,0,2),(1040,1071,1,1,0,3),(1072,1103,2,1,0,3),(1456,1465,4,6,3,4),(1488,1514,3,2,0,4),(1523,1524,6,2,0,4),(1575,1575,3,3,2,5),(1576,1576,3,3,1,5),(1577,1577,3,3,2,5),(1578,1582,3,3,1,5),(1583,1586,3,3,2,5),(1587,1594,3,3,1,5),(1601,1607,3,3,1,5),(1608,1608,3,3,2,5),(1610,1610,3,3,1,5),(1611,1618,4,6,3,0),(1632,1641,5,5,0,5),(1776,1785,5,4,0,5),(2325,2361,3,1,0,6),(2364,2364,4,6,3,6),(2381,2381,4,6,3,6),(2392,2392,3,1,0,6),(4352,4370,3,1,0,9),(4449,4469,3,1,0,9),(4520,4546,3,1,0,9),(7844,7844,1,1,0,1),(7845,7845,2,1,0,1),(8204,8205,10,0,0,0),(8490,8491,1,1,0,1),(12290,12290,6,0,0,0),(12353,12438,3,1,0,7),(12441,12441,4,6,3,0),(12449,12538,3,1,0,7),(12539,12539,6,0,0,0),(19968,40959,3,1,0,8),(44032,55203,3,1,0,9),(64257,64258,2,1,0,1),(65281,65295,6,0,0,0),(65296,65305,5,4,0,0),(65306,65312,6,0,0,0),(65313,65338,1,1,0,1),(65339,65344,6,0,0,0),(65345,65370,2,1,0,1),(65371,65374,7,0,0,0),(66560,66599,1,1,0,10),(66600,66639,2,1,0,10)],())
def C30:T30:=F30
theorem ok30:FO 30 (E30 C30):=zd vj q9h qu F30 kn func30
abbrev T31:=Unit->Option (qc×Unit)
def E31(f:T31):FEnt:=⟨vj,q9i,f⟩
def F31:T31:=λ(_)=>some ([(768,772,230,0),(774,776,230,0),(778,778,230,0),(803,803,220,0),(807,807,202,0),(1456,1465,10,1),(1611,1618,27,1),(2364,2364,7,0),(2381,2381,9,0),(12441,12441,8,0)],())
def C31:T31:=F31
theorem ok31:FO 31 (E31 C31):=zd vj q9i qu F31 kn func31
abbrev T32:=Unit->Option (qd×Unit)
def E32(f:T32):FEnt:=⟨vj,q9j,f⟩
def F32:T32:=λ(_)=>some ([(65,90,32),(192,214,32),(216,222,32),(913,929,32),(931,937,32),(1040,1071,32),(7844,7844,1),(8490,8490,-8383),(8491,8491,-8262),(65313,65338,32),(66560,66599,40)],())
def C32:T32:=F32
theorem ok32:FO 32 (E32 C32):=zd vj q9j qu F32 kn func32
abbrev T33:=Unit->Option (List ((Int×(Int×(Int×(Bool×Bool)))))×Unit)
def E33(f:T33):FEnt:=⟨vj,q9k,f⟩
def F33:T33:=λ(_)=>some ([(160,32,0,true,true),(178,50,0,true,true),(179,51,0,true,true),(192,65,768,false,false),(193,65,769,false,false),(194,65,770,false,false),(195,65,771,false,false),(196,65,776,false,false),(197,65,778,false,false),(199,67,807,false,false),(200,69,768,false,false),(201,69,769,false,false),(202,69,770,false,false),(203,69,776,false,false),(209,78,771,false,false),(214,79,776,false,false),(220,85,776,false,false),(224,97,768,false,false),(225,97,769,false,false),(226,97,770,false,false),(227,97,771,false,false),(228,97,776,false,false),(229,97,778,false,false),(231,99,807,false,false),(232,101,768,false,false),(233,101,769,false,false),(234,101,770,false,false),(235,101,776,false,false),(241,110,771,false,false),(246,111,776,false,false),(252,117,776,false,false),(1049,1048,774,false,false),(1081,1080,774,false,false),(2392,2325,2364,false,true),(7844,194,769,false,false),(7845,226,769,false,false),(8490,75,0,false,true),(8491,197,0,false,true),(12460,12459,12441,false,false),(12468,12467,12441,false,false),(64257,102,105,true,true),(64258,102,108,true,true)],())
def C33:T33:=F33
theorem ok33:FO 33 (E33 C33):=zd vj q9k qu F33 kn func33
end Go.Proofs.YtgkmfhhghcccjaaGreatDoorA.W
namespace Go.Proofs.YtgkmfhhghcccjaaGreatDoorA.W
open Go Go.Ae Go.RowKit
def C12:T12:=λ_=>(C30 ()).bind λa=>(C31 ()).bind λb=>(C32 ()).bind λc=>some (a.1,b.1,c.1,())
theorem call_lst{f:FuncId}{fn:Func}{T:Ty}{F:Unit->Option (List T.den×Unit)}(h:FnOk prog f ⟨[],[(.ret,[.lst T])],F⟩)(hf:prog.funcs[f]? = some fn)(hb:fn.body.isSome=true)(hname:(fn.name == "runtime.NumGoroutine")=false){l:List T.den}(hl:F ()=some (l,()))(w:World)(m:Md)(gi:GI w m)(hlt:∀b,m.a b->b<w.heap.size):Calls prog f #[] w λe w'=>∃v,e = .returned v/\Below w.heap.size w w'/\RepT w' m (.lst T) l [v]:=by
 refine(FnOk.call0 (v:=()) (y:=(l,())) h hf hb hname gi hlt rfl rfl rfl hl ?_).mono λe w' ⟨r,h1,h2,ax,l',u,h3,h4⟩ => ?_
 . intro ax l' u h3
   cases osel_one_inv h3;rfl
 . cases osel_one_inv h3
   obtain⟨v,r',e1,e2,e3⟩:=h4;have e3':r'=[]:=e3;subst e3';cases e1;exact⟨r,h1,h2,e2⟩
theorem call_lst_b{f:FuncId}{fn:Func}{T:Ty}{F:Unit->Option (List T.den×Unit)}(h:FnOk prog f ⟨[],[(.ret,[.lst T])],F⟩)(hf:prog.funcs[f]? = some fn)(hb:fn.body.isSome=true)(hname:(fn.name == "runtime.NumGoroutine")=false){l:List T.den}(hl:F ()=some (l,())){w:World}{m:Md}(gi:GI w m)(hn:∀b,m.n b->m.a b)(hlt:∀b,m.a b->b<w.heap.size){W:World}(hB:Below w.heap.size w W)(N:Nat)(hN:l.length=N):Calls prog f #[] W λe w'=>∃ao cap,e = .returned (.slice ao N cap)/\Below w.heap.size w w'/\Below W.heap.size W w'/\RepT w' m (.lst T) l [.slice ao N cap]:=by
 have hst:Stp w m W m:=stp_below hB hn;refine(call_lst h hf hb hname hl W m (gi.mono hst) (λb hb=>Nat.lt_of_lt_of_le (hlt b hb) hB.size)).mono λe w' ⟨v,h1,h2,h3⟩ => ?_;have h3':=h3;obtain⟨ao,cap,he,_⟩:=h3';have hev:v = .slice ao l.length cap:=(List.cons.inj he).1;rw[hN]at hev;subst hev;exact⟨ao,cap,h1,hB.trans (h2.mono hB.size),h2,h3⟩
def rangesT:List (Ty.pair (.int .i32) (.pair (.int .i32) (.pair (.int .i64) (.pair (.int .i64) (.pair (.int .i64) (.int .i64)))))).den:=((C30 ()).getD ([],())).1
def classesT:List (Ty.pair (.int .i32) (.pair (.int .i32) (.pair (.int .i64) (.int .i64)))).den:=((C31 ()).getD ([],())).1
def lowersT:List (Ty.pair (.int .i32) (.pair (.int .i32) (.int .i32))).den:=((C32 ()).getD ([],())).1
theorem c_ranges:C30 ()=some (rangesT,()):=by kernel_rfl
theorem c_classes:C31 ()=some (classesT,()):=by kernel_rfl
theorem c_lowers:C32 ()=some (lowersT,()):=by kernel_rfl
theorem c_splits:C33 ()=some ((splitT:List (Ty.pair (.int .i32) (.pair (.int .i32) (.pair (.int .i32) (.pair .bool .bool)))).den),()):=by kernel_rfl
def kv(es:Array MapEntry):List (Value×Value):=es.toList.map λe=>(e.key,e.val)
structure NewI (S:Nat) (w4:World) (k:Nat) (wr:World):Prop where
 m1:∃es c,wr.heap[S]? = some (.map es c)/\kv es=splitE (splitT.take k)
 m2:∃es c,wr.heap[S+1]? = some (.map es c)/\kv es=pairE (splitT.take k)
 keep:∀b,b<w4.heap.size->b≠S->b≠S+1->wr.heap[b]? = w4.heap[b]?
 size:w4.heap.size<=wr.heap.size
 os:wr.os=w4.os
 tape:wr.tape=w4.tape
 output:wr.output=w4.output
theorem split_new:(List.range 42).all (λk=>match splitT[k]? with
 | some s=>((splitT.take k).find? λs'=>s.1==s'.1).isNone&&(((splitT.take k).filter λs => !s.2.2.2.1 && !s.2.2.2.2).find? λs'=>s.2.1==s'.2.1&&s.2.2.1==s'.2.2.1).isNone
 | none=>true)=true:=by kernel_rfl
theorem put_split{S k:Nat}{w4 wr:World}(h:NewI S w4 k wr)(hS:S+3<=w4.heap.size)(hk:k<42){s:Int×Int×Int×Bool×Bool}(hs:splitT[k]? = some s)(X:Obj) :
 ∃W1 es c,(Instr.mapUpdate 44 (.map (some S)) (.int .i32 s.1) (splitV s)).run prog (wr.alloc X) = .ok () W1/\W1.heap[S]? = some (.map es c)/\kv es=splitE (splitT.take (k+1)) /\
  (∀b,b≠S->W1.heap[b]? = (wr.alloc X).heap[b]?)/\W1.heap.size=wr.heap.size+1/\W1.os=wr.os/\W1.tape=wr.tape/\W1.output=wr.output:=by
 obtain⟨es,c,h1,h2⟩:=h.m1;have hSr:S<wr.heap.size:=by have:=h.size;omega
 have hb:(wr.alloc X).heap[S]? = some (.map es c):=by rw[Below.heap_alloc _ _ _ hSr,h1]
 have hn:=all_eq_true.1 split_new k (List.mem_range.2 hk);rw[hs]at hn;simp only[and_eq_true,Option.isNone_iff_eq_none]at hn;have hint:∀en∈es.toList,∃n,en.key = .int .i32 n:=by
  intro en hen;have:(en.key,en.val)∈splitE (splitT.take k):=h2▸mem_map_of_mem (f:=λe:MapEntry=>(e.key,e.val)) hen;obtain⟨q',_,e'⟩:=mem_map.1 this;exact⟨q'.1,(Prod.mk.inj e').1.symm⟩
 have hl:=findE_look (isInt s.1) es.toList 0;rw[show es.toList.map (λe=>(e.key,e.val))=splitE (splitT.take k) from h2,lookE_split,hn.1]at hl;have hnone:findE (isInt s.1) es.toList 0=none:=by simpa using hl
 have hck:∀j (w0:World),(Instr.checkKey false (j+1) 21 (.int .i32 s.1)).run prog w0 = .ok () w0:=by
  intro j w0;simp only[Instr.checkKey,Sem.run_bind,run_underlying (underlying21),Result.andThen_ok];rfl
 refine⟨_,es.push { key := .int .i32 s.1,val:=splitV s,born:=c },c+1,run_update_new (P:=prog) (w:=wr.alloc X) (t:=44) (kt:=21) (et:=88) (key := .int .i32 s.1) (val:=splitV s) underlying44 hb (hck 9999 _) (hnone▸findKey_int (P:=prog) (w:=wr.alloc X) (x:=s.1) (kt:=21) underlying21 hint),?_,?_,?_,?_,rfl,rfl,rfl⟩
 . show ((wr.alloc X).heap.setIfInBounds S _)[S]? = _
   rw[Array.getElem?_setIfInBounds_self_of_lt (by rw[World.size_alloc];omega)]
 . show kv (es.push _)=_
   have ht:splitT.take (k+1)=splitT.take k++[s]:=by rw[take_add_one,hs];rfl
   rw[ht];simp only[kv,toList_push,map_append,map_cons,map_nil,splitE];rw[show es.toList.map (λe=>(e.key,e.val))=splitE (splitT.take k) from h2];rfl
 . intro b hbS
   show ((wr.alloc X).heap.setIfInBounds S _)[b]? = _;rw[Array.getElem?_setIfInBounds_ne (λe=>hbS e.symm)]
 . show ((wr.alloc X).heap.setIfInBounds S _).size=_
   rw[Array.size_setIfInBounds,World.size_alloc]
theorem put_pair{B k:Nat}{W:World}{es:Array MapEntry}{c:Nat}(hb:W.heap[B]? = some (.map es c))(h2:kv es=pairE (splitT.take k))(hk:k<42){s:Int×Int×Int×Bool×Bool}(hs:splitT[k]? = some s)(hso:(!s.2.2.2.1 && !s.2.2.2.2)=true) :
 ∃W1 es c,(Instr.mapUpdate 45 (.map (some B)) (.agg #[.int .i32 s.2.1,.int .i32 s.2.2.1]) (.int .i32 s.1)).run prog W = .ok () W1/\W1.heap[B]? = some (.map es c)/\kv es=pairE (splitT.take (k+1)) /\
  (∀b,b≠B->W1.heap[b]? = W.heap[b]?)/\W1.heap.size=W.heap.size/\W1.os=W.os/\W1.tape=W.tape/\W1.output=W.output:=by
 have hn:=all_eq_true.1 split_new k (List.mem_range.2 hk);rw[hs]at hn;simp only[and_eq_true,Option.isNone_iff_eq_none]at hn;have hkey:∀en∈es.toList,(Op.equal 90 (.agg #[.int .i32 s.2.1,.int .i32 s.2.2.1]) en.key).run prog W = .ok (isPair s.2.1 s.2.2.1 en.key) W:=by
  intro en hen;have:(en.key,en.val)∈pairE (splitT.take k):=h2▸mem_map_of_mem (f:=λe:MapEntry=>(e.key,e.val)) hen;obtain⟨q',_,e'⟩:=mem_map.1 this;rw[<-(Prod.mk.inj e').1];exact eq_pair s.2.1 s.2.2.1 q'.2.1 q'.2.2.1 9998 W
 have hl:=findE_look (isPair s.2.1 s.2.2.1) es.toList 0;rw[show es.toList.map (λe=>(e.key,e.val))=pairE (splitT.take k) from h2,pairE,lookE_pair,hn.2]at hl;have hnone:findE (isPair s.2.1 s.2.2.1) es.toList 0=none:=by simpa using hl
 have hlt:B<W.heap.size:=(Array.getElem?_eq_some_iff.1 hb).1;refine⟨_,es.push { key := .agg #[.int .i32 s.2.1,.int .i32 s.2.2.1],val := .int .i32 s.1,born:=c },c+1,run_update_new (P:=prog) (w:=W) (t:=45) (kt:=90) (et:=21) (key := .agg #[.int .i32 s.2.1,.int .i32 s.2.2.1]) (val := .int .i32 s.1) underlying45 hb (check_pair _ _ 9998 _ W) (hnone▸findKey_agg (P:=prog) (w:=W) (kt:=90) (p:=isPair s.2.1 s.2.2.1) underlying90 hkey),?_,?_,?_,?_,rfl,rfl,rfl⟩
 . show (W.heap.setIfInBounds B _)[B]? = _
   rw[Array.getElem?_setIfInBounds_self_of_lt hlt]
 . show kv (es.push _)=_
   have ht:splitT.take (k+1)=splitT.take k++[s]:=by rw[take_add_one,hs];rfl
   rw[ht];simp only[kv,toList_push,map_append,map_cons,map_nil,pairE,List.filter_append,List.filter_cons,hso,if_true,List.filter_nil];rw[show es.toList.map (λe=>(e.key,e.val))=pairE (splitT.take k) from h2];rfl
 . intro b hbS
   show (W.heap.setIfInBounds B _)[b]? = _;rw[Array.getElem?_setIfInBounds_ne (λe=>hbS e.symm)]
 . show (W.heap.setIfInBounds B _).size=_
   rw[Array.size_setIfInBounds]
theorem pairE_skip{k:Nat}{s:Int×Int×Int×Bool×Bool}(hs:splitT[k]? = some s)(hso:(!s.2.2.2.1 && !s.2.2.2.2)=false):pairE (splitT.take (k+1))=pairE (splitT.take k):=by
 have ht:splitT.take (k+1)=splitT.take k++[s]:=by rw[take_add_one,hs];rfl
 rw[ht];simp[pairE,List.filter_append,List.filter_cons,hso]
theorem split_cells{w:World}{m:Md}{a:Option Addr}{p:Nat}(h:RepT w m (.lst (.pair (.int .i32) (.pair (.int .i32) (.pair (.int .i32) (.pair .bool .bool))))) splitT [.slice a 42 p]) :
 ∃bs o,a=some ⟨bs,o,none⟩/\bs<w.heap.size/\∀k s,splitT[k]? = some s->w.cell? ⟨bs,o+k*5,none⟩=some (.int .i32 s.1)/\w.cell? ⟨bs,o+k*5+1,none⟩=some (.int .i32 s.2.1)/\w.cell? ⟨bs,o+k*5+2,none⟩=some (.int .i32 s.2.2.1) /\
  w.cell? ⟨bs,o+k*5+3,none⟩=some (.bool s.2.2.2.1)/\w.cell? ⟨bs,o+k*5+4,none⟩=some (.bool s.2.2.2.2):=by
 obtain⟨ao,cap,he,_,_,_,h4⟩:=h;have hao:a=ao:=by have:=(List.cons.inj he).1;injection this
 subst hao;obtain⟨s0,hs0⟩:∃s0,splitT[0]? = some s0:=⟨_,rfl⟩
 obtain⟨b,o,us,e1,_,_,e2,_⟩:=h4 0 s0 hs0;refine⟨b,o,e1,e2,λk s hs => ?_⟩;obtain⟨b',o',us,e1',r1,_,_,_,r3⟩:=h4 k s hs;rw[e1]at e1';cases e1';obtain⟨v1,u1,rfl,⟨rfl,_⟩,v2,u2,rfl,⟨rfl,_⟩,v3,u3,rfl,⟨rfl,_⟩,v4,u4,rfl,rfl,rfl⟩:=r1;exact⟨r3 0 _ rfl,r3 1 _ rfl,r3 2 _ rfl,r3 3 _ rfl,r3 4 _ rfl⟩
theorem cell_of_map{w:World}{b o:Nat}{es:Array MapEntry}{c:Nat}(h:w.heap[b]? = some (.map es c)):w.cell? ⟨b,o,none⟩=none:=by simp[cell?,h]
theorem cell_of_cells{w:World}{b o:Nat}{cs:Array Value}{t:TypeId}{fr:Nat×Nat}(h:w.heap[b]? = some (.cells cs t fr)):w.cell? ⟨b,o,none⟩=cs[o]? := by simp[cell?,h]
theorem frozen_of_cells{w:World}{b o:Nat}{cs:Array Value}{t:TypeId}(h:w.heap[b]? = some (.cells cs t)):w.frozen? ⟨b,o,none⟩=false:=by simp[frozen?,h]
set_option maxHeartbeats 4000000 in
theorem new_walk(w:World)(m:Md)(gi:GI w m)(hn:∀b,¬m.n b)(hlt:∀b,m.a b->b<w.heap.size):Calls prog 12 #[] w λe w'=>∃v0 v1 v2 b1 b2 o1 o2,e = .returned (.agg #[v0,v1,v2,.map (some b1),.map (some b2)])/\Below w.heap.size w w' /\
 RepT w' m (.lst (.pair (.int .i32) (.pair (.int .i32) (.pair (.int .i64) (.pair (.int .i64) (.pair (.int .i64) (.int .i64))))))) rangesT [v0]/\RepT w' m (.lst (.pair (.int .i32) (.pair (.int .i32) (.pair (.int .i64) (.int .i64))))) classesT [v1]/\RepT w' m (.lst (.pair (.int .i32) (.pair (.int .i32) (.int .i32)))) lowersT [v2] /\
 (b1<w'.heap.size/\w.heap.size<=b1/\w'.heap[b1]? = some o1/\Opq 0 o1)/\(b2<w'.heap.size/\w.heap.size<=b2/\w'.heap[b2]? = some o2/\Opq 1 o2):=by
 have mk1:=run_mkMap 44;have mk2:=run_mkMap 45;have hw0:Hid (Below w.heap.size w (w.alloc (.cells #[.slice none 0 0,.slice none 0 0,.slice none 0 0,.map none,.map none] 47))/\(w.alloc (.cells #[.slice none 0 0,.slice none 0 0,.slice none 0 0,.map none,.map none] 47)).heap[w.heap.size]? = some (.cells #[.slice none 0 0,.slice none 0 0,.slice none 0 0,.map none,.map none] 47)):=⟨(Below.refl _ w).alloc (le_refl _) _,heap_alloc_new w _⟩
 have gi0:GI (w.alloc (.cells #[.slice none 0 0,.slice none 0 0,.slice none 0 0,.map none,.map none] 47)) ⟨λb=>b=w.heap.size,λb=>m.a b\/b=w.heap.size⟩:=by
  refine gi.mono ⟨rfl,rfl,rfl,by rw[World.size_alloc];omega,λb hb=>(hn b hb).elim,λb hb _=>Below.heap_alloc _ _ _ hb,λb hb h => ?_,λb hb h => ?_,λb hb h _ => .inl h⟩
  . rcases h with h|h
    . exact h
    . omega
  . have h':b=w.heap.size:=h
    omega
 have hn0:∀b,(⟨λb=>b=w.heap.size,λb=>m.a b\/b=w.heap.size⟩:Md).n b->(⟨λb=>b=w.heap.size,λb=>m.a b\/b=w.heap.size⟩:Md).a b:=λb h => .inr h;have hlt0:∀b,(⟨λb=>b=w.heap.size,λb=>m.a b\/b=w.heap.size⟩:Md).a b->b<(w.alloc (.cells #[.slice none 0 0,.slice none 0 0,.slice none 0 0,.map none,.map none] 47)).heap.size:=λb h=>by
  rw[World.size_alloc];rcases h with h|h
  . have:=hlt b h;omega
  . omega
 have hless:Hid (∀b,m.a b->(⟨λb=>b=w.heap.size,λb=>m.a b\/b=w.heap.size⟩:Md).a b):=λb h => .inl h;have hn00:Hid (∀b,(⟨λb=>b=w.heap.size,λb=>m.a b\/b=w.heap.size⟩:Md).n b->(⟨λb=>b=w.heap.size,λb=>m.a b\/b=w.heap.size⟩:Md).a b):=λb h => .inr h;have hnn:Hid (∀b,¬(⟨λb=>b=w.heap.size,λb=>m.a b\/b=w.heap.size⟩:Md).n b↔b≠w.heap.size):=λb=>Iff.rfl;generalize hm':(⟨λb=>b=w.heap.size,λb=>m.a b\/b=w.heap.size⟩:Md)=m' at gi0 hn0 hlt0 hless hnn hn00;clear hm' gi hn hlt
 go_enter func12,ntmps12
 go_wp2_with (first
  | (go_at_call 30;refine(call_lst_b ok30 func30 (by kernel_rfl) (by kernel_rfl) c_ranges gi0 hn0 hlt0 (Below.refl _ _) 74 (by kernel_rfl)).mono ?_;rintro e w1 ⟨a0,p0,rfl,hB1,hb1,hr1⟩;have hs1:=hb1.size;simp only[World.size_alloc]at hs1)
  | (go_at_call 31;refine(call_lst_b ok31 func31 (by kernel_rfl) (by kernel_rfl) c_classes gi0 hn0 hlt0 hB1 10 (by kernel_rfl)).mono ?_;rintro e w2 ⟨a1,p1,rfl,hB2,hb2,hr2⟩;have hs2:=hb2.size)
  | (go_at_call 32;refine(call_lst_b ok32 func32 (by kernel_rfl) (by kernel_rfl) c_lowers gi0 hn0 hlt0 hB2 11 (by kernel_rfl)).mono ?_;rintro e w3 ⟨a2,p2,rfl,hB3,hb3,hr3⟩;have hs3:=hb3.size;have hs30:w.heap.size<w3.heap.size:=by omega)
  | (go_at_call 33;refine(call_lst_b ok33 func33 (by kernel_rfl) (by kernel_rfl) c_splits gi0 hn0 hlt0 (by go_grown<;>(simp only[World.size_alloc];omega)) 42 (by kernel_rfl)).mono ?_;rintro e w4 ⟨a3,p3,rfl,hB4,hb4,hr4⟩)
  | go_in)
 have hs4:=hb4.size;simp only[World.size_alloc]at hs4;have f1:w4.heap[w3.heap.size]? = some (.map #[] 0):=by
  rw[hb4.block _ (by simp only[World.size_alloc];omega),Below.heap_alloc _ _ _ (by simp only[World.size_alloc];omega),Below.heap_alloc _ _ _ (by simp only[World.size_alloc];omega),heap_alloc_new]
 have f2:w4.heap[w3.heap.size+1]? = some (.map #[] 0):=by
  rw[hb4.block _ (by simp only[World.size_alloc];omega),Below.heap_alloc _ _ _ (by simp only[World.size_alloc];omega),show w3.heap.size+1=(w3.alloc (.map #[] 0)).heap.size from(World.size_alloc ..).symm,heap_alloc_new]
 have f3:w4.heap[w3.heap.size+2]? = some (.cells #[.slice a0 74 p0,.slice a1 10 p1,.slice a2 11 p2,.map (some w3.heap.size),.map (some (w3.heap.size+1))] 47):=by
  rw[hb4.block _ (by simp only[World.size_alloc];omega),show w3.heap.size+2=((w3.alloc (.map #[] 0)).alloc (.map #[] 0)).heap.size by simp only[World.size_alloc],heap_alloc_new]
 have f0:w4.heap[w.heap.size]? = some (.cells #[.slice none 0 0,.slice none 0 0,.slice none 0 0,.map none,.map none] 47):=by
  rw[hB4.block _ (by simp only[World.size_alloc];omega)];exact hw0.out.2
 have hk1:∀b,b<w1.heap.size->w4.heap[b]? = w1.heap[b]? := λb hb=>by
  rw[hb4.block _ (by simp only[World.size_alloc];omega),Below.heap_alloc _ _ _ (by simp only[World.size_alloc];omega),Below.heap_alloc _ _ _ (by simp only[World.size_alloc];omega),Below.heap_alloc _ _ _ (by omega),hb3.block _ (by omega),hb2.block _ (by omega)]
 have hk2:∀b,b<w2.heap.size->w4.heap[b]? = w2.heap[b]? := λb hb=>by
  rw[hb4.block _ (by simp only[World.size_alloc];omega),Below.heap_alloc _ _ _ (by simp only[World.size_alloc];omega),Below.heap_alloc _ _ _ (by simp only[World.size_alloc];omega),Below.heap_alloc _ _ _ (by omega),hb3.block _ (by omega)]
 have hk3:∀b,b<w3.heap.size->w4.heap[b]? = w3.heap[b]? := λb hb=>by
  rw[hb4.block _ (by simp only[World.size_alloc];omega),Below.heap_alloc _ _ _ (by simp only[World.size_alloc];omega),Below.heap_alloc _ _ _ (by simp only[World.size_alloc];omega),Below.heap_alloc _ _ _ (by omega)]
 obtain⟨bs,o,rfl,hbs,hcells⟩:=split_cells hr4;have hne:∀b,(∃es c,w4.heap[b]? = some (.map es c))->bs≠b:=by
  rintro b ⟨es,c,h⟩ rfl;obtain⟨s0,hs0⟩:∃s0,splitT[0]? = some s0:=⟨_,rfl⟩
  have:=(hcells 0 s0 hs0).1;rw[cell_of_map h]at this;cases this
 have hne1:=hne _ ⟨_,_,f1⟩;have hne2:=hne _ ⟨_,_,f2⟩;have H0:Hid (NewI w3.heap.size w4 0 w4):=(⟨⟨_,_,f1,rfl⟩,⟨_,_,f2,rfl⟩,λ_ _ _ _=>rfl,le_refl _,rfl,rfl,rfl⟩:NewI w3.heap.size w4 0 w4)
 have hcells':Hid (∀k s,splitT[k]? = some s->w4.cell? ⟨bs,o+k*5,none⟩=some (.int .i32 s.1)/\w4.cell? ⟨bs,o+k*5+1,none⟩=some (.int .i32 s.2.1)/\w4.cell? ⟨bs,o+k*5+2,none⟩=some (.int .i32 s.2.2.1) /\
  w4.cell? ⟨bs,o+k*5+3,none⟩=some (.bool s.2.2.2.1)/\w4.cell? ⟨bs,o+k*5+4,none⟩=some (.bool s.2.2.2.2)):=hcells
 have hh:Hid (Below w.heap.size w w4/\(∀b,b<w1.heap.size->w4.heap[b]? = w1.heap[b]?)/\(∀b,b<w2.heap.size->w4.heap[b]? = w2.heap[b]?)/\(∀b,b<w3.heap.size->w4.heap[b]? = w3.heap[b]?)):=⟨hw0.out.1.trans (hB4.mono (by rw[World.size_alloc];omega)),hk1,hk2,hk3⟩
 have e1:w4.os=w1.os/\w4.tape=w1.tape/\w4.output=w1.output:=⟨hb4.os.trans (hb3.os.trans hb2.os),hb4.tape.trans (hb3.tape.trans hb2.tape),hb4.output.trans (hb3.output.trans hb2.output)⟩
 have e2:w4.os=w2.os/\w4.tape=w2.tape/\w4.output=w2.output:=⟨hb4.os.trans hb3.os,hb4.tape.trans hb3.tape,hb4.output.trans hb3.output⟩
 have e3:w4.os=w3.os/\w4.tape=w3.tape/\w4.output=w3.output:=⟨hb4.os,hb4.tape,hb4.output⟩
 have he:Hid ((w4.os=w1.os/\w4.tape=w1.tape/\w4.output=w1.output)/\(w4.os=w2.os/\w4.tape=w2.tape/\w4.output=w2.output)/\(w4.os=w3.os/\w4.tape=w3.tape/\w4.output=w3.output)):=⟨e1,e2,e3⟩
 have hr:Hid (RepT w1 m' (.lst (.pair (.int .i32) (.pair (.int .i32) (.pair (.int .i64) (.pair (.int .i64) (.pair (.int .i64) (.int .i64))))))) rangesT [.slice a0 74 p0]/\RepT w2 m' (.lst (.pair (.int .i32) (.pair (.int .i32) (.pair (.int .i64) (.int .i64))))) classesT [.slice a1 10 p1]/\RepT w3 m' (.lst (.pair (.int .i32) (.pair (.int .i32) (.int .i32)))) lowersT [.slice a2 11 p2]):=⟨hr1,hr2,hr3⟩
 have hf:Hid (w4.heap[w3.heap.size+2]? = some (.cells #[.slice a0 74 p0,.slice a1 10 p1,.slice a2 11 p2,.map (some w3.heap.size),.map (some (w3.heap.size+1))] 47)/\w4.heap[w.heap.size]? = some (.cells #[.slice none 0 0,.slice none 0 0,.slice none 0 0,.map none,.map none] 47)):=⟨f3,f0⟩
 clear hb4 hB4 hr4 hB1 hb1 hr1 hB2 hb2 hr2 hB3 hb3 hr3 f0 f1 f2 f3 hk1 hk2 hk3 hne hcells gi0 hn0 hlt0 hw0 e1 e2 e3 mk1 mk2;generalize hSd:w3.heap.size=S at *
 go_loopw [12] (λi wr=>∃k:Nat,i = .int .i64 k/\k<=42/\Hid (NewI S w4 k wr)) (λi _=>42-(intOf i).toNat)
 case atStart=>exact⟨0,rfl,zero_le _,H0⟩
 case round =>
  clear H0;obtain⟨k,rfl,hk,hI⟩:=hrel;by_cases hk42:k<42
  . obtain⟨s,hs⟩:∃s,splitT[k]? = some s:=by
     have:k<splitT.length:=hk42;exact⟨_,getElem?_eq_getElem this⟩
    obtain⟨c0,c1,c2,c3,c4⟩:=hcells'.out k s hs;have hn:=hI.out;have hS3:S+3<=w4.heap.size:=by omega
    have hsz:=hn.size;have q:∀j,wr.cell? ⟨bs,j,none⟩=w4.cell? ⟨bs,j,none⟩:=λj=>World.cell?_of_block (hn.keep bs hbs hne1 hne2);have t0:wr.heap[S+2]? = w4.heap[S+2]? := hn.keep _ (by omega) (by omega) (by omega);obtain⟨W1,es1,k1,u1,u2,u3,u4,u5,u6,u7,u8⟩:=put_split hn hS3 hk42 hs (.cells #[.int .i32 s.1,.int .i32 s.2.1,.int .i32 s.2.2.1,.bool s.2.2.2.1,.bool s.2.2.2.2] 88);have hnew:W1.heap[wr.heap.size]? = some (.cells #[.int .i32 s.1,.int .i32 s.2.1,.int .i32 s.2.2.1,.bool s.2.2.2.1,.bool s.2.2.2.2] 88):=by
     rw[u4 _ (by omega),heap_alloc_new]
    have htab:W1.heap[S+2]? = some (.cells #[.slice a0 74 p0,.slice a1 10 p1,.slice a2 11 p2,.map (some S),.map (some (S+1))] 47):=by
     rw[u4 _ (by omega),Below.heap_alloc _ _ _ (by omega),t0];exact hf.out.1
    have d3:(wr.alloc (.cells #[.int .i32 s.1,.int .i32 s.2.1,.int .i32 s.2.2.1,.bool s.2.2.2.1,.bool s.2.2.2.2] 88)).cell? ⟨S+2,3,none⟩=some (.map (some S)):=by
     rw[cell_of_cells (by rw[Below.heap_alloc _ _ _ (by omega),t0];exact hf.out.1)];rfl
    have d4:W1.cell? ⟨S+2,4,none⟩=some (.map (some (S+1))):=by rw[cell_of_cells htab];rfl
    have n0:W1.cell? ⟨wr.heap.size,0,none⟩=some (.int .i32 s.1):=by rw[cell_of_cells hnew];rfl
    have n1:W1.cell? ⟨wr.heap.size,1,none⟩=some (.int .i32 s.2.1):=by rw[cell_of_cells hnew];rfl
    have n2:W1.cell? ⟨wr.heap.size,2,none⟩=some (.int .i32 s.2.2.1):=by rw[cell_of_cells hnew];rfl
    have n3:W1.cell? ⟨wr.heap.size,3,none⟩=some (.bool s.2.2.2.1):=by rw[cell_of_cells hnew];rfl
    have n4:W1.cell? ⟨wr.heap.size,4,none⟩=some (.bool s.2.2.2.2):=by rw[cell_of_cells hnew];rfl
    obtain⟨es2,k2,v1,v2⟩:=hn.m2;have hB2:W1.heap[S+1]? = some (.map es2 k2):=by rw[u4 _ (by omega),Below.heap_alloc _ _ _ (by omega),v1]
    have hkeep:∀b,b<w4.heap.size->b≠S->W1.heap[b]? = wr.heap[b]? := λb hb h=>by rw[u4 _ h,Below.heap_alloc _ _ _ (by omega)]
    rw[<-q]at c0 c1 c2 c3 c4;by_cases hso:(!s.2.2.2.1 && !s.2.2.2.2)=true
    . obtain⟨W2,es3,k3,x1,x2,x3,x4,x5,x6,x7,x8⟩:=put_pair hB2 v2 hk42 hs hso
      have H1:Hid (NewI S w4 (k+1) W2):=(⟨⟨_,_,by rw[x4 _ (by omega)];exact u2,u3⟩,⟨_,_,x2,x3⟩,λb hb h1 h2=>by rw[x4 _ h2,hkeep b hb h1,hn.keep b hb h1 h2],by omega,by rw[x6,u6,hn.os],by rw[x7,u7,hn.tape],by rw[x8,u8,hn.output]⟩:NewI S w4 (k+1) W2)
      clear hI hn hsz q t0 u2 u3 u4 u5 u6 u7 u8 hnew htab v1 v2 hB2 hkeep x2 x3 x4 x5 x6 x7 x8 hs;obtain⟨s0,s1,s2,s3,s4⟩:=s;have hso3:s3=false:=by cases s3<;>simp_all
      have hso4:s4=false:=by cases s4<;>simp_all
      subst hso3 hso4;clear hso;simp only[splitV]at u1;dsimp only at *
      go_wp2
      exact⟨⟨k+1,by simp,by omega,H1⟩,by simp[intOf];omega⟩
    . have hso':(!s.2.2.2.1 && !s.2.2.2.2)=false:=by simpa using hso
      have H1:Hid (NewI S w4 (k+1) W1):=(⟨⟨_,_,u2,u3⟩,⟨_,_,hB2,by rw[v2,pairE_skip hs hso']⟩,λb hb h1 h2=>by rw[hkeep b hb h1,hn.keep b hb h1 h2],by omega,by rw[u6,hn.os],by rw[u7,hn.tape],by rw[u8,hn.output]⟩:NewI S w4 (k+1) W1)
      clear hI hn hsz q t0 u2 u3 u4 u5 u6 u7 u8 hnew htab v1 v2 hB2 hkeep hs hso;obtain⟨s0,s1,s2,s3,s4⟩:=s;simp only[splitV]at u1;dsimp only at *
      cases s3 with
      | true =>
       go_wp2
       exact⟨⟨k+1,by simp,by omega,H1⟩,by simp[intOf];omega⟩
      | false =>
       cases s4 with
       | false=>cases hso'
       | true =>
        go_wp2
        exact⟨⟨k+1,by simp,by omega,H1⟩,by simp[intOf];omega⟩
  . obtain rfl:k=42:=by omega
    have hn:=hI.out;have t0:wr.heap[S+2]? = some (.cells #[.slice a0 74 p0,.slice a1 10 p1,.slice a2 11 p2,.map (some S),.map (some (S+1))] 47):=by rw[hn.keep _ (by omega) (by omega) (by omega)];exact hf.out.1
    have t1:wr.heap[w.heap.size]? = some (.cells #[.slice none 0 0,.slice none 0 0,.slice none 0 0,.map none,.map none] 47):=by rw[hn.keep _ (by omega) (by omega) (by omega)];exact hf.out.2
    have y0:wr.cell? ⟨S+2,0,none⟩=some (.slice a0 74 p0):=by rw[cell_of_cells t0];rfl
    have y1:wr.cell? ⟨S+2,1,none⟩=some (.slice a1 10 p1):=by rw[cell_of_cells t0];rfl
    have y2:wr.cell? ⟨S+2,2,none⟩=some (.slice a2 11 p2):=by rw[cell_of_cells t0];rfl
    have y3:wr.cell? ⟨S+2,3,none⟩=some (.map (some S)):=by rw[cell_of_cells t0];rfl
    have y4:wr.cell? ⟨S+2,4,none⟩=some (.map (some (S+1))):=by rw[cell_of_cells t0];rfl
    have z0:wr.cell? ⟨w.heap.size,0,none⟩=some (.slice none 0 0):=by rw[cell_of_cells t1];rfl
    have z1:wr.cell? ⟨w.heap.size,1,none⟩=some (.slice none 0 0):=by rw[cell_of_cells t1];rfl
    have z2:wr.cell? ⟨w.heap.size,2,none⟩=some (.slice none 0 0):=by rw[cell_of_cells t1];rfl
    have z3:wr.cell? ⟨w.heap.size,3,none⟩=some (.map none):=by rw[cell_of_cells t1];rfl
    have z4:wr.cell? ⟨w.heap.size,4,none⟩=some (.map none):=by rw[cell_of_cells t1];rfl
    have g0:∀i,wr.frozen? ⟨w.heap.size,i,none⟩=false:=λi=>frozen_of_cells t1;clear t0 t1 hn;have r0:(wr.setCell ⟨w.heap.size,0,none⟩ (.slice a0 74 p0)).cell? ⟨w.heap.size,0,none⟩=some (.slice a0 74 p0):=by
     refine cell?_setCell_same _ _ _ (u:=(.slice none 0 0)) ?_;exact z0
    have r1:((wr.setCell ⟨w.heap.size,0,none⟩ (.slice a0 74 p0)).setCell ⟨w.heap.size,1,none⟩ (.slice a1 10 p1)).cell? ⟨w.heap.size,1,none⟩=some (.slice a1 10 p1):=by
     refine cell?_setCell_same _ _ _ (u:=(.slice none 0 0)) ?_;rw[cell?_setCell_other _ _ _ _ (by simp)];exact z1
    have r2:(((wr.setCell ⟨w.heap.size,0,none⟩ (.slice a0 74 p0)).setCell ⟨w.heap.size,1,none⟩ (.slice a1 10 p1)).setCell ⟨w.heap.size,2,none⟩ (.slice a2 11 p2)).cell? ⟨w.heap.size,2,none⟩=some (.slice a2 11 p2):=by
     refine cell?_setCell_same _ _ _ (u:=(.slice none 0 0)) ?_;rw[cell?_setCell_other _ _ _ _ (by simp)];rw[cell?_setCell_other _ _ _ _ (by simp)];exact z2
    have r3:((((wr.setCell ⟨w.heap.size,0,none⟩ (.slice a0 74 p0)).setCell ⟨w.heap.size,1,none⟩ (.slice a1 10 p1)).setCell ⟨w.heap.size,2,none⟩ (.slice a2 11 p2)).setCell ⟨w.heap.size,3,none⟩ (.map (some S))).cell? ⟨w.heap.size,3,none⟩=some (.map (some S)):=by
     refine cell?_setCell_same _ _ _ (u:=(.map none)) ?_;rw[cell?_setCell_other _ _ _ _ (by simp)];rw[cell?_setCell_other _ _ _ _ (by simp)];rw[cell?_setCell_other _ _ _ _ (by simp)];exact z3
    have r4:(((((wr.setCell ⟨w.heap.size,0,none⟩ (.slice a0 74 p0)).setCell ⟨w.heap.size,1,none⟩ (.slice a1 10 p1)).setCell ⟨w.heap.size,2,none⟩ (.slice a2 11 p2)).setCell ⟨w.heap.size,3,none⟩ (.map (some S))).setCell ⟨w.heap.size,4,none⟩ (.map (some (S+1)))).cell? ⟨w.heap.size,4,none⟩=some (.map (some (S+1))):=by
     refine cell?_setCell_same _ _ _ (u:=(.map none)) ?_;rw[cell?_setCell_other _ _ _ _ (by simp)];rw[cell?_setCell_other _ _ _ _ (by simp)];rw[cell?_setCell_other _ _ _ _ (by simp)];rw[cell?_setCell_other _ _ _ _ (by simp)];exact z4
    go_wp2
    have hB:Hid (Below w.heap.size wr (((((wr.setCell ⟨w.heap.size,0,none⟩ (.slice a0 74 p0)).setCell ⟨w.heap.size,1,none⟩ (.slice a1 10 p1)).setCell ⟨w.heap.size,2,none⟩ (.slice a2 11 p2)).setCell ⟨w.heap.size,3,none⟩ (.map (some S))).setCell ⟨w.heap.size,4,none⟩ (.map (some (S+1))))):=Below.setCell (Below.setCell (Below.setCell (Below.setCell (Below.setCell (Below.refl _ wr) (show w.heap.size<=(⟨w.heap.size,0,none⟩:Addr).block from le_refl _) _) (show w.heap.size<=(⟨w.heap.size,1,none⟩:Addr).block from le_refl _) _) (show w.heap.size<=(⟨w.heap.size,2,none⟩:Addr).block from le_refl _) _) (show w.heap.size<=(⟨w.heap.size,3,none⟩:Addr).block from le_refl _) _) (show w.heap.size<=(⟨w.heap.size,4,none⟩:Addr).block from le_refl _) _;have hO:Hid (∀b,b≠w.heap.size->(((((wr.setCell ⟨w.heap.size,0,none⟩ (.slice a0 74 p0)).setCell ⟨w.heap.size,1,none⟩ (.slice a1 10 p1)).setCell ⟨w.heap.size,2,none⟩ (.slice a2 11 p2)).setCell ⟨w.heap.size,3,none⟩ (.map (some S))).setCell ⟨w.heap.size,4,none⟩ (.map (some (S+1)))).heap[b]? = wr.heap[b]?):=λb hb=>by
     rw[Below.heap_setCell _ _ _ _ hb,Below.heap_setCell _ _ _ _ hb,Below.heap_setCell _ _ _ _ hb,Below.heap_setCell _ _ _ _ hb,Below.heap_setCell _ _ _ _ hb]
    (try simp only[Exit.inBlock,Exit.then])
    refine bodyPost_ret (by simp[results,results12,go_sem,r0,r1,r2,r3,r4];try rfl) rfl ?_;clear r0 r1 r2 r3 r4 y0 y1 y2 y3 y4 z0 z1 z2 z3 z4 g0;generalize (((((wr.setCell ⟨w.heap.size,0,none⟩ (.slice a0 74 p0)).setCell ⟨w.heap.size,1,none⟩ (.slice a1 10 p1)).setCell ⟨w.heap.size,2,none⟩ (.slice a2 11 p2)).setCell ⟨w.heap.size,3,none⟩ (.map (some S))).setCell ⟨w.heap.size,4,none⟩ (.map (some (S+1))))=W at hB hO ⊢;have hn:=hI.out;obtain⟨b1,q1,q2,q3⟩:=hh.out;obtain⟨p1',p2',p3'⟩:=he.out;obtain⟨x1,x2,x3⟩:=hr.out;have hBW:=hB.out;obtain⟨es1,k1,m1,m1'⟩:=hn.m1;obtain⟨es2,k2,m2,m2'⟩:=hn.m2;have hstp:∀wk:World,wk.heap.size<=S->(∀b,b<wk.heap.size->w4.heap[b]? = wk.heap[b]?)->(w4.os=wk.os/\w4.tape=wk.tape/\w4.output=wk.output)->(∀b,m'.n b->m'.a b)->Stp wk m' W m':=λwk h1 h2 ⟨h3,h4,h5⟩ h6 =>
     ⟨by rw[hBW.os,hn.os,h3],by rw[hBW.tape,hn.tape,h4],by rw[hBW.output,hn.output,h5],by have:=hBW.size;have:=hn.size;omega,h6,λb hb hnb=>by rw[hO.out b ((hnn.out b).1 hnb),hn.keep b (by omega) (by omega) (by omega),h2 b hb],λ_ _ h=>h,λ_ _ h=>h,λ_ _ h _=>h⟩
    have hsz1:=hBW.size;have hsz2:=hn.size;refine⟨_,_,_,S,S+1,_,_,rfl,⟨by rw[hBW.os,hn.os,b1.os],by rw[hBW.tape,hn.tape,b1.tape],by rw[hBW.output,hn.output,b1.output],by have:=b1.size;omega,λb hb=>by rw[hO.out b (by omega),hn.keep b (by omega) (by omega) (by omega),b1.block b hb]⟩,
     RepT.less hless.out (RepT.mono (hstp w1 (by omega) q1 p1' hn00.out) x1),RepT.less hless.out (RepT.mono (hstp w2 (by omega) q2 p2' hn00.out) x2),RepT.less hless.out (RepT.mono (hstp w3 (by omega) (λb hb=>q3 b (by omega)) p3' hn00.out) x3),
     ⟨by omega,by omega,by rw[hO.out _ (by omega)];exact m1,?_⟩,⟨by omega,by omega,by rw[hO.out _ (by omega)];exact m2,?_⟩⟩
    . exact⟨es1,k1,rfl,m1'⟩
    . exact⟨es2,k2,rfl,m2'⟩
theorem ok12:FnOk prog 12 (E12 C12):=by
 refine hand func12 (by kernel_rfl) (by kernel_rfl) (λ_=>rfl) (λ_=>rfl) ?_;intro v y hy w m args gi hn hlt hargs;have ha0:args.toList=[]:=hargs;have ha:args = #[]:=by cases args;simpa using ha0
 subst ha;have hy1:((C30 ()).bind λa=>(C31 ()).bind λb=>(C32 ()).bind λc=>some (a.1,b.1,c.1,()))=some y:=hy;rw[c_ranges,c_classes,c_lowers]at hy1;have hy2:(rangesT,classesT,lowersT,())=y:=Option.some.inj hy1;subst hy2;refine(new_walk w m gi hn hlt).mono λe w' ⟨v0,v1,v2,b1,b2,o1,o2,k0,k1,k2,k3,k4,⟨k5,k6,k7,k8⟩,⟨k9,k10,k11,k12⟩⟩ => ?_;refine⟨_,k0,k1,.ret,([.agg 5,.lst (.pair (.int .i32) (.pair (.int .i32) (.pair (.int .i64) (.pair (.int .i64) (.pair (.int .i64) (.int .i64)))))),.lst (.pair (.int .i32) (.pair (.int .i32) (.pair (.int .i64) (.int .i64)))),.lst (.pair (.int .i32) (.pair (.int .i32) (.int .i32))),.opq 0,.opq 1]:List Sh),(rangesT,classesT,lowersT,()),osel_one ([.agg 5,.lst (.pair (.int .i32) (.pair (.int .i32) (.pair (.int .i64) (.pair (.int .i64) (.pair (.int .i64) (.int .i64)))))),.lst (.pair (.int .i32) (.pair (.int .i32) (.pair (.int .i64) (.int .i64)))),.lst (.pair (.int .i32) (.pair (.int .i32) (.int .i32))),.opq 0,.opq 1]:List Sh) (rangesT,classesT,lowersT,()),rfl,rfl,?_⟩;exact⟨_,[],rfl,⟨_,rfl,v0,_,rfl,k2,v1,_,rfl,k3,v2,_,rfl,k4,_,_,rfl,⟨b1,o1,rfl,k5,λh=>absurd (hlt _ h) (by omega),k7,k8⟩,_,_,rfl,⟨b2,o2,rfl,k9,λh=>absurd (hlt _ h) (by omega),k11,k12⟩,rfl⟩,rfl⟩
end Go.Proofs.YtgkmfhhghcccjaaGreatDoorA.W
namespace Go.Proofs.YtgkmfhhghcccjaaGreatDoorA.W
open Go Go.Ae
abbrev T308:=Int×Int×Int×Int×Int×Int×Int×Unit->Option (Int×Unit)
def E308(f:T308):FEnt:=⟨q0x,qf,f⟩
def F308:T308:=λ(x0,x1,x2,x3,x4,x5,x6,_)=>bif decide (x1<x6)then some (-1,())else bif decide (x0>x6)then some (1,())else some (0,())
def C308:T308:=F308
theorem ok308:FO 308 (E308 C308):=zd q0x qf qu F308 kn func308
abbrev T307_l0:=qb×Int×Int×Int×Int×Unit->Option (qb×Int×Int×Int×Unit)
def E307_l0(f:T307_l0):LEnt:=⟨q0z,q5i,f⟩
abbrev T307:=qb×Int×Unit->Option (Int×Bool×Unit)
def E307(f:T307):FEnt:=⟨q0y,xg,f⟩
def K307(f308:T308):=lk [(308,E308 f308)]
theorem kok307:KOk prog (K307 C308):=(kc ok308 kn)
def F307_l0(f308:T308):qn (qb×Int×Int×Int×Int×Unit) (qb×Int×Int×Int×Unit):=λ(x0,x1,x2,x3,x4,_)=>bif decide (x3<x4)then bif decide (0<=IntKind.i64.wrap ((IntKind.u64.wrap (IntKind.i64.wrap (x3+x4))).fdiv (2^min 1 IntKind.u64.bits)))&&decide (IntKind.i64.wrap ((IntKind.u64.wrap (IntKind.i64.wrap (x3+x4))).fdiv (2^min 1 IntKind.u64.bits))<(↑x0.length:Int))then(f308 ((x0.getD (IntKind.i64.wrap ((IntKind.u64.wrap (IntKind.i64.wrap (x3+x4))).fdiv (2^min 1 IntKind.u64.bits))).toNat (0,(0,(0,(0,(0,0)))))).1,(x0.getD (IntKind.i64.wrap ((IntKind.u64.wrap (IntKind.i64.wrap (x3+x4))).fdiv (2^min 1 IntKind.u64.bits))).toNat (0,(0,(0,(0,(0,0)))))).2.1,(x0.getD (IntKind.i64.wrap ((IntKind.u64.wrap (IntKind.i64.wrap (x3+x4))).fdiv (2^min 1 IntKind.u64.bits))).toNat (0,(0,(0,(0,(0,0)))))).2.2.1,(x0.getD (IntKind.i64.wrap ((IntKind.u64.wrap (IntKind.i64.wrap (x3+x4))).fdiv (2^min 1 IntKind.u64.bits))).toNat (0,(0,(0,(0,(0,0)))))).2.2.2.1,(x0.getD (IntKind.i64.wrap ((IntKind.u64.wrap (IntKind.i64.wrap (x3+x4))).fdiv (2^min 1 IntKind.u64.bits))).toNat (0,(0,(0,(0,(0,0)))))).2.2.2.2.1,(x0.getD (IntKind.i64.wrap ((IntKind.u64.wrap (IntKind.i64.wrap (x3+x4))).fdiv (2^min 1 IntKind.u64.bits))).toNat (0,(0,(0,(0,(0,0)))))).2.2.2.2.2,x1,())).bind λv=>bif decide (v.1<0)then some (Sum.inl (x0,x1,x2,IntKind.i64.wrap (IntKind.i64.wrap ((IntKind.u64.wrap (IntKind.i64.wrap (x3+x4))).fdiv (2^min 1 IntKind.u64.bits))+1),x4,()))else some (Sum.inl (x0,x1,x2,x3,IntKind.i64.wrap ((IntKind.u64.wrap (IntKind.i64.wrap (x3+x4))).fdiv (2^min 1 IntKind.u64.bits)),()))else none else some (Sum.inr (x0,x1,x2,x3,()))
def C307_l0:T307_l0:=loopN (F307_l0 C308) big
theorem k307_l0:qg 0 (subc (code f307) [1,1,1,0,0,0]) (E307_l0 C307_l0):=zg q0z q5i K307 F307_l0 C308 kok307
def N307(f307_l0:T307_l0):Ann:=(.seq .nil (.seq .nil (.seq .nil (.seq (.blk (.loop (E307_l0 f307_l0))) .nil))))
def F307(f308:T308)(f307_l0:T307_l0):T307:=λ(x0,x1,_)=>(f307_l0 (x0,x1,(↑x0.length:Int),0,(↑x0.length:Int),())).bind λv=>bif decide (v.2.2.2.1<v.2.2.1)then bif decide (0<=v.2.2.2.1)&&decide (v.2.2.2.1<(↑(List.length v.1):Int))then(f308 ((List.getD v.1 (Int.toNat v.2.2.2.1) (0,(0,(0,(0,(0,0)))))).1,(List.getD v.1 (Int.toNat v.2.2.2.1) (0,(0,(0,(0,(0,0)))))).2.1,(List.getD v.1 (Int.toNat v.2.2.2.1) (0,(0,(0,(0,(0,0)))))).2.2.1,(List.getD v.1 (Int.toNat v.2.2.2.1) (0,(0,(0,(0,(0,0)))))).2.2.2.1,(List.getD v.1 (Int.toNat v.2.2.2.1) (0,(0,(0,(0,(0,0)))))).2.2.2.2.1,(List.getD v.1 (Int.toNat v.2.2.2.1) (0,(0,(0,(0,(0,0)))))).2.2.2.2.2,v.2.1,())).bind λv1=>some (v.2.2.2.1,v1.1==0,())else none else some (v.2.2.2.1,false,())
def C307:T307:=F307 C308 C307_l0
theorem ok307:FO 307 (E307 C307):=qx q0y xg K307 N307 F307 C308 C307_l0 kok307 func307 (And.intro k307_l0 trivial)
abbrev T280:=qb×qc×qd×Int×Unit->Option (Int×Int×Int×Int×Int×Int×Unit)
def E280(f:T280):FEnt:=⟨zv,q5j,f⟩
def K280(f307:T307):=lk [(307,E307 f307)]
def F280(f307:T307):T280:=λ(x0,x1,x2,x3,_)=>(f307 (x0,x3,())).bind λv=>bif !v.2.1 then some (0,0,0,0,0,0,())else bif decide (0<=v.1)&&decide (v.1<(↑x0.length:Int))then some ((x0.getD (Int.toNat v.1) (0,(0,(0,(0,(0,0)))))).1,(x0.getD (Int.toNat v.1) (0,(0,(0,(0,(0,0)))))).2.1,(x0.getD (Int.toNat v.1) (0,(0,(0,(0,(0,0)))))).2.2.1,(x0.getD (Int.toNat v.1) (0,(0,(0,(0,(0,0)))))).2.2.2.1,(x0.getD (Int.toNat v.1) (0,(0,(0,(0,(0,0)))))).2.2.2.2.1,(x0.getD (Int.toNat v.1) (0,(0,(0,(0,(0,0)))))).2.2.2.2.2,())else none
def C280:T280:=F280 C307
theorem ok280:FO 280 (E280 C280):=qz zv q5j K280 F280 C307 (kc ok307 kn) func280
abbrev T228:=qb×qc×qd×Int×Unit->Option (Int×Unit)
def E228(f:T228):FEnt:=⟨zv,qf,f⟩
def K228(f280:T280):=lk [(280,E280 f280)]
def F228(f280:T280):T228:=λ(x0,x1,x2,x3,_)=>(f280 (x0,x1,x2,x3,())).bind λv=>some (v.2.2.2.1,())
def C228:T228:=F228 C280
theorem ok228:FO 228 (E228 C228):=qz zv qf K228 F228 C280 (kc ok280 kn) func228
end Go.Proofs.YtgkmfhhghcccjaaGreatDoorA.W
namespace Go.Ae
open Go Go.RowKit
structure Oth (Bs:Nat) (W W':World):Prop where
 os:W'.os=W.os
 tape:W'.tape=W.tape
 output:W'.output=W.output
 size:W.heap.size<=W'.heap.size
 keep:∀b,b<W.heap.size->b≠Bs->W'.heap[b]? = W.heap[b]?
structure OthR (N Bs:Nat) (W W':World):Prop where
 os:W'.os=W.os
 tape:W'.tape=W.tape
 output:W'.output=W.output
 size:W.heap.size<=W'.heap.size
 keep:∀b o,W.heap[b]? = some o->b≠Bs->(b<N\/o.isCells=true)->W'.heap[b]? = some o
theorem lt_of_some{W:World}{b:Nat}{o:Obj}(h:W.heap[b]? = some o):b<W.heap.size:=(Array.getElem?_eq_some_iff.1 h).1
theorem Oth.toR{N Bs:Nat}{A B:World}(h:Oth Bs A B):OthR N Bs A B:=⟨h.os,h.tape,h.output,h.size,λb o hb hne _=>(h.keep b (lt_of_some hb) hne).trans hb⟩
theorem Oth.of_below{Bs:Nat}{A B:World}(h:Below A.heap.size A B):Oth Bs A B:=⟨h.os,h.tape,h.output,h.size,λb hb _=>h.block b hb⟩
theorem Oth.set(Bs i:Nat)(A:World)(v:Value):Oth Bs A (A.setCell ⟨Bs,i,none⟩ v) :=
 ⟨rfl,rfl,rfl,by simp,λb _ hne=>Below.heap_setCell A _ v b hne⟩
theorem Oth.trans{Bs:Nat}{A B C:World}(h:Oth Bs A B)(k:Oth Bs B C):Oth Bs A C :=
 ⟨k.os.trans h.os,k.tape.trans h.tape,k.output.trans h.output,Nat.le_trans h.size k.size,λb hb hne=>(k.keep b (Nat.lt_of_lt_of_le hb h.size) hne).trans (h.keep b hb hne)⟩
theorem OthR.alloc(N Bs:Nat)(A:World)(o:Obj):OthR N Bs A (A.alloc o):=(Oth.of_below ((Below.refl _ A).alloc (le_refl _) o)).toR
theorem OthR.putObj{N Bs:Nat}{A:World}{l:Nat}{o:Obj}(o':Obj)(hl:N<=l)(h:A.heap[l]? = some o)(ho:o.isCells=false):OthR N Bs A (A.putObj l o') :=
 ⟨rfl,rfl,rfl,by simp[World.putObj],λb o1 hb _ hor=>by
  rw[World.putObj_heap_other ?_]
  . exact hb
  . rintro rfl
    rw[h]at hb;cases hb;rcases hor with hor|hor
    . omega
    . rw[ho]at hor;cases hor⟩
def ownPostD{α:Type}(B:Nat)(K:Nat->Prop)(I:List α->World->Prop)(Ix:Code->List α->World->Prop)(xs:List α)(W:World):Exit->Act->World->Prop
 | .normal,_,W'=>KeepsFrom B W W'/\(∀b,K b->W'.heap[b]? = W.heap[b]?)/\I xs W'
 | .ret,_,W'=>KeepsFrom B W W'/\Ix .ret xs W'
 | .exit id,_,W'=>KeepsFrom B W W'/\Ix (.exit id) xs W'
 | .goto t,_,W'=>KeepsFrom B W W'/\Ix (.goto t) xs W'
 | .panic _,_,_=>False
 | .outgrown,_,_=>False
variable {F:Fence} {n:Nat} {P:Program}
def SeqD{α:Type}(F:Fence)(n:Nat)(P:Program)(gf:Nat)(lb:Array Value)(encs:α->Array Value)(K:Nat->Prop)(Bs:Nat)(xs:List α)(w:World):Prop :=
 ∀(l:Nat) (J Jx:List α->World->Prop) (W:World),Below w.heap.size w W->(∀s A B,J s A->Oth Bs A B->J s B)->(∀s A B,Jx s A->Oth Bs A B->Jx s B) ->
  (∀pre x W1,pre++[x] <+: xs->J pre W1->YieldAt F (n-1) P l (encs x) W1 λe W' =>
   (e = .returned (.bool true)/\J (pre++[x]) W'/\W1.heap.size<=W'.heap.size/\∀b,K b->W'.heap[b]? = W1.heap[b]?)\/(e = .returned (.bool false)/\Jx (pre++[x]) W')) ->
  J [] W->CallsIn F n P gf (#[.func (.yield l) #[] #[]]++lb) W λe W'=>(∃v,e = .returned v)/\(J xs W'\/∃pre,pre <+: xs/\Jx pre W')
theorem wpIn_rangeFunc_dir{α:Type}{g:Operand}{ps:Array Tmp}{assign body:Code}{Q:Exit->Act->World->Prop}{a:Act}{w:World}(hro:F.round=none)(h1:1<=n){gf:Nat}{lb:Array Value}(hg:a.eval g = .func (.func gf) #[] lb)(hFg:F.fn gf)(eg:∀args w,(callFunc gf args).run P w = .ok (.enter gf args) w){encs:α->Array Value}{K:Nat->Prop}{Bs:Nat}{xs:List α}(hseq:SeqD F (n-1) P gf lb encs K Bs xs w)(hK:∀b,K b->b<w.heap.size)(hBs:Bs<w.heap.size)(hps:∀x,(encs x).size=ps.size)(I:List α->World->Prop)(Ix:Code->List α->World->Prop)(hI:∀s A B,I s A->OthR w.heap.size Bs A B->I s B)(hIx:∀c s A B,Ix c s A->OthR w.heap.size Bs A B->Ix c s B)(h0:I [] w)(a₁:α->Act)(hassign:∀(l:Nat) (x:α) (W:World) (K:Act->World->Prop),K (a₁ x) W ->
  assign.wpIn (F.inRound l) (n-1-1) P (Exit.then K (λ_ _ _=>False)) { tmps:=(ps.zip (encs x)).foldl (λt (p,v)=>t.setIfInBounds p v) a.tmps,defers:=[] } W)(hbody:∀(l:Nat) (pre:List α) (x:α) (W:World),w.heap.size<=W.heap.size->pre++[x] <+: xs->I pre W->body.wpIn (F.inRound l) (n-1-1) P (ownPostD w.heap.size K I Ix (pre++[x]) W) (a₁ x) W)(hdone:∀(D:Nat) (W:World),w.heap.size<=D->I xs W->W.heap[D]? = some (.deferred (some []))->Q .normal { a with defers:={ target := .collected D,args := #[] }::a.defers } W)(hstop:∀(D:Nat) (c:Code) (pre:List α) (W:World),w.heap.size<=D->pre <+: xs->Ix c pre W->W.heap[D]? = some (.deferred (some []))->c.wpIn F n P Q { a with defers:={ target := .collected D,args := #[] }::a.defers } W) :
 (Code.rangeFunc g ps assign body).wpIn F n P Q a w:=by
 refine wpIn_rangeFunc ?_;intro fn hfn;rw[hro];obtain⟨rec,hrec⟩:∃rec:LoopState->Option Code->Loop,rec=λst pe=>{ state:=st,pending:=pe,fn,tmps:=a.tmps,params:=ps,assign,body,defers:=w.heap.size }:=⟨_,rfl⟩
 obtain⟨W1,hW1⟩:∃W1,(w.alloc (.deferred (some []))).alloc (.loop (rec .ready none))=W1:=⟨_,rfl⟩
 have hL1:W1.heap[w.heap.size+1]? = some (.loop (rec .ready none)):=by
  rw[<-hW1];have:=World.alloc_heap_new (w.alloc (.deferred (some []))) (.loop (rec .ready none));rwa[World.size_alloc]at this
 have hK1:W1.heap[w.heap.size]? = some (.deferred (some [])):=by
  rw[<-hW1];exact(Below.heap_alloc _ _ _ (by simp)).trans (World.alloc_heap_new w _)
 have hI1:I [] W1:=by rw[<-hW1];exact hI _ _ _ (hI _ _ _ h0 (OthR.alloc _ _ _ _)) (OthR.alloc _ _ _ _)
 have hb1:Below w.heap.size w W1:=by
  rw[<-hW1];exact((Below.refl _ w).alloc (le_refl _) _).alloc (by simp) _
 have keepO:∀{A B:World} {b:Nat} {o:Obj},A.heap[b]? = some o->w.heap.size<=b->Oth Bs A B->B.heap[b]? = some o:=λh hb ho=>(ho.keep _ (lt_of_some h) (by omega)).trans h;refine⟨w.heap.size+1,[{ target := .collected w.heap.size,args := #[] }],W1,{ target := .fn (.func gf) lb,args := #[.func (.yield (w.heap.size+1)) #[] #[]] },W1,gf,
  #[.func (.yield (w.heap.size+1)) #[] #[]]++lb,W1,?_,?_,?_,?_,λ_=>h1,?_⟩
 . rw[<-hW1,hrec];exact run_enterLoop_outer _ _ _ _ _
 . simp only[resolve,hg]
   simp[go_sem]
 . intro f' hf';simp[Target.leads]at hf';subst hf';exact hFg
 . simp[invoke,go_sem,eg]
 . refine(hseq (w.heap.size+1)
    (λpre W=>I pre W/\W.heap[w.heap.size+1]? = some (.loop (rec .ready none))/\W.heap[w.heap.size]? = some (.deferred (some [])))
    (λpre W=>∃c,Ix c pre W/\W.heap[w.heap.size+1]? = some (.loop (rec .done (some c)))/\W.heap[w.heap.size]? = some (.deferred (some [])))
    W1 hb1
    (λs A B hs ho=>⟨hI s A B hs.1 ho.toR,keepO hs.2.1 (by omega) ho,keepO hs.2.2 (le_refl _) ho⟩)
    (λs A B hs ho=>by
     obtain⟨c,hc,hl,hk⟩:=hs;exact⟨c,hIx c s A B hc ho.toR,keepO hl (by omega) ho,keepO hk (le_refl _) ho⟩)
    ?_ ⟨hI1,hL1,hK1⟩).mono ?_
   . rintro pre x W hlen ⟨hi,hl,hk⟩
     have hlt:w.heap.size+1<W.heap.size:=lt_of_some hl;have hy:=run_yield (P:=P) (args:=encs x) hl (by rw[hrec];exact hps x);rw[hrec]at hy;refine⟨fn,_,assign,body,hy,roundIn_of_wpIn hfn (hassign _ x W _ ⟨_,run_beginRound hl (by rw[hrec]),?_⟩)⟩;have hl2:(W.putObj (w.heap.size+1) (.loop { rec .ready none with state := .busy })).heap[w.heap.size+1]? = some (.loop { rec .ready none with state := .busy }):=World.putObj_heap_same hlt;have hk2:(W.putObj (w.heap.size+1) (.loop { rec .ready none with state := .busy })).heap[w.heap.size]? = some (.deferred (some [])):=(World.putObj_heap_other (by omega)).trans hk;have hw2:∀b,K b->(W.putObj (w.heap.size+1) (.loop { rec .ready none with state := .busy })).heap[b]? = W.heap[b]? := λb hb=>World.putObj_heap_other (by have:=hK b hb;omega);have hsz2:∀(W:World) l o,(W.putObj l o).heap.size=W.heap.size:=λW l o=>by simp[World.putObj]
     refine wpIn_mono (hbody _ pre x _ (by rw[hsz2];omega) hlen (hI _ _ _ hi (OthR.putObj _ (by omega) hl rfl))) ?_;have fin:∀(jump:Option Code) (W3:World),KeepsFrom w.heap.size (W.putObj (w.heap.size+1) (.loop { rec .ready none with state := .busy })) W3 ->
      (Instr.endRound (w.heap.size+1) jump).run P W3 = .ok (.bool jump.isNone) (W3.putObj (w.heap.size+1) (.loop (rec (if jump.isNone then .ready else .done) jump))) /\
      W3.heap[w.heap.size+1]? = some (.loop { rec .ready none with state := .busy }) /\
      (W3.putObj (w.heap.size+1) (.loop (rec (if jump.isNone then .ready else .done) jump))).heap[w.heap.size+1]? = some (.loop (rec (if jump.isNone then .ready else .done) jump)) /\
      (W3.putObj (w.heap.size+1) (.loop (rec (if jump.isNone then .ready else .done) jump))).heap[w.heap.size]? = some (.deferred (some [])):=λjump W3 hk3=>by
      have hl3:=hk3.same _ _ (by omega) hl2 rfl;have:=run_endRound (P:=P) jump hl3;rw[hrec]at this ⊢;exact⟨this,by rw[hrec]at hl3;exact hl3,World.putObj_heap_same (lt_of_some hl3),(World.putObj_heap_other (by omega)).trans (hk3.same _ _ (le_refl _) hk2 rfl)⟩
     rintro e a3 W3 hp;cases e with
     | normal =>
      obtain⟨hk3,hkp3,hi3⟩:=hp;obtain⟨hr,hl3,hl4,hk4⟩:=fin none W3 hk3;have hs3:=hk3.size;exact⟨_,_,hr,.inl ⟨rfl,⟨hI _ _ _ hi3 (OthR.putObj _ (by omega) hl3 rfl),hl4,hk4⟩,by rw[hsz2]at hs3 ⊢;omega,λb hb=>(World.putObj_heap_other (by have:=hK b hb;omega)).trans ((hkp3 b hb).trans (hw2 b hb))⟩⟩
     | ret =>
      obtain⟨hk3,hi3⟩:=hp;obtain⟨hr,hl3,hl4,hk4⟩:=fin (some .ret) W3 hk3;exact⟨_,_,hr,.inr ⟨rfl,.ret,hIx _ _ _ _ hi3 (OthR.putObj _ (by omega) hl3 rfl),hl4,hk4⟩⟩
     | exit id =>
      obtain⟨hk3,hi3⟩:=hp;obtain⟨hr,hl3,hl4,hk4⟩:=fin (some (.exit id)) W3 hk3;exact⟨_,_,hr,.inr ⟨rfl,.exit id,hIx _ _ _ _ hi3 (OthR.putObj _ (by omega) hl3 rfl),hl4,hk4⟩⟩
     | goto t =>
      obtain⟨hk3,hi3⟩:=hp;obtain⟨hr,hl3,hl4,hk4⟩:=fin (some (.goto t)) W3 hk3;exact⟨_,_,hr,.inr ⟨rfl,.goto t,hIx _ _ _ _ hi3 (OthR.putObj _ (by omega) hl3 rfl),hl4,hk4⟩⟩
     | panic ch=>exact hp.elim
     | outgrown=>exact hp.elim
   . rintro e W2 ⟨⟨v,rfl⟩,(⟨hi,hl,hk⟩|⟨pre,hSp,c,hi,hl,hk⟩)⟩
     . exact⟨none,_,by have:=run_endLoop (P:=P) hl (by rw[hrec];simp);rw[hrec]at this;exact this,hdone _ _ (le_refl _) (hI _ _ _ hi (OthR.putObj _ (by omega) hl rfl)) ((World.putObj_heap_other (by omega)).trans hk)⟩
     . exact⟨some c,_,by have:=run_endLoop (P:=P) hl (by rw[hrec];simp);rw[hrec]at this;exact this,hstop _ c pre _ (le_refl _) hSp (hIx _ _ _ _ hi (OthR.putObj _ (by omega) hl rfl)) ((World.putObj_heap_other (by omega)).trans hk)⟩
end Go.Ae
namespace Go.Ae
open Go Go.RowKit
variable {P:Program} {Γ:Tys} {K:Calls'} {a:Act} {w:World} {m:Md} {g:List Value} {ob:Store} {st:St} {L:Nat} {ops:Array Oper}
theorem rows_in{row:String}{args:Array Value}{R:Value->World->Prop}(l n:Nat)(h:Rows P row args w R):RowsIn (Fence.wide.inRound l) n P row args w R :=
 λc cs _=>let ⟨v,w',r,s⟩:=h c cs;⟨v,w',r,stepsIn_wide.2 s⟩
theorem oper_in{l n:Nat}{o:Oper}{N:Act->World->Prop}{Q:Exit->Act->World->Prop}(hnd:∀c,o.op ≠ .defer c)(h:o.wp P a w N Q):o.wpIn (Fence.wide.inRound l) n P a w N Q:=by
 refine⟨λ_ _=>trivial,?_⟩;show o.uponIn _ n P a N Q ((o.semAt (some l) a.eval).run P w);rw[Oper.semAt_some _ _ _ hnd];unfold Oper.wp at h;generalize (execOp a.eval o).run P w=r at h;cases r with
 | ok nx w' =>
  cases nx with
  | value v=>exact h
  | skip=>exact h
  | defer d=>exact h
  | enter f args=>exact⟨by simp[Fence.wide],CallsIn.inRound l (callsIn_wide.2 h)⟩
  | row r args=>exact⟨by simp[Fence.wide],rows_in l _ h⟩
  | _=>exact h.elim
 | halt hh w' =>
  cases hh<;>first|exact h|exact h.elim
theorem any_in{l n:Nat}{Q:Exit->Act->World->Prop}(hnd:∀(i:Nat) o,ops[i]? = some o->∀c,o.op ≠ .defer c)(hQ:¬LetsOut Q) :
 ∀(fuel:Nat) (listed:Array Bool) (a:Act) (w:World),wpAny P .any ops Q fuel listed a w->wpAnyIn (Fence.wide.inRound l) n P .any ops Q fuel listed a w:=by
 intro fuel
 induction fuel with
 | zero=>intro listed a w h;exact h
 | succ fuel ih =>
  intro listed a w h;refine⟨h.1,λi hi => ?_⟩;have h2:=h.2 i hi;unfold wpOp at h2;unfold wpOpIn;split
  . rename_i ho
    simp only[ho]at h2;exact ih _ _ _ h2
  . rename_i o ho
    simp only[ho]at h2;split
    . rename_i hw
      simp only[hw,if_true]at h2;rcases h2 with h2|⟨_,h2⟩
      . exact oper_in (hnd i o ho) (Oper.wp_mono (λa w h=>ih _ a w h) h2)
      . exact(hQ h2).elim
    . rename_i hw
      simp only[hw]at h2;exact⟨λ_ _=>trivial,ih _ _ _ h2⟩
theorem dregion_in(l n0:Nat)(hnd:∀(i:Nat) o,ops[i]? = some o->∀c,o.op ≠ .defer c)(hm:P.follows .mixedOrders=true)(hΓ:GOk P Γ)(hK:KOk P K){R:Type}{κ:St->Option R}{r:R}{id:Nat}(hr:Rep w m g st a)(h:dregion Γ K ops st κ=some r){Q:Act->World->Prop}(hQ:∀st' a' w' m' g',κ st'=some r->Rep w' m' g' st' a'->Stp w m w' m'->(∀(o:Nat) v,g[o]? = some v->g'[o]? = some v)->Q a' w'):(Code.region id ops true).wpIn (Fence.wide.inRound l) n0 P (λe a' w'=>e = .normal/\Q a' w') a w:=by
 unfold dregion at h;generalize hn:slotsAll K ops.toList=n at h;obtain⟨li,s,f,h1,h2,h3⟩:=dops_run ops.toList 0 st.o.length [] _ (λj=>by simp) h;have hl:li.length=ops.size:=by rw[f.len];simp
 obtain⟨hr1,hs1⟩:=rep_drawn hr;have hr2:=rep_ext hr1 n;have hnum:∀(j:Nat) x,li[j]? = some x->x.k=j:=λj x hj=>by have:=f.num j x hj;omega
 refine wpIn_region_any hm (any_in hnd (λ⟨_,_,hq⟩=>by cases hq.1) _ _ _ _ (any_sound (Q:=λe a' w'=>e = .normal/\Q a' w') (L:=st.o.length+n) hΓ hK ops.size li _ _ a _ m _ (by omega) (by simp) (λi hi => ?_) ?_ f.sep (λx hx=>⟨by have:=(f.lo x hx).2;omega,f.back x hx⟩) (λx hx y hy hlt => ?_) (λi o hi ho => ?_) h1 hr2 (by simp) (λx hx q hq => ?_) λa' w' m' g' k1 k2 k3 => ?_))
 . refine⟨λ_ => ?_,λ_=>by simp[hi]⟩
   have hlt:i<li.length:=by omega
   exact⟨li[i],List.getElem_mem hlt,hnum i _ (getElem?_eq_getElem hlt)⟩
 . rw[List.pairwise_iff_getElem]
   intro i j hi hj hij;rw[hnum i _ (getElem?_eq_getElem hi),hnum j _ (getElem?_eq_getElem hj)];exact hij
 . unfold indepAll at h3
   have:=all_eq_true.1 (all_eq_true.1 h3 x (by simpa using hx)) y (by simpa using hy);rw[show Nat.blt x.k y.k=true by simpa using hlt]at this;simpa using this
 . exfalso
   have hlt:=(Array.getElem?_eq_some_iff.1 ho).1;simp[hlt]at hi
 . have hlo:=f.lo x hx
   rw[List.getElem?_append_right (by rw[hr.obj.len];omega),List.getElem?_replicate,if_pos (by rw[hr.obj.len];omega)]
 . refine⟨rfl,hQ s a' w' m' g' h2 k1 (hs1.trans k2) λo v ho => ?_⟩
   have hlt:=(List.getElem?_eq_some_iff.1 ho).1;rw[hr.obj.len]at hlt;exact k3 o v (by rw[List.getElem?_append_left (by rw[hr.obj.len];exact hlt)];exact ho) λx hx=>by have:=(f.lo x hx).1;omega
end Go.Ae
