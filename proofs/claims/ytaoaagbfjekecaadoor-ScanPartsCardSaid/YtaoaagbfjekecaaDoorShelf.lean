/-
  DERIVED: THE SHELF's CONTRACTS AT THIS DUMP, IN PLAIN WORDS (tools/lay-plain.mjs out of 'TrydShelf.lean', which tools/lay-shelf.mjs wrote): THE SAME DECLARATIONS UNDER THE SAME NAMES: 'import', 'namespace', 'open', 'def', 'theorem' AND NOTHING ELSE: no command of the shelf's: FOR A HAND-IN. Each laying: the table of numbers ('.._ren') and one theorem, a field a fact of the dump's own or the kernel's comparison; each contract: ONE APPLICATION.
-/
import Derived.Shelf.Strings.SlTrimAscii
import Derived.Test.YtaoaagbfjekecaaDoorProg
namespace Go.Proofs
open Go.Shelf
def Tryd.lays160_ren : Go.Shelf.Ren := ⟨fun | 160 => 21 | 232 => 31 | 231 => 30 | 227 => 32 | 234 => 34 | 233 => 33 | 236 => 36 | 235 => 35 | 228 => 42 | 271 => 45 | 151 => 44 | 197 => 43 | 120 => 51 | 152 => 50 | 260 => 49 | 137 => 19 | 119 => 55 | 224 => 53 | 225 => 52 | 217 => 26 | 266 => 39 | n => n, fun | 9 => 9 | 4 => 4 | 3 => 3 | 5 => 5 | 117 => 60 | 116 => 59 | 0 => 0 | 124 => 63 | 21 => 21 | 105 => 70 | 46 => 66 | 119 => 77 | 139 => 80 | 138 => 79 | n => n, fun | 3 => 1 | 4 => 2 | n => n⟩
theorem Tryd.lays160 : Go.Proofs.Lays.n160 Tryd.prog Tryd.lays160_ren := {
  mixed := by kernel_rfl
  f119 := Tryd.func55.trans (congrArg some (by kernel_rfl))
  f120 := Tryd.func51.trans (congrArg some (by kernel_rfl))
  f137 := Tryd.func19.trans (congrArg some (by kernel_rfl))
  f151 := Tryd.func44.trans (congrArg some (by kernel_rfl))
  f152 := Tryd.func50.trans (congrArg some (by kernel_rfl))
  f160 := Tryd.func21.trans (congrArg some (by kernel_rfl))
  f197 := Tryd.func43.trans (congrArg some (by kernel_rfl))
  f217 := Tryd.func26.trans (congrArg some (by kernel_rfl))
  f224 := Tryd.func53.trans (congrArg some (by kernel_rfl))
  f225 := Tryd.func52.trans (congrArg some (by kernel_rfl))
  f227 := Tryd.func32.trans (congrArg some (by kernel_rfl))
  f228 := Tryd.func42.trans (congrArg some (by kernel_rfl))
  f231 := Tryd.func30.trans (congrArg some (by kernel_rfl))
  f232 := Tryd.func31.trans (congrArg some (by kernel_rfl))
  f233 := Tryd.func33.trans (congrArg some (by kernel_rfl))
  f234 := Tryd.func34.trans (congrArg some (by kernel_rfl))
  f235 := Tryd.func35.trans (congrArg some (by kernel_rfl))
  f236 := Tryd.func36.trans (congrArg some (by kernel_rfl))
  f260 := Tryd.func49.trans (congrArg some (by kernel_rfl))
  f266 := Tryd.func39.trans (congrArg some (by kernel_rfl))
  f271 := Tryd.func45.trans (congrArg some (by kernel_rfl))
  t0 := Tryd.underlying0
  a0 := Tryd.isAgg0
  z0 := Tryd.sizeOf0
  v0 := Tryd.zeroValue0
  t3 := Tryd.underlying3
  a3 := Tryd.isAgg3
  z3 := Tryd.sizeOf3
  v3 := Tryd.zeroValue3
  t4 := Tryd.underlying4
  a4 := Tryd.isAgg4
  z4 := Tryd.sizeOf4
  v4 := Tryd.zeroValue4
  t5 := Tryd.underlying5
  a5 := Tryd.isAgg5
  z5 := Tryd.sizeOf5
  v5 := Tryd.zeroValue5
  t9 := Tryd.underlying9
  a9 := Tryd.isAgg9
  z9 := Tryd.sizeOf9
  v9 := Tryd.zeroValue9
  t21 := Tryd.underlying21
  a21 := Tryd.isAgg21
  z21 := Tryd.sizeOf21
  v21 := Tryd.zeroValue21
  t46 := Tryd.underlying66
  a46 := Tryd.isAgg66
  z46 := Tryd.sizeOf66
  v46 := Tryd.zeroValue66
  t105 := Tryd.underlying70
  a105 := Tryd.isAgg70
  z105 := Tryd.sizeOf70
  v105 := Tryd.zeroValue70
  t116 := Tryd.underlying59
  a116 := Tryd.isAgg59
  z116 := Tryd.sizeOf59
  t117 := Tryd.underlying60
  a117 := Tryd.isAgg60
  z117 := Tryd.sizeOf60
  v117 := Tryd.zeroValue60
  t119 := Tryd.underlying77
  a119 := Tryd.isAgg77
  z119 := Tryd.sizeOf77
  t124 := Tryd.underlying63
  a124 := Tryd.isAgg63
  z124 := Tryd.sizeOf63
  v124 := Tryd.zeroValue63
  t138 := Tryd.underlying79
  a138 := Tryd.isAgg79
  z138 := Tryd.sizeOf79
  v138 := Tryd.zeroValue79
  t139 := Tryd.underlying80
  a139 := Tryd.isAgg80
  z139 := Tryd.sizeOf80
  v139 := Tryd.zeroValue80
  g3 := by kernel_rfl
  g4 := by kernel_rfl }
end Go.Proofs
