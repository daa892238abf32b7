/- The texts of the proof, one behind the other: W11, W12, W13, PB, PL1, PL2, PL3, PL4, PL5, PL6, PL7, PQ, PL8, PL9, PM1, PM2, W14, PD0, PD1, PD2, PD3, PD4, PD5. -/
import Derived.Test.YtiacnhhmkdkpmaaGreatDoorAMp4
import Derived.Test.YtiacnhhmkdkpmaaGreatDoorAMp2
set_option maxRecDepth 100000
set_option linter.unusedVariables false
namespace Go.Proofs.YtiacnhhmkdkpmaaGreatDoorA.W
open Go Go.Ae
abbrev T85 := Int × Unit → Option (Bool × Unit)
def E85 (f : T85) : FEnt := ⟨Li28, Lo29, f⟩
def F85 : T85 := fun (x0, _) =>
 bif x0 != 9 then bif decide (x0 < 32) then some (true, ()) else some (x0 == 127, ())
 else some (false, ())
def C85 : T85 := F85
theorem ok85 : FO 85 (E85 C85) := zq0 Li28 Lo29 KqZ F85 kn Tryz.func85
abbrev T156v1_l0 := Bool × (LqS × Int) × Unit → Option ((Int × Unit) ⊕ Unit)
def E156v1_l0 (f : T156v1_l0) : LEnt := ⟨Li263, Lo189, f⟩
abbrev T156v1 := LqS × Bool × Unit → Option (Int × Unit)
def E156v1 (f : T156v1) : FEnt := ⟨Li262, Lo10, f⟩
def K156v1 (f85 : T85) := lk [(85, E85 f85)]
theorem kok156v1 : KOk Tryz.prog (K156v1 C85) := (kc ok85 kn)
def F156v1_l0 (f85 : T85) : LpF (Bool × (LqS × Int) × Unit) ((Int × Unit) ⊕ Unit) := fun (x0, x1, _) =>
 bif decide (Int.toNat x1.2 < List.length x1.1) then
 (f85 ((↑(decR x1.1 (Int.toNat x1.2)).1 : Int), ())).bind fun v =>
 bif v.1 == x0 then some (Sum.inr (Sum.inl ((↑(Int.toNat x1.2) : Int), ())))
 else some (Sum.inl (x0, (x1.1, (↑(Int.toNat x1.2 + (decR x1.1 (Int.toNat x1.2)).2) : Int)), ()))
 else some (Sum.inr (Sum.inr ()))
def C156v1_l0 : T156v1_l0 := loopN (F156v1_l0 C85) big
theorem k156v1_l0 : LpOk 0 (subc (code Tryz.f156) [1, 0, 1, 0, 0]) (E156v1_l0 C156v1_l0) := zl1 Li263 Lo189 K156v1 F156v1_l0 C85 kok156v1
def N156v1 (f156v1_l0 : T156v1_l0) : Ann := (.seq .nil (.seq (.seq .nil (.blk (.loop (E156v1_l0 f156v1_l0)))) .nil))
def F156v1 (f85 : T85) (f156v1_l0 : T156v1_l0) : T156v1 := fun (x0, x1, _) =>
 (f156v1_l0 (x1, (x0, (↑0 : Int)), ())).bind fun v =>
 Sum.elim (fun v => some (v.1, ())) (fun v => some (-1, ())) v
def C156v1 : T156v1 := F156v1 C85 C156v1_l0
theorem ok156v1 : FO 156 (E156v1 C156v1) := zq1_1 Li262 Lo10 K156v1 N156v1 F156v1 C85 C156v1_l0 kok156v1 Tryz.func156 (And.intro k156v1_l0 trivial)
abbrev T123v1 := LqS × Unit → Option (Int × Unit)
def E123v1 (f : T123v1) : FEnt := ⟨Li264, Lo10, f⟩
def K123v1 (f156v1 : T156v1) := lk [(156, E156v1 f156v1)]
def F123v1 (f156v1 : T156v1) : T123v1 := fun (x0, _) =>
 (f156v1 (x0, true, ())).bind fun v => some (v.1, ())
def C123v1 : T123v1 := F123v1 C156v1
theorem ok123v1 : FO 123 (E123v1 C123v1) := zq1 Li264 Lo10 K123v1 F123v1 C156v1 (kc ok156v1 kn) Tryz.func123
abbrev T84v1 := LqS × Unit → Option (Bool × Unit)
def E84v1 (f : T84v1) : FEnt := ⟨Li264, Lo29, f⟩
def K84v1 (f123v1 : T123v1) := lk [(123, E123v1 f123v1)]
def F84v1 (f123v1 : T123v1) : T84v1 := fun (x0, _) =>
 (f123v1 (x0, ())).bind fun v => some (decide (v.1 ≥ 0), ())
def C84v1 : T84v1 := F84v1 C123v1
theorem ok84v1 : FO 84 (E84v1 C84v1) := zq1 Li264 Lo29 K84v1 F84v1 C123v1 (kc ok123v1 kn) Tryz.func84
abbrev T86 := LqS × Unit → Option (Bool × Unit)
def E86 (f : T86) : FEnt := ⟨Li30, Lo29, f⟩
def K86 (f96 : T96) := lk [(96, E96 f96)]
def F86 (f96 : T96) : T86 := fun (x0, _) =>
 (f96 (x0, [91], ())).bind fun v => some (v.1, ())
def C86 : T86 := F86 C96
theorem ok86 : FO 86 (E86 C86) := zq1 Li30 Lo29 K86 F86 C96 (kc ok96 kn) Tryz.func86
abbrev T87 := LqA × LqB × LqC × LqS × Unit → Option (LqS × Int × Unit)
def E87 (f : T87) : FEnt := ⟨Li17, Lo208, f⟩
def K87 (f124 : T124) := lk [(124, E124 f124)]
def F87 (f124 : T124) : T87 := fun (x0, x1, x2, x3, _) =>
 (f124 (x0, x1, x2, x3, ())).bind fun v => some (v.1, v.2.2.1, ())
def C87 : T87 := F87 C124
theorem ok87 : FO 87 (E87 C87) := zq1 Li17 Lo208 K87 F87 C124 (kc ok124 kn) Tryz.func87
abbrev T44 := LqA × LqB × LqC × LqS × LqS × Unit → Option (Int × Unit)
def E44 (f : T44) : FEnt := ⟨Li265, Lo10, f⟩
def K44 (f67 : T67) (f83 : T83) (f84v1 : T84v1) (f86 : T86) (f87 : T87) := lk [(67, E67 f67), (83, E83 f83), (84, E84v1 f84v1), (86, E86 f86), (87, E87 f87)]
def F44 (f67 : T67) (f83 : T83) (f84v1 : T84v1) (f86 : T86) (f87 : T87) : T44 := fun (x0, x1, x2, x3, x4, _) =>
 (f83 (x3, ())).bind fun v =>
 bif x3 == [] then some (13, ())
 else
 bif decide ((↑x3.length : Int) > 64) then some (5, ())
 else
 bif decide (v.2.1 ≥ 0) then some (7, ())
 else
 (f84v1 (x3, ())).bind fun v =>
 bif v.1 then some (8, ())
 else
 (f86 (x4, ())).bind fun v =>
 bif v.1 then
 (f67 (x4, ())).bind fun v =>
 bif v.2.2.1 != 0 then some (4, ())
 else
 bif (↑(List.length v.1) : Int) != 1 then some (4, ())
 else
 bif decide (0 < (↑(List.length v.1) : Int)) then
 bif
 (List.getD v.1 0
 (0, ([], 0))).1 !=
 5 then
 some (4, ())
 else some (0, ())
 else none
 else (f87 (x0, x1, x2, x4, ())).bind fun v => some (v.2.1, ())
theorem h44 (f67 : T67) (f83 : T83) (f84v1 : T84v1) (f86 : T86) (f87 : T87) : AqF (K44 f67 f83 f84v1 f86 f87) 0 Tryz.f44 .nil Li265 Lo10 (F44 f67 f83 f84v1 f86 f87) := fun v => by kernel_rfl
def C44 : T44 := F44 C67 C83 C84v1 C86 C87
theorem ok44 : FO 44 (E44 C44) :=
 q0 (kc ok67 (kc ok83 (kc ok84v1 (kc ok86 (kc ok87 kn))))) Tryz.func44 (h44 C67 C83 C84v1 C86 C87)
abbrev T227_l0 := Int × (LqS × Int) × Unit → Option (Int × Unit)
def E227_l0 (f : T227_l0) : LEnt := ⟨Li266, Lo267, f⟩
abbrev T227 := LqS × Unit → Option (Int × Unit)
def E227 (f : T227) : FEnt := ⟨Li30, Lo10, f⟩
def F227_l0 : LpF (Int × (LqS × Int) × Unit) (Int × Unit) := fun (x0, x1, _) =>
 bif decide (Int.toNat x1.2 < List.length x1.1) then
 some
 (Sum.inl
 (IntKind.i64.wrap (x0 + 1), (x1.1, (↑(Int.toNat x1.2 + (decR x1.1 (Int.toNat x1.2)).2) : Int)),
 ()))
 else some (Sum.inr (x0, ()))
def C227_l0 : T227_l0 := loopN (F227_l0) big
theorem k227_l0 : LpOk 0 (subc (code Tryz.f227) [1, 0, 1, 0, 0]) (E227_l0 C227_l0) := zl0 Li266 Lo267 KqZ F227_l0 kn
def N227 (f227_l0 : T227_l0) : Ann := (.seq .nil (.seq (.seq .nil (.blk (.loop (E227_l0 f227_l0)))) .nil))
def F227 (f227_l0 : T227_l0) : T227 := fun (x0, _) =>
 (f227_l0 (0, (x0, (↑0 : Int)), ())).bind fun v => some (v.1, ())
def C227 : T227 := F227 C227_l0
theorem ok227 : FO 227 (E227 C227) := zq0_1 Li30 Lo10 KqZ N227 F227 C227_l0 kn Tryz.func227 (And.intro k227_l0 trivial)
abbrev T273 := LqS × Unit → Option (Int × Int × Unit)
def E273 (f : T273) : FEnt := ⟨Li30, Lo268, f⟩
def F273 : T273 := fun (x0, _) =>
 bif decide ((↑x0.length : Int) < 1) then some (65533, 0, ())
 else bif decide (0 < (↑x0.length : Int)) then none else none
def C273 : T273 := F273
theorem ok273 : FO 273 (E273 C273) := zq0 Li30 Lo268 KqZ F273 kn Tryz.func273
abbrev T228_c0 := LqS × Bool × Unit → Option ((Int × Int × Unit) ⊕ (Int × Int × Unit))
def E228_c0 (f : T228_c0) : LEnt := ⟨Li269, Lo270, f⟩
abbrev T228 := LqS × Unit → Option (Int × Int × Unit)
def E228 (f : T228) : FEnt := ⟨Li30, Lo268, f⟩
def K228 (f273 : T273) := lk [(273, E273 f273)]
theorem kok228 : KOk Tryz.prog (K228 C273) := (kc ok273 kn)
def F228_c0 (f273 : T273) : T228_c0 := fun (x0, x1, _) =>
 bif x1 then
 bif decide (0 < (↑x0.length : Int)) then
 some (Sum.inl (IntKind.i32.wrap (↑(x0.getD 0 0).toNat : Int), 1, ()))
 else none
 else (f273 (x0, ())).bind fun v => some (Sum.inr (v.1, v.2.1, ()))
def C228_c0 : T228_c0 := F228_c0 C273
theorem k228_c0 : CdOk 0 (subc (code Tryz.f228) [1, 0, 1]) (E228_c0 C228_c0) := zc1 Li269 Lo270 K228 F228_c0 C273 kok228
def N228 (f228_c0 : T228_c0) : Ann := (.seq .nil (.seq (.cut .nil (E228_c0 f228_c0)) .nil))
def F228 (f273 : T273) (f228_c0 : T228_c0) : T228 := fun (x0, _) =>
 bif !x0 == [] then
 bif decide (0 < (↑x0.length : Int)) then
 (f228_c0 (x0, decide ((↑(x0.getD 0 0).toNat : Int) < 128), ())).bind fun v =>
 Sum.elim (fun v => some (v.1, v.2.1, ())) (fun v => some (v.1, v.2.1, ()))
 v
 else none
 else
 (f228_c0 (x0, false, ())).bind fun v =>
 Sum.elim (fun v => some (v.1, v.2.1, ())) (fun v => some (v.1, v.2.1, ()))
 v
def C228 : T228 := F228 C273 C228_c0
theorem ok228 : FO 228 (E228 C228) := zq1_1 Li30 Lo268 K228 N228 F228 C273 C228_c0 kok228 Tryz.func228 (And.intro k228_c0 trivial)
abbrev T193_l0 := LqS × Int × Int × List (LqS) × Unit → Option (LqS × Int × List (LqS) × Unit)
def E193_l0 (f : T193_l0) : LEnt := ⟨Li272, Lo273, f⟩
abbrev T193_c0 := LqS × Int × Unit → Option (List (LqS) × Unit)
def E193_c0 (f : T193_c0) : LEnt := ⟨Li274, Lo275, f⟩
abbrev T193 := LqS × Int × Unit → Option (List (LqS) × Unit)
def E193 (f : T193) : FEnt := ⟨Li197, Lo271, f⟩
def K193 (f227 : T227) (f228 : T228) := lk [(227, E227 f227), (228, E228 f228)]
theorem kok193 : KOk Tryz.prog (K193 C227 C228) := (kc ok227 (kc ok228 kn))
def F193_l0 (f227 : T227) (f228 : T228) : LpF (LqS × Int × Int × List (LqS) × Unit) (LqS × Int × List (LqS) × Unit) := fun (x0, x1, x2, x3, _) =>
 bif decide (x2 < IntKind.i64.wrap (x1 - 1)) then
 (f228 (x0, ())).bind fun v =>
 bif decide (0 ≤ v.2.1) && decide (v.2.1 ≤ (↑x0.length : Int)) then
 bif decide (0 ≤ x2) && decide (x2 < (↑x3.length : Int)) then
 bif decide (0 ≤ v.2.1) && decide (v.2.1 ≤ (↑x0.length : Int)) then
 some
 (Sum.inl
 (List.drop (Int.toNat v.2.1) x0, x1, IntKind.i64.wrap (x2 + 1),
 x3.set x2.toNat (List.take (Int.toNat v.2.1) x0), ()))
 else none
 else none
 else none
 else some (Sum.inr (x0, x1, x3, ()))
def C193_l0 : T193_l0 := loopN (F193_l0 C227 C228) big
theorem k193_l0 : LpOk 0 (subc (code Tryz.f193) [1, 1, 1, 1, 0, 1, 0, 0]) (E193_l0 C193_l0) := zl2 Li272 Lo273 K193 F193_l0 C227 C228 kok193
def N193_c0 (f193_l0 : T193_l0) : Ann := (.seq .nil (.seq (.seq .nil (.blk (.loop (E193_l0 f193_l0)))) .nil))
def F193_c0 (f227 : T227) (f228 : T228) (f193_l0 : T193_l0) : T193_c0 := fun (x0, x1, _) =>
 bif
 decide (0 ≤ x1) &&
 (decide (x1 = x1) && (decide ((↑16 : Int) * x1 ≤ 281474976710656) && decide (x1 ≤ 140737488355328))) then
 (f193_l0 (x0, x1, 0, List.replicate x1.toNat [], ())).bind fun v =>
 bif decide (v.2.1 > 0) then
 bif
 decide (0 ≤ IntKind.i64.wrap (v.2.1 - 1)) &&
 decide (IntKind.i64.wrap (v.2.1 - 1) < (↑(List.length v.2.2.1) : Int)) then
 some (List.set v.2.2.1 (IntKind.i64.wrap (v.2.1 - 1)).toNat v.1, ())
 else none
 else some (v.2.2.1, ())
 else none
theorem h193_c0 (f227 : T227) (f228 : T228) (f193_l0 : T193_l0) : AqC (K193 f227 f228) 0 (subc (code Tryz.f193) [1, 1, 1]) (N193_c0 f193_l0) Li274 Lo275 (F193_c0 f227 f228 f193_l0) := fun v => by kernel_rfl
def C193_c0 : T193_c0 := F193_c0 C227 C228 C193_l0
theorem k193_c0 : CdOk 0 (subc (code Tryz.f193) [1, 1, 1]) (E193_c0 C193_c0) :=
 frd kok193 (And.intro k193_l0 trivial) (h193_c0 C227 C228 C193_l0)
def N193 (f193_c0 : T193_c0) : Ann := (.seq .nil (.seq .nil (.cut .nil (E193_c0 f193_c0))))
def F193 (f227 : T227) (f228 : T228) (f193_c0 : T193_c0) : T193 := fun (x0, x1, _) =>
 (f227 (x0, ())).bind fun v =>
 bif decide (x1 < 0) then (f193_c0 (x0, v.1, ())).bind fun v => some (v.1, ())
 else
 bif decide (x1 > v.1) then (f193_c0 (x0, v.1, ())).bind fun v => some (v.1, ())
 else (f193_c0 (x0, x1, ())).bind fun v => some (v.1, ())
def C193 : T193 := F193 C227 C228 C193_c0
theorem ok193 : FO 193 (E193 C193) := zq2_1 Li197 Lo271 K193 N193 F193 C227 C228 C193_c0 kok193 Tryz.func193 (And.intro k193_c0 trivial)
abbrev T195 := LqS × LqS × Unit → Option (Int × Unit)
def E195 (f : T195) : FEnt := ⟨Li114, Lo10, f⟩
def K195 (f197 : T197) := lk [(197, E197 f197)]
def F195 (f197 : T197) : T195 := fun (x0, x1, _) =>
 (f197 (x0, x1, ())).bind fun v => some (v.1, ())
def C195 : T195 := F195 C197
theorem ok195 : FO 195 (E195 C195) := zq1 Li114 Lo10 K195 F195 C197 (kc ok197 kn) Tryz.func195
abbrev T194_l0 := LqS × LqS × Int × Unit → Option (Int × Unit)
def E194_l0 (f : T194_l0) : LEnt := ⟨Li276, Lo277, f⟩
abbrev T194 := LqS × LqS × Unit → Option (Int × Unit)
def E194 (f : T194) : FEnt := ⟨Li114, Lo10, f⟩
def K194 (f195 : T195) (f227 : T227) (f229 : T229) := lk [(195, E195 f195), (227, E227 f227), (229, E229 f229)]
theorem kok194 : KOk Tryz.prog (K194 C195 C227 C229) := (kc ok195 (kc ok227 (kc ok229 kn)))
def F194_l0 (f195 : T195) (f227 : T227) (f229 : T229) : LpF (LqS × LqS × Int × Unit) (Int × Unit) := fun (x0, x1, x2, _) =>
 (f195 (x0, x1, ())).bind fun v =>
 bif v.1 == -1 then some (Sum.inr (x2, ()))
 else
 bif
 decide (0 ≤ IntKind.i64.wrap (v.1 + (↑x1.length : Int))) &&
 decide (IntKind.i64.wrap (v.1 + (↑x1.length : Int)) ≤ (↑x0.length : Int)) then
 some
 (Sum.inl
 (List.drop (IntKind.i64.wrap (v.1 + (↑x1.length : Int))).toNat x0, x1, IntKind.i64.wrap (x2 + 1),
 ()))
 else none
theorem h194_l0 (f195 : T195) (f227 : T227) (f229 : T229) : AqL (K194 f195 f227 f229) 0 (subc (code Tryz.f194) [1, 1, 1, 1, 0, 0]) .nil Li276 Lo277 (F194_l0 f195 f227 f229) := fun v => by kernel_rfl
def C194_l0 : T194_l0 := loopN (F194_l0 C195 C227 C229) big
theorem k194_l0 : LpOk 0 (subc (code Tryz.f194) [1, 1, 1, 1, 0, 0]) (E194_l0 C194_l0) :=
 frl kok194 (h194_l0 C195 C227 C229)
def N194 (f194_l0 : T194_l0) : Ann := (.seq .nil (.seq .nil (.seq .nil (.seq .nil (.blk (.loop (E194_l0 f194_l0)))))))
def F194 (f195 : T195) (f227 : T227) (f229 : T229) (f194_l0 : T194_l0) : T194 := fun (x0, x1, _) =>
 bif (↑x1.length : Int) == 0 then (f227 (x0, ())).bind fun v => some (IntKind.i64.wrap (v.1 + 1), ())
 else
 bif (↑x1.length : Int) == 1 then
 bif decide (0 < (↑x1.length : Int)) then
 (f229 (x0, (↑(x1.getD 0 0).toNat : Int), ())).bind fun v => some (v.1, ())
 else none
 else (f194_l0 (x0, x1, 0, ())).bind fun v => some (v.1, ())
def C194 : T194 := F194 C195 C227 C229 C194_l0
theorem ok194 : FO 194 (E194 C194) := zq3_1 Li114 Lo10 K194 N194 F194 C195 C227 C229 C194_l0 kok194 Tryz.func194 (And.intro k194_l0 trivial)
abbrev T161_l0 := LqS × LqS × Int × Int × Int × List (LqS) × Unit → Option (LqS × Int × List (LqS) × Unit)
def E161_l0 (f : T161_l0) : LEnt := ⟨Li279, Lo280, f⟩
abbrev T161_c0 := LqS × LqS × Int × Int × Unit → Option (List (LqS) × Unit)
def E161_c0 (f : T161_c0) : LEnt := ⟨Li281, Lo282, f⟩
abbrev T161 := LqS × LqS × Int × Int × Unit → Option (List (LqS) × Unit)
def E161 (f : T161) : FEnt := ⟨Li278, Lo271, f⟩
def K161 (f193 : T193) (f194 : T194) (f195 : T195) := lk [(193, E193 f193), (194, E194 f194), (195, E195 f195)]
theorem kok161 : KOk Tryz.prog (K161 C193 C194 C195) := (kc ok193 (kc ok194 (kc ok195 kn)))
def F161_l0 (f193 : T193) (f194 : T194) (f195 : T195) : LpF (LqS × LqS × Int × Int × Int × List (LqS) × Unit) (LqS × Int × List (LqS) × Unit) := fun (x0, x1, x2, x3, x4, x5, _) =>
 bif decide (x4 < x3) then
 (f195 (x0, x1, ())).bind fun v =>
 bif decide (v.1 < 0) then some (Sum.inr (x0, x4, x5, ()))
 else
 bif
 decide (0 ≤ IntKind.i64.wrap (v.1 + x2)) &&
 decide (IntKind.i64.wrap (v.1 + x2) ≤ (↑x0.length : Int)) then
 bif decide (0 ≤ x4) && decide (x4 < (↑x5.length : Int)) then
 bif
 decide (0 ≤ IntKind.i64.wrap (v.1 + (↑x1.length : Int))) &&
 decide (IntKind.i64.wrap (v.1 + (↑x1.length : Int)) ≤ (↑x0.length : Int)) then
 some
 (Sum.inl
 (List.drop (IntKind.i64.wrap (v.1 + (↑x1.length : Int))).toNat x0, x1, x2, x3,
 IntKind.i64.wrap (x4 + 1), x5.set x4.toNat (List.take (IntKind.i64.wrap (v.1 + x2)).toNat x0),
 ()))
 else none
 else none
 else none
 else some (Sum.inr (x0, x4, x5, ()))
theorem h161_l0 (f193 : T193) (f194 : T194) (f195 : T195) : AqL (K161 f193 f194 f195) 0 (subc (code Tryz.f161) [1, 1, 1, 1, 1, 1, 1, 1, 0, 0, 0]) .nil Li279 Lo280 (F161_l0 f193 f194 f195) := fun v => by kernel_rfl
def C161_l0 : T161_l0 := loopN (F161_l0 C193 C194 C195) big
theorem k161_l0 : LpOk 0 (subc (code Tryz.f161) [1, 1, 1, 1, 1, 1, 1, 1, 0, 0, 0]) (E161_l0 C161_l0) :=
 frl kok161 (h161_l0 C193 C194 C195)
def N161_c0 (f161_l0 : T161_l0) : Ann := (.seq .nil (.seq .nil (.seq .nil (.seq .nil (.seq (.blk (.loop (E161_l0 f161_l0))) .nil)))))
def F161_c0 (f193 : T193) (f194 : T194) (f195 : T195) (f161_l0 : T161_l0) : T161_c0 := fun (x0, x1, x2, x3, _) =>
 bif
 decide
 (0 ≤
 if IntKind.i64.wrap ((↑x0.length : Int) + 1) < x3 then IntKind.i64.wrap ((↑x0.length : Int) + 1) else x3) &&
 (decide
 ((if IntKind.i64.wrap ((↑x0.length : Int) + 1) < x3 then IntKind.i64.wrap ((↑x0.length : Int) + 1) else x3) =
 if IntKind.i64.wrap ((↑x0.length : Int) + 1) < x3 then IntKind.i64.wrap ((↑x0.length : Int) + 1) else x3) &&
 (decide
 (((↑16 : Int) *
 if IntKind.i64.wrap ((↑x0.length : Int) + 1) < x3 then IntKind.i64.wrap ((↑x0.length : Int) + 1)
 else x3) ≤
 281474976710656) &&
 decide
 ((if IntKind.i64.wrap ((↑x0.length : Int) + 1) < x3 then IntKind.i64.wrap ((↑x0.length : Int) + 1)
 else x3) ≤
 140737488355328))) then
 (f161_l0
 (x0, x1, x2,
 IntKind.i64.wrap
 ((if IntKind.i64.wrap ((↑x0.length : Int) + 1) < x3 then IntKind.i64.wrap ((↑x0.length : Int) + 1)
 else x3) -
 1),
 0,
 List.replicate
 (if IntKind.i64.wrap ((↑x0.length : Int) + 1) < x3 then IntKind.i64.wrap ((↑x0.length : Int) + 1)
 else x3).toNat
 [],
 ())).bind
 fun v =>
 bif decide (0 ≤ v.2.1) && decide (v.2.1 < (↑(List.length v.2.2.1) : Int)) then
 bif
 decide (0 ≤ IntKind.i64.wrap (v.2.1 + 1)) &&
 decide
 (IntKind.i64.wrap (v.2.1 + 1) ≤
 (↑(List.set v.2.2.1 (Int.toNat v.2.1) v.1).length : Int)) then
 some
 (List.take (IntKind.i64.wrap (v.2.1 + 1)).toNat
 (List.set v.2.2.1 (Int.toNat v.2.1) v.1),
 ())
 else none
 else none
 else none
theorem h161_c0 (f193 : T193) (f194 : T194) (f195 : T195) (f161_l0 : T161_l0) : AqC (K161 f193 f194 f195) 0 (subc (code Tryz.f161) [1, 1, 1, 1]) (N161_c0 f161_l0) Li281 Lo282 (F161_c0 f193 f194 f195 f161_l0) := fun v => by kernel_rfl
def C161_c0 : T161_c0 := F161_c0 C193 C194 C195 C161_l0
theorem k161_c0 : CdOk 0 (subc (code Tryz.f161) [1, 1, 1, 1]) (E161_c0 C161_c0) :=
 frd kok161 (And.intro k161_l0 trivial) (h161_c0 C193 C194 C195 C161_l0)
def N161 (f161_c0 : T161_c0) : Ann := (.seq .nil (.seq .nil (.seq .nil (.cut .nil (E161_c0 f161_c0)))))
def F161 (f193 : T193) (f194 : T194) (f195 : T195) (f161_c0 : T161_c0) : T161 := fun (x0, x1, x2, x3, _) =>
 bif x3 == 0 then some ([], ())
 else
 bif x1 == [] then (f193 (x0, x3, ())).bind fun v => some (v.1, ())
 else
 bif decide (x3 < 0) then
 (f194 (x0, x1, ())).bind fun v =>
 (f161_c0 (x0, x1, x2, IntKind.i64.wrap (v.1 + 1), ())).bind fun v => some (v.1, ())
 else (f161_c0 (x0, x1, x2, x3, ())).bind fun v => some (v.1, ())
def C161 : T161 := F161 C193 C194 C195 C161_c0
theorem ok161 : FO 161 (E161 C161) := zq3_1 Li278 Lo271 K161 N161 F161 C193 C194 C195 C161_c0 kok161 Tryz.func161 (And.intro k161_c0 trivial)
abbrev T125 := LqS × LqS × Unit → Option (List (LqS) × Unit)
def E125 (f : T125) : FEnt := ⟨Li114, Lo271, f⟩
def K125 (f161 : T161) := lk [(161, E161 f161)]
def F125 (f161 : T161) : T125 := fun (x0, x1, _) =>
 (f161 (x0, x1, 0, -1, ())).bind fun v => some (v.1, ())
def C125 : T125 := F125 C161
theorem ok125 : FO 125 (E125 C125) := zq1 Li114 Lo271 K125 F125 C161 (kc ok161 kn) Tryz.func125
abbrev T47_l0 := LqS × Int × Int × Unit → Option ((LqS × Unit) ⊕ (Bool × Unit))
def E47_l0 (f : T47_l0) : LEnt := ⟨Li283, Lo284, f⟩
abbrev T47 := LqS × Unit → Option (Bool × Unit)
def E47 (f : T47) : FEnt := ⟨Li30, Lo29, f⟩
def K47 (f90 : T90) := lk [(90, E90 f90)]
theorem kok47 : KOk Tryz.prog (K47 C90) := (kc ok90 kn)
def F47_l0 (f90 : T90) : LpF (LqS × Int × Int × Unit) ((LqS × Unit) ⊕ (Bool × Unit)) := fun (x0, x1, x2, _) =>
 bif decide (x2 < x1) then
 bif decide (0 ≤ x2) && decide (x2 < (↑x0.length : Int)) then
 (f90 ((↑(x0.getD x2.toNat 0).toNat : Int), ())).bind fun v =>
 bif !v.1 then some (Sum.inr (Sum.inr (false, ())))
 else some (Sum.inl (x0, x1, IntKind.i64.wrap (x2 + 1), ()))
 else none
 else some (Sum.inr (Sum.inl (x0, ())))
def C47_l0 : T47_l0 := loopN (F47_l0 C90) big
theorem k47_l0 : LpOk 0 (subc (code Tryz.f47) [1, 0, 1, 0, 0]) (E47_l0 C47_l0) := zl1 Li283 Lo284 K47 F47_l0 C90 kok47
def N47 (f47_l0 : T47_l0) : Ann := (.seq .nil (.seq (.seq .nil (.blk (.loop (E47_l0 f47_l0)))) .nil))
def F47 (f90 : T90) (f47_l0 : T47_l0) : T47 := fun (x0, _) =>
 (f47_l0 (x0, (↑x0.length : Int), 0, ())).bind fun v =>
 Sum.elim (fun v => some (bif v.1 == [] then false else true, ()))
 (fun v => some (v.1, ())) v
def C47 : T47 := F47 C90 C47_l0
theorem ok47 : FO 47 (E47 C47) := zq1_1 Li30 Lo29 K47 N47 F47 C90 C47_l0 kok47 Tryz.func47 (And.intro k47_l0 trivial)
abbrev T88_l0 := List (LqS) × Int × Int × Unit → Option (Unit ⊕ (Bool × Unit))
def E88_l0 (f : T88_l0) : LEnt := ⟨Li285, Lo286, f⟩
abbrev T88 := LqS × Unit → Option (Bool × Unit)
def E88 (f : T88) : FEnt := ⟨Li30, Lo29, f⟩
def K88 (f125 : T125) (f47 : T47) := lk [(125, E125 f125), (47, E47 f47)]
theorem kok88 : KOk Tryz.prog (K88 C125 C47) := (kc ok125 (kc ok47 kn))
def F88_l0 (f125 : T125) (f47 : T47) : LpF (List (LqS) × Int × Int × Unit) (Unit ⊕ (Bool × Unit)) := fun (x0, x1, x2, _) =>
 bif decide (x2 < x1) then
 bif decide (0 ≤ x2) && decide (x2 < (↑x0.length : Int)) then
 (f47 (x0.getD x2.toNat [], ())).bind fun v =>
 bif !v.1 then some (Sum.inr (Sum.inr (false, ())))
 else some (Sum.inl (x0, x1, IntKind.i64.wrap (x2 + 1), ()))
 else none
 else some (Sum.inr (Sum.inl ()))
def C88_l0 : T88_l0 := loopN (F88_l0 C125 C47) big
theorem k88_l0 : LpOk 0 (subc (code Tryz.f88) [1, 0, 1, 0, 0]) (E88_l0 C88_l0) := zl2 Li285 Lo286 K88 F88_l0 C125 C47 kok88
def N88 (f88_l0 : T88_l0) : Ann := (.seq .nil (.seq (.seq .nil (.blk (.loop (E88_l0 f88_l0)))) .nil))
def F88 (f125 : T125) (f47 : T47) (f88_l0 : T88_l0) : T88 := fun (x0, _) =>
 (f125 (x0, [46], ())).bind fun v =>
 (f88_l0 (v.1, (↑(List.length v.1) : Int), 0, ())).bind fun v =>
 Sum.elim (fun v => some (true, ())) (fun v => some (v.1, ())) v
def C88 : T88 := F88 C125 C47 C88_l0
theorem ok88 : FO 88 (E88 C88) := zq2_1 Li30 Lo29 K88 N88 F88 C125 C47 C88_l0 kok88 Tryz.func88 (And.intro k88_l0 trivial)
abbrev T45 := LqS × LqS × Unit → Option (LqS × Unit)
def E45 (f : T45) : FEnt := ⟨Li287, Lo16, f⟩
def K45 (f88 : T88) (f89 : T89) := lk [(88, E88 f88), (89, E89 f89)]
def F45 (f88 : T88) (f89 : T89) : T45 := fun (x0, x1, _) =>
 (f88 (x0, ())).bind fun v =>
 bif !v.1 then
 (f89 (1, x0, 0, ())).bind fun v =>
 bif decide (List.length v.1 + [64].length ≤ 9223372036854775807) then
 bif decide ((v.1 ++ [64]).length + x1.length ≤ 9223372036854775807) then
 some (v.1 ++ [64] ++ x1, ())
 else none
 else none
 else
 bif decide (x0.length + [64].length ≤ 9223372036854775807) then
 bif decide ((x0 ++ [64]).length + x1.length ≤ 9223372036854775807) then
 some (x0 ++ [64] ++ x1, ())
 else none
 else none
def C45 : T45 := F45 C88 C89
theorem ok45 : FO 45 (E45 C45) := zq2 Li287 Lo16 K45 F45 C88 C89 (kc ok88 (kc ok89 kn)) Tryz.func45
abbrev T38 := LqS × LqS × Unit → Option (Bool × Unit)
def E38 (f : T38) : FEnt := ⟨Li287, Lo29, f⟩
def F38 : T38 := fun (x0, x1, _) =>
 bif decide ((↑x0.length : Int) ≤ 150) then some (decide ((↑x1.length : Int) ≤ 200), ())
 else some (false, ())
def C38 : T38 := F38
theorem ok38 : FO 38 (E38 C38) := zq0 Li287 Lo29 KqZ F38 kn Tryz.func38
abbrev T79 := Int × LqS × Int × LqS × Unit → Option (Bool × Unit)
def E79 (f : T79) : FEnt := ⟨Li288, Lo29, f⟩
def F79 : T79 := fun (x0, x1, x2, x3, _) =>
 bif x0 == 2 then some (x1 == x3, ()) else some (false, ())
def C79 : T79 := F79
theorem ok79 : FO 79 (E79 C79) := zq0 Li288 Lo29 KqZ F79 kn Tryz.func79
abbrev T81 := Int × LqS × Int × Unit → Option (Bool × Unit)
def E81 (f : T81) : FEnt := ⟨Li259, Lo29, f⟩
def F81 : T81 := fun (x0, x1, x2, _) =>
 bif x0 == 4 then some (true, ()) else some (x0 == 3, ())
def C81 : T81 := F81
theorem ok81 : FO 81 (E81 C81) := zq0 Li259 Lo29 KqZ F81 kn Tryz.func81
abbrev T119_l0 := LqD × Int × Int × Unit → Option (Unit ⊕ (Int × Unit))
def E119_l0 (f : T119_l0) : LEnt := ⟨Li290, Lo159, f⟩
abbrev T119 := LqD × Unit → Option (Int × Unit)
def E119 (f : T119) : FEnt := ⟨Li289, Lo10, f⟩
def K119 (f81 : T81) := lk [(81, E81 f81)]
theorem kok119 : KOk Tryz.prog (K119 C81) := (kc ok81 kn)
def F119_l0 (f81 : T81) : LpF (LqD × Int × Int × Unit) (Unit ⊕ (Int × Unit)) := fun (x0, x1, x2, _) =>
 bif decide (x2 < x1) then
 bif decide (0 ≤ x2) && decide (x2 < (↑x0.length : Int)) then
 (f81
 ((x0.getD x2.toNat (0, ([], 0))).1,
 (x0.getD x2.toNat (0, ([], 0))).2.1,
 (x0.getD x2.toNat (0, ([], 0))).2.2, ())).bind
 fun v =>
 bif v.1 then some (Sum.inr (Sum.inr (x2, ())))
 else some (Sum.inl (x0, x1, IntKind.i64.wrap (x2 + 1), ()))
 else none
 else some (Sum.inr (Sum.inl ()))
def C119_l0 : T119_l0 := loopN (F119_l0 C81) big
theorem k119_l0 : LpOk 0 (subc (code Tryz.f119) [1, 0, 1, 0, 0]) (E119_l0 C119_l0) := zl1 Li290 Lo159 K119 F119_l0 C81 kok119
def N119 (f119_l0 : T119_l0) : Ann := (.seq .nil (.seq (.seq .nil (.blk (.loop (E119_l0 f119_l0)))) .nil))
def F119 (f81 : T81) (f119_l0 : T119_l0) : T119 := fun (x0, _) =>
 (f119_l0 (x0, (↑x0.length : Int), 0, ())).bind fun v =>
 Sum.elim (fun v => some (-1, ())) (fun v => some (v.1, ())) v
def C119 : T119 := F119 C81 C119_l0
theorem ok119 : FO 119 (E119 C119) := zq1_1 Li289 Lo10 K119 N119 F119 C81 C119_l0 kok119 Tryz.func119 (And.intro k119_l0 trivial)
abbrev T80 := LqD × Unit → Option (Bool × Unit)
def E80 (f : T80) : FEnt := ⟨Li289, Lo29, f⟩
def K80 (f119 : T119) := lk [(119, E119 f119)]
def F80 (f119 : T119) : T80 := fun (x0, _) =>
 (f119 (x0, ())).bind fun v => some (decide (v.1 ≥ 0), ())
def C80 : T80 := F80 C119
theorem ok80 : FO 80 (E80 C80) := zq1 Li289 Lo29 K80 F80 C119 (kc ok119 kn) Tryz.func80
end Go.Proofs.YtiacnhhmkdkpmaaGreatDoorA.W
set_option linter.unusedSimpArgs false
namespace Go.Proofs.YtiacnhhmkdkpmaaGreatDoorA.W
open Go Go.Ae
theorem wr {n : Int} (h1 : -9223372036854775808 ≤ n) (h2 : n ≤ 9223372036854775807) : IntKind.i64.wrap n = n := by rw [IntKind.wrap_i64]; omega
theorem wrN (n : Nat) (h : n ≤ 9223372036854775806) : IntKind.i64.wrap ((n : Int) + 1) = ((n + 1 : Nat) : Int) := by rw [wr] <;> omega
theorem of_to (b : UInt8) : UInt8.ofNat b.toNat = b := by simp
theorem byte_back (b : UInt8) : UInt8.ofNat ((b.toNat : Int)).toNat = b := by simp
theorem getD_lt {α : Type} {l : List α} {i : Nat} {d : α} (h : i < l.length) : l.getD i d = l[i] := by simp [List.getD_eq_getElem?_getD, List.getElem?_eq_getElem h]
def esc1 (c : UInt8) : List UInt8 := if c.toNat = 34 ∨ c.toNat = 92 then [92, c] else [c]
def esc (s : List UInt8) : List UInt8 := s.flatMap esc1
theorem esc1_len (c : UInt8) : (esc1 c).length ≤ 2 := by unfold esc1; split <;> simp
theorem esc_len : ∀ s : List UInt8, (esc s).length ≤ 2 * s.length
 | [] => by simp [esc]
 | c :: s => by have := esc_len s; have := esc1_len c; simp [esc] at *; omega
theorem esc_append (s t : List UInt8) : esc (s ++ t) = esc s ++ esc t := by simp [esc]
theorem take_succ_get {α : Type} {s : List α} {k : Nat} (h : k < s.length) : s.take (k + 1) = s.take k ++ [s[k]] := by
 rw [List.take_add_one, List.getElem?_eq_getElem h]; rfl
theorem esc_take {s : List UInt8} {k : Nat} (h : k < s.length) : esc (s.take (k + 1)) = esc (s.take k) ++ esc1 s[k] := by
 rw [take_succ_get h, esc_append]; simp [esc]
theorem ibT {a b : Int} (h : a = b) : (a == b) = true := by simp [h]
theorem ibF {a b : Int} (h : a ≠ b) : (a == b) = false := by simp [h]
theorem inT {a b : Int} (h : a ≠ b) : (a != b) = true := by simp [h]
theorem inF {a b : Int} (h : a = b) : (a != b) = false := by simp [h]
theorem u8_eq {a : UInt8} {n : Nat} (h : a.toNat = n) : a = UInt8.ofNat n := by subst h; simp
theorem esc1_q {c : UInt8} (h : c.toNat = 34) : esc1 c = [92] ++ [c] := by simp [esc1, h]
theorem esc1_b {c : UInt8} (h : c.toNat = 92) : esc1 c = [92] ++ [c] := by simp [esc1, h]
theorem esc1_n {c : UInt8} (h : ¬ c.toNat = 34) (h2 : ¬ c.toNat = 92) : esc1 c = [c] := by simp [esc1, h, h2]
theorem r14 (s : List UInt8) (k : Nat) (acc : List UInt8) (h : k < s.length) (hb : s.length ≤ 9223372036854775806) (ha : acc.length + 2 ≤ 140737488355328) :
 F126_l0 (s, (s.length : Int), (k : Int), acc, ()) = some (.inl (s, (s.length : Int), ((k + 1 : Nat) : Int), acc ++ esc1 s[k], ())) := by
 by_cases e1 : s[k].toNat = 34
 · simp (disch := omega) only [F126_l0, decide_eq_true, cond_true, Bool.and_self, List.length_append, List.length_cons, List.length_nil, getD_lt, byte_back, wrN, Int.toNat_natCast, ibT, esc1_q, List.append_assoc, of_to]
 · by_cases e2 : s[k].toNat = 92
   · simp (disch := omega) only [F126_l0, decide_eq_true, cond_true, cond_false, Bool.and_self, List.length_append, List.length_cons, List.length_nil, getD_lt, byte_back, wrN, Int.toNat_natCast, ibT, ibF, esc1_b, List.append_assoc, of_to]
   · simp (disch := omega) only [F126_l0, decide_eq_true, cond_true, cond_false, Bool.and_self, List.length_append, List.length_cons, List.length_nil, getD_lt, byte_back, wrN, Int.toNat_natCast, ibT, ibF, esc1_n, List.append_assoc, of_to]
theorem c14 (s : List UInt8) (hb : s.length ≤ 70368744177663) : C126 (s, ()) = some (esc s, ()) := by
 have key : ∀ (k : Nat) (n : Nat), k ≤ s.length → s.length - k < n → loopN F126_l0 n (s, (s.length : Int), (k : Int), esc (s.take k), ()) = some (esc s, ()) := by
  intro k n
  induction n generalizing k with
  | zero => intro _ h; omega
  | succ n ih =>
   intro hk hn
   by_cases h : k < s.length
   · have hl := esc_len (s.take k)
     rw [loopN_inl (r14 s k _ h (by omega) (by simp only [List.length_take] at hl; omega)), ← esc_take h]
     exact ih (k + 1) (by omega) (by omega)
   · have : k = s.length := by omega
     subst this
     refine loopN_inr ?_
     simp [F126_l0]
 have := key 0 big (by omega) (by unfold big; omega)
 simp only [List.take_zero] at this
 show F126 C126_l0 (s, ()) = _
 simp only [F126, C126_l0]
 rw [show loopN F126_l0 big (s, (s.length : Int), 0, [], ()) = some (esc s, ()) from this]
 rfl
def src (k : Int) (s : List UInt8) : List UInt8 := if k = 1 then [34] ++ esc s ++ [34] else if k = 3 then [40] ++ s ++ [41] else if k = 5 then [91] ++ s ++ [93] else s
theorem c9 (k : Int) (s : List UInt8) (a : Int) (hb : s.length ≤ 3000) : C89 (k, s, a, ()) = some (src k s, ()) := by
 have hl := esc_len s
 show F89 C126 (k, s, a, ()) = _
 by_cases e1 : k = 1
 · simp (disch := omega) only [F89, c14, ibT, cond_true, decide_eq_true, List.length_append, List.length_cons, List.length_nil, Option.bind_some, src, if_pos]
 · by_cases e3 : k = 3
   · simp (disch := omega) only [F89, ibT, ibF, cond_true, cond_false, decide_eq_true, List.length_append, List.length_cons, List.length_nil, Option.bind_some, src, if_pos, if_neg]
   · by_cases e5 : k = 5
     · simp (disch := omega) only [F89, ibT, ibF, cond_true, cond_false, decide_eq_true, List.length_append, List.length_cons, List.length_nil, Option.bind_some, src, if_pos, if_neg]
     · simp (disch := omega) only [F89, ibT, ibF, cond_true, cond_false, src, if_neg]
theorem all256 (p : UInt8 → Bool) (h : (List.range 256).all (fun n => p (UInt8.ofNat n)) = true) (c : UInt8) : p c = true := by
 have h1 := List.all_eq_true.1 h c.toNat (List.mem_range.2 (by have := c.toNat_lt; omega))
 simpa using h1
def gB (o : Option (Bool × Unit)) : Bool := match o with | some (b, _) => b | none => false
def okB (o : Option (Bool × Unit)) : Bool := match o with | some (_, _) => true | none => false
theorem okB_some {o : Option (Bool × Unit)} (h : okB o = true) : o = some (gB o, ()) := by
 cases o with
 | none => cases h
 | some x => rfl
def atomB (c : UInt8) : Bool := gB (C90 ((c.toNat : Int), ()))
def blankB (c : UInt8) : Bool := gB (C174 ((c.toNat : Int), ()))
def mayB (c : UInt8) : Bool := gB (C173 ((c.toNat : Int), ()))
def signI (c : UInt8) : Int := match C127 ([60, 62, 58, 59, 64, 44, 46], (c.toNat : Int), ()) with | some (i, _) => i | none => 0
def signB (c : UInt8) : Bool := decide (signI c ≥ 0)
theorem c17 (c : UInt8) : C90 ((c.toNat : Int), ()) = some (atomB c, ()) := okB_some (all256 (fun c => okB (C90 ((c.toNat : Int), ()))) (by kernel_rfl) c)
theorem c32 (c : UInt8) : C174 ((c.toNat : Int), ()) = some (blankB c, ()) := okB_some (all256 (fun c => okB (C174 ((c.toNat : Int), ()))) (by kernel_rfl) c)
theorem c31 (c : UInt8) : C173 ((c.toNat : Int), ()) = some (mayB c, ()) := okB_some (all256 (fun c => okB (C173 ((c.toNat : Int), ()))) (by kernel_rfl) c)
theorem c22s (c : UInt8) : C127 ([60, 62, 58, 59, 64, 44, 46], (c.toNat : Int), ()) = some (signI c, ()) := rfl
theorem gd {α : Type} {pre r : List α} {c d : α} {p : Nat} (h : pre.length = p) : (pre ++ c :: r).getD p d = c := by subst h; simp
theorem dr {α : Type} {pre r : List α} {p : Nat} (h : pre.length = p) : List.drop p (pre ++ r) = r := by subst h; simp
theorem Sk : (∀ {p : Prop} [Decidable p], p → decide p = true) ∧ (∀ {p : Prop} [Decidable p], ¬ p → decide p = false) ∧ (∀ {α : Type} (a b : α), (bif true then a else b) = a) ∧ (∀ {α : Type} (a b : α), (bif false then a else b) = b) ∧
 (∀ b : Bool, (b && b) = b) ∧ (∀ b : Bool, (true && b) = b) ∧ (∀ b : Bool, (b && true) = b) ∧ (∀ b : Bool, (false && b) = false) ∧ (∀ b : Bool, (b && false) = false) ∧ (!true) = false ∧ (!false) = true ∧
 (∀ {α : Type} {a b : List α}, (a ++ b).length = a.length + b.length) ∧ (∀ {α : Type} {a : α} {l : List α}, (a :: l).length = l.length + 1) ∧ (∀ {α : Type}, ([] : List α).length = 0) ∧ (∀ n : Nat, ((n : Int)).toNat = n) ∧
 (∀ {a b : Int}, a = b → (a == b) = true) ∧ (∀ {a b : Int}, a ≠ b → (a == b) = false) ∧ (∀ {a b : Int}, a ≠ b → (a != b) = true) ∧ (∀ {a b : Int}, a = b → (a != b) = false) ∧
 (∀ n : Nat, n ≤ 9223372036854775806 → IntKind.i64.wrap ((n : Int) + 1) = ((n + 1 : Nat) : Int)) ∧ (∀ {α : Type} {pre r : List α} {c d : α} {p : Nat}, pre.length = p → (pre ++ c :: r).getD p d = c) ∧ (∀ {α : Type} {pre r : List α} {p : Nat}, pre.length = p → List.drop p (pre ++ r) = r) ∧
 (∀ {α β : Type} (a : α) (f : α → Option β), (some a).bind f = f a) ∧ (∀ {α β γ : Type} (f : α → γ) (g : β → γ) (x : α), Sum.elim f g (Sum.inl x) = f x) ∧ (∀ {α β γ : Type} (f : α → γ) (g : β → γ) (x : β), Sum.elim f g (Sum.inr x) = g x) ∧ (∀ b : UInt8, UInt8.ofNat ((b.toNat : Int)).toNat = b) ∧ ∀ b : UInt8, UInt8.ofNat b.toNat = b :=
 ⟨@decide_eq_true, @decide_eq_false, fun _ _ => rfl, fun _ _ => rfl, Bool.and_self, Bool.true_and, Bool.and_true, Bool.false_and, Bool.and_false, rfl, rfl, @fun _ _ _ => List.length_append, @fun _ _ _ => List.length_cons, @fun _ => List.length_nil, Int.toNat_natCast, @ibT, @ibF, @inT, @inF, wrN, @gd, @dr, @Option.bind_some, fun _ _ _ => rfl, fun _ _ _ => rfl, byte_back, of_to⟩
theorem shift {α : Type} (pre : List α) (c : α) (r : List α) : pre ++ c :: r = (pre ++ [c]) ++ r := by simp
theorem c27 (k e : Int) (s : List UInt8) (at_ bad err : Int) : C141 (k, e, s, at_, bad, err, ()) = some (s, at_, k, e, ()) := rfl
def al : List UInt8 → Nat
 | [] => 0
 | c :: r => bif atomB c then al r + 1 else 0
theorem al_le : ∀ r, al r ≤ r.length
 | [] => Nat.le_refl _
 | c :: r => by have := al_le r; simp only [al]; cases atomB c <;> simp; omega
theorem l21 (f bad err : Int) : ∀ (r pre : List UInt8) (p n : Nat), pre.length = p → r.length < n → p + r.length ≤ 140737488355328 →
 loopN (F136_l0 C90 C136_c0) n (f, pre ++ r, (p : Int), bad, err, ()) = some (f, pre ++ r, ((p + al r : Nat) : Int), bad, err, ())
 | [], pre, p, n + 1, hp, hn, hb => by
  refine loopN_inr ?_
  simp (disch := (first | omega | (simp only [List.length_append, List.length_cons, List.length_nil]; omega))) only [F136_l0, C136_c0, F136_c0, Sk, al, List.append_nil, Nat.add_zero]
 | c :: r, pre, p, n + 1, hp, hn, hb => by
  simp only [List.length_cons] at hn hb
  cases h : atomB c with
  | true =>
   rw [loopN_inl (v' := (f, pre ++ c :: r, ((p + 1 : Nat) : Int), bad, err, ())) (by simp (disch := (first | omega | (simp only [List.length_append, List.length_cons, List.length_nil]; omega))) only [F136_l0, C136_c0, F136_c0, Sk, c17, h])]
   rw [shift, l21 f bad err r (pre ++ [c]) (p + 1) n (by simp [hp]) (by omega) (by omega)]
   simp only [al, h, cond_true, Nat.add_assoc, Nat.add_comm 1]
  | false =>
   refine loopN_inr ?_
   simp (disch := (first | omega | (simp only [List.length_append, List.length_cons, List.length_nil]; omega))) only [F136_l0, C136_c0, F136_c0, Sk, c17, h, al, Nat.add_zero]
theorem c21 (pre r : List UInt8) (p : Nat) (bad err : Int) (hp : pre.length = p) (hb : p + r.length ≤ 140737488355328) :
 C136 (pre ++ r, (p : Int), bad, err, ()) = some (r.take (al r), pre ++ r, ((p + al r : Nat) : Int), bad, err, ()) := by
 have := al_le r
 show F136 C90 C136_l0 (pre ++ r, (p : Int), bad, err, ()) = _
 have hl : C136_l0 ((p : Int), pre ++ r, (p : Int), bad, err, ()) = _ := l21 p bad err r pre p big hp (by unfold big; omega) hb
 simp (disch := (first | omega | (simp only [List.length_append, List.length_cons, List.length_nil]; omega))) only [F136, hl, Sk]
 rw [show List.drop p (List.take (p + al r) (pre ++ r)) = r.take (al r) by rw [← hp, List.take_append, List.take_of_length_le (by omega), List.drop_append]; simp]
def wl : List UInt8 → Nat
 | [] => 0
 | c :: r => bif blankB c then wl r + 1 else
  match r with
  | b :: d :: r' => bif (c == 13 && b == 10) && blankB d then wl r' + 3 else 0
  | _ => 0
theorem wl_le : ∀ r, wl r ≤ r.length
 | [] => Nat.le_refl _
 | [c] => by simp only [wl]; cases blankB c <;> simp
 | [c, b] => by have := wl_le [b]; simp only [wl] at *; cases blankB c <;> cases blankB b <;> simp
 | c :: b :: d :: r' => by
  have h1 := wl_le (b :: d :: r')
  have h2 := wl_le r'
  rw [wl]
  cases blankB c
  · simp only [cond_false]; cases (c == 13 && b == 10) && blankB d <;> simp; omega
  · simp only [cond_true, List.length_cons] at *; omega
theorem beq2 (c b : UInt8) : ([c, b] == [13, 10]) = (c == 13 && b == 10) := by
 rw [Bool.eq_iff_iff]; simp
theorem c26c (f p : Nat) (s : List UInt8) (bad err : Int) (b : Bool) (hf : f ≤ p) (hp : p ≤ s.length) (hb : p ≤ 140737488355328) :
 C140_c0 ((f : Int), b, s, (p : Int), bad, err, ()) = some (bif b then .inl ((f : Int), s, ((p + 3 : Nat) : Int), bad, err, ()) else .inr (List.drop f (List.take p s), s, (p : Int), bad, err, ())) := by
 cases b with
 | true => simp only [C140_c0, F140_c0, cond_true]; rw [wr (by omega) (by omega)]; rfl
 | false => simp (disch := (first | omega | (simp only [List.length_append, List.length_cons, List.length_nil]; omega))) only [C140_c0, F140_c0, Sk]
theorem wl_t {c : UInt8} {r : List UInt8} (h : blankB c = true) : wl (c :: r) = wl r + 1 := by
 match r with
 | [] => simp [wl, h]
 | [b] => simp [wl, h]
 | b :: d :: r => rw [wl, h]; rfl
theorem wl_stop {c : UInt8} {r : List UInt8} (h : blankB c = false) (h2 : r.length < 2) : wl (c :: r) = 0 := by
 match r, h2 with
 | [], _ => simp [wl, h]
 | [b], _ => simp [wl, h]
 | b :: d :: r, h2 => simp at h2; omega
theorem l26 (f : Nat) (bad err : Int) : ∀ (m : Nat) (r pre : List UInt8) (p n : Nat), r.length ≤ m → pre.length = p → r.length < n → f ≤ p → p + r.length ≤ 140737488355328 →
 loopN (F140_l0 C174 C140_c0) n ((f : Int), pre ++ r, (p : Int), bad, err, ()) = some (.inl ((f : Int), pre ++ r, ((p + wl r : Nat) : Int), bad, err, ())) ∨
 loopN (F140_l0 C174 C140_c0) n ((f : Int), pre ++ r, (p : Int), bad, err, ()) = some (.inr (List.drop f (List.take (p + wl r) (pre ++ r)), pre ++ r, ((p + wl r : Nat) : Int), bad, err, ()))
 | _, _, _, _, 0, _, _, hn, _, _ => by omega
 | m, [], pre, p, n + 1, hm, hp, hn, hf, hb => by
  refine .inl (loopN_inr ?_)
  simp (disch := (first | omega | (simp only [List.length_append, List.length_cons, List.length_nil]; omega))) only [F140_l0, Sk, wl, List.append_nil, Nat.add_zero]
 | 0, c :: r, pre, p, n + 1, hm, hp, hn, hf, hb => by simp at hm
 | m + 1, c :: r, pre, p, n + 1, hm, hp, hn, hf, hb => by
  simp only [List.length_cons] at hn hb hm
  cases h : blankB c with
  | true =>
   rw [loopN_inl (v' := ((f : Int), pre ++ c :: r, ((p + 1 : Nat) : Int), bad, err, ())) (by simp (disch := (first | omega | (simp only [List.length_append, List.length_cons, List.length_nil]; omega))) only [F140_l0, Sk, c32, h, List.getD_cons_zero])]
   rw [shift]
   have := l26 f bad err m r (pre ++ [c]) (p + 1) n (by omega) (by simp [hp]) (by omega) (by omega) (by omega)
   rw [show p + wl (c :: r) = p + 1 + wl r by rw [wl_t h]; omega]
   exact this
  | false =>
   have stop : ∀ (hw : wl (c :: r) = 0), F140_l0 C174 C140_c0 ((f : Int), pre ++ c :: r, (p : Int), bad, err, ()) = some (.inr (.inr (List.drop f (List.take p (pre ++ c :: r)), pre ++ c :: r, (p : Int), bad, err, ()))) →
    loopN (F140_l0 C174 C140_c0) (n + 1) ((f : Int), pre ++ c :: r, (p : Int), bad, err, ()) = some (.inr (List.drop f (List.take (p + wl (c :: r)) (pre ++ c :: r)), pre ++ c :: r, ((p + wl (c :: r) : Nat) : Int), bad, err, ())) := by
    intro hw h
    rw [hw]; exact loopN_inr h
   match r, hm, hn, hb with
   | [], hm, hn, hb =>
    refine .inr (stop (wl_stop h (by simp)) ?_)
    simp (disch := (first | omega | (simp only [List.length_append, List.length_cons, List.length_nil]; omega))) only [F140_l0, Sk, c32, h, List.getD_cons_zero, c26c]
   | [b], hm, hn, hb =>
    refine .inr (stop (wl_stop h (by simp)) ?_)
    simp only [List.length_cons, List.length_nil] at hn hb hm
    simp (disch := (first | omega | (simp only [List.length_append, List.length_cons, List.length_nil]; omega))) only [F140_l0, Sk, c32, h, List.getD_cons_zero, c26c]
   | b :: d :: r', hm, hn, hb =>
    simp only [List.length_cons] at hn hb hm
    cases hq : (c == 13 && b == 10) with
    | false =>
     refine .inr (stop (by rw [wl, h, hq]; rfl) ?_)
     simp (disch := (first | omega | (simp only [List.length_append, List.length_cons, List.length_nil]; omega))) only [F140_l0, Sk, c32, h, List.getD_cons_zero, c26c, List.take_succ_cons, List.take_zero, beq2, hq]
    | true =>
     cases hd : blankB d with
     | false =>
      refine .inr (stop (by rw [wl, h, hq, hd]; rfl) ?_)
      simp (disch := (first | omega | (simp only [List.length_append, List.length_cons, List.length_nil]; omega))) only [F140_l0, Sk, c32, h, List.getD_cons_zero, List.getD_cons_succ, c26c, List.take_succ_cons, List.take_zero, beq2, hq, hd]
     | true =>
      rw [loopN_inl (v' := ((f : Int), pre ++ c :: b :: d :: r', ((p + 3 : Nat) : Int), bad, err, ())) (by simp (disch := (first | omega | (simp only [List.length_append, List.length_cons, List.length_nil]; omega))) only [F140_l0, Sk, c32, h, List.getD_cons_zero, List.getD_cons_succ, c26c, List.take_succ_cons, List.take_zero, beq2, hq, hd])]
      have := l26 f bad err m r' (pre ++ [c, b, d]) (p + 3) n (by omega) (by simp [hp]) (by omega) (by omega) (by omega)
      rw [show p + wl (c :: b :: d :: r') = p + 3 + wl r' by rw [wl, h, hq, hd]; simp only [cond_true, cond_false, Bool.and_self]; omega]
      rw [show pre ++ c :: b :: d :: r' = (pre ++ [c, b, d]) ++ r' by simp]
      exact this
theorem text_eq {pre r : List UInt8} {p k : Nat} (hp : pre.length = p) : List.drop p (List.take (p + k) (pre ++ r)) = r.take k := by
 rw [← hp, List.take_append, List.take_of_length_le (by omega), List.drop_append]; simp
theorem c26 (pre r : List UInt8) (p : Nat) (bad err : Int) (hp : pre.length = p) (hb : p + r.length ≤ 140737488355328) :
 C140 (pre ++ r, (p : Int), bad, err, ()) = some (r.take (wl r), pre ++ r, ((p + wl r : Nat) : Int), bad, err, ()) := by
 have := wl_le r
 show F140 C174 C140_l0 (pre ++ r, (p : Int), bad, err, ()) = _
 rcases l26 p bad err r.length r pre p big (Nat.le_refl _) hp (by unfold big; omega) (Nat.le_refl _) hb with hl | hl
 · have hl' : C140_l0 ((p : Int), pre ++ r, (p : Int), bad, err, ()) = _ := hl
   simp (disch := (first | omega | (simp only [List.length_append, List.length_cons, List.length_nil]; omega))) only [F140, hl', Sk, text_eq]
 · have hl' : C140_l0 ((p : Int), pre ++ r, (p : Int), bad, err, ()) = _ := hl
   simp (disch := (first | omega | (simp only [List.length_append, List.length_cons, List.length_nil]; omega))) only [F140, hl', Sk, text_eq]
inductive Tk where
 | ok (t : List UInt8) (u : Nat)
 | bad (off : Nat) (e : Int)
 | start
def Tk.push (l : List UInt8) (n : Nat) : Tk → Tk
 | .ok t u => .ok (l ++ t) (n + u)
 | .bad off e => .bad (n + off) e
 | .start => .start
def qt : List UInt8 → Tk
 | [] => .start
 | c :: r => if c.toNat = 34 then .ok [] 1 else if c.toNat = 92 then
  match r with
  | [] => .start
  | d :: r' => bif mayB d then (qt r').push [d] 2 else .bad 1 4
  else bif mayB c then (qt r).push [c] 1 else .bad 0 4
theorem qt_q {c : UInt8} {r : List UInt8} (h : c.toNat = 34) : qt (c :: r) = .ok [] 1 := by cases r <;> simp [qt, h]
theorem qt_b0 {c : UInt8} (h : c.toNat = 92) : qt [c] = .start := by simp [qt, h]
theorem qt_b1 {c d : UInt8} {r : List UInt8} (h : c.toNat = 92) : qt (c :: d :: r) = bif mayB d then (qt r).push [d] 2 else .bad 1 4 := by simp [qt, h]
theorem qt_c {c : UInt8} {r : List UInt8} (h1 : ¬ c.toNat = 34) (h2 : ¬ c.toNat = 92) : qt (c :: r) = bif mayB c then (qt r).push [c] 1 else .bad 0 4 := by cases r <;> simp [qt, h1, h2]
def resq (s : List UInt8) (a bad err : Int) (out : List UInt8) (q : Nat) : Tk → (List UInt8 × Int × Int × Int × Unit) ⊕ (List UInt8 × List UInt8 × Int × Int × Int × Unit)
 | .ok t u => .inr (out ++ t, s, ((q + u : Nat) : Int), bad, err, ())
 | .bad off e => .inr ([], s, a, ((q + off : Nat) : Int), e, ())
 | .start => .inl (s, a, bad, err, ())
theorem resq_push (s : List UInt8) (a bad err : Int) (out : List UInt8) (q : Nat) (l : List UInt8) (n : Nat) (k : Tk) : resq s a bad err out q (k.push l n) = resq s a bad err (out ++ l) (q + n) k := by
 cases k <;> simp [Tk.push, resq, Nat.add_assoc]
theorem c23c (pre r out : List UInt8) (d : UInt8) (q : Nat) (a bad err : Int) (hq : pre.length = q) (hb : q + r.length ≤ 140737488355320) (ho : out.length + 1 ≤ 140737488355328) :
 C137_c0 ((q : Int), pre ++ d :: r, a, bad, err, out, ()) = some (bif mayB d then .inr ((q : Int), pre ++ d :: r, a, bad, err, out ++ [d], ()) else .inl ([], pre ++ d :: r, a, (q : Int), 4, ())) := by
 cases h : mayB d <;> simp (disch := (first | omega | (simp only [List.length_append, List.length_cons, List.length_nil]; omega))) only [C137_c0, F137_c0, Sk, c31, c27, h]
theorem l23 (a bad err : Int) : ∀ (m : Nat) (r pre out : List UInt8) (q n : Nat), r.length ≤ m → pre.length = q → r.length < n → q + r.length ≤ 140737488355320 → out.length + r.length ≤ 140737488355320 →
 loopN (F137_l0 C141 C173 C137_c0) n ((q : Int), pre ++ r, a, bad, err, out, ()) = some (resq (pre ++ r) a bad err out q (qt r))
 | _, _, _, _, _, 0, _, _, hn, _, _ => by omega
 | m, [], pre, out, q, n + 1, hm, hq, hn, hb, ho => by
  refine loopN_inr ?_
  simp (disch := (first | omega | (simp only [List.length_append, List.length_cons, List.length_nil]; omega))) only [F137_l0, Sk, List.append_nil, qt, resq]
 | 0, c :: r, pre, out, q, n + 1, hm, hq, hn, hb, ho => by simp at hm
 | m + 1, c :: r, pre, out, q, n + 1, hm, hq, hn, hb, ho => by
  simp only [List.length_cons] at hn hb hm ho
  by_cases e1 : c.toNat = 34
  · refine loopN_inr ?_
    rw [qt_q e1]
    simp (disch := (first | omega | (simp only [List.length_append, List.length_cons, List.length_nil]; omega))) only [F137_l0, Sk, resq, List.append_nil]
  · by_cases e2 : c.toNat = 92
    · match r, hm, hn, hb, ho with
      | [], hm, hn, hb, ho =>
       refine loopN_inr ?_
       rw [qt_b0 e2]
       simp (disch := (first | omega | (simp only [List.length_append, List.length_cons, List.length_nil]; omega))) only [F137_l0, Sk, resq, List.append_nil]
      | d :: r', hm, hn, hb, ho =>
       simp only [List.length_cons] at hn hb hm ho
       have hc := c23c (pre ++ [c]) r' out d (q + 1) a bad err (by simp [hq]) (by omega) (by omega)
       rw [← shift] at hc
       rw [qt_b1 e2]
       cases h : mayB d with
       | true =>
        rw [h] at hc
        simp only [cond_true] at hc ⊢
        rw [loopN_inl (v' := (((q + 2 : Nat) : Int), pre ++ c :: d :: r', a, bad, err, out ++ [d], ())) (by
         simp (disch := (first | omega | (simp only [List.length_append, List.length_cons, List.length_nil]; omega))) only [F137_l0, Sk, hc])]
        have := l23 a bad err m r' (pre ++ [c, d]) (out ++ [d]) (q + 2) n (by omega) (by simp [hq]) (by omega) (by omega) (by simp; omega)
        rw [show pre ++ c :: d :: r' = (pre ++ [c, d]) ++ r' by simp, this, ← resq_push]
       | false =>
        rw [h] at hc
        simp only [cond_false] at hc ⊢
        refine loopN_inr ?_
        simp (disch := (first | omega | (simp only [List.length_append, List.length_cons, List.length_nil]; omega))) only [F137_l0, Sk, hc, resq]
    · have hc := c23c pre r out c q a bad err hq (by omega) (by omega)
      rw [qt_c e1 e2]
      cases h : mayB c with
      | true =>
       rw [h] at hc
       simp only [cond_true] at hc ⊢
       rw [loopN_inl (v' := (((q + 1 : Nat) : Int), pre ++ c :: r, a, bad, err, out ++ [c], ())) (by
        simp (disch := (first | omega | (simp only [List.length_append, List.length_cons, List.length_nil]; omega))) only [F137_l0, Sk, hc])]
       have := l23 a bad err m r (pre ++ [c]) (out ++ [c]) (q + 1) n (by omega) (by simp [hq]) (by omega) (by omega) (by simp; omega)
       rw [shift, this, ← resq_push]
      | false =>
       rw [h] at hc
       simp only [cond_false] at hc ⊢
       refine loopN_inr ?_
       simp (disch := (first | omega | (simp only [List.length_append, List.length_cons, List.length_nil]; omega))) only [F137_l0, Sk, hc, resq, Nat.add_zero]
def fin (s : List UInt8) (p : Nat) (bad err : Int) (q : Nat) : Tk → List UInt8 × List UInt8 × Int × Int × Int × Unit
 | .ok t u => (t, s, ((q + u : Nat) : Int), bad, err, ())
 | .bad off e => ([], s, (p : Int), ((q + off : Nat) : Int), e, ())
 | .start => ([], s, (p : Int), (p : Int), 4, ())
theorem c23 (pre r : List UInt8) (c : UInt8) (p : Nat) (bad err : Int) (hp : pre.length = p) (hb : p + r.length ≤ 140737488355000) :
 C137 (pre ++ c :: r, (p : Int), bad, err, ()) = some (fin (pre ++ c :: r) p bad err (p + 1) (qt r)) := by
 show F137 C141 C173 C137_l0 (pre ++ c :: r, (p : Int), bad, err, ()) = _
 have hl := l23 p bad err r.length r (pre ++ [c]) [] (p + 1) big (Nat.le_refl _) (by simp [hp]) (by unfold big; omega) (by omega) (by simp; omega)
 rw [← shift] at hl
 have hl' : C137_l0 (((p + 1 : Nat) : Int), pre ++ c :: r, (p : Int), bad, err, [], ()) = _ := hl
 cases hq : qt r <;> rw [hq] at hl' <;> simp (disch := (first | omega | (simp only [List.length_append, List.length_cons, List.length_nil]; omega))) only [F137, Sk, hl', resq, fin, c27, List.nil_append]
def ltk : List UInt8 → Tk
 | [] => .start
 | c :: r => if c.toNat = 93 then .ok [] 1 else if c.toNat = 91 then .bad 0 4 else if c.toNat = 92 then .bad 0 4 else
  bif blankB c then .bad 0 4 else bif mayB c then (ltk r).push [c] 1 else .bad 0 4
def resl (s : List UInt8) (a bad err : Int) (from_ : Nat) (q : Nat) : Tk → (List UInt8 × Int × Int × Int × Unit) ⊕ (List UInt8 × List UInt8 × Int × Int × Int × Unit)
 | .ok t u => .inr (List.drop from_ (List.take (q + t.length) s), s, ((q + u : Nat) : Int), bad, err, ())
 | .bad off e => .inr ([], s, a, ((q + off : Nat) : Int), e, ())
 | .start => .inl (s, a, bad, err, ())
theorem resl_push (s : List UInt8) (a bad err : Int) (f q : Nat) (l : List UInt8) (n : Nat) (hl : l.length = n) (k : Tk) : resl s a bad err f q (k.push l n) = resl s a bad err f (q + n) k := by
 cases k <;> simp [Tk.push, resl, Nat.add_assoc, hl]
theorem l24 (a : Nat) (bad err : Int) : ∀ (r pre : List UInt8) (q n : Nat), pre.length = q → a + 1 ≤ q → r.length < n → q + r.length ≤ 140737488355320 →
 loopN (F138_l0 C141 C173 C174 C138_c0) n ((q : Int), pre ++ r, (a : Int), bad, err, ()) = some (resl (pre ++ r) a bad err (a + 1) q (ltk r))
 | _, _, _, 0, _, _, hn, _ => by omega
 | [], pre, q, n + 1, hq, ha, hn, hb => by
  refine loopN_inr ?_
  simp (disch := (first | omega | (simp only [List.length_append, List.length_cons, List.length_nil]; omega))) only [F138_l0, C138_c0, F138_c0, Sk, List.append_nil, ltk, resl]
 | c :: r, pre, q, n + 1, hq, ha, hn, hb => by
  simp only [List.length_cons] at hn hb
  by_cases e1 : c.toNat = 93
  · refine loopN_inr ?_
    simp (disch := (first | omega | (simp only [List.length_append, List.length_cons, List.length_nil]; omega))) only [F138_l0, C138_c0, F138_c0, Sk, ltk, if_pos, resl, Nat.add_zero]
  · by_cases e2 : c.toNat = 91
    · refine loopN_inr ?_
      simp (disch := (first | omega | (simp only [List.length_append, List.length_cons, List.length_nil]; omega))) only [F138_l0, C138_c0, F138_c0, Sk, ltk, if_pos, if_neg, resl, Nat.add_zero, c27]
    · by_cases e3 : c.toNat = 92
      · refine loopN_inr ?_
        simp (disch := (first | omega | (simp only [List.length_append, List.length_cons, List.length_nil]; omega))) only [F138_l0, C138_c0, F138_c0, Sk, ltk, if_pos, if_neg, resl, Nat.add_zero, c27]
      · cases h1 : blankB c with
        | true =>
         refine loopN_inr ?_
         simp (disch := (first | omega | (simp only [List.length_append, List.length_cons, List.length_nil]; omega))) only [F138_l0, C138_c0, F138_c0, Sk, ltk, if_pos, if_neg, resl, Nat.add_zero, c27, c32, h1]
        | false =>
         cases h2 : mayB c with
         | false =>
          refine loopN_inr ?_
          simp (disch := (first | omega | (simp only [List.length_append, List.length_cons, List.length_nil]; omega))) only [F138_l0, C138_c0, F138_c0, Sk, ltk, if_pos, if_neg, resl, Nat.add_zero, c27, c32, c31, h1, h2]
         | true =>
          rw [loopN_inl (v' := (((q + 1 : Nat) : Int), pre ++ c :: r, (a : Int), bad, err, ())) (by
           simp (disch := (first | omega | (simp only [List.length_append, List.length_cons, List.length_nil]; omega))) only [F138_l0, C138_c0, F138_c0, Sk, c32, c31, h1, h2])]
          have := l24 a bad err r (pre ++ [c]) (q + 1) n (by simp [hq]) (by omega) (by omega) (by omega)
          rw [shift, this, ← resl_push (l := [c]) (n := 1) _ _ _ _ _ _ rfl]
          simp only [ltk, if_neg e1, if_neg e2, if_neg e3, h1, h2, cond_true, cond_false]
theorem ltk_ok : ∀ {r t : List UInt8} {u : Nat}, ltk r = .ok t u → u = t.length + 1 ∧ t.length < r.length ∧ r.take t.length = t
 | [], t, u, h => by simp [ltk] at h
 | c :: r, t, u, h => by
  unfold ltk at h
  split at h
  · cases h; simp
  · split at h
    · cases h
    · split at h
      · cases h
      · cases h1 : blankB c <;> cases h2 : mayB c <;> rw [h1, h2] at h <;> simp only [cond_true, cond_false] at h <;> try (cases h; done)
        cases hr : ltk r with
        | ok t' u' =>
         rw [hr] at h
         cases h
         obtain ⟨i1, i2, i3⟩ := ltk_ok hr
         exact ⟨by simp; omega, by simpa using i2, by simpa using i3⟩
        | bad o e => rw [hr] at h; cases h
        | start => rw [hr] at h; cases h
theorem c24 (pre r : List UInt8) (c : UInt8) (p : Nat) (bad err : Int) (hp : pre.length = p) (hb : p + r.length ≤ 140737488355000) :
 C138 (pre ++ c :: r, (p : Int), bad, err, ()) = some (fin (pre ++ c :: r) p bad err (p + 1) (ltk r)) := by
 show F138 C141 C173 C174 C138_l0 (pre ++ c :: r, (p : Int), bad, err, ()) = _
 have hl := l24 p bad err r (pre ++ [c]) (p + 1) big (by simp [hp]) (by omega) (by unfold big; omega) (by omega)
 rw [← shift] at hl
 have hl' : C138_l0 (((p + 1 : Nat) : Int), pre ++ c :: r, (p : Int), bad, err, ()) = _ := hl
 cases hq : ltk r with
 | ok t u =>
  rw [hq] at hl'
  obtain ⟨i1, i2, i3⟩ := ltk_ok hq
  simp (disch := (first | omega | (simp only [List.length_append, List.length_cons, List.length_nil]; omega))) only [F138, Sk, hl', resl, fin]
  rw [shift, text_eq (by simp [hp]), i3]
 | bad o e => rw [hq] at hl'; simp (disch := (first | omega | (simp only [List.length_append, List.length_cons, List.length_nil]; omega))) only [F138, Sk, hl', resl, fin]
 | start => rw [hq] at hl'; simp (disch := (first | omega | (simp only [List.length_append, List.length_cons, List.length_nil]; omega))) only [F138, Sk, hl', resl, fin, c27]
def nt : Nat → List UInt8 → Tk
 | _, [] => .start
 | deep, c :: r => if c.toNat = 40 then (if deep + 1 > 32 then .bad 0 6 else (nt (deep + 1) r).push [c] 1)
  else if c.toNat = 41 then (if deep = 1 then .ok [] 1 else (nt (deep - 1) r).push [c] 1)
  else if c.toNat = 92 then
   match r with
   | [] => .start
   | d :: r' => bif mayB d then (nt deep r').push [c, d] 2 else .bad 1 4
  else bif mayB c then (nt deep r).push [c] 1 else .bad 0 4
theorem nt_o {deep : Nat} {c : UInt8} {r : List UInt8} (h : c.toNat = 40) : nt deep (c :: r) = if deep + 1 > 32 then .bad 0 6 else (nt (deep + 1) r).push [c] 1 := by cases r <;> simp [nt, h]
theorem nt_c {deep : Nat} {c : UInt8} {r : List UInt8} (h : c.toNat = 41) : nt deep (c :: r) = if deep = 1 then .ok [] 1 else (nt (deep - 1) r).push [c] 1 := by cases r <;> simp [nt, h]
theorem nt_b0 {deep : Nat} {c : UInt8} (h : c.toNat = 92) : nt deep [c] = .start := by simp [nt, h]
theorem nt_b1 {deep : Nat} {c d : UInt8} {r : List UInt8} (h : c.toNat = 92) : nt deep (c :: d :: r) = bif mayB d then (nt deep r).push [c, d] 2 else .bad 1 4 := by simp [nt, h]
theorem nt_m {deep : Nat} {c : UInt8} {r : List UInt8} (h1 : ¬ c.toNat = 40) (h2 : ¬ c.toNat = 41) (h3 : ¬ c.toNat = 92) : nt deep (c :: r) = bif mayB c then (nt deep r).push [c] 1 else .bad 0 4 := by cases r <;> simp [nt, h1, h2, h3]
theorem wrM (n : Nat) (h : n ≤ 9223372036854775806) (h1 : 1 ≤ n) : IntKind.i64.wrap ((n : Int) - 1) = ((n - 1 : Nat) : Int) := by rw [wr] <;> omega
def resn (s : List UInt8) (f : Nat) (a bad err : Int) (q : Nat) : Tk → ((Int × Int × List UInt8 × Int × Int × Int × Unit) ⊕ (Int × Int × List UInt8 × Int × Int × Int × Unit) ⊕ (List UInt8 × List UInt8 × Int × Int × Int × Unit))
 | .ok t u => .inr (.inr (List.drop (f + 1) (List.take (q + t.length) s), s, ((q + u : Nat) : Int), bad, err, ()))
 | .bad off e => .inr (.inl (e, ((q + off : Nat) : Int), s, a, bad, err, ()))
 | .start => .inl ((f : Int), 4, s, a, bad, err, ())
theorem resn_push (s : List UInt8) (f : Nat) (a bad err : Int) (q : Nat) (l : List UInt8) (n : Nat) (hl : l.length = n) (k : Tk) : resn s f a bad err q (k.push l n) = resn s f a bad err (q + n) k := by
 cases k <;> simp [Tk.push, resn, Nat.add_assoc, hl]
theorem l25 (f : Nat) (a bad err : Int) : ∀ (m : Nat) (r pre : List UInt8) (deep q n : Nat), r.length ≤ m → 1 ≤ deep → deep ≤ 32 → pre.length = q → f + 1 ≤ q → r.length < n → q + r.length ≤ 140737488355320 →
 loopN (F139_l0 C141 C173) n ((f : Int), (deep : Int), 4, (q : Int), pre ++ r, a, bad, err, ()) = some (resn (pre ++ r) f a bad err q (nt deep r))
 | _, _, _, _, _, 0, _, _, _, _, _, hn, _ => by omega
 | m, [], pre, deep, q, n + 1, hm, hd, hd2, hq, hf, hn, hb => by
  refine loopN_inr ?_
  simp (disch := (first | omega | (simp only [List.length_append, List.length_cons, List.length_nil]; omega))) only [F139_l0, Sk, List.append_nil, nt, resn]
 | 0, c :: r, pre, deep, q, n + 1, hm, hd, hd2, hq, hf, hn, hb => by simp at hm
 | m + 1, c :: r, pre, deep, q, n + 1, hm, hd, hd2, hq, hf, hn, hb => by
  simp only [List.length_cons] at hn hb hm
  have next : ∀ (d' : Nat), 1 ≤ d' → d' ≤ 32 → F139_l0 C141 C173 ((f : Int), (deep : Int), 4, (q : Int), pre ++ c :: r, a, bad, err, ()) = some (.inl ((f : Int), (d' : Int), 4, ((q + 1 : Nat) : Int), pre ++ c :: r, a, bad, err, ())) →
   loopN (F139_l0 C141 C173) (n + 1) ((f : Int), (deep : Int), 4, (q : Int), pre ++ c :: r, a, bad, err, ()) = some (resn (pre ++ c :: r) f a bad err q ((nt d' r).push [c] 1)) := by
   intro d' h1 h2 h3
   rw [loopN_inl h3, resn_push (l := [c]) (n := 1) _ _ _ _ _ _ rfl]
   have := l25 f a bad err m r (pre ++ [c]) d' (q + 1) n (by omega) h1 h2 (by simp [hq]) (by omega) (by omega) (by omega)
   rw [shift, this]
  by_cases e1 : c.toNat = 40
  · rw [nt_o e1]
    by_cases hdd : deep + 1 > 32
    · rw [if_pos hdd]
      refine loopN_inr ?_
      simp (disch := (first | omega | (simp only [List.length_append, List.length_cons, List.length_nil]; omega))) only [F139_l0, Sk, resn, Nat.add_zero]
    · rw [if_neg hdd]
      refine next (deep + 1) (by omega) (by omega) ?_
      simp (disch := (first | omega | (simp only [List.length_append, List.length_cons, List.length_nil]; omega))) only [F139_l0, Sk]
  · by_cases e2 : c.toNat = 41
    · rw [nt_c e2]
      by_cases hd1 : deep = 1
      · rw [if_pos hd1]
        refine loopN_inr ?_
        subst hd1
        simp (disch := (first | omega | (simp only [List.length_append, List.length_cons, List.length_nil]; omega))) only [F139_l0, Sk, resn, Nat.add_zero, wrM]
      · rw [if_neg hd1]
        refine next (deep - 1) (by omega) (by omega) ?_
        simp (disch := (first | omega | (simp only [List.length_append, List.length_cons, List.length_nil]; omega))) only [F139_l0, Sk, wrM]
    · by_cases e3 : c.toNat = 92
      · match r, hm, hn, hb with
        | [], hm, hn, hb =>
         rw [nt_b0 e3]
         simp only [List.length_nil] at hn hb hm
         rw [loopN_inl (v' := ((f : Int), (deep : Int), 4, ((q + 2 : Nat) : Int), pre ++ [c], a, bad, err, ())) (by
          simp (disch := (first | omega | (simp only [List.length_append, List.length_cons, List.length_nil]; omega))) only [F139_l0, Sk])]
         obtain ⟨n', rfl⟩ : ∃ n', n = n' + 1 := ⟨n - 1, by omega⟩
         refine loopN_inr ?_
         simp (disch := (first | omega | (simp only [List.length_append, List.length_cons, List.length_nil]; omega))) only [F139_l0, Sk, resn]
        | d :: r', hm, hn, hb =>
         simp only [List.length_cons] at hn hb hm
         rw [nt_b1 e3]
         have hg : (pre ++ c :: d :: r').getD (q + 1) 0 = d := by rw [shift]; exact gd (by simp [hq])
         cases h : mayB d with
         | true =>
          rw [loopN_inl (v' := ((f : Int), (deep : Int), 4, ((q + 2 : Nat) : Int), pre ++ c :: d :: r', a, bad, err, ())) (by
           simp (disch := (first | omega | (simp only [List.length_append, List.length_cons, List.length_nil]; omega))) only [F139_l0, Sk, hg, c31, h])]
          have := l25 f a bad err m r' (pre ++ [c, d]) deep (q + 2) n (by omega) hd hd2 (by simp [hq]) (by omega) (by omega) (by omega)
          rw [show pre ++ c :: d :: r' = (pre ++ [c, d]) ++ r' by simp, this, cond_true, resn_push (l := [c, d]) (n := 2) _ _ _ _ _ _ rfl]
         | false =>
          refine loopN_inr ?_
          simp (disch := (first | omega | (simp only [List.length_append, List.length_cons, List.length_nil]; omega))) only [F139_l0, Sk, hg, c31, h, resn]
      · rw [nt_m e1 e2 e3]
        cases h : mayB c with
        | true =>
         refine next deep hd hd2 ?_
         simp (disch := (first | omega | (simp only [List.length_append, List.length_cons, List.length_nil]; omega))) only [F139_l0, Sk, c31, h]
        | false =>
         refine loopN_inr ?_
         simp (disch := (first | omega | (simp only [List.length_append, List.length_cons, List.length_nil]; omega))) only [F139_l0, Sk, c31, h, resn, Nat.add_zero]
theorem push_ok {k : Tk} {l t : List UInt8} {n u : Nat} (h : k.push l n = .ok t u) : ∃ t' u', k = .ok t' u' ∧ t = l ++ t' ∧ u = n + u' := by
 cases k <;> simp [Tk.push] at h
 exact ⟨_, _, rfl, h.1.symm, h.2.symm⟩
theorem nt_ok : ∀ (m : Nat) {r t : List UInt8} {u deep : Nat}, r.length ≤ m → nt deep r = .ok t u → u = t.length + 1 ∧ t.length < r.length ∧ r.take t.length = t
 | _, [], t, u, deep, _, h => by simp [nt] at h
 | 0, c :: r, t, u, deep, hm, h => by simp at hm
 | m + 1, c :: r, t, u, deep, hm, h => by
  simp only [List.length_cons] at hm
  have one : ∀ (d' : Nat), (nt d' r).push [c] 1 = .ok t u → u = t.length + 1 ∧ t.length < (c :: r).length ∧ (c :: r).take t.length = t := by
   intro d' h
   obtain ⟨t', u', h1, rfl, rfl⟩ := push_ok h
   obtain ⟨i1, i2, i3⟩ := nt_ok m (by omega) h1
   exact ⟨by simp; omega, by simpa using i2, by simpa using i3⟩
  by_cases e1 : c.toNat = 40
  · rw [nt_o e1] at h
    split at h
    · cases h
    · exact one _ h
  · by_cases e2 : c.toNat = 41
    · rw [nt_c e2] at h
      split at h
      · cases h; simp
      · exact one _ h
    · by_cases e3 : c.toNat = 92
      · match r, hm, h with
        | [], hm, h => rw [nt_b0 e3] at h; cases h
        | d :: r', hm, h =>
         simp only [List.length_cons] at hm
         rw [nt_b1 e3] at h
         cases hd : mayB d <;> rw [hd] at h
         · cases h
         · obtain ⟨t', u', h1, rfl, rfl⟩ := push_ok h
           obtain ⟨i1, i2, i3⟩ := nt_ok m (by omega) h1
           exact ⟨by simp; omega, by simpa using i2, by simpa using i3⟩
      · rw [nt_m e1 e2 e3] at h
        cases hd : mayB c <;> rw [hd] at h
        · cases h
        · exact one _ h
theorem c25g (k e : Int) (s : List UInt8) (a bad err : Int) : C139_g0 (e, k, s, a, bad, err, ()) = some ([], s, a, k, e, ()) := by
 show loopN _ big _ = _
 rw [show big = 999999999999999999999 + 1 from rfl]
 exact loopN_inr rfl
theorem c25 (pre r : List UInt8) (c : UInt8) (p : Nat) (bad err : Int) (hc : c.toNat = 40) (hp : pre.length = p) (hb : p + r.length ≤ 140737488355000) :
 C139 (pre ++ c :: r, (p : Int), bad, err, ()) = some (fin (pre ++ c :: r) p bad err (p + 1) (nt 1 r)) := by
 show F139 C141 C173 C139_g0 C139_l0 (pre ++ c :: r, (p : Int), bad, err, ()) = _
 have hl := l25 p p bad err r.length r (pre ++ [c]) 1 (p + 1) 999999999999999999999 (Nat.le_refl _) (by omega) (by omega) (by simp [hp]) (by omega) (by omega) (by omega)
 rw [← shift] at hl
 have h0 : C139_l0 ((p : Int), 0, 4, (p : Int), pre ++ c :: r, (p : Int), bad, err, ()) = some (resn (pre ++ c :: r) p p bad err (p + 1) (nt 1 r)) := by
  rw [← hl]
  show loopN _ (999999999999999999999 + 1) _ = _
  refine loopN_inl ?_
  simp (disch := (first | omega | (simp only [List.length_append, List.length_cons, List.length_nil]; omega))) only [F139_l0, Sk]
  rfl
 cases hq : nt 1 r with
 | ok t u =>
  rw [hq] at h0
  obtain ⟨i1, i2, i3⟩ := nt_ok _ (Nat.le_refl _) hq
  simp (disch := (first | omega | (simp only [List.length_append, List.length_cons, List.length_nil]; omega))) only [F139, Sk, h0, resn, fin]
  rw [shift, text_eq (by simp [hp]), i3]
 | bad o e => rw [hq] at h0; simp (disch := (first | omega | (simp only [List.length_append, List.length_cons, List.length_nil]; omega))) only [F139, Sk, h0, resn, fin, c25g]
 | start => rw [hq] at h0; simp (disch := (first | omega | (simp only [List.length_append, List.length_cons, List.length_nil]; omega))) only [F139, Sk, h0, resn, fin, c27]
def g1 (o : Option (Int × Int × Unit)) : Int := match o with | some (n, _, _) => n | none => 0
def g2 (o : Option (Int × Int × Unit)) : Int := match o with | some (_, v, _) => v | none => 0
def ok2 (o : Option (Int × Int × Unit)) : Bool := match o with | some _ => true | none => false
theorem ok2_some {o : Option (Int × Int × Unit)} (h : ok2 o = true) : o = some (g1 o, g2 o, ()) := by
 cases o with
 | none => cases h
 | some x => rfl
def leadN (c : UInt8) : Int := g1 (C121 ((c.toNat : Int), ()))
def leadV (c : UInt8) : Int := g2 (C121 ((c.toNat : Int), ()))
theorem c19k : ((List.range 256).all fun n => (fun c : UInt8 => ok2 (C121 ((c.toNat : Int), ()))) (UInt8.ofNat n)) = true := by kernel_rfl
theorem c19 (c : UInt8) : C121 ((c.toNat : Int), ()) = some (leadN c, leadV c, ()) := ok2_some (all256 (fun c => ok2 (C121 ((c.toNat : Int), ()))) c19k c)
def rngB : Int → Bool
 | .ofNat n => Nat.ble n 3
 | .negSucc n => Nat.beq n 0
theorem lead_k : ((List.range 256).all fun n => (fun c : UInt8 => rngB (leadN c)) (UInt8.ofNat n)) = true := by kernel_rfl
theorem lead_rng (c : UInt8) : leadN c = -1 ∨ 0 ≤ leadN c ∧ leadN c ≤ 3 := by
 have h : rngB (leadN c) = true := all256 (fun c => rngB (leadN c)) lead_k c
 generalize leadN c = x at h
 cases x with
 | ofNat n => have := Nat.le_of_ble_eq_true h; right; simp; omega
 | negSucc n => have := Nat.eq_of_beq_eq_true h; subst this; left; rfl
def lenR (v : Int) : Int := match C122 (v, ()) with | some (n, _) => n | none => 0
theorem c20 (v : Int) : C122 (v, ()) = some (lenR v, ()) := by
 have h : ∃ n, C122 (v, ()) = some (n, ()) := by
  show ∃ n, F122 C155 (v, ()) = some (n, ())
  have h29 : ∃ b, C155 (v, ()) = some (b, ()) := by
   simp only [C155, F155]
   cases decide (v ≥ 0) <;> cases decide (v ≤ 1114111) <;> cases decide (v ≥ 55296) <;> exact ⟨_, rfl⟩
  obtain ⟨b, hb⟩ := h29
  simp only [F122, hb, Option.bind_some]
  cases b <;> cases decide (v ≤ 127) <;> cases decide (v ≤ 2047) <;> cases decide (v ≤ 65535) <;> exact ⟨_, rfl⟩
 obtain ⟨n, hn⟩ := h
 rw [lenR, hn]
def contB (c : UInt8) : Bool := !(intBits BinOp.andNot IntKind.u8 (c.toNat : Int) 63 != 128)
def stepV (v : Int) (c : UInt8) : Int := intBits BinOp.or IntKind.i32 (IntKind.i32.wrap (v * 2 ^ min 6 IntKind.i32.bits)) (IntKind.i32.wrap (intBits BinOp.and IntKind.u8 (c.toNat : Int) 63))
def conts : Nat → List UInt8 → Int → Option Int
 | 0, _, v => some v
 | _ + 1, [], _ => none
 | n + 1, c :: r, v => bif contB c then conts n r (stepV v c) else none
def ch : List UInt8 → Nat
 | [] => 0
 | c :: r => if leadN c < 0 then 0 else if r.length < (leadN c).toNat then 0 else
  match conts (leadN c).toNat r (leadV c) with
  | none => 0
  | some v => if lenR v = leadN c + 1 then (leadN c).toNat + 1 else 0
theorem ch_le : ∀ s, ch s ≤ s.length
 | [] => Nat.le_refl _
 | c :: r => by
  simp only [ch, List.length_cons]
  split
  · omega
  · split
    · omega
    · split
      · omega
      · split <;> omega
def res0 (s : List UInt8) (n a : Int) (out : List Int) : Option Int → (List UInt8 × Int × Int × Int × List Int × Unit) ⊕ (Int × List Int × Unit)
 | some v => .inl (s, n, v, a, out, ())
 | none => .inr (a, out, ())
theorem l150 (a : Nat) (m : Nat) (out : List Int) : ∀ (j : Nat) (r pre : List UInt8) (v : Int) (k n : Nat), pre.length = k → k + j = a + m + 1 → j ≤ r.length → j < n → k + r.length ≤ 140737488355320 → m ≤ 3 →
 loopN (F83_l0 C121 C122) n (pre ++ r, (m : Int), v, (a : Int), (k : Int), out, ()) = some (res0 (pre ++ r) m a out (conts j r v))
 | _, _, _, _, _, 0, _, _, _, hn, _, _ => by omega
 | 0, r, pre, v, k, n + 1, hk, hj, hr, hn, hb, hm => by
  refine loopN_inr ?_
  have h : IntKind.i64.wrap ((a : Int) + (m : Int)) = (a : Int) + m := wr (by omega) (by omega)
  simp (disch := (first | omega | (simp only [List.length_append, List.length_cons, List.length_nil]; omega))) only [F83_l0, h, Sk, conts, res0]
 | j + 1, [], pre, v, k, n + 1, hk, hj, hr, hn, hb, hm => by simp at hr
 | j + 1, c :: r, pre, v, k, n + 1, hk, hj, hr, hn, hb, hm => by
  simp only [List.length_cons] at hr hb
  have h : IntKind.i64.wrap ((a : Int) + (m : Int)) = (a : Int) + m := wr (by omega) (by omega)
  cases hc : contB c with
  | true =>
   have hc' : (intBits BinOp.andNot IntKind.u8 (c.toNat : Int) 63 != 128) = false := by simpa [contB] using hc
   rw [loopN_inl (v' := (pre ++ c :: r, (m : Int), stepV v c, (a : Int), ((k + 1 : Nat) : Int), out, ())) (by
    simp (disch := (first | omega | (simp only [List.length_append, List.length_cons, List.length_nil]; omega))) only [F83_l0, h, Sk, hc']
    rfl)]
   rw [shift, l150 a m out j r (pre ++ [c]) (stepV v c) (k + 1) n (by simp [hk]) (by omega) (by omega) (by omega) (by omega) hm]
   simp only [conts, hc, cond_true]
  | false =>
   have hc' : (intBits BinOp.andNot IntKind.u8 (c.toNat : Int) 63 != 128) = true := by simpa [contB] using hc
   refine loopN_inr ?_
   simp (disch := (first | omega | (simp only [List.length_append, List.length_cons, List.length_nil]; omega))) only [F83_l0, h, Sk, hc', conts, hc, res0]
def ut : Nat → List UInt8 → Nat → Option Nat
 | 0, _, _ => none
 | n + 1, s, p => if s = [] then none else if ch s = 0 then some p else ut n (s.drop (ch s)) (p + ch s)
def r15 (out : List Int) : Option Nat → (List Int × Unit) ⊕ (Int × List Int × Unit)
 | none => .inl (out, ())
 | some b => .inr ((b : Int), out, ())
theorem r151 (c : UInt8) (r pre : List UInt8) (out : List Int) (p : Nat) (hp : pre.length = p) (hb : p + r.length ≤ 140737488355000) (ho : out.length ≤ 1000000000) :
 F83_l1 C121 C122 C83_l0 (pre ++ c :: r, (p : Int), out, ()) = some (if ch (c :: r) = 0 then .inr (.inr ((p : Int), out, ())) else
  .inl (pre ++ c :: r, ((p + ch (c :: r) : Nat) : Int), out ++ [((conts (leadN c).toNat r (leadV c)).getD 0)], ())) := by
 have hrng := lead_rng c
 by_cases h1 : leadN c < 0
 · have : ch (c :: r) = 0 := by simp [ch, h1]
   rw [if_pos this]
   simp (disch := (first | omega | (simp only [List.length_append, List.length_cons, List.length_nil]; omega))) only [F83_l1, Sk, c19]
 · have hw : IntKind.i64.wrap (((pre.length + (r.length + 1) : Nat) : Int) - (p : Int)) = (r.length : Int) + 1 := by rw [wr] <;> omega
   obtain ⟨m, hm⟩ : ∃ m : Nat, leadN c = m := ⟨(leadN c).toNat, by omega⟩
   by_cases h2 : r.length < m
   · have : ch (c :: r) = 0 := by simp [ch, hm, h2]
     rw [if_pos this]
     simp (disch := (first | omega | (simp only [List.length_append, List.length_cons, List.length_nil]; omega))) only [F83_l1, Sk, c19, hw, hm]
   · have hl := l150 p m out m r (pre ++ [c]) (leadV c) (p + 1) big (by simp [hp]) (by omega) (by omega) (by unfold big; omega) (by omega) (by omega)
     rw [← shift] at hl
     have hl' : C83_l0 (pre ++ c :: r, (m : Int), leadV c, (p : Int), ((p + 1 : Nat) : Int), out, ()) = _ := hl
     cases hc : conts m r (leadV c) with
     | none =>
      have : ch (c :: r) = 0 := by simp [ch, hm, h2, hc]
      rw [if_pos this]
      simp (disch := (first | omega | (simp only [List.length_append, List.length_cons, List.length_nil]; omega))) only [F83_l1, Sk, c19, hw, hm, hl', hc, res0]
     | some v =>
      have hw2 : IntKind.i64.wrap ((m : Int) + 1) = (m : Int) + 1 := wr (by omega) (by omega)
      by_cases h3 : lenR v = m + 1
      · have hch : ch (c :: r) = m + 1 := by simp [ch, hm, h2, hc, h3]
        have hw3 : IntKind.i64.wrap ((p : Int) + ((m : Int) + 1)) = ((p + (m + 1) : Nat) : Int) := by rw [wr] <;> omega
        rw [if_neg (by omega), hch]
        simp (disch := (first | omega | (simp only [List.length_append, List.length_cons, List.length_nil]; omega))) only [F83_l1, hw2, hw3, decide_eq_true, decide_eq_false, cond_true, cond_false, Bool.and_self, List.length_append, List.length_cons, List.length_nil, Int.toNat_natCast, inF, gd, Option.bind_some, Sum.elim_inl, wrN, c19, hw, hm, hl', hc, res0, c20, Option.getD_some]
      · have : ch (c :: r) = 0 := by simp [ch, hm, h2, hc, h3]
        rw [if_pos this]
        simp (disch := (first | omega | (simp only [List.length_append, List.length_cons, List.length_nil]; omega))) only [F83_l1, hw2, Sk, c19, hw, hm, hl', hc, res0, c20]
theorem l151 : ∀ (m : Nat) (r pre : List UInt8) (out : List Int) (p n : Nat), r.length ≤ m → pre.length = p → r.length < n → p + r.length ≤ 140737488355000 → out.length + r.length ≤ 1000000000 →
 ∃ o, loopN (F83_l1 C121 C122 C83_l0) n (pre ++ r, (p : Int), out, ()) = some (r15 o (ut n r p))
 | _, _, _, _, _, 0, _, _, hn, _, _ => by omega
 | m, [], pre, out, p, n + 1, hm, hp, hn, hb, ho => by
  refine ⟨out, loopN_inr ?_⟩
  simp (disch := (first | omega | (simp only [List.length_append, List.length_cons, List.length_nil]; omega))) only [F83_l1, Sk, List.append_nil, ut, if_true, r15]
 | 0, c :: r, pre, out, p, n + 1, hm, hp, hn, hb, ho => by simp at hm
 | m + 1, c :: r, pre, out, p, n + 1, hm, hp, hn, hb, ho => by
  simp only [List.length_cons] at hm hn hb ho
  have hr := r151 c r pre out p hp (by omega) (by omega)
  by_cases h : ch (c :: r) = 0
  · rw [if_pos h] at hr
    refine ⟨out, ?_⟩
    rw [loopN_inr hr]
    simp [ut, h, r15]
  · rw [if_neg h] at hr
    have hle := ch_le (c :: r)
    simp only [List.length_cons] at hle
    have hsplit : pre ++ c :: r = (pre ++ (c :: r).take (ch (c :: r))) ++ (c :: r).drop (ch (c :: r)) := by rw [List.append_assoc, List.take_append_drop]
    obtain ⟨o, ho'⟩ := l151 m ((c :: r).drop (ch (c :: r))) (pre ++ (c :: r).take (ch (c :: r))) (out ++ [((conts (leadN c).toNat r (leadV c)).getD 0)]) (p + ch (c :: r)) n (by simp; omega) (by simp [hp]; omega) (by simp; omega) (by simp; omega) (by simp; omega)
    refine ⟨o, ?_⟩
    rw [loopN_inl hr]
    rw [← hsplit] at ho'
    rw [ho']
    simp [ut, h]
def utf (s : List UInt8) : Option Nat := ut big s 0
theorem c15 (s : List UInt8) (hb : s.length ≤ 1000000) : ∃ o, C83 (s, ()) = some (o, (match utf s with | none => -1 | some b => (b : Int)), ()) := by
 obtain ⟨o, h⟩ := l151 s.length s [] [] 0 big (Nat.le_refl _) rfl (by unfold big; omega) (by omega) (by simp; omega)
 have h' : C83_l1 (s, 0, [], ()) = some (r15 o (utf s)) := h
 refine ⟨o, ?_⟩
 show F83 C121 C122 C83_g0 C83_l1 (s, ()) = _
 have hg : ∀ (b : Int) (o : List Int), C83_g0 (b, o, ()) = some (b, o, ()) := by
  intro b o
  show loopN _ big _ = _
  rw [show big = 999999999999999999999 + 1 from rfl]
  exact loopN_inr rfl
 simp only [F83, h', Option.bind_some]
 cases utf s <;> simp [r15, hg]
def Tk.up : Tk → Tk
 | .ok t u => .ok t (1 + u)
 | .bad off e => .bad (1 + off) e
 | .start => .start
def one (c : UInt8) (r : List UInt8) : Int × Tk :=
 if atomB c = true then (0, .ok ((c :: r).take (al (c :: r))) (al (c :: r)))
 else if signB c = true then (2, .ok [c] 1)
 else if c.toNat = 34 then (1, (qt r).up)
 else if c.toNat = 91 then (5, (ltk r).up)
 else if c.toNat = 40 then (3, (nt 1 r).up)
 else if wl (c :: r) = 0 then (4, .start) else (4, .ok ((c :: r).take (wl (c :: r))) (wl (c :: r)))
theorem fin_up (s : List UInt8) (p : Nat) (bad err : Int) (k : Tk) : fin s p bad err (p + 1) k = fin s p bad err p k.up := by
 cases k <;> simp [fin, Tk.up, Nat.add_assoc]
def tkres (s : List UInt8) (p : Nat) (bad err : Int) (x : Int × Tk) : Int × List UInt8 × Int × List UInt8 × Int × Int × Int × Unit :=
 (x.1, (fin s p bad err p x.2).1, (p : Int), (fin s p bad err p x.2).2)
theorem c16 (pre r : List UInt8) (c : UInt8) (p : Nat) (bad err : Int) (hp : pre.length = p) (hb : p + r.length ≤ 140737488354000) :
 C105 (pre ++ c :: r, (p : Int), bad, err, ()) = some (tkres (pre ++ c :: r) p bad err (one c r)) := by
 show F105 C127 C136 C137 C138 C139 C140 C141 C90 C105_c0 (pre ++ c :: r, (p : Int), bad, err, ()) = _
 have h21 := c21 pre (c :: r) p bad err hp (by simp; omega)
 have h26 := c26 pre (c :: r) p bad err hp (by simp; omega)
 have h23 := c23 pre r c p bad err hp (by omega)
 have h24 := c24 pre r c p bad err hp (by omega)
 unfold one
 by_cases h1 : atomB c = true
 · rw [if_pos h1]
   simp (disch := (first | omega | (simp only [List.length_append, List.length_cons, List.length_nil]; omega))) only [F105, C105_c0, F105_c0, Sk, c17, h1, h21, tkres, fin]
 · rw [if_neg h1]
   have h1' : atomB c = false := by simpa using h1
   by_cases h2 : signB c = true
   · rw [if_pos h2]
     have h2' : signI c ≥ 0 := by simpa [signB] using h2
     have ht : List.drop p (List.take (p + 1) (pre ++ c :: r)) = [c] := by rw [text_eq hp]; rfl
     simp (disch := (first | omega | (simp only [List.length_append, List.length_cons, List.length_nil]; omega))) only [F105, C105_c0, F105_c0, Sk, c17, h1', c22s, ht, tkres, fin]
   · rw [if_neg h2]
     have h2' : ¬ signI c ≥ 0 := by simpa [signB] using h2
     by_cases h3 : c.toNat = 34
     · rw [if_pos h3]
       rw [fin_up] at h23
       simp (disch := (first | omega | (simp only [List.length_append, List.length_cons, List.length_nil]; omega))) only [F105, C105_c0, F105_c0, Sk, c17, h1', c22s, h23, tkres]
     · rw [if_neg h3]
       by_cases h4 : c.toNat = 91
       · rw [if_pos h4]
         rw [fin_up] at h24
         simp (disch := (first | omega | (simp only [List.length_append, List.length_cons, List.length_nil]; omega))) only [F105, C105_c0, F105_c0, Sk, c17, h1', c22s, h24, tkres]
       · rw [if_neg h4]
         by_cases h5 : c.toNat = 40
         · rw [if_pos h5]
           have h25 := c25 pre r c p bad err h5 hp (by omega)
           rw [fin_up] at h25
           simp (disch := (first | omega | (simp only [List.length_append, List.length_cons, List.length_nil]; omega))) only [F105, C105_c0, F105_c0, Sk, c17, h1', c22s, h25, tkres]
         · rw [if_neg h5]
           by_cases h6 : wl (c :: r) = 0
           · rw [if_pos h6]
             rw [h6] at h26
             simp (disch := (first | omega | (simp only [List.length_append, List.length_cons, List.length_nil]; omega))) only [F105, C105_c0, F105_c0, Sk, c17, h1', c22s, h26, tkres, fin, List.take_zero, c27, beq_self_eq_true, Nat.add_zero]
           · rw [if_neg h6]
             obtain ⟨w, hw⟩ : ∃ w, wl (c :: r) = w + 1 := ⟨wl (c :: r) - 1, by omega⟩
             have hne : ((c :: r).take (wl (c :: r)) == []) = false := by rw [hw]; rfl
             simp (disch := (first | omega | (simp only [List.length_append, List.length_cons, List.length_nil]; omega))) only [F105, C105_c0, F105_c0, Sk, c17, h1', c22s, h26, tkres, fin, hne]
abbrev Tok := Int × (List UInt8 × Int)
def lx : Nat → List UInt8 → Nat → List Tok ⊕ (Nat × Int)
 | 0, _, _ => .inl []
 | n + 1, s, p => match s with
  | [] => .inl []
  | c :: r => match one c r with
   | (k, .ok t u) => match lx n ((c :: r).drop u) (p + u) with
    | .inl l => .inl ((k, t, (p : Int)) :: l)
    | .inr e => .inr e
   | (_, .bad off e) => .inr (p + off, e)
   | (_, .start) => .inr (p, 4)
theorem qt_used : ∀ (m : Nat) {r t : List UInt8} {u : Nat}, r.length ≤ m → qt r = .ok t u → t.length + 1 ≤ u ∧ u ≤ r.length
 | _, [], t, u, _, h => by simp [qt] at h
 | 0, c :: r, t, u, hm, h => by simp at hm
 | m + 1, c :: r, t, u, hm, h => by
  simp only [List.length_cons] at hm ⊢
  by_cases e1 : c.toNat = 34
  · rw [qt_q e1] at h; cases h; simp
  · by_cases e2 : c.toNat = 92
    · match r, hm, h with
      | [], hm, h => rw [qt_b0 e2] at h; cases h
      | d :: r', hm, h =>
       rw [qt_b1 e2] at h
       cases hd : mayB d <;> rw [hd] at h
       · cases h
       · obtain ⟨t', u', h1, rfl, rfl⟩ := push_ok h
         have := qt_used m (by simp at hm; omega) h1
         simp; omega
    · rw [qt_c e1 e2] at h
      cases hd : mayB c <;> rw [hd] at h
      · cases h
      · obtain ⟨t', u', h1, rfl, rfl⟩ := push_ok h
        have := qt_used m (by omega) h1
        simp; omega
theorem up_ok {k : Tk} {t : List UInt8} {u : Nat} (h : k.up = .ok t u) : ∃ u', k = .ok t u' ∧ u = 1 + u' := by
 cases k <;> simp [Tk.up] at h
 obtain ⟨rfl, rfl⟩ := h
 exact ⟨_, rfl, rfl⟩
theorem al_pos {c : UInt8} {r : List UInt8} (h : atomB c = true) : 1 ≤ al (c :: r) := by simp [al, h]
theorem one_used {c : UInt8} {r t : List UInt8} {k : Int} {u : Nat} (h : one c r = (k, .ok t u)) : 1 ≤ u ∧ u ≤ r.length + 1 := by
 unfold one at h
 split at h
 · rename_i h1
   cases h
   have := al_le (c :: r)
   exact ⟨al_pos h1, by simpa using this⟩
 · split at h
   · cases h; exact ⟨by omega, by omega⟩
   · split at h
     · obtain ⟨u', h1, rfl⟩ := up_ok (Prod.mk.inj h).2
       have := qt_used _ (Nat.le_refl _) h1
       omega
     · split at h
       · obtain ⟨u', h1, rfl⟩ := up_ok (Prod.mk.inj h).2
         have := ltk_ok h1
         omega
       · split at h
         · obtain ⟨u', h1, rfl⟩ := up_ok (Prod.mk.inj h).2
           have := nt_ok _ (Nat.le_refl _) h1
           omega
         · split at h
           · cases h
           · rename_i h6
             cases h
             have := wl_le (c :: r)
             exact ⟨by omega, by simpa using this⟩
def rL11 (out : List Tok) : List Tok ⊕ (Nat × Int) → (List Tok × Unit) ⊕ (Int × Int × Unit)
 | .inl l => .inl (out ++ l, ())
 | .inr (b, e) => .inr ((b : Int), e, ())
def Tk.eok : Tk → Prop
 | .bad _ e => e = 4 ∨ e = 6
 | _ => True
theorem push_eok {k : Tk} {l : List UInt8} {n : Nat} (h : k.eok) : (k.push l n).eok := by cases k <;> first | exact h | exact trivial
theorem up_eok {k : Tk} (h : k.eok) : k.up.eok := by cases k <;> first | exact h | exact trivial
theorem qt_e : ∀ (m : Nat) (r : List UInt8), r.length ≤ m → (qt r).eok
 | _, [], _ => trivial
 | 0, c :: r, hm => by simp at hm
 | m + 1, c :: r, hm => by
  simp only [List.length_cons] at hm
  by_cases e1 : c.toNat = 34
  · rw [qt_q e1]; trivial
  · by_cases e2 : c.toNat = 92
    · match r, hm with
      | [], hm => rw [qt_b0 e2]; trivial
      | d :: r', hm =>
       rw [qt_b1 e2]
       cases mayB d
       · exact .inl rfl
       · exact push_eok (qt_e m r' (by simp at hm; omega))
    · rw [qt_c e1 e2]
      cases mayB c
      · exact .inl rfl
      · exact push_eok (qt_e m r (by omega))
theorem ltk_e : ∀ r : List UInt8, (ltk r).eok
 | [] => trivial
 | c :: r => by
  unfold ltk
  split
  · trivial
  · split
    · exact .inl rfl
    · split
      · exact .inl rfl
      · cases blankB c
        · cases mayB c
          · exact .inl rfl
          · exact push_eok (ltk_e r)
        · exact .inl rfl
theorem nt_e : ∀ (m deep : Nat) (r : List UInt8), r.length ≤ m → (nt deep r).eok
 | _, _, [], _ => by simp [nt, Tk.eok]
 | 0, _, c :: r, hm => by simp at hm
 | m + 1, deep, c :: r, hm => by
  simp only [List.length_cons] at hm
  by_cases e1 : c.toNat = 40
  · rw [nt_o e1]
    split
    · exact .inr rfl
    · exact push_eok (nt_e m _ r (by omega))
  · by_cases e2 : c.toNat = 41
    · rw [nt_c e2]
      split
      · trivial
      · exact push_eok (nt_e m _ r (by omega))
    · by_cases e3 : c.toNat = 92
      · match r, hm with
        | [], hm => rw [nt_b0 e3]; trivial
        | d :: r', hm =>
         rw [nt_b1 e3]
         cases mayB d
         · exact .inl rfl
         · exact push_eok (nt_e m _ r' (by simp at hm; omega))
      · rw [nt_m e1 e2 e3]
        cases mayB c
        · exact .inl rfl
        · exact push_eok (nt_e m _ r (by omega))
theorem one_e (c : UInt8) (r : List UInt8) : (one c r).2.eok := by
 unfold one
 split
 · trivial
 · split
   · trivial
   · split
     · exact up_eok (qt_e _ r (Nat.le_refl _))
     · split
       · exact up_eok (ltk_e r)
       · split
         · exact up_eok (nt_e _ _ r (Nat.le_refl _))
         · split <;> trivial
theorem l11 (s : List UInt8) : ∀ (m : Nat) (r pre : List UInt8) (out : List Tok) (bad : Int) (p n : Nat), r.length ≤ m → s = pre ++ r → pre.length = p → r.length < n → p + r.length ≤ 100000 → out.length + r.length ≤ 100000 →
 loopN (F67_l0 C105 C83) n (s, out, s, (p : Int), bad, 0, ()) = some (rL11 out (lx m r p))
 | _, _, _, _, _, _, 0, _, _, _, hn, _, _ => by omega
 | 0, [], pre, out, bad, p, n + 1, hm, hs, hp, hn, hb, ho => by
  refine loopN_inr ?_
  have : s.length = p := by rw [hs]; simp [hp]
  simp (disch := (first | omega | (simp only [List.length_append, List.length_cons, List.length_nil]; omega))) only [F67_l0, this, Sk, lx, rL11, List.append_nil]
 | m + 1, [], pre, out, bad, p, n + 1, hm, hs, hp, hn, hb, ho => by
  refine loopN_inr ?_
  have : s.length = p := by rw [hs]; simp [hp]
  simp (disch := (first | omega | (simp only [List.length_append, List.length_cons, List.length_nil]; omega))) only [F67_l0, this, Sk, lx, rL11, List.append_nil]
 | 0, c :: r, pre, out, bad, p, n + 1, hm, hs, hp, hn, hb, ho => by simp at hm
 | m + 1, c :: r, pre, out, bad, p, n + 1, hm, hs, hp, hn, hb, ho => by
  simp only [List.length_cons] at hm hn hb ho
  have h16 := c16 pre r c p bad 0 hp (by omega)
  have he := one_e c r
  rw [← hs] at h16
  have hl : s.length = p + (r.length + 1) := by rw [hs]; simp [hp]
  cases h1 : one c r with
  | mk k tk =>
   rw [h1] at h16 he
   cases tk with
   | ok t u =>
    have hu := one_used h1
    rw [loopN_inl (v' := (s, out ++ [(k, t, (p : Int))], s, ((p + u : Nat) : Int), bad, 0, ())) (by
     simp (disch := (first | omega | (simp only [List.length_append, List.length_cons, List.length_nil]; omega))) only [F67_l0, hl, Sk, h16, tkres, fin])]
    have := l11 s m ((c :: r).drop u) (pre ++ (c :: r).take u) (out ++ [(k, t, (p : Int))]) bad (p + u) n (by simp; omega) (by rw [hs, List.append_assoc, List.take_append_drop]) (by simp [hp]; omega) (by simp; omega) (by simp; omega) (by simp; omega)
    rw [this]
    simp only [lx, h1]
    cases lx m ((c :: r).drop u) (p + u) with
    | inl l => simp [rL11]
    | inr e => rfl
   | bad off e =>
    have he' : e = 4 ∨ e = 6 := he
    refine loopN_inr ?_
    simp (disch := (first | omega | (simp only [List.length_append, List.length_cons, List.length_nil]; omega))) only [F67_l0, hl, Sk, h16, tkres, fin, lx, h1, rL11]
   | start =>
    refine loopN_inr ?_
    simp (disch := (first | omega | (simp only [List.length_append, List.length_cons, List.length_nil]; omega))) only [F67_l0, hl, Sk, h16, tkres, fin, lx, h1, rL11]
theorem lx_fuel : ∀ (n m : Nat) (s : List UInt8) (p : Nat), s.length ≤ n → s.length ≤ m → lx n s p = lx m s p
 | 0, 0, _, _, _, _ => rfl
 | 0, m + 1, [], p, _, _ => rfl
 | n + 1, 0, [], p, _, _ => rfl
 | n + 1, m + 1, [], p, _, _ => rfl
 | 0, _, c :: r, p, h, _ => by simp at h
 | n + 1, 0, c :: r, p, _, h => by simp at h
 | n + 1, m + 1, c :: r, p, h, h' => by
  simp only [List.length_cons] at h h'
  simp only [lx]
  cases h1 : one c r with
  | mk k tk =>
   cases tk with
   | ok t u =>
    have hu := one_used h1
    simp only
    rw [lx_fuel n m ((c :: r).drop u) (p + u) (by simp; omega) (by simp; omega)]
   | bad off e => rfl
   | start => rfl
def lexs (s : List UInt8) (p : Nat) : List Tok ⊕ (Nat × Int) := lx s.length s p
theorem lexs_nil (p : Nat) : lexs [] p = .inl [] := rfl
theorem lexs_cons (c : UInt8) (r : List UInt8) (p : Nat) : lexs (c :: r) p = match one c r with
 | (k, .ok t u) => (match lexs ((c :: r).drop u) (p + u) with
  | .inl l => .inl ((k, t, (p : Int)) :: l)
  | .inr e => .inr e)
 | (_, .bad off e) => .inr (p + off, e)
 | (_, .start) => .inr (p, 4) := by
 unfold lexs
 simp only [List.length_cons, lx]
 cases h1 : one c r with
 | mk k tk =>
  cases tk with
  | ok t u =>
   have hu := one_used h1
   simp only
   rw [lx_fuel r.length ((c :: r).drop u).length ((c :: r).drop u) (p + u) (by simp; omega) (Nat.le_refl _)]
  | bad off e => rfl
  | start => rfl
def cons1 (x : Tok) : List Tok ⊕ (Nat × Int) → List Tok ⊕ (Nat × Int)
 | .inl l => .inl (x :: l)
 | .inr e => .inr e
theorem lexs_ok {c : UInt8} {r t : List UInt8} {k : Int} {u : Nat} (h : one c r = (k, .ok t u)) (p : Nat) : lexs (c :: r) p = cons1 (k, t, (p : Int)) (lexs ((c :: r).drop u) (p + u)) := by
 rw [lexs_cons, h]; rfl
theorem lexs_bad {c : UInt8} {r : List UInt8} {k e : Int} {off : Nat} (h : one c r = (k, .bad off e)) (p : Nat) : lexs (c :: r) p = .inr (p + off, e) := by
 rw [lexs_cons, h]
theorem lexs_start {c : UInt8} {r : List UInt8} {k : Int} (h : one c r = (k, .start)) (p : Nat) : lexs (c :: r) p = .inr (p, 4) := by
 rw [lexs_cons, h]
def end1 : List Tok ⊕ (Nat × Int) → List Tok × Int × Int
 | .inl l => (l, 0, 0)
 | .inr x => ([], (x.1 : Int), x.2)
def end2 : Option Nat → List Tok ⊕ (Nat × Int) → List Tok × Int × Int
 | some b, _ => ([], (b : Int), 7)
 | none, x => end1 x
def lexR (s : List UInt8) : List Tok × Int × Int := if 2000 < s.length then ([], 0, 5) else end2 (utf s) (lexs s 0)
theorem c11 (s : List UInt8) : C67 (s, ()) = some ((lexR s).1, (lexR s).2.1, (lexR s).2.2, ()) := by
 show F67 C105 C83 C67_l0 (s, ()) = _
 unfold lexR
 by_cases h : 2000 < s.length
 · simp only [if_pos h]
   simp (disch := (first | omega | (simp only [List.length_append, List.length_cons, List.length_nil]; omega))) only [F67, Sk]
 · simp only [if_neg h]
   obtain ⟨o, h15⟩ := c15 s (by omega)
   cases hu : utf s with
   | some b =>
    rw [hu] at h15
    simp only at h15
    simp (disch := (first | omega | (simp only [List.length_append, List.length_cons, List.length_nil]; omega))) only [F67, Sk, h15, end2]
   | none =>
    rw [hu] at h15
    have hl := l11 s s.length s [] [] 0 0 big (Nat.le_refl _) (by simp) rfl (by unfold big; omega) (by omega) (by simp; omega)
    have hl' : C67_l0 (s, [], s, 0, 0, 0, ()) = some (rL11 [] (lexs s 0)) := hl
    simp (disch := (first | omega | (simp only [List.length_append, List.length_cons, List.length_nil]; omega))) only [F67, Sk, h15, hl']
    cases lexs s 0 with
    | inl l => simp [rL11, end2, end1]
    | inr x => obtain ⟨b, e⟩ := x; simp [rL11, end2, end1]
theorem ltk_end : ∀ {r t : List UInt8} {u : Nat}, ltk r = .ok t u → u = t.length + 1 ∧ ∃ x, r = t ++ 93 :: x
 | [], t, u, h => by simp [ltk] at h
 | c :: r, t, u, h => by
  unfold ltk at h
  split at h
  · rename_i hc
    cases h
    exact ⟨rfl, r, by rw [u8_eq hc]; rfl⟩
  · split at h
    · cases h
    · split at h
      · cases h
      · cases h1 : blankB c <;> cases h2 : mayB c <;> rw [h1, h2] at h <;> simp only [cond_true, cond_false] at h <;> try (cases h; done)
        obtain ⟨t', u', h3, rfl, rfl⟩ := push_ok h
        obtain ⟨i1, x, i2⟩ := ltk_end h3
        exact ⟨by simp; omega, x, by rw [i2]; simp⟩
theorem nt_end : ∀ (m : Nat) {r t : List UInt8} {u deep : Nat}, r.length ≤ m → nt deep r = .ok t u → u = t.length + 1 ∧ ∃ x, r = t ++ 41 :: x
 | _, [], t, u, deep, _, h => by simp [nt] at h
 | 0, c :: r, t, u, deep, hm, h => by simp at hm
 | m + 1, c :: r, t, u, deep, hm, h => by
  simp only [List.length_cons] at hm
  have one : ∀ (d' : Nat), (nt d' r).push [c] 1 = .ok t u → u = t.length + 1 ∧ ∃ x, c :: r = t ++ 41 :: x := by
   intro d' h
   obtain ⟨t', u', h1, rfl, rfl⟩ := push_ok h
   obtain ⟨i1, x, i2⟩ := nt_end m (by omega) h1
   exact ⟨by simp; omega, x, by rw [i2]; simp⟩
  by_cases e1 : c.toNat = 40
  · rw [nt_o e1] at h
    split at h
    · cases h
    · exact one _ h
  · by_cases e2 : c.toNat = 41
    · rw [nt_c e2] at h
      split at h
      · cases h; exact ⟨rfl, r, by rw [u8_eq e2]; rfl⟩
      · exact one _ h
    · by_cases e3 : c.toNat = 92
      · match r, hm, h with
        | [], hm, h => rw [nt_b0 e3] at h; cases h
        | d :: r', hm, h =>
         simp only [List.length_cons] at hm
         rw [nt_b1 e3] at h
         cases hd : mayB d <;> rw [hd] at h
         · cases h
         · obtain ⟨t', u', h1, rfl, rfl⟩ := push_ok h
           obtain ⟨i1, x, i2⟩ := nt_end m (by omega) h1
           exact ⟨by simp; omega, x, by rw [i2]; simp⟩
      · rw [nt_m e1 e2 e3] at h
        cases hd : mayB c <;> rw [hd] at h
        · cases h
        · exact one _ h
theorem one_src {c : UInt8} {r t : List UInt8} {k : Int} {u : Nat} (h : one c r = (k, .ok t u)) : (k ≠ 1 → src k t = (c :: r).take u) ∧ (k = 1 → c = 34 ∧ t.length + 2 ≤ u) := by
 unfold one at h
 split at h
 · cases h; exact ⟨fun _ => by simp [src], fun h => by cases h⟩
 · split at h
   · cases h; exact ⟨fun _ => by simp [src], fun h => by cases h⟩
   · split at h
     · rename_i hc
       obtain ⟨u', h1, rfl⟩ := up_ok (Prod.mk.inj h).2
       have hk := (Prod.mk.inj h).1
       have := qt_used _ (Nat.le_refl _) h1
       exact ⟨fun hk' => absurd hk.symm hk', fun _ => ⟨u8_eq hc, by omega⟩⟩
     · split at h
       · rename_i hc
         obtain ⟨u', h1, rfl⟩ := up_ok (Prod.mk.inj h).2
         obtain ⟨i1, x, i2⟩ := ltk_end h1
         have hk := (Prod.mk.inj h).1
         subst hk
         refine ⟨fun _ => ?_, fun h => by cases h⟩
         rw [i2, i1, u8_eq hc]
         simp [src, Nat.add_comm 1, List.take_append, List.take_of_length_le]
       · split at h
         · rename_i hc
           obtain ⟨u', h1, rfl⟩ := up_ok (Prod.mk.inj h).2
           obtain ⟨i1, x, i2⟩ := nt_end _ (Nat.le_refl _) h1
           have hk := (Prod.mk.inj h).1
           subst hk
           refine ⟨fun _ => ?_, fun h => by cases h⟩
           rw [i2, i1, u8_eq hc]
           simp [src, Nat.add_comm 1, List.take_append, List.take_of_length_le]
         · split at h
           · cases h
           · cases h; exact ⟨fun _ => by simp [src], fun h => by cases h⟩
theorem one_text_len {c : UInt8} {r t : List UInt8} {k : Int} {u : Nat} (h : one c r = (k, .ok t u)) : t.length ≤ u := by
 obtain ⟨h1, h2⟩ := one_src h
 have hu := one_used h
 by_cases hk : k = 1
 · have := (h2 hk).2; omega
 · have := h1 hk
   have hl : t.length ≤ (src k t).length := by
    unfold src; split
    · rename_i h; exact absurd h hk
    · split
      · simp; omega
      · split
        · simp; omega
        · omega
   rw [this] at hl
   simp only [List.length_take, List.length_cons] at hl
   omega
theorem cons1_inl {x : Tok} {y : List Tok ⊕ (Nat × Int)} {l : List Tok} (h : cons1 x y = .inl l) : ∃ l', y = .inl l' ∧ l = x :: l' := by cases y <;> simp [cons1] at h; exact ⟨_, rfl, h.symm⟩
theorem lexs_inl {c : UInt8} {r : List UInt8} {p : Nat} {l : List Tok} (h : lexs (c :: r) p = .inl l) : ∃ k t u l', one c r = (k, .ok t u) ∧ lexs ((c :: r).drop u) (p + u) = .inl l' ∧ l = (k, t, (p : Int)) :: l' := by
 cases h1 : one c r with
 | mk k tk =>
  cases tk with
  | ok t u =>
   rw [lexs_ok h1] at h
   obtain ⟨l', h2, h3⟩ := cons1_inl h
   exact ⟨k, t, u, l', rfl, h2, h3⟩
  | bad off e => rw [lexs_bad h1] at h; cases h
  | start => rw [lexs_start h1] at h; cases h
def asciiB (c : UInt8) : Bool := decide (c.toNat < 128)
theorem asc_k : ((List.range 256).all fun n => (fun c : UInt8 => !asciiB c || (decide (leadN c = 0) && decide (lenR (leadV c) = 1))) (UInt8.ofNat n)) = true := by kernel_rfl
theorem ch_asc {c : UInt8} (h : c.toNat < 128) (r : List UInt8) : ch (c :: r) = 1 := by
 have h1 : (!asciiB c || (decide (leadN c = 0) && decide (lenR (leadV c) = 1))) = true := all256 (fun c : UInt8 => !asciiB c || (decide (leadN c = 0) && decide (lenR (leadV c) = 1))) asc_k c
 have h2 : asciiB c = true := by simp [asciiB, h]
 simp only [h2, Bool.not_true, Bool.false_or, Bool.and_eq_true, decide_eq_true_eq] at h1
 simp [ch, h1.1, conts, h1.2]
def srcs (l : List Tok) : List UInt8 := l.flatMap fun x => src x.1 x.2.1
def stops (p : UInt8 → Bool) : List UInt8 → Prop
 | [] => True
 | b :: _ => p b = false
theorem srcs_len : ∀ (m : Nat) (s : List UInt8) (p : Nat) (l : List Tok), s.length ≤ m → lexs s p = .inl l → (srcs l).length ≤ 2 * s.length ∧ (∀ x ∈ l, x.2.1.length ≤ s.length) ∧ ((∀ x ∈ l, x.1 ≠ 1) → srcs l = s)
 | _, [], p, l, _, h => by rw [lexs_nil] at h; cases h; simp [srcs]
 | 0, c :: r, p, l, hm, h => by simp at hm
 | m + 1, c :: r, p, l, hm, h => by
  obtain ⟨k, t, u, l', h1, h2, rfl⟩ := lexs_inl h
  have hu := one_used h1
  obtain ⟨i1, i2, i3⟩ := srcs_len m ((c :: r).drop u) (p + u) l' (by simp at hm ⊢; omega) h2
  obtain ⟨f1, f2⟩ := one_src h1
  have ht := one_text_len h1
  have hs : srcs ((k, t, (p : Int)) :: l') = src k t ++ srcs l' := rfl
  simp only [List.length_drop, List.length_cons] at i1 i2 ⊢
  refine ⟨?_, fun x hx => ?_, fun hq => ?_⟩
  · rw [hs, List.length_append]
    by_cases hk : k = 1
    · have := (f2 hk).2
      have he := esc_len t
      have : (src k t).length = (esc t).length + 2 := by simp [src, hk]
      omega
    · rw [f1 hk, List.length_take, List.length_cons]; omega
  · rcases List.mem_cons.1 hx with rfl | hx
    · simp only; omega
    · have := i2 x hx; omega
  · rw [hs, f1 (hq (k, t, (p : Int)) (by simp)), i3 fun x hx => hq x (by simp [hx]), List.take_append_drop]
inductive Val : List UInt8 → Prop
 | nil : Val []
 | cons (s : List UInt8) (h : ch s ≠ 0) (h2 : Val (s.drop (ch s))) : Val s
def contK (c : UInt8) : Bool := !contB c || decide (128 ≤ c.toNat)
theorem cont_k : ((List.range 256).all fun n => contK (UInt8.ofNat n)) = true := by kernel_rfl
theorem cont_hi {c : UInt8} (h : contB c = true) : 128 ≤ c.toNat := by
 have := all256 contK cont_k c
 simpa [contK, h] using this
theorem conts_hi : ∀ (n : Nat) (r : List UInt8) (v v' : Int), conts n r v = some v' → n ≤ r.length ∧ ∀ c ∈ r.take n, 128 ≤ c.toNat
 | 0, r, v, v', _ => ⟨by omega, by simp⟩
 | n + 1, [], v, v', h => by simp [conts] at h
 | n + 1, c :: r, v, v', h => by
  cases hc : contB c with
  | true =>
   simp only [conts, hc, cond_true] at h
   obtain ⟨h1, h2⟩ := conts_hi n r _ _ h
   refine ⟨by simp; omega, fun x hx => ?_⟩
   rw [List.take_succ_cons] at hx
   rcases List.mem_cons.1 hx with rfl | hx
   · exact cont_hi hc
   · exact h2 x hx
  | false => simp [conts, hc] at h
theorem conts_app : ∀ (n : Nat) (r x : List UInt8) (v : Int), n ≤ r.length → conts n (r ++ x) v = conts n r v
 | 0, r, x, v, _ => by cases r <;> rfl
 | n + 1, [], x, v, h => by simp at h
 | n + 1, c :: r, x, v, h => by
  simp only [List.cons_append, conts]
  cases contB c
  · rfl
  · exact conts_app n r x _ (by simpa using h)
theorem ch_some {c : UInt8} {r : List UInt8} (h : ch (c :: r) ≠ 0) : ∃ v, ¬ leadN c < 0 ∧ ¬ r.length < (leadN c).toNat ∧ conts (leadN c).toNat r (leadV c) = some v ∧ lenR v = leadN c + 1 ∧ ch (c :: r) = (leadN c).toNat + 1 := by
 simp only [ch] at h
 split at h
 · exact absurd rfl h
 · rename_i h1
   split at h
   · exact absurd rfl h
   · rename_i h2
     split at h
     · exact absurd rfl h
     · rename_i v hv
       split at h
       · rename_i h3
         exact ⟨v, h1, h2, hv, h3, by simp [ch, h1, h2, hv, h3]⟩
       · exact absurd rfl h
theorem ch_unapp {s x : List UInt8} (h : ch (s ++ x) ≠ 0) (hl : ch (s ++ x) ≤ s.length) : ch s = ch (s ++ x) := by
 cases s with
 | nil => simp at hl; exact absurd hl h
 | cons c r =>
  obtain ⟨v, h1, h2, h3, h4, h5⟩ := ch_some (r := r ++ x) h
  have h5' : ch (c :: r ++ x) = (leadN c).toNat + 1 := h5
  rw [h5'] at hl ⊢
  simp only [List.length_cons] at hl
  rw [conts_app _ _ _ _ (by omega)] at h3
  simp only [ch, if_neg h1, if_neg (show ¬ r.length < (leadN c).toNat by omega), h3, if_pos h4]
theorem Val.one {c : UInt8} (h : c.toNat < 128) : Val [c] := .cons _ (by rw [ch_asc h]; simp) (by rw [ch_asc h]; exact .nil)
theorem Val.split : ∀ (m : Nat) (a : List UInt8) (c : UInt8) (b : List UInt8), a.length ≤ m → c.toNat < 128 → Val (a ++ c :: b) → Val a ∧ Val b
 | m, [], c, b, _, hc, h => by
  refine ⟨.nil, ?_⟩
  cases h with
  | cons _ h h2 => simpa [ch_asc hc] using h2
 | 0, d :: a, c, b, hm, hc, h => by simp at hm
 | m + 1, d :: a, c, b, hm, hc, h => by
  cases h with
  | cons _ h0 h2 =>
   have hk : ch (d :: a ++ c :: b) ≤ (d :: a).length := by
    by_cases hd : d.toNat < 128
    · have : ch (d :: a ++ c :: b) = 1 := ch_asc hd _
      rw [this]; simp
    · obtain ⟨v, g1, g2, g3, g4, g5⟩ := ch_some (r := a ++ c :: b) h0
      have g5' : ch (d :: a ++ c :: b) = (leadN d).toNat + 1 := g5
      rw [g5', List.length_cons]
      obtain ⟨e1, e2⟩ := conts_hi _ _ _ _ g3
      rcases Nat.lt_or_ge a.length (leadN d).toNat with hlt | hge
      · exfalso
        have : c ∈ (a ++ c :: b).take (leadN d).toNat := by
         rw [List.take_append]
         obtain ⟨j, hj⟩ : ∃ j, (leadN d).toNat - a.length = j + 1 := ⟨(leadN d).toNat - a.length - 1, by omega⟩
         rw [hj, List.take_succ_cons]; simp
        have := e2 c this
        omega
      · omega
   have hsame := ch_unapp (s := d :: a) (x := c :: b) h0 hk
   have h0' : ch (d :: a) ≠ 0 := by rw [hsame]; exact h0
   rw [List.drop_append, show ch (d :: a ++ c :: b) - (d :: a).length = 0 by omega, List.drop_zero, ← hsame] at h2
   obtain ⟨i1, i2⟩ := Val.split m ((d :: a).drop (ch (d :: a))) c b (by simp at hm ⊢; omega) hc h2
   exact ⟨.cons _ h0' i1, i2⟩
theorem Val.cut {a b : List UInt8} {c : UInt8} (hc : c.toNat < 128) (h : Val (a ++ c :: b)) : Val a ∧ Val b := Val.split _ a c b (Nat.le_refl _) hc h
def kd (d : Nat) (l : List Tok) : Int := match l[d]? with | some t => t.1 | none => -1
theorem gdk {pre l : List Tok} {p d : Nat} (hp : pre.length = p) {x : Tok} : (pre ++ l).getD (p + d) x = l.getD d x := by
 subst hp
 simp [List.getD_eq_getElem?_getD, List.getElem?_append_right]
theorem c146 (d : Nat) (pre l : List Tok) (p : Nat) (a b : List UInt8) (hp : pre.length = p) (hb : p + d + l.length ≤ 1000000000) :
 C146 ((d : Int), pre ++ l, (p : Int), a, b, ()) = some (kd d l, pre ++ l, (p : Int), a, b, ()) := by
 show F146 C146_c0 _ = _
 have hw : IntKind.i64.wrap ((p : Int) + (d : Int)) = ((p + d : Nat) : Int) := by rw [wr (by omega) (by omega)]; simp
 have hlen : (pre ++ l).length = p + l.length := by simp [hp]
 simp only [F146, hw, hlen]
 by_cases h : l.length ≤ d
 · rw [decide_eq_true (by omega)]
   simp only [cond_true, kd, List.getElem?_eq_none h]
 · rw [decide_eq_false (by omega)]
   simp only [cond_false, C146_c0, F146_c0, hw, hlen]
   rw [decide_eq_true (by omega), decide_eq_true (by omega)]
   simp only [Bool.and_self, cond_true, Int.toNat_natCast, Option.bind_some]
   rw [gdk hp]
   simp only [kd, List.getElem?_eq_getElem (show d < l.length by omega), getD_lt (show d < l.length by omega)]
def skn : List Tok → Nat
 | [] => 0
 | t :: r => bif t.1 == 4 || t.1 == 3 then skn r + 1 else 0
theorem skn_le : ∀ l, skn l ≤ l.length
 | [] => Nat.le_refl _
 | t :: r => by have := skn_le r; simp only [skn]; cases (t.1 == 4 || t.1 == 3) <;> simp; omega
theorem kd0_cons (t : Tok) (r : List Tok) : kd 0 (t :: r) = t.1 := rfl
theorem l109 (a b : List UInt8) : ∀ (l pre : List Tok) (p n : Nat), pre.length = p → l.length < n → p + l.length ≤ 100000000 →
 loopN (F109_l0 C146) n (pre ++ l, (p : Int), a, b, ()) = some (pre ++ l, ((p + skn l : Nat) : Int), a, b, ())
 | [], pre, p, n + 1, hp, hn, hb => by
  have h := c146 0 pre [] p a b hp (by simp at hb ⊢; omega)
  refine loopN_inr ?_
  simp only [F109_l0, Int.natCast_zero] at h ⊢
  simp only [h, Option.bind_some, show kd 0 ([] : List Tok) = -1 from rfl, ibF (show (-1 : Int) ≠ 4 by decide), ibF (show (-1 : Int) ≠ 3 by decide), cond_false, skn, Nat.add_zero]
 | t :: l, pre, p, n + 1, hp, hn, hb => by
  simp only [List.length_cons] at hn hb
  have h := c146 0 pre (t :: l) p a b hp (by simp only [List.length_cons]; omega)
  simp only [Int.natCast_zero, kd0_cons] at h
  have hw := wrN p (by omega)
  by_cases h4 : t.1 = 4
  · rw [loopN_inl (v' := (pre ++ t :: l, ((p + 1 : Nat) : Int), a, b, ())) (by simp only [F109_l0, h, Option.bind_some, ibT h4, cond_true, hw])]
    rw [shift, l109 a b l (pre ++ [t]) (p + 1) n (by simp [hp]) (by omega) (by omega)]
    simp only [skn, ibT h4, Bool.true_or, cond_true, Nat.add_assoc, Nat.add_comm 1]
  · by_cases h3 : t.1 = 3
    · rw [loopN_inl (v' := (pre ++ t :: l, ((p + 1 : Nat) : Int), a, b, ())) (by simp only [F109_l0, h, Option.bind_some, ibF h4, ibT h3, cond_true, cond_false, hw])]
      rw [shift, l109 a b l (pre ++ [t]) (p + 1) n (by simp [hp]) (by omega) (by omega)]
      simp only [skn, ibT h3, Bool.or_true, cond_true, Nat.add_assoc, Nat.add_comm 1]
    · refine loopN_inr ?_
      simp only [F109_l0, h, Option.bind_some, ibF h4, ibF h3, cond_false, skn, Bool.or_self, Nat.add_zero]
theorem c109 (pre l : List Tok) (p : Nat) (a b : List UInt8) (hp : pre.length = p) (hb : p + l.length ≤ 100000000) :
 C109 (pre ++ l, (p : Int), a, b, ()) = some (true, pre ++ l, ((p + skn l : Nat) : Int), a, b, ()) := by
 show F109 C146 C109_l0 _ = _
 have hl : C109_l0 (pre ++ l, (p : Int), a, b, ()) = _ := l109 a b l pre p big hp (by unfold big; omega) hb
 simp only [F109, hl, Option.bind_some]
def sgn (s : List UInt8) : List Tok → Bool
 | t :: _ => t.1 == 2 && t.2.1 == s
 | [] => false
theorem c148 (s : List UInt8) (pre l : List Tok) (p : Nat) (a b : List UInt8) (hp : pre.length = p) (hb : p + l.length ≤ 100000000) :
 C148 (s, pre ++ l, (p : Int), a, b, ()) = some (sgn s l, pre ++ l, (p : Int), a, b, ()) := by
 show F148 C146 _ = _
 have h := c146 0 pre l p a b hp (by omega)
 simp only [Int.natCast_zero] at h
 have hlen : (pre ++ l).length = p + l.length := by simp [hp]
 cases l with
 | nil => simp only [F148, h, Option.bind_some, show kd 0 ([] : List Tok) = -1 from rfl, ibF (show (-1 : Int) ≠ 2 by decide), cond_false, sgn]
 | cons t r =>
  simp only [List.length_cons] at hlen hb
  simp only [F148, h, Option.bind_some, kd0_cons]
  by_cases h2 : t.1 = 2
  · simp only [ibT h2, cond_true, hlen, sgn, Bool.true_and]
    rw [decide_eq_true (by omega), decide_eq_true (by omega)]
    simp only [Bool.and_self, cond_true, Int.toNat_natCast, gd hp]
  · simp only [ibF h2, cond_false, sgn, Bool.false_and]
def szT : List Tok → Nat
 | [] => 0
 | t :: r => t.2.1.length + szT r
def dwn (acc : List UInt8) : List Tok → List UInt8 × Nat
 | t :: u :: r => bif (t.1 == 2 && t.2.1 == [46]) && u.1 == 0 then ((dwn (acc ++ ([46] ++ u.2.1)) r).1, (dwn (acc ++ ([46] ++ u.2.1)) r).2 + 2) else (acc, 0)
 | _ => (acc, 0)
theorem l147 (a b : List UInt8) : ∀ (m : Nat) (l pre : List Tok) (acc : List UInt8) (p n : Nat), l.length ≤ m → pre.length = p → l.length < n → p + l.length ≤ 100000000 → acc.length + szT l + l.length ≤ 100000000 →
 loopN (F147_l0 C146 C148) n (acc, pre ++ l, (p : Int), a, b, ()) = some ((dwn acc l).1, pre ++ l, ((p + (dwn acc l).2 : Nat) : Int), a, b, ())
 | m, l, pre, acc, p, n + 1, hm, hp, hn, hb, hz => by
  have h := c148 [46] pre l p a b hp hb
  have hlen : (pre ++ l).length = p + l.length := by simp [hp]
  have hw := wrN p (by omega)
  have h1 := c146 1 pre l p a b hp (by omega)
  simp only [Int.natCast_one] at h1
  match l, hm, hn, hb, hz, h, hlen, h1 with
  | [], hm, hn, hb, hz, h, hlen, h1 =>
   refine loopN_inr ?_
   simp only [F147_l0, h, Option.bind_some, sgn, cond_false, dwn, Nat.add_zero]
  | [t], hm, hn, hb, hz, h, hlen, h1 =>
   refine loopN_inr ?_
   simp only [F147_l0, h, Option.bind_some, sgn]
   cases hs : (t.1 == 2 && t.2.1 == [46]) with
   | false => simp only [cond_false, dwn, Nat.add_zero]
   | true => simp only [cond_true, h1, Option.bind_some, show kd 1 [t] = -1 from rfl, ibF (show (-1 : Int) ≠ 0 by decide), cond_false, dwn, Nat.add_zero]
  | t :: u :: r, hm, hn, hb, hz, h, hlen, h1 =>
   simp only [List.length_cons, szT] at hm hn hb hz hlen
   cases hs : (t.1 == 2 && t.2.1 == [46]) with
   | false =>
    refine loopN_inr ?_
    simp only [F147_l0, h, Option.bind_some, sgn, hs, cond_false, dwn, Bool.false_and, Nat.add_zero]
   | true =>
    by_cases hu : u.1 = 0
    · have hgd : (pre ++ t :: u :: r).getD (p + 1) ((0, ([], 0)) : Tok) = u := by rw [gdk hp]; rfl
      rw [loopN_inl (v' := (acc ++ ([46] ++ u.2.1), pre ++ t :: u :: r, ((p + 2 : Nat) : Int), a, b, ())) ?_]
      · rw [show pre ++ t :: u :: r = (pre ++ [t, u]) ++ r by simp]
        rw [l147 a b (m - 2) r (pre ++ [t, u]) _ (p + 2) n (by omega) (by simp [hp]) (by omega) (by omega) (by simp only [List.length_append, List.length_cons, List.length_nil]; omega)]
        simp only [dwn, hs, ibT hu, Bool.and_self, cond_true]
        rw [show p + 2 + (dwn (acc ++ ([46] ++ u.2.1)) r).2 = p + ((dwn (acc ++ ([46] ++ u.2.1)) r).2 + 2) by omega]
      · simp only [F147_l0, h, Option.bind_some, sgn, hs, cond_true, h1, show kd 1 (t :: u :: r) = u.1 from rfl, ibT hu, hw, hlen, Int.toNat_natCast, hgd]
        rw [decide_eq_true (by omega), decide_eq_true (by omega), decide_eq_true (by simp only [List.length_cons, List.length_nil]; omega), decide_eq_true (by simp only [List.length_append, List.length_cons, List.length_nil]; omega)]
        simp only [Bool.and_self, cond_true]
        rw [show IntKind.i64.wrap ((p : Int) + 2) = ((p + 2 : Nat) : Int) by rw [wr (by omega) (by omega)]; simp]
    · refine loopN_inr ?_
      simp only [F147_l0, h, Option.bind_some, sgn, hs, cond_true, h1, show kd 1 (t :: u :: r) = u.1 from rfl, ibF hu, cond_false, dwn, Bool.and_false, Nat.add_zero]
def dot : List Tok → List UInt8 × Bool × Nat
 | t :: r => bif t.1 == 0 then ((dwn t.2.1 r).1, true, (dwn t.2.1 r).2 + 1) else ([], false, 0)
 | [] => ([], false, 0)
theorem c147 (pre l : List Tok) (p : Nat) (a b : List UInt8) (hp : pre.length = p) (hb : p + l.length ≤ 100000000) (hz : szT l + l.length ≤ 100000000) :
 C147 (pre ++ l, (p : Int), a, b, ()) = some ((dot l).1, (dot l).2.1, pre ++ l, ((p + (dot l).2.2 : Nat) : Int), a, b, ()) := by
 show F147 C146 C148 C147_c0 _ = _
 have h := c146 0 pre l p a b hp (by omega)
 simp only [Int.natCast_zero] at h
 have hlen : (pre ++ l).length = p + l.length := by simp [hp]
 have hw := wrN p (by omega)
 cases l with
 | nil => simp only [F147, h, Option.bind_some, show kd 0 ([] : List Tok) = -1 from rfl, inT (show (-1 : Int) ≠ 0 by decide), cond_true, dot, Nat.add_zero]
 | cons t r =>
  simp only [List.length_cons, szT] at hlen hb hz
  simp only [F147, h, Option.bind_some, kd0_cons]
  by_cases h0 : t.1 = 0
  · have hl : C147_l0 (t.2.1, (pre ++ [t]) ++ r, ((p + 1 : Nat) : Int), a, b, ()) = _ := l147 a b r.length r (pre ++ [t]) t.2.1 (p + 1) big (Nat.le_refl _) (by simp [hp]) (by unfold big; omega) (by omega) (by omega)
    rw [← shift] at hl
    simp only [inF h0, cond_false, hlen, Int.toNat_natCast, gd hp]
    rw [decide_eq_true (by omega), decide_eq_true (by omega)]
    simp only [Bool.and_self, cond_true, C147_c0, F147_c0, hw, hl, Option.bind_some, dot, ibT h0]
    rw [show p + 1 + (dwn t.2.1 r).2 = p + ((dwn t.2.1 r).2 + 1) by omega]
  · simp only [inT h0, cond_true, dot, ibF h0, cond_false, Nat.add_zero]
def loc : List Tok → Bool × List UInt8 × Nat
 | t :: r => bif t.1 == 1 then (true, t.2.1, 1) else ((dot (t :: r)).2.1, (dot (t :: r)).1, (dot (t :: r)).2.2)
 | [] => (false, [], 0)
theorem c110 (pre l : List Tok) (p : Nat) (a b : List UInt8) (hp : pre.length = p) (hb : p + l.length ≤ 100000000) (hz : szT l + l.length ≤ 100000000) :
 C110 (pre ++ l, (p : Int), a, b, ()) = some ((loc l).1, pre ++ l, ((p + (loc l).2.2 : Nat) : Int), (loc l).2.1, b, ()) := by
 show F110 C146 C147 C110_c0 _ = _
 have h := c146 0 pre l p a b hp (by omega)
 have hd := c147 pre l p a b hp hb hz
 simp only [Int.natCast_zero] at h
 have hlen : (pre ++ l).length = p + l.length := by simp [hp]
 have hw := wrN p (by omega)
 cases l with
 | nil => simp only [F110, h, Option.bind_some, show kd 0 ([] : List Tok) = -1 from rfl, ibF (show (-1 : Int) ≠ 1 by decide), cond_false, hd, dot, loc, Nat.add_zero]
 | cons t r =>
  simp only [List.length_cons] at hlen hb
  simp only [F110, h, Option.bind_some, kd0_cons]
  by_cases h1 : t.1 = 1
  · simp only [ibT h1, cond_true, hlen, Int.toNat_natCast, gd hp]
    rw [decide_eq_true (by omega), decide_eq_true (by omega)]
    simp only [Bool.and_self, cond_true, C110_c0, F110_c0, hw, Option.bind_some, loc, ibT h1]
  · simp only [ibF h1, cond_false, hd, Option.bind_some, loc]
theorem c111 (pre l : List Tok) (p : Nat) (a b : List UInt8) (hp : pre.length = p) (hb : p + l.length ≤ 100000000) :
 C111 (pre ++ l, (p : Int), a, b, ()) = some (sgn [64] l, pre ++ l, ((p + 1 : Nat) : Int), a, b, ()) := by
 show F111 C148 _ = _
 simp only [F111, c148 [64] pre l p a b hp hb, Option.bind_some, wrN p (show p ≤ 9223372036854775806 by omega)]
def dom : List Tok → Bool × List UInt8 × Nat
 | t :: r => bif t.1 == 5 then (true, src t.1 t.2.1, 1) else ((dot (t :: r)).2.1, (dot (t :: r)).1, (dot (t :: r)).2.2)
 | [] => (false, [], 0)
theorem c112 (pre l : List Tok) (p : Nat) (a b : List UInt8) (hp : pre.length = p) (hb : p + l.length ≤ 100000000) (hz : szT l + l.length ≤ 3000) :
 C112 (pre ++ l, (p : Int), a, b, ()) = some ((dom l).1, pre ++ l, ((p + (dom l).2.2 : Nat) : Int), a, (dom l).2.1, ()) := by
 show F112 C146 C147 C89 C112_c0 _ = _
 have h := c146 0 pre l p a b hp (by omega)
 have hd := c147 pre l p a b hp hb (by omega)
 simp only [Int.natCast_zero] at h
 have hlen : (pre ++ l).length = p + l.length := by simp [hp]
 have hw := wrN p (by omega)
 cases l with
 | nil => simp only [F112, h, Option.bind_some, show kd 0 ([] : List Tok) = -1 from rfl, ibF (show (-1 : Int) ≠ 5 by decide), cond_false, hd, dot, dom, Nat.add_zero]
 | cons t r =>
  simp only [List.length_cons, szT] at hlen hb hz
  simp only [F112, h, Option.bind_some, kd0_cons]
  by_cases h1 : t.1 = 5
  · simp only [ibT h1, cond_true, hlen, Int.toNat_natCast, gd hp]
    rw [decide_eq_true (by omega), decide_eq_true (by omega), c9 t.1 t.2.1 t.2.2 (by omega)]
    simp only [Bool.and_self, cond_true, C112_c0, F112_c0, hw, Option.bind_some, dom, ibT h1]
  · simp only [ibF h1, cond_false, hd, Option.bind_some, dom]
theorem szT_drop : ∀ (p : Nat) (l : List Tok), szT (l.drop p) ≤ szT l
 | 0, l => Nat.le_refl _
 | p + 1, [] => Nat.le_refl _
 | p + 1, t :: r => Nat.le_trans (szT_drop p r) (by simp only [szT]; omega)
theorem o109 (l : List Tok) (p : Nat) (a b : List UInt8) (hp : p ≤ l.length) (hb : l.length ≤ 3000) :
 C109 (l, (p : Int), a, b, ()) = some (true, l, ((p + skn (l.drop p) : Nat) : Int), a, b, ()) := by
 have h := c109 (l.take p) (l.drop p) p a b (by simp; omega) (by simp; omega)
 rwa [List.take_append_drop] at h
theorem o110 (l : List Tok) (p : Nat) (a b : List UInt8) (hp : p ≤ l.length) (hb : szT l + l.length ≤ 3000) :
 C110 (l, (p : Int), a, b, ()) = some ((loc (l.drop p)).1, l, ((p + (loc (l.drop p)).2.2 : Nat) : Int), (loc (l.drop p)).2.1, b, ()) := by
 have hs := szT_drop p l
 have h := c110 (l.take p) (l.drop p) p a b (by simp; omega) (by simp; omega) (by simp; omega)
 rwa [List.take_append_drop] at h
theorem o111 (l : List Tok) (p : Nat) (a b : List UInt8) (hp : p ≤ l.length) (hb : l.length ≤ 3000) :
 C111 (l, (p : Int), a, b, ()) = some (sgn [64] (l.drop p), l, ((p + 1 : Nat) : Int), a, b, ()) := by
 have h := c111 (l.take p) (l.drop p) p a b (by simp; omega) (by simp; omega)
 rwa [List.take_append_drop] at h
theorem o112 (l : List Tok) (p : Nat) (a b : List UInt8) (hp : p ≤ l.length) (hb : szT l + l.length ≤ 3000) :
 C112 (l, (p : Int), a, b, ()) = some ((dom (l.drop p)).1, l, ((p + (dom (l.drop p)).2.2 : Nat) : Int), a, (dom (l.drop p)).2.1, ()) := by
 have hs := szT_drop p l
 have h := c112 (l.take p) (l.drop p) p a b (by simp; omega) (by simp; omega) (by simp; omega)
 rwa [List.take_append_drop] at h
theorem dwn_le : ∀ (m : Nat) (l : List Tok) (acc : List UInt8), l.length ≤ m → (dwn acc l).2 ≤ l.length
 | _, [], _, _ => Nat.le_refl _
 | _, [_], _, _ => Nat.zero_le _
 | 0, _ :: _ :: _, _, h => by simp at h
 | m + 1, t :: u :: r, acc, h => by
  have := dwn_le m r (acc ++ ([46] ++ u.2.1)) (by simp at h; omega)
  simp only [dwn]
  cases ((t.1 == 2 && t.2.1 == [46]) && u.1 == 0) with
  | true => simp only [cond_true, List.length_cons]; omega
  | false => simp only [cond_false]; omega
theorem dot_le (l : List Tok) : (dot l).2.2 ≤ l.length := by
 cases l with
 | nil => exact Nat.le_refl _
 | cons t r =>
  have := dwn_le r.length r t.2.1 (Nat.le_refl _)
  simp only [dot]
  cases (t.1 == 0) with
  | true => simp only [cond_true, List.length_cons]; omega
  | false => simp only [cond_false]; omega
theorem loc_le (l : List Tok) : (loc l).2.2 ≤ l.length := by
 cases l with
 | nil => exact Nat.le_refl _
 | cons t r =>
  have := dot_le (t :: r)
  simp only [loc]
  cases (t.1 == 1) with
  | true => simp
  | false => simpa using this
theorem dom_le (l : List Tok) : (dom l).2.2 ≤ l.length := by
 cases l with
 | nil => exact Nat.le_refl _
 | cons t r =>
  have := dot_le (t :: r)
  simp only [dom]
  cases (t.1 == 5) with
  | true => simp
  | false => simpa using this
def mt (l : List Tok) : Option (List UInt8 × List UInt8 × Nat) :=
 let n1 := skn l
 let n2 := n1 + (loc (l.drop n1)).2.2
 let n3 := n2 + skn (l.drop n2)
 let n5 := n3 + 1 + skn (l.drop (n3 + 1))
 let n6 := n5 + (dom (l.drop n5)).2.2
 bif !(loc (l.drop n1)).1 then none else bif !sgn [64] (l.drop n3) then none else bif !(dom (l.drop n5)).1 then none else
 some ((loc (l.drop n1)).2.1, (dom (l.drop n5)).2.1, n6 + skn (l.drop n6))
theorem sgn_pos {s : List UInt8} {l : List Tok} (h : sgn s l = true) : 1 ≤ l.length := by
 cases l with
 | nil => cases h
 | cons t r => simp
theorem c71 (l : List Tok) (hb : szT l + l.length ≤ 3000) :
 C71 (l, ()) = some (match mt l with | some r => (r.1, r.2.1, (r.2.2 : Int), true, ()) | none => ([], [], 0, false, ())) := by
 show F71 C109 C110 C111 C112 _ = _
 have h1 := o109 l 0 [] [] (Nat.zero_le _) (by omega)
 simp only [Int.natCast_zero, List.drop_zero, Nat.zero_add] at h1
 have b1 := skn_le l
 have h2 := o110 l (skn l) [] [] b1 hb
 have b2 := loc_le (l.drop (skn l))
 rw [List.length_drop] at b2
 simp only [F71, h1, h2, Option.bind_some, Bool.not_true, cond_false, mt]
 cases hl : (loc (l.drop (skn l))).1 with
 | false => simp only [Bool.not_false, cond_true]
 | true =>
  simp only [Bool.not_true, cond_false]
  generalize hn2 : skn l + (loc (l.drop (skn l))).2.2 = n2
  have b3 : n2 ≤ l.length := by omega
  generalize (loc (l.drop (skn l))).2.1 = A
  rw [o109 l n2 A [] b3 (by omega)]
  have b4 := skn_le (l.drop n2)
  rw [List.length_drop] at b4
  simp only [Option.bind_some, Bool.not_true, cond_false]
  generalize hn3 : n2 + skn (l.drop n2) = n3
  rw [o111 l n3 A [] (by omega) (by omega)]
  simp only [Option.bind_some]
  cases hs : sgn [64] (l.drop n3) with
  | false => simp only [Bool.not_false, cond_true]
  | true =>
   have b5 := sgn_pos hs
   rw [List.length_drop] at b5
   simp only [Bool.not_true, cond_false]
   rw [o109 l (n3 + 1) A [] (by omega) (by omega)]
   have b6 := skn_le (l.drop (n3 + 1))
   rw [List.length_drop] at b6
   simp only [Option.bind_some, Bool.not_true, cond_false]
   generalize hn5 : n3 + 1 + skn (l.drop (n3 + 1)) = n5
   rw [o112 l n5 A [] (by omega) hb]
   have b7 := dom_le (l.drop n5)
   rw [List.length_drop] at b7
   simp only [Option.bind_some]
   cases hd : (dom (l.drop n5)).1 with
   | false => simp only [Bool.not_false, cond_true]
   | true =>
    simp only [Bool.not_true, cond_false]
    rw [o109 l _ A _ (by omega) (by omega)]
    simp only [Option.bind_some, Bool.not_true, cond_false]
abbrev T64 := Int × Unit → Option (Int × Unit)
def E64 (f : T64) : FEnt := ⟨Li23, Lo291, f⟩
def F64 : T64 := fun (x0, _) =>
 bif decide (x0 ≥ 65) then
 bif decide (x0 ≤ 90) then some (IntKind.u8.wrap (IntKind.u8.wrap (x0 - 65) + 97), ())
 else some (x0, ())
 else some (x0, ())
def C64 : T64 := F64
theorem ok64 : FO 64 (E64 C64) := zq0 Li23 Lo291 KqZ F64 kn Tryz.func64
abbrev T63_l0 := LqS × Int × Int × LqS × Unit → Option (LqS × Unit)
def E63_l0 (f : T63_l0) : LEnt := ⟨Li294, Lo295, f⟩
abbrev T63 := LqS × Unit → Option (LqS × Unit)
def E63 (f : T63) : FEnt := ⟨Li292, Lo293, f⟩
def K63 (f64 : T64) := lk [(64, E64 f64)]
theorem kok63 : KOk Tryz.prog (K63 C64) := (kc ok64 kn)
def F63_l0 (f64 : T64) : LpF (LqS × Int × Int × LqS × Unit) (LqS × Unit) := fun (x0, x1, x2, x3, _) =>
 bif decide (x2 < x1) then
 bif decide (0 ≤ x2) && decide (x2 < (↑x0.length : Int)) then
 (f64 ((↑(UInt8.toNat (x0.getD x2.toNat 0)) : Int), ())).bind fun v =>
 bif decide (x3.length + [UInt8.ofNat (Int.toNat v.1)].length ≤ 140737488355328 / 1) then
 some (Sum.inl (x0, x1, IntKind.i64.wrap (x2 + 1), x3 ++ [UInt8.ofNat (Int.toNat v.1)], ()))
 else none
 else none
 else some (Sum.inr (x3, ()))
def C63_l0 : T63_l0 := loopN (F63_l0 C64) big
theorem k63_l0 : LpOk 0 (subc (code Tryz.f63) [1, 1, 0, 1, 0, 0]) (E63_l0 C63_l0) := zl1 Li294 Lo295 K63 F63_l0 C64 kok63
def N63 (f63_l0 : T63_l0) : Ann := (.seq .nil (.seq .nil (.seq (.seq .nil (.blk (.loop (E63_l0 f63_l0)))) .nil)))
def F63 (f64 : T64) (f63_l0 : T63_l0) : T63 := fun (x0, _) =>
 (f63_l0 (x0, (↑x0.length : Int), 0, [], ())).bind fun v => some (v.1, ())
def C63 : T63 := F63 C64 C63_l0
theorem ok63 : FO 63 (E63 C63) := zq1_1 Li292 Lo293 K63 N63 F63 C64 C63_l0 kok63 Tryz.func63 (And.intro k63_l0 trivial)
abbrev T25 := LqS × Unit → Option (LqS × Unit)
def E25 (f : T25) : FEnt := ⟨Li30, Lo16, f⟩
def K25 (f63 : T63) := lk [(63, E63 f63)]
def F25 (f63 : T63) : T25 := fun (x0, _) =>
 bif decide (x0.length ≤ 9223372036854775807) then (f63 (x0, ())).bind fun v => some (v.1, ()) else none
def C25 : T25 := F25 C63
theorem ok25 : FO 25 (E25 C25) := zq1 Li30 Lo16 K25 F25 C63 (kc ok63 kn) Tryz.func25
abbrev T59 := Bool × LqS × LqS × Unit → Option (Bool × Unit)
def E59 (f : T59) : FEnt := ⟨Li296, Lo29, f⟩
def K59 (f25 : T25) := lk [(25, E25 f25)]
def F59 (f25 : T25) : T59 := fun (x0, x1, x2, _) =>
 bif !x0 then
 bif x2 == [] then
 (f25 (x1, ())).bind fun v =>
 some (v.1 == [112, 111, 115, 116, 109, 97, 115, 116, 101, 114], ())
 else some (false, ())
 else some (false, ())
def C59 : T59 := F59 C25
theorem ok59 : FO 59 (E59 C59) := zq1 Li296 Lo29 K59 F59 C25 (kc ok25 kn) Tryz.func59
abbrev T40_c0 := LqA × LqB × LqC × Bool × LqS × LqS × Bool × LqS × LqS × Unit → Option (Int × Bool × LqS × LqS × Unit)
def E40_c0 (f : T40_c0) : LEnt := ⟨Li298, Lo299, f⟩
abbrev T40_c1 := Int × LqD × Int × LqA × LqB × LqC × Bool × LqS × LqS × Bool × LqS × LqS × Unit → Option ((Int × Bool × LqS × LqS × Unit) ⊕ (Int × Bool × LqS × LqS × Unit))
def E40_c1 (f : T40_c1) : LEnt := ⟨Li300, Lo301, f⟩
abbrev T40_c2 := Int × LqD × Int × LqA × LqB × LqC × Bool × LqS × LqS × Bool × LqS × LqS × Unit → Option ((Int × Bool × LqS × LqS × Unit) ⊕ (Int × Bool × LqS × LqS × Unit))
def E40_c2 (f : T40_c2) : LEnt := ⟨Li300, Lo302, f⟩
abbrev T40_g0 := Int × Bool × LqS × LqS × Unit → Option (Int × Bool × LqS × LqS × Unit)
def E40_g0 (f : T40_g0) : LEnt := ⟨Li303, Lo299, f⟩
abbrev T40 := LqA × LqB × LqC × LqS × Unit → Option (Bool × LqS × LqS × Int × Unit)
def E40 (f : T40) : FEnt := ⟨Li17, Lo297, f⟩
def K40 (f44 : T44) (f59 : T59) (f67 : T67) (f71 : T71) (f79 : T79) (f80 : T80) := lk [(44, E44 f44), (59, E59 f59), (67, E67 f67), (71, E71 f71), (79, E79 f79), (80, E80 f80)]
theorem kok40 : KOk Tryz.prog (K40 C44 C59 C67 C71 C79 C80) := (kc ok44 (kc ok59 (kc ok67 (kc ok71 (kc ok79 (kc ok80 kn))))))
def F40_c0 (f44 : T44) (f59 : T59) (f67 : T67) (f71 : T71) (f79 : T79) (f80 : T80) : T40_c0 := fun (x0, x1, x2, x3, x4, x5, x6, x7, x8, _) =>
 (f44 (x0, x1, x2, x7, x8, ())).bind fun v =>
 bif v.1 == 0 then some (0, x6, x7, x8, ()) else some (v.1, false, [], [], ())
theorem h40_c0 (f44 : T44) (f59 : T59) (f67 : T67) (f71 : T71) (f79 : T79) (f80 : T80) : AqC (K40 f44 f59 f67 f71 f79 f80) 0 (subc (code Tryz.f40) [1, 0, 1, 1, 1, 1, 1, 1, 1, 1, 1, 1, 1]) .nil Li298 Lo299 (F40_c0 f44 f59 f67 f71 f79 f80) := fun v => by kernel_rfl
def C40_c0 : T40_c0 := F40_c0 C44 C59 C67 C71 C79 C80
theorem k40_c0 : CdOk 0 (subc (code Tryz.f40) [1, 0, 1, 1, 1, 1, 1, 1, 1, 1, 1, 1, 1]) (E40_c0 C40_c0) :=
 frc kok40 (h40_c0 C44 C59 C67 C71 C79 C80)
def N40_c1 (f40_c0 : T40_c0) : Ann := (.cut .nil (E40_c0 f40_c0))
def F40_c1 (f44 : T44) (f59 : T59) (f67 : T67) (f71 : T71) (f79 : T79) (f80 : T80) (f40_c0 : T40_c0) : T40_c1 := fun (x0, x1, x2, x3, x4, x5, x6, x7, x8, x9, x10, x11, _) =>
 bif decide (0 ≤ x0) && decide (x0 ≤ (↑x1.length : Int)) then
 bif decide (1 ≤ x0) then
 (f71 (List.drop 1 (List.take x0.toNat x1), ())).bind fun v =>
 bif !v.2.2.2.1 then some (Sum.inl (x2, x6, x7, x8, ()))
 else
 bif v.2.2.1 != IntKind.i64.wrap (x0 - 1) then some (Sum.inl (x2, x6, x7, x8, ()))
 else
 (f40_c0 (x3, x4, x5, x6, x7, x8, x9, v.1, v.2.1, ())).bind fun v =>
 some (Sum.inr (v.1, v.2.1, v.2.2.1, v.2.2.2.1, ()))
 else none
 else none
theorem h40_c1 (f44 : T44) (f59 : T59) (f67 : T67) (f71 : T71) (f79 : T79) (f80 : T80) (f40_c0 : T40_c0) : AqC (K40 f44 f59 f67 f71 f79 f80) 0 (subc (code Tryz.f40) [1, 0, 1, 1, 1, 1, 1, 1, 1, 1, 1, 1]) (N40_c1 f40_c0) Li300 Lo301 (F40_c1 f44 f59 f67 f71 f79 f80 f40_c0) := fun v => by kernel_rfl
def C40_c1 : T40_c1 := F40_c1 C44 C59 C67 C71 C79 C80 C40_c0
theorem k40_c1 : CdOk 0 (subc (code Tryz.f40) [1, 0, 1, 1, 1, 1, 1, 1, 1, 1, 1, 1]) (E40_c1 C40_c1) :=
 frd kok40 (And.intro k40_c0 trivial) (h40_c1 C44 C59 C67 C71 C79 C80 C40_c0)
def N40_c2 (f40_c1 : T40_c1) : Ann := (.seq .nil (.seq .nil (.cut .nil (E40_c1 f40_c1))))
def F40_c2 (f44 : T44) (f59 : T59) (f67 : T67) (f71 : T71) (f79 : T79) (f80 : T80) (f40_c1 : T40_c1) : T40_c2 := fun (x0, x1, x2, x3, x4, x5, x6, x7, x8, x9, x10, x11, _) =>
 bif x0 == 1 then some (Sum.inl (0, true, [], [], ()))
 else
 bif decide (1 < (↑x1.length : Int)) then
 bif x0 == 2 then
 bif decide (1 < (↑x1.length : Int)) then
 bif (x1.getD 1 (0, ([], 0))).1 == 0 then
 (f59
 (x9,
 (x1.getD 1 (0, ([], 0))).2.1,
 x11, ())).bind
 fun v =>
 bif v.1 then
 some
 (Sum.inl
 (0, x9,
 (x1.getD 1 (0, ([], 0))).2.1,
 x11, ()))
 else
 (f40_c1
 (x0, x1, x2, x3, x4, x5, x6, x7, x8, x9,
 (x1.getD 1
 (0, ([], 0))).2.1,
 x11, ())).bind
 fun v =>
 Sum.elim
 (fun v => some (Sum.inr (v.1, v.2.1, v.2.2.1, v.2.2.2.1, ())))
 (fun v => some (Sum.inl (v.1, v.2.1, v.2.2.1, v.2.2.2.1, ())))
 v
 else
 (f40_c1
 (x0, x1, x2, x3, x4, x5, x6, x7, x8, x9,
 (x1.getD 1 (0, ([], 0))).2.1,
 x11, ())).bind
 fun v =>
 Sum.elim
 (fun v => some (Sum.inr (v.1, v.2.1, v.2.2.1, v.2.2.2.1, ())))
 (fun v => some (Sum.inl (v.1, v.2.1, v.2.2.1, v.2.2.2.1, ()))) v
 else none
 else
 (f40_c1
 (x0, x1, x2, x3, x4, x5, x6, x7, x8, x9,
 (x1.getD 1 (0, ([], 0))).2.1, x11,
 ())).bind
 fun v =>
 Sum.elim (fun v => some (Sum.inr (v.1, v.2.1, v.2.2.1, v.2.2.2.1, ())))
 (fun v => some (Sum.inl (v.1, v.2.1, v.2.2.1, v.2.2.2.1, ()))) v
 else none
theorem h40_c2 (f44 : T44) (f59 : T59) (f67 : T67) (f71 : T71) (f79 : T79) (f80 : T80) (f40_c1 : T40_c1) : AqC (K40 f44 f59 f67 f71 f79 f80) 0 (subc (code Tryz.f40) [1, 0, 1, 1, 1, 1, 1, 1, 1]) (N40_c2 f40_c1) Li300 Lo302 (F40_c2 f44 f59 f67 f71 f79 f80 f40_c1) := fun v => by kernel_rfl
def C40_c2 : T40_c2 := F40_c2 C44 C59 C67 C71 C79 C80 C40_c1
theorem k40_c2 : CdOk 0 (subc (code Tryz.f40) [1, 0, 1, 1, 1, 1, 1, 1, 1]) (E40_c2 C40_c2) :=
 frd kok40 (And.intro k40_c1 trivial) (h40_c2 C44 C59 C67 C71 C79 C80 C40_c1)
def F40_g0 (f44 : T44) (f59 : T59) (f67 : T67) (f71 : T71) (f79 : T79) (f80 : T80) : LpF (Int × Bool × LqS × LqS × Unit) (Int × Bool × LqS × LqS × Unit) := fun (x0, x1, x2, x3, _) =>
 some (Sum.inr (x0, false, [], [], ()))
theorem h40_g0 (f44 : T44) (f59 : T59) (f67 : T67) (f71 : T71) (f79 : T79) (f80 : T80) (v : HS Li303) : aev Γ (K40 f44 f59 f67 f71 f79 f80) 0 ((findLabel (subc (code Tryz.f40) [1, 0]) 0).getD .skip) .nil (stof Li303 v) (aroundL 0 0 [] Li303 Lo299) = F40_g0 f44 f59 f67 f71 f79 f80 v := by kernel_rfl
def C40_g0 : T40_g0 := loopN (F40_g0 C44 C59 C67 C71 C79 C80) big
theorem k40_g0 : FragOk Tryz.prog 0 (ScopeFrom Tryz.prog (subc (code Tryz.f40) [1, 0]) 0) (E40_g0 C40_g0) :=
 frag_big (ins := Li303) (os := Lo299) (C := C40_g0) (frag_label (ins := Li303) (os := Lo299) (n := .nil) (ls := []) (F := F40_g0 C44 C59 C67 C71 C79 C80) (rest := ((findLabel (subc (code Tryz.f40) [1, 0]) 0).getD .skip)) hm hΓ kok40 (fun _ => big) (by kernel_rfl) (ann_nil _) find_nil (h40_g0 C44 C59 C67 C71 C79 C80)) rfl
def N40 (f40_c2 : T40_c2) (f40_g0 : T40_g0) : Ann := (.seq .nil (.scope (.seq .nil (.seq .nil (.seq .nil (.seq .nil (.seq .nil (.seq .nil (.cut .nil (E40_c2 f40_c2)))))))) [(0, (E40_g0 f40_g0))]))
def F40 (f44 : T44) (f59 : T59) (f67 : T67) (f71 : T71) (f79 : T79) (f80 : T80) (f40_c2 : T40_c2) (f40_g0 : T40_g0) : T40 := fun (x0, x1, x2, x3, _) =>
 (f67 (x3, ())).bind fun v =>
 bif v.2.2.1 != 0 then
 (f40_g0 (v.2.2.1, false, [], [], ())).bind fun v =>
 some (v.2.1, v.2.2.1, v.2.2.2.1, v.1, ())
 else
 bif decide (IntKind.i64.wrap ((↑(List.length v.1) : Int) - 1) < 1) then
 (f40_g0 (4, false, [], [], ())).bind fun v =>
 some (v.2.1, v.2.2.1, v.2.2.2.1, v.1, ())
 else
 bif decide (0 < (↑(List.length v.1) : Int)) then
 (f79
 ((List.getD v.1 0
 (0, ([], 0))).1,
 (List.getD v.1 0
 (0, ([], 0))).2.1,
 (List.getD v.1 0
 (0, ([], 0))).2.2,
 [60], ())).bind
 fun v1 =>
 bif !v1.1 then
 (f40_g0 (4, false, [], [], ())).bind fun v =>
 some (v.2.1, v.2.2.1, v.2.2.2.1, v.1, ())
 else
 bif
 decide (0 ≤ IntKind.i64.wrap ((↑(List.length v.1) : Int) - 1)) &&
 decide (IntKind.i64.wrap ((↑(List.length v.1) : Int) - 1) < (↑(List.length v.1) : Int)) then
 (f79
 ((List.getD v.1 (IntKind.i64.wrap ((↑(List.length v.1) : Int) - 1)).toNat
 (0, ([], 0))).1,
 (List.getD v.1 (IntKind.i64.wrap ((↑(List.length v.1) : Int) - 1)).toNat
 (0, ([], 0))).2.1,
 (List.getD v.1 (IntKind.i64.wrap ((↑(List.length v.1) : Int) - 1)).toNat
 (0, ([], 0))).2.2,
 [62], ())).bind
 fun v2 =>
 bif !v2.1 then
 (f40_g0 (4, false, [], [], ())).bind fun v =>
 some (v.2.1, v.2.2.1, v.2.2.2.1, v.1, ())
 else
 bif
 decide (0 ≤ IntKind.i64.wrap ((↑(List.length v.1) : Int) - 1)) &&
 decide
 (IntKind.i64.wrap ((↑(List.length v.1) : Int) - 1) ≤ (↑(List.length v.1) : Int)) then
 bif decide (1 ≤ IntKind.i64.wrap ((↑(List.length v.1) : Int) - 1)) then
 (f80
 (List.drop 1
 (List.take (IntKind.i64.wrap ((↑(List.length v.1) : Int) - 1)).toNat v.1),
 ())).bind
 fun v3 =>
 bif v3.1 then
 (f40_g0 (4, false, [], [], ())).bind fun v =>
 some (v.2.1, v.2.2.1, v.2.2.2.1, v.1, ())
 else
 (f40_c2
 (IntKind.i64.wrap ((↑(List.length v.1) : Int) - 1), v.1, 4, x0, x1, x2, false,
 [], [], false, [], [], ())).bind
 fun v =>
 Sum.elim
 (fun v => some (v.2.1, v.2.2.1, v.2.2.2.1, v.1, ()))
 (fun v =>
 (f40_g0 (v.1, v.2.1, v.2.2.1, v.2.2.2.1, ())).bind
 fun v =>
 some (v.2.1, v.2.2.1, v.2.2.2.1, v.1, ()))
 v
 else none
 else none
 else none
 else none
theorem h40 (f44 : T44) (f59 : T59) (f67 : T67) (f71 : T71) (f79 : T79) (f80 : T80) (f40_c2 : T40_c2) (f40_g0 : T40_g0) : AqF (K40 f44 f59 f67 f71 f79 f80) 0 Tryz.f40 (N40 f40_c2 f40_g0) Li17 Lo297 (F40 f44 f59 f67 f71 f79 f80 f40_c2 f40_g0) := fun v => by kernel_rfl
def C40 : T40 := F40 C44 C59 C67 C71 C79 C80 C40_c2 C40_g0
theorem ok40 : FO 40 (E40 C40) :=
 qo kok40 Tryz.func40 (And.intro k40_c2 (And.intro k40_g0 trivial)) (h40 C44 C59 C67 C71 C79 C80 C40_c2 C40_g0)
abbrev T22 := Bool × LqS × LqS × Unit → Option (LqS × Unit)
def E22 (f : T22) : FEnt := ⟨Li296, Lo16, f⟩
def K22 (f45 : T45) (f59 : T59) := lk [(45, E45 f45), (59, E59 f59)]
def F22 (f45 : T45) (f59 : T59) : T22 := fun (x0, x1, x2, _) =>
 bif x0 then some ([60, 62], ())
 else
 (f59 (x0, x1, x2, ())).bind fun v =>
 bif v.1 then
 bif decide ([60].length + x1.length ≤ 9223372036854775807) then
 bif decide (([60] ++ x1).length + [62].length ≤ 9223372036854775807) then
 some ([60] ++ x1 ++ [62], ())
 else none
 else none
 else
 (f45 (x1, x2, ())).bind fun v =>
 bif decide ([60].length + List.length v.1 ≤ 9223372036854775807) then
 bif decide (([60] ++ v.1).length + [62].length ≤ 9223372036854775807) then
 some ([60] ++ v.1 ++ [62], ())
 else none
 else none
def C22 : T22 := F22 C45 C59
theorem ok22 : FO 22 (E22 C22) := zq2 Li296 Lo16 K22 F22 C45 C59 (kc ok45 (kc ok59 kn)) Tryz.func22
abbrev T20_c0 := Bool × LqA × LqB × LqC × Bool × LqS × LqS × Unit → Option ((Int × Unit) ⊕ (LqA × LqB × LqC × Bool × LqS × LqS × Unit))
def E20_c0 (f : T20_c0) : LEnt := ⟨Li305, Lo306, f⟩
abbrev T20 := LqA × LqB × LqC × Bool × LqS × LqS × Unit → Option (Int × Unit)
def E20 (f : T20) : FEnt := ⟨Li304, Lo10, f⟩
def K20 (f44 : T44) (f59 : T59) := lk [(44, E44 f44), (59, E59 f59)]
theorem kok20 : KOk Tryz.prog (K20 C44 C59) := (kc ok44 (kc ok59 kn))
def F20_c0 (f44 : T44) (f59 : T59) : T20_c0 := fun (x0, x1, x2, x3, x4, x5, x6, _) =>
 bif x0 then some (Sum.inl (1, ()))
 else
 bif x4 then some (Sum.inl (0, ()))
 else
 (f59 (x4, x5, x6, ())).bind fun v =>
 bif v.1 then some (Sum.inl (0, ())) else some (Sum.inr (x1, x2, x3, x4, x5, x6, ()))
def C20_c0 : T20_c0 := F20_c0 C44 C59
theorem k20_c0 : CdOk 0 (subc (code Tryz.f20) [1, 0, 0, 1]) (E20_c0 C20_c0) := zc2 Li305 Lo306 K20 F20_c0 C44 C59 kok20
def N20 (f20_c0 : T20_c0) : Ann := (.seq .nil (.seq (.blk (.cut .nil (E20_c0 f20_c0))) .nil))
def F20 (f44 : T44) (f59 : T59) (f20_c0 : T20_c0) : T20 := fun (x0, x1, x2, x3, x4, x5, _) =>
 bif x3 then
 (f20_c0 (!(x4 == [] && (x5 == [] && true)), x0, x1, x2, x3, x4, x5, ())).bind fun v =>
 Sum.elim (fun v => some (v.1, ()))
 (fun v =>
 (f44 (v.1, v.2.1, v.2.2.1, v.2.2.2.2.1, v.2.2.2.2.2.1, ())).bind
 fun v => some (v.1, ()))
 v
 else
 (f20_c0 (false, x0, x1, x2, x3, x4, x5, ())).bind fun v =>
 Sum.elim (fun v => some (v.1, ()))
 (fun v =>
 (f44 (v.1, v.2.1, v.2.2.1, v.2.2.2.2.1, v.2.2.2.2.2.1, ())).bind
 fun v => some (v.1, ()))
 v
def C20 : T20 := F20 C44 C59 C20_c0
theorem ok20 : FO 20 (E20 C20) := zq2_1 Li304 Lo10 K20 N20 F20 C44 C59 C20_c0 kok20 Tryz.func20 (And.intro k20_c0 trivial)
abbrev T184_c0 := Int × Bool × LqA × LqB × LqC × Unit → Option ((Bool × Unit) ⊕ (Int × LqA × LqB × LqC × Unit))
def E184_c0 (f : T184_c0) : LEnt := ⟨Li307, Lo308, f⟩
abbrev T184 := LqA × LqB × LqC × Int × Unit → Option (Bool × Unit)
def E184 (f : T184) : FEnt := ⟨Li0, Lo29, f⟩
def K184 (f215 : T215) (f216 : T216) (f217 : T217) := lk [(215, E215 f215), (216, E216 f216), (217, E217 f217)]
theorem kok184 : KOk Tryz.prog (K184 C215 C216 C217) := (kc ok215 (kc ok216 (kc ok217 kn)))
def F184_c0 (f215 : T215) (f216 : T216) (f217 : T217) : T184_c0 := fun (x0, x1, x2, x3, x4, _) =>
 bif x1 then some (Sum.inl (true, ()))
 else
 (f215 (x2, x3, x4, x0, ())).bind fun v =>
 bif v.1 == 1 then
 (f216 (x2, x3, x4, x0, ())).bind fun v =>
 bif !v.2.2.2.2.2.1 then some (Sum.inl (true, ()))
 else
 bif !v.2.2.2.1 then some (Sum.inl (bif v.2.2.2.2.1 then false else true, ()))
 else some (Sum.inl (false, ()))
 else some (Sum.inr (x0, x2, x3, x4, ()))
def C184_c0 : T184_c0 := F184_c0 C215 C216 C217
theorem k184_c0 : CdOk 0 (subc (code Tryz.f184) [1, 0, 0, 1]) (E184_c0 C184_c0) := zc3 Li307 Lo308 K184 F184_c0 C215 C216 C217 kok184
def N184 (f184_c0 : T184_c0) : Ann := (.seq .nil (.seq (.blk (.cut .nil (E184_c0 f184_c0))) .nil))
def F184 (f215 : T215) (f216 : T216) (f217 : T217) (f184_c0 : T184_c0) : T184 := fun (x0, x1, x2, x3, _) =>
 bif decide (x3 ≥ 33) then
 (f184_c0 (x3, decide (x3 ≤ 126), x0, x1, x2, ())).bind fun v =>
 Sum.elim (fun v => some (v.1, ()))
 (fun v =>
 (f217 (v.2.1, v.2.2.1, v.2.2.2.1, v.1, ())).bind fun v =>
 some (v.1, ()))
 v
 else
 (f184_c0 (x3, false, x0, x1, x2, ())).bind fun v =>
 Sum.elim (fun v => some (v.1, ()))
 (fun v =>
 (f217 (v.2.1, v.2.2.1, v.2.2.2.1, v.1, ())).bind fun v =>
 some (v.1, ()))
 v
def C184 : T184 := F184 C215 C216 C217 C184_c0
theorem ok184 : FO 184 (E184 C184) := zq3_1 Li0 Lo29 K184 N184 F184 C215 C216 C217 C184_c0 kok184 Tryz.func184 (And.intro k184_c0 trivial)
abbrev T182 := Int × LqA × LqB × LqC × List (Int) × Unit → Option (Bool × LqA × LqB × LqC × List (Int) × Unit)
def E182 (f : T182) : FEnt := ⟨Li309, Lo155, f⟩
def K182 (f183 : T183) (f184 : T184) := lk [(183, E183 f183), (184, E184 f184)]
def F182 (f183 : T183) (f184 : T184) : T182 := fun (x0, x1, x2, x3, x4, _) =>
 (f183 (x1, x2, x3, x4, x0, ())).bind fun v =>
 bif v.1 == 2 then some (true, x1, x2, x3, x4, ())
 else
 bif v.1 == 0 then
 bif decide (0 ≤ x0) && decide (x0 < (↑x4.length : Int)) then
 (f184 (x1, x2, x3, x4.getD x0.toNat 0, ())).bind fun v =>
 some (bif v.1 then false else true, x1, x2, x3, x4, ())
 else none
 else some (false, x1, x2, x3, x4, ())
theorem h182 (f183 : T183) (f184 : T184) : AqF (K182 f183 f184) 2 Tryz.f182 .nil Li309 Lo155 (F182 f183 f184) := fun v => by kernel_rfl
def C182 : T182 := F182 C183 C184
theorem ok182 : FO 182 (E182 C182) :=
 q0 (kc ok183 (kc ok184 kn)) Tryz.func182 (h182 C183 C184)
abbrev T152_l0 := Int × Int × LqA × LqB × LqC × List (Int) × Unit → Option (Unit ⊕ (Int × Unit))
def E152_l0 (f : T152_l0) : LEnt := ⟨Li310, Lo311, f⟩
abbrev T152 := LqA × LqB × LqC × LqS × Unit → Option (Int × Unit)
def E152 (f : T152) : FEnt := ⟨Li17, Lo10, f⟩
def K152 (f182 : T182) (f83 : T83) := lk [(182, E182 f182), (83, E83 f83)]
theorem kok152 : KOk Tryz.prog (K152 C182 C83) := (kc ok182 (kc ok83 kn))
def F152_l0 (f182 : T182) (f83 : T83) : LpF (Int × Int × LqA × LqB × LqC × List (Int) × Unit) (Unit ⊕ (Int × Unit)) := fun (x0, x1, x2, x3, x4, x5, _) =>
 bif decide (x1 < x0) then
 (f182 (x1, x2, x3, x4, x5, ())).bind fun v =>
 bif v.1 then some (Sum.inr (Sum.inr (8, ())))
 else
 some
 (Sum.inl
 (x0, IntKind.i64.wrap (x1 + 1), v.2.1, v.2.2.1, v.2.2.2.1, v.2.2.2.2.1,
 ()))
 else some (Sum.inr (Sum.inl ()))
def C152_l0 : T152_l0 := loopN (F152_l0 C182 C83) big
theorem k152_l0 : LpOk 0 (subc (code Tryz.f152) [1, 1, 1, 1, 0, 1, 0, 0]) (E152_l0 C152_l0) := zl2 Li310 Lo311 K152 F152_l0 C182 C83 kok152
def N152 (f152_l0 : T152_l0) : Ann := (.seq .nil (.seq .nil (.seq .nil (.seq .nil (.seq (.seq .nil (.blk (.loop (E152_l0 f152_l0)))) .nil)))))
def F152 (f182 : T182) (f83 : T83) (f152_l0 : T152_l0) : T152 := fun (x0, x1, x2, x3, _) =>
 (f83 (x3, ())).bind fun v =>
 bif decide (v.2.1 ≥ 0) then some (7, ())
 else
 bif (↑(List.length v.1) : Int) == 0 then some (13, ())
 else
 (f152_l0 ((↑(List.length v.1) : Int), 0, x0, x1, x2, v.1, ())).bind fun v =>
 Sum.elim (fun v => some (0, ())) (fun v => some (v.1, ())) v
def C152 : T152 := F152 C182 C83 C152_l0
theorem ok152 : FO 152 (E152 C152) := zq2_1 Li17 Lo10 K152 N152 F152 C182 C83 C152_l0 kok152 Tryz.func152 (And.intro k152_l0 trivial)
abbrev T120 := LqA × LqB × LqC × LqS × Unit → Option (LqS × Int × Unit)
def E120 (f : T120) : FEnt := ⟨Li17, Lo208, f⟩
def K120 (f151 : T151) (f152 : T152) (f153 : T153) (f154 : T154) (f83 : T83) := lk [(151, E151 f151), (152, E152 f152), (153, E153 f153), (154, E154 f154), (83, E83 f83)]
def F120 (f151 : T151) (f152 : T152) (f153 : T153) (f154 : T154) (f83 : T83) : T120 := fun (x0, x1, x2, x3, _) =>
 (f151 (x0, x1, x2, x3, ())).bind fun v =>
 bif !v.2.1 then some ([], 7, ())
 else
 (f152 (x0, x1, x2, v.1, ())).bind fun v1 =>
 bif v1.1 != 0 then some ([], v1.1, ())
 else
 (f83 (v.1, ())).bind fun v2 =>
 (f153 (x0, x1, x2, v2.1, ())).bind fun v3 =>
 bif v3.1 then
 (f154 (x0, x1, x2, v2.1, ())).bind fun v4 =>
 bif !v4.1 then some ([], 9, ()) else some (v.1, 0, ())
 else some (v.1, 0, ())
theorem h120 (f151 : T151) (f152 : T152) (f153 : T153) (f154 : T154) (f83 : T83) : AqF (K120 f151 f152 f153 f154 f83) 0 Tryz.f120 .nil Li17 Lo208 (F120 f151 f152 f153 f154 f83) := fun v => by kernel_rfl
def C120 : T120 := F120 C151 C152 C153 C154 C83
theorem ok120 : FO 120 (E120 C120) :=
 q0 (kc ok151 (kc ok152 (kc ok153 (kc ok154 (kc ok83 kn))))) Tryz.func120 (h120 C151 C152 C153 C154 C83)
abbrev T82_c0 := LqA × LqB × LqC × LqS × LqS × LqS × LqS × Unit → Option (LqS × LqS × Unit)
def E82_c0 (f : T82_c0) : LEnt := ⟨Li313, Lo314, f⟩
abbrev T82 := LqA × LqB × LqC × LqS × LqS × Unit → Option (LqS × LqS × Unit)
def E82 (f : T82) : FEnt := ⟨Li265, Lo312, f⟩
def K82 (f120 : T120) (f25 : T25) (f86 : T86) (f87 : T87) := lk [(120, E120 f120), (25, E25 f25), (86, E86 f86), (87, E87 f87)]
theorem kok82 : KOk Tryz.prog (K82 C120 C25 C86 C87) := (kc ok120 (kc ok25 (kc ok86 (kc ok87 kn))))
def F82_c0 (f120 : T120) (f25 : T25) (f86 : T86) (f87 : T87) : T82_c0 := fun (x0, x1, x2, x3, x4, x5, x6, _) =>
 (f86 (x4, ())).bind fun v =>
 bif v.1 then (f25 (x4, ())).bind fun v => some (x3, v.1, ())
 else
 (f87 (x0, x1, x2, x4, ())).bind fun v =>
 bif v.2.1 == 0 then some (x3, v.1, ()) else some (x3, x4, ())
theorem h82_c0 (f120 : T120) (f25 : T25) (f86 : T86) (f87 : T87) : AqC (K82 f120 f25 f86 f87) 0 (subc (code Tryz.f82) [1, 1]) .nil Li313 Lo314 (F82_c0 f120 f25 f86 f87) := fun v => by kernel_rfl
def C82_c0 : T82_c0 := F82_c0 C120 C25 C86 C87
theorem k82_c0 : CdOk 0 (subc (code Tryz.f82) [1, 1]) (E82_c0 C82_c0) :=
 frc kok82 (h82_c0 C120 C25 C86 C87)
def N82 (f82_c0 : T82_c0) : Ann := (.seq .nil (.cut .nil (E82_c0 f82_c0)))
def F82 (f120 : T120) (f25 : T25) (f86 : T86) (f87 : T87) (f82_c0 : T82_c0) : T82 := fun (x0, x1, x2, x3, x4, _) =>
 (f120 (x0, x1, x2, x3, ())).bind fun v =>
 bif v.2.1 == 0 then
 (f82_c0 (x0, x1, x2, v.1, x4, [], [], ())).bind fun v => some (v.1, v.2.1, ())
 else (f82_c0 (x0, x1, x2, x3, x4, [], [], ())).bind fun v => some (v.1, v.2.1, ())
theorem h82 (f120 : T120) (f25 : T25) (f86 : T86) (f87 : T87) (f82_c0 : T82_c0) : AqF (K82 f120 f25 f86 f87) 0 Tryz.f82 (N82 f82_c0) Li265 Lo312 (F82 f120 f25 f86 f87 f82_c0) := fun v => by kernel_rfl
def C82 : T82 := F82 C120 C25 C86 C87 C82_c0
theorem ok82 : FO 82 (E82 C82) :=
 qo kok82 Tryz.func82 (And.intro k82_c0 trivial) (h82 C120 C25 C86 C87 C82_c0)
abbrev T42 := LqA × LqB × LqC × Bool × LqS × LqS × Unit → Option (Bool × LqS × LqS × Unit)
def E42 (f : T42) : FEnt := ⟨Li304, Lo315, f⟩
def K42 (f59 : T59) (f82 : T82) := lk [(59, E59 f59), (82, E82 f82)]
def F42 (f59 : T59) (f82 : T82) : T42 := fun (x0, x1, x2, x3, x4, x5, _) =>
 bif x3 then some (true, [], [], ())
 else
 (f59 (x3, x4, x5, ())).bind fun v =>
 bif v.1 then some (false, [112, 111, 115, 116, 109, 97, 115, 116, 101, 114], [], ())
 else (f82 (x0, x1, x2, x4, x5, ())).bind fun v => some (false, v.1, v.2.1, ())
def C42 : T42 := F42 C59 C82
theorem ok42 : FO 42 (E42 C42) := zq2 Li304 Lo315 K42 F42 C59 C82 (kc ok59 (kc ok82 kn)) Tryz.func42
abbrev T41 := LqA × LqB × LqC × Bool × LqS × LqS × Bool × LqS × LqS × Unit → Option (Bool × Unit)
def E41 (f : T41) : FEnt := ⟨Li316, Lo29, f⟩
def K41 (f20 : T20) (f42 : T42) := lk [(20, E20 f20), (42, E42 f42)]
def F41 (f20 : T20) (f42 : T42) : T41 := fun (x0, x1, x2, x3, x4, x5, x6, x7, x8, _) =>
 (f20 (x0, x1, x2, x3, x4, x5, ())).bind fun v =>
 bif v.1 == 0 then
 (f20 (x0, x1, x2, x6, x7, x8, ())).bind fun v =>
 bif v.1 == 0 then
 (f42 (x0, x1, x2, x3, x4, x5, ())).bind fun v =>
 (f42 (x0, x1, x2, x6, x7, x8, ())).bind fun v1 =>
 some
 (bif v.1 == v1.1 then
 bif v.2.1 == v1.2.1 && (v.2.2.1 == v1.2.2.1 && true) then true
 else false
 else false,
 ())
 else some (false, ())
 else some (false, ())
def C41 : T41 := F41 C20 C42
theorem ok41 : FO 41 (E41 C41) := zq2 Li316 Lo29 K41 F41 C20 C42 (kc ok20 (kc ok42 kn)) Tryz.func41
abbrev T37 := Unit → Option (Bool × Unit)
def E37 (f : T37) : FEnt := ⟨Li7, Lo29, f⟩
def K37 (f18 : T18) (f20 : T20) (f22 : T22) (f40 : T40) (f41 : T41) := lk [(18, E18 f18), (20, E20 f20), (22, E22 f22), (40, E40 f40), (41, E41 f41)]
def C37 : T37 := fun _ => some (true, ())
theorem h37 : afun Γ (K37 C18 C20 C22 C40 C41) 0 Tryz.f37.ntmps Tryz.f37.results.toList (code Tryz.f37) .nil (em id Li7 ()).1 (em id Li7 ()).2 (ofin 0 Lo29) = some (true, ()) := by kernel_rfl
theorem ok37 : FO 37 (E37 C37) :=
 q0 (kc ok18 (kc ok20 (kc ok22 (kc ok40 (kc ok41 kn))))) Tryz.func37 (fun v => h37)
abbrev T118 := LqA × LqB × LqC × LqS × Unit → Option (LqS × Int × Unit)
def E118 (f : T118) : FEnt := ⟨Li17, Lo208, f⟩
def K118 (f21 : T21) (f87 : T87) := lk [(21, E21 f21), (87, E87 f87)]
def F118 (f21 : T21) (f87 : T87) : T118 := fun (x0, x1, x2, x3, _) =>
 (f87 (x0, x1, x2, x3, ())).bind fun v =>
 bif v.2.1 == 0 then
 (f21 (x3, ())).bind fun v1 =>
 bif decide (v1.1 < 0) then some (x3, 0, ()) else some (v.1, v.2.1, ())
 else some (v.1, v.2.1, ())
def C118 : T118 := F118 C21 C87
theorem ok118 : FO 118 (E118 C118) := zq2 Li17 Lo208 K118 F118 C21 C87 (kc ok21 (kc ok87 kn)) Tryz.func118
abbrev T78_c0 := Bool × LqA × LqB × LqC × LqS × LqS × LqS × LqS × Unit → Option ((Int × LqS × LqS × Unit) ⊕ (LqA × LqB × LqC × LqS × LqS × LqS × LqS × Unit))
def E78_c0 (f : T78_c0) : LEnt := ⟨Li318, Lo319, f⟩
abbrev T78 := LqA × LqB × LqC × LqS × LqS × Unit → Option (LqS × LqS × Int × Unit)
def E78 (f : T78) : FEnt := ⟨Li265, Lo317, f⟩
def K78 (f118 : T118) (f21 : T21) (f86 : T86) := lk [(118, E118 f118), (21, E21 f21), (86, E86 f86)]
theorem kok78 : KOk Tryz.prog (K78 C118 C21 C86) := (kc ok118 (kc ok21 (kc ok86 kn)))
def F78_c0 (f118 : T118) (f21 : T21) (f86 : T86) : T78_c0 := fun (x0, x1, x2, x3, x4, x5, x6, x7, _) =>
 bif x0 then some (Sum.inl (8, [], [], ()))
 else
 (f86 (x5, ())).bind fun v =>
 bif v.1 then some (Sum.inl (0, x4, x5, ())) else some (Sum.inr (x1, x2, x3, x4, x5, x6, x7, ()))
def C78_c0 : T78_c0 := F78_c0 C118 C21 C86
theorem k78_c0 : CdOk 0 (subc (code Tryz.f78) [1, 0, 0, 1]) (E78_c0 C78_c0) := zc3 Li318 Lo319 K78 F78_c0 C118 C21 C86 kok78
def N78 (f78_c0 : T78_c0) : Ann := (.seq .nil (.seq (.blk (.cut .nil (E78_c0 f78_c0))) .nil))
def F78 (f118 : T118) (f21 : T21) (f86 : T86) (f78_c0 : T78_c0) : T78 := fun (x0, x1, x2, x3, x4, _) =>
 (f21 (x3, ())).bind fun v =>
 bif decide (v.1 ≥ 0) then
 (f78_c0 (true, x0, x1, x2, x3, x4, [], [], ())).bind fun v =>
 Sum.elim (fun v => some (v.2.1, v.2.2.1, v.1, ()))
 (fun v =>
 (f118 (v.1, v.2.1, v.2.2.1, v.2.2.2.2.1, ())).bind fun v1 =>
 bif v1.2.1 != 0 then some ([], [], v1.2.1, ())
 else some (v.2.2.2.1, v1.1, 0, ()))
 v
 else
 (f86 (x4, ())).bind fun v =>
 bif v.1 then
 (f21 (x4, ())).bind fun v =>
 (f78_c0 (decide (v.1 ≥ 0), x0, x1, x2, x3, x4, [], [], ())).bind fun v =>
 Sum.elim (fun v => some (v.2.1, v.2.2.1, v.1, ()))
 (fun v =>
 (f118 (v.1, v.2.1, v.2.2.1, v.2.2.2.2.1, ())).bind fun v1 =>
 bif v1.2.1 != 0 then some ([], [], v1.2.1, ())
 else some (v.2.2.2.1, v1.1, 0, ()))
 v
 else
 (f78_c0 (false, x0, x1, x2, x3, x4, [], [], ())).bind fun v =>
 Sum.elim (fun v => some (v.2.1, v.2.2.1, v.1, ()))
 (fun v =>
 (f118 (v.1, v.2.1, v.2.2.1, v.2.2.2.2.1, ())).bind fun v1 =>
 bif v1.2.1 != 0 then some ([], [], v1.2.1, ())
 else some (v.2.2.2.1, v1.1, 0, ()))
 v
def C78 : T78 := F78 C118 C21 C86 C78_c0
theorem ok78 : FO 78 (E78 C78) := zq3_1 Li265 Lo317 K78 N78 F78 C118 C21 C86 C78_c0 kok78 Tryz.func78 (And.intro k78_c0 trivial)
abbrev T39 := LqA × LqB × LqC × Bool × LqS × LqS × Unit → Option (Bool × LqS × LqS × Int × Unit)
def E39 (f : T39) : FEnt := ⟨Li304, Lo297, f⟩
def K39 (f59 : T59) (f78 : T78) := lk [(59, E59 f59), (78, E78 f78)]
def F39 (f59 : T59) (f78 : T78) : T39 := fun (x0, x1, x2, x3, x4, x5, _) =>
 bif x3 then some (x3, x4, x5, 0, ())
 else
 (f59 (x3, x4, x5, ())).bind fun v =>
 bif v.1 then some (x3, x4, x5, 0, ())
 else
 (f78 (x0, x1, x2, x4, x5, ())).bind fun v =>
 bif v.2.2.1 != 0 then some (false, [], [], v.2.2.1, ())
 else some (false, v.1, v.2.1, 0, ())
def C39 : T39 := F39 C59 C78
theorem ok39 : FO 39 (E39 C39) := zq2 Li304 Lo297 K39 F39 C59 C78 (kc ok59 (kc ok78 kn)) Tryz.func39
def Df {α : Type} (x : Option α) (Q : α → Prop) : Prop := ∃ y, x = some y ∧ Q y
section
variable {α β γ : Type} {Q : α → Prop}
theorem dP {y : α} (h : Q y) : Df (some y) Q := ⟨y, rfl, h⟩
theorem dO (h : False) : Df (none : Option α) Q := h.elim
theorem dZ {x : Option β} {f : β → Option α} {P : β → Prop} (h : Df x P) (hf : ∀ a, P a → Df (f a) Q) : Df (x.bind f) Q := by
 obtain ⟨a, rfl, ha⟩ := h
 exact hf a ha
theorem Df.mono {x : Option α} {P : α → Prop} (h : Df x P) (hf : ∀ a, P a → Q a) : Df x Q := by
 obtain ⟨a, e, ha⟩ := h
 exact ⟨a, e, hf a ha⟩
theorem Df.and {x : Option α} {P P' : α → Prop} (h : Df x P) (h' : Df x P') : Df x fun y => P y ∧ P' y := by
 obtain ⟨a, e, ha⟩ := h
 obtain ⟨b, e', hb⟩ := h'
 rw [e] at e'
 cases e'
 exact ⟨a, e, ha, hb⟩
theorem dB {b : Bool} {x y : Option α} (h1 : b = true → Df x Q) (h2 : b = false → Df y Q) : Df (bif b then x else y) Q := by
 cases b
 · exact h2 rfl
 · exact h1 rfl
theorem dH {b : Bool} {x y : Option α} (h1 : b = false → Df x Q) (h2 : b = true → Df y Q) : Df (bif !b then x else y) Q := by
 cases b
 · exact h1 rfl
 · exact h2 rfl
theorem dD {p : Prop} {dp : Decidable p} {x y : Option α} (h1 : p → Df x Q) (h2 : ¬ p → Df y Q) : Df (bif decide p then x else y) Q := by
 by_cases h : p
 · rw [decide_eq_true h]; exact h1 h
 · rw [decide_eq_false h]; exact h2 h
theorem dG {a b : Int} {x y : Option α} (h1 : a = b → Df x Q) (h2 : a ≠ b → Df y Q) : Df (bif a == b then x else y) Q := by
 by_cases h : a = b
 · rw [ibT h]; exact h1 h
 · rw [ibF h]; exact h2 h
class Rd (b : Bool) (p q : outParam Prop) : Prop where
 t : b = true → p
 f : b = false → q
instance (priority := low) (b : Bool) : Rd b (b = true) (b = false) := ⟨id, id⟩
instance (b : Bool) : Rd (!b) (b = false) (b = true) := ⟨fun h => by cases b <;> simp_all, fun h => by cases b <;> simp_all⟩
instance (p : Prop) [Decidable p] : Rd (decide p) p (¬ p) := ⟨of_decide_eq_true, of_decide_eq_false⟩
instance (p : Prop) [Decidable p] : Rd (!decide p) (¬ p) p := ⟨fun h => by simpa using h, fun h => by simpa using h⟩
instance (p q : Prop) [Decidable p] [Decidable q] : Rd (decide p && decide q) (p ∧ q) (¬ (p ∧ q)) := ⟨fun h => by simpa using h, fun h => by simpa using h⟩
instance (a b : Int) : Rd (a == b) (a = b) (a ≠ b) := ⟨fun h => by simpa using h, fun h => by simpa using h⟩
instance (a b : Int) : Rd (a != b) (a ≠ b) (a = b) := ⟨fun h => by simpa using h, fun h => by simpa using h⟩
theorem dX {b : Bool} {p q : Prop} [r : Rd b p q] {x y : Option α} (h1 : p → Df x Q) (h2 : q → Df y Q) : Df (bif b then x else y) Q := by
 have h : b = true ∨ b = false := by cases b <;> simp
 rcases h with h | h
 · rw [h]; exact h1 (r.t h)
 · rw [h]; exact h2 (r.f h)
theorem dS {f : β → Option α} {g : γ → Option α} {s : β ⊕ γ} {P : β → Prop} {P' : γ → Prop} (hs : Sum.elim P P' s) (h1 : ∀ a, P a → Df (f a) Q) (h2 : ∀ b, P' b → Df (g b) Q) : Df (Sum.elim f g s) Q := by
 cases s with
 | inl a => exact h1 a hs
 | inr b => exact h2 b hs
theorem Df.loop {F : β → Option (β ⊕ α)} (I : β → Prop) (μ : β → Nat) (h : ∀ v, I v → Df (F v) (Sum.elim (fun v' => I v' ∧ μ v' < μ v) Q)) (n : Nat) (v : β) (hv : I v) (hn : μ v < n) : Df (loopN F n v) Q := by
 refine loopN_of I Q μ (fun v hv => ?_) n v hv hn
 obtain ⟨y, e, hy⟩ := h v hv
 cases y with
 | inl v' => exact .inl ⟨v', e, hy.1, hy.2⟩
 | inr y => exact .inr ⟨y, e, hy⟩
theorem dL {F : β → Option (β ⊕ α)} (I : β → Prop) (μ : β → Nat) (h : ∀ v, I v → Df (F v) (Sum.elim (fun v' => I v' ∧ μ v' < μ v) Q)) (v : β) (hv : I v) (hn : μ v < 1000000000000000000) : Df (loopN F big v) Q :=
 Df.loop I μ h big v hv (by unfold big; omega)
end
theorem w64' (n : Int) : IntKind.i64.wrap n = (n + 9223372036854775808) % 18446744073709551616 - 9223372036854775808 := by rw [IntKind.wrap_i64]
theorem w32' (n : Int) : IntKind.i32.wrap n = (n + 2147483648) % 4294967296 - 2147483648 := by
 simp [IntKind.wrap, IntKind.bits, IntKind.signed]
 split <;> omega
theorem wu64' (n : Int) : IntKind.u64.wrap n = n % 18446744073709551616 := IntKind.wrap_u64 n
theorem w64s {n : Int} (h : -9000000000000000000 ≤ n ∧ n ≤ 9000000000000000000) : IntKind.i64.wrap n = n := by rw [w64']; omega
theorem w32s {n : Int} (h : -2000000000 ≤ n ∧ n ≤ 2000000000) : IntKind.i32.wrap n = n := by rw [w32']; omega
theorem mid2 {a b : Int} (ha : 0 ≤ a) (hb : 0 ≤ b) (h : a + b ≤ 9000000000000000000) : IntKind.i64.wrap ((IntKind.u64.wrap (IntKind.i64.wrap (a + b))).fdiv (2 ^ min 1 IntKind.u64.bits)) = (a + b) / 2 := by
 rw [w64s (n := a + b) (by omega), wu64', show (2 : Int) ^ min 1 IntKind.u64.bits = 2 from rfl, Int.fdiv_eq_ediv_of_nonneg _ (by omega), w64s (by omega)]
 omega
theorem decR_pos (s : List UInt8) (p : Nat) : 1 ≤ (decR s p).2 := by
 unfold decR Utf8.decode
 dsimp only
 repeat' split
 all_goals (first | omega | (dsimp only; omega))
theorem d155 (x : Int) : Df (C155 (x, ())) (fun y => y.1 = true → 0 ≤ x ∧ x ≤ 1114111) := by
 show Df (F155 _) _
 unfold F155
 dsimp only
 with_reducible repeat' (first | apply dP | apply dX <;> intro _)
 all_goals (dsimp only; intro h'; first | omega | cases h')
theorem d122 (x : Int) : Df (C122 (x, ())) (fun y => 0 ≤ y.1 ∧ y.1 ≤ 4) := by
 show Df (F122 C155 _) _
 unfold F122
 dsimp only
 refine dZ (d155 x) ?_
 rintro ⟨b, u⟩ hb
 dsimp only
 with_reducible repeat' (first | apply dP | apply dX <;> intro _)
 all_goals (first | omega | (dsimp only; omega))
theorem d121_0 (x : Int) (b : Bool) : Df (C121_c0 (x, b, ())) (Sum.elim (fun y => 0 ≤ y.1 ∧ y.1 ≤ 3) (fun _ => True)) := by
 show Df (F121_c0 _) _
 unfold F121_c0
 dsimp only
 with_reducible repeat' (first | apply dP | apply dX <;> intro _)
 all_goals (first | trivial | exact ⟨by first | omega | (dsimp only; omega), by first | omega | (dsimp only; omega)⟩)
theorem d121_1 (x : Int) (b : Bool) : Df (C121_c1 (x, b, ())) (Sum.elim (fun y => 0 ≤ y.1 ∧ y.1 ≤ 3) (fun _ => True)) := by
 show Df (F121_c1 C121_c0 _) _
 unfold F121_c1
 dsimp only
 with_reducible repeat' (first | apply dP | apply dX <;> intro _)
 all_goals (first | trivial | exact ⟨by first | omega | (dsimp only; omega), by first | omega | (dsimp only; omega)⟩ | (refine dZ (d121_0 _ _) ?_; intro s hs; exact dS hs (fun a ha => dP ha) (fun _ _ => dP trivial)))
theorem d121 (x : Int) : Df (C121 (x, ())) (fun y => -1 ≤ y.1 ∧ y.1 ≤ 3) := by
 show Df (F121 C121_c1 _) _
 unfold F121
 dsimp only
 with_reducible repeat' (first | apply dP | apply dX <;> intro _)
 all_goals (first | (first | omega | (dsimp only; omega)) | (refine dZ (d121_1 _ _) ?_; intro s hs; exact dS hs (fun a ha => dP ⟨by have := ha.1; dsimp only; omega, ha.2⟩) (fun _ _ => dP (by first | omega | (dsimp only; omega)))))
theorem d83_0 (s : List UInt8) (n r at_ k : Int) (o : List Int) (h : 0 ≤ at_) (hn : 0 ≤ n ∧ n ≤ 3) (hl : at_ + n < s.length) (hk : at_ + 1 ≤ k) (hb : s.length ≤ 1000000000000) :
 Df (C83_l0 (s, n, r, at_, k, o, ())) (Sum.elim (fun y => y.1 = s ∧ y.2.1 = n ∧ y.2.2.2.1 = at_ ∧ y.2.2.2.2.1 = o) (fun y => y.1 = at_ ∧ y.2.1 = o)) := by
 refine dL ?I ?m ?h _ ?hv ?hn
 case I => exact (fun v => v.1 = s ∧ v.2.1 = n ∧ v.2.2.2.1 = at_ ∧ v.2.2.2.2.2.1 = o ∧ at_ + 1 ≤ v.2.2.2.2.1)
 case m => exact (fun v => (at_ + n + 1 - v.2.2.2.2.1).toNat)
 case hv => exact ⟨rfl, rfl, rfl, rfl, hk⟩
 case hn => exact (by first | omega | (dsimp only; omega))
 rintro ⟨x0, x1, x2, x3, x4, x5, u⟩ hI
 dsimp only at hI
 obtain ⟨rfl, rfl, rfl, rfl, hI⟩ := hI
 unfold F83_l0
 dsimp only
 rw [w64s (n := x3 + x1) (by omega)]
 with_reducible repeat' (first | apply dP | apply dX <;> intro _)
 · exact ⟨rfl, rfl⟩
 · rw [w64s (by omega)]
   exact ⟨⟨rfl, rfl, rfl, rfl, by first | omega | (dsimp only; omega)⟩, by first | omega | (dsimp only; omega)⟩
 · refine dO ?_; omega
 · refine dO ?_; omega
 · exact ⟨rfl, rfl, rfl, rfl⟩
theorem d83 (s : List UInt8) (hb : s.length ≤ 1000000000000) : Df (C83 (s, ())) (fun y => y.1.length ≤ s.length ∧ (y.2.1 = -1 ∨ 0 ≤ y.2.1 ∧ y.2.1 < s.length) ∧ (y.2.1 < 0 → 0 < s.length → 0 < y.1.length)) := by
 show Df (F83 C121 C122 C83_g0 C83_l1 _) _
 unfold F83
 dsimp only
 refine dZ (P := Sum.elim (fun y => y.1.length ≤ s.length ∧ (0 < s.length → 0 < y.1.length)) (fun y => y.2.1.length ≤ s.length ∧ 0 ≤ y.1 ∧ y.1 < s.length)) ?_ ?_
 · refine dL ?I ?m ?h _ ?hv ?hn
   case I => exact (fun v => v.1 = s ∧ 0 ≤ v.2.1 ∧ v.2.1 ≤ s.length ∧ v.2.2.1.length ≤ v.2.1 ∧ (0 < v.2.1 → 0 < v.2.2.1.length))
   case m => exact (fun v => (s.length - v.2.1).toNat)
   case hv => exact ⟨rfl, by first | omega | (dsimp only; omega), by first | omega | (dsimp only; omega), by simp, by simp⟩
   case hn => exact (by first | omega | (dsimp only; omega))
   rintro ⟨x0, x1, x2, u⟩ hI
   dsimp only at hI
   obtain ⟨rfl, h0, h1, h2, h2'⟩ := hI
   unfold F83_l1
   dsimp only
   with_reducible repeat' (first | apply dP | apply dX <;> intro _)
   · refine dZ (d121 _) ?_
     rintro ⟨n, r, u⟩ hn
     dsimp only at hn ⊢
     rw [w64s (n := (x0.length : Int) - x1) (by omega)]
     with_reducible repeat' (first | apply dP | apply dX <;> intro _)
     · exact ⟨by first | omega | (dsimp only; omega), by first | omega | (dsimp only; omega), by first | omega | (dsimp only; omega)⟩
     · exact ⟨by first | omega | (dsimp only; omega), by first | omega | (dsimp only; omega), by first | omega | (dsimp only; omega)⟩
     · rw [w64s (n := x1 + 1) (by omega)]
       refine dZ (d83_0 x0 n r x1 (x1 + 1) x2 h0 (by omega) (by omega) (by omega) hb) ?_
       intro s hs
       refine dS hs ?_ ?_
       · rintro ⟨a0, a1, a2, a3, a4, u⟩ ha
         dsimp only at ha ⊢
         obtain ⟨rfl, rfl, rfl, rfl⟩ := ha
         refine dZ (d122 _) ?_
         rintro ⟨m, u⟩ hm
         dsimp only at hm ⊢
         with_reducible repeat' (first | apply dP | apply dX <;> intro _)
         · exact ⟨by first | omega | (dsimp only; omega), by first | omega | (dsimp only; omega), by first | omega | (dsimp only; omega)⟩
         · rw [w64s (n := a1 + 1) (by omega), w64s (by omega)]
           exact ⟨⟨rfl, by first | omega | (dsimp only; omega), by first | omega | (dsimp only; omega), by simp only [List.length_append, List.length_cons, List.length_nil]; omega, fun _ => by simp only [List.length_append, List.length_cons, List.length_nil]; omega⟩, by first | omega | (dsimp only; omega)⟩
         · refine dO ?_
           simp only [List.length_cons, List.length_nil] at *
           omega
       · rintro ⟨a0, a1, u⟩ ha
         dsimp only at ha ⊢
         obtain ⟨rfl, rfl⟩ := ha
         exact dP ⟨by first | omega | (dsimp only; omega), by first | omega | (dsimp only; omega), by first | omega | (dsimp only; omega)⟩
   · refine dO ?_; omega
   · exact ⟨by first | omega | (dsimp only; omega), fun _ => h2' (by omega)⟩
 · intro r hr
   refine dS hr ?_ ?_
   · rintro ⟨a, u⟩ ha
     exact dP ⟨ha.1, .inl rfl, fun _ => ha.2⟩
   · rintro ⟨a, b, u⟩ ha
     exact dP ⟨ha.1, .inr ha.2, fun h => by have := ha.2.1; dsimp only at h this; omega⟩
theorem d178 (l : List Int) (hb : l.length ≤ 20000000000000) : Df (C178 (l, ())) (fun y => y.1.length ≤ 4 * l.length) := by
 show Df (F178 C122 C178_l0 _) _
 unfold F178
 dsimp only
 refine dZ (P := Sum.elim (fun y => y.1.length ≤ 4 * l.length) (fun y => y.1.length ≤ 4 * l.length)) ?_ ?_
 · refine dL ?I ?m ?h _ ?hv ?hn
   case I => exact (fun v => v.1 = l ∧ v.2.1 = l.length ∧ 0 ≤ v.2.2.1 ∧ v.2.2.1 ≤ l.length ∧ v.2.2.2.1.length ≤ 4 * v.2.2.1)
   case m => exact (fun v => (l.length - v.2.2.1).toNat)
   case hv => exact ⟨rfl, rfl, by first | omega | (dsimp only; omega), by first | omega | (dsimp only; omega), by simp⟩
   case hn => exact (by first | omega | (dsimp only; omega))
   rintro ⟨x0, x1, x2, x3, u⟩ hI
   dsimp only at hI
   obtain ⟨rfl, rfl, h0, h1, h2⟩ := hI
   unfold F178_l0
   dsimp only
   with_reducible repeat' (first | apply dP | apply dX <;> intro _)
   · refine dZ (d122 _) ?_
     rintro ⟨m, u⟩ hm
     dsimp only at hm ⊢
     rw [w64s (n := x2 + 1) (by omega)]
     with_reducible repeat' (first | apply dP | apply dX <;> intro _)
     all_goals first
      | exact (by simp : (([] : List UInt8).length ≤ 4 * x0.length))
      | exact ⟨⟨rfl, rfl, by first | omega | (dsimp only; omega), by first | omega | (dsimp only; omega), by simp only [List.length_append, List.length_cons, List.length_nil]; omega⟩, by first | omega | (dsimp only; omega)⟩
      | (refine dO ?_; simp only [List.length_cons, List.length_nil] at *; omega)
   · refine dO ?_; omega
   · exact (by first | omega | (dsimp only; omega) : x3.length ≤ 4 * x0.length)
 · intro r hr
   refine dS hr ?_ ?_
   · rintro ⟨a, u⟩ ha; exact dP ha
   · rintro ⟨a, b, u⟩ ha; exact dP ha
theorem d21 (s : List UInt8) (hb : s.length ≤ 1000000000000000) : Df (C21 (s, ())) (fun y => y.1 < s.length ∧ (y.1 < 0 → ∀ c ∈ s, c.toNat < 128)) := by
 show Df (F21 C21_l0 _) _
 unfold F21
 dsimp only
 refine dZ (P := Sum.elim (fun y => ∀ c ∈ s, c.toNat < 128) (fun y => 0 ≤ y.1 ∧ y.1 < s.length)) ?_ ?_
 · refine dL ?I ?m ?h _ ?hv ?hn
   case I => exact (fun v => v.1 = s ∧ v.2.1 = s.length ∧ 0 ≤ v.2.2.1 ∧ v.2.2.1 ≤ s.length ∧ ∀ c ∈ s.take v.2.2.1.toNat, c.toNat < 128)
   case m => exact (fun v => (s.length - v.2.2.1).toNat)
   case hv => exact ⟨rfl, rfl, by first | omega | (dsimp only; omega), by first | omega | (dsimp only; omega), by simp⟩
   case hn => exact (by first | omega | (dsimp only; omega))
   rintro ⟨x0, x1, x2, u⟩ hI
   dsimp only at hI
   obtain ⟨rfl, rfl, h0, h1, h2⟩ := hI
   unfold F21_l0
   dsimp only
   with_reducible repeat' (first | apply dP | apply dX <;> intro _)
   · exact ⟨by first | omega | (dsimp only; omega), by first | omega | (dsimp only; omega)⟩
   · rename_i h3 h4 h5
     rw [w64s (n := x2 + 1) (by omega)]
     have hlt : x2.toNat < x0.length := by omega
     refine ⟨⟨rfl, rfl, by first | omega | (dsimp only; omega), by first | omega | (dsimp only; omega), ?_⟩, by first | omega | (dsimp only; omega)⟩
     dsimp only
     intro c hc
     rw [show (x2 + 1).toNat = x2.toNat + 1 by omega, take_succ_get hlt] at hc
     rcases List.mem_append.1 hc with hc | hc
     · exact h2 c hc
     · rw [List.mem_singleton] at hc
       rw [getD_lt hlt] at h5
       subst hc; omega
   · refine dO ?_; omega
   · intro c hc
     refine h2 c ?_
     rw [List.take_of_length_le (by omega)]; exact hc
 · intro r hr
   refine dS hr ?_ ?_
   · intro u hu; exact dP ⟨by first | omega | (dsimp only; omega), fun _ => hu⟩
   · rintro ⟨a, u⟩ ha; exact dP ⟨ha.2, fun h => by have := ha.1; dsimp only at h this; omega⟩
abbrev R6 := Int × Int × Int × Int × Int × Int
abbrev R4 := Int × Int × Int × Int
abbrev R3 := Int × Int × Int
theorem d289 (a b c d e f g : Int) : Df (C289 (a, b, c, d, e, f, g, ())) (fun _ => True) := by
 show Df (F289 _) _
 unfold F289
 dsimp only
 with_reducible repeat' (first | apply dP | apply dX <;> intro _)
 all_goals trivial
theorem d288 (T : List R6) (r : Int) (hT : T.length ≤ 1000000000000) : Df (C288 (T, r, ())) (fun y => 0 ≤ y.1 ∧ (y.2.1 = true → y.1 < T.length)) := by
 show Df (F288 C289 C288_l0 _) _
 unfold F288
 dsimp only
 refine dZ (P := fun y => y.1 = T ∧ y.2.2.1 = T.length ∧ 0 ≤ y.2.2.2.1 ∧ y.2.2.2.1 ≤ T.length) ?_ ?_
 · refine dL ?I ?m ?h _ ?hv ?hn
   case I => exact (fun v => v.1 = T ∧ v.2.2.1 = T.length ∧ 0 ≤ v.2.2.2.1 ∧ v.2.2.2.1 ≤ v.2.2.2.2.1 ∧ v.2.2.2.2.1 ≤ T.length)
   case m => exact (fun v => (v.2.2.2.2.1 - v.2.2.2.1).toNat)
   case hv => exact ⟨rfl, rfl, by first | omega | (dsimp only; omega), by first | omega | (dsimp only; omega), by first | omega | (dsimp only; omega)⟩
   case hn => exact (by first | omega | (dsimp only; omega))
   rintro ⟨x0, x1, x2, x3, x4, u⟩ hI
   dsimp only at hI
   obtain ⟨rfl, rfl, h0, h1, h2⟩ := hI
   unfold F288_l0
   dsimp only
   rw [mid2 (by omega) (by omega) (by omega)]
   with_reducible repeat' (first | apply dP | apply dX <;> intro _)
   · refine dZ (d289 _ _ _ _ _ _ _) ?_
     rintro ⟨m, u⟩ -
     dsimp only
     rw [w64s (n := (x3 + x4) / 2 + 1) (by omega)]
     with_reducible repeat' (first | apply dP | apply dX <;> intro _)
     · exact ⟨⟨rfl, rfl, by first | omega | (dsimp only; omega), by first | omega | (dsimp only; omega), by first | omega | (dsimp only; omega)⟩, by first | omega | (dsimp only; omega)⟩
     · exact ⟨⟨rfl, rfl, by first | omega | (dsimp only; omega), by first | omega | (dsimp only; omega), by first | omega | (dsimp only; omega)⟩, by first | omega | (dsimp only; omega)⟩
   · refine dO ?_; omega
   · exact ⟨rfl, rfl, by first | omega | (dsimp only; omega), by first | omega | (dsimp only; omega)⟩
 · rintro ⟨x0, x1, x2, x3, u⟩ hI
   dsimp only at hI ⊢
   obtain ⟨rfl, rfl, h0, h1⟩ := hI
   with_reducible repeat' (first | apply dP | apply dX <;> intro _)
   · refine dZ (d289 _ _ _ _ _ _ _) ?_
     rintro ⟨m, u⟩ -
     exact dP ⟨by first | omega | (dsimp only; omega), fun _ => by first | omega | (dsimp only; omega)⟩
   · refine dO ?_; omega
   · exact ⟨by first | omega | (dsimp only; omega), fun h => by cases h⟩
theorem d248 (T : List R6) (A : List R4) (B : List R3) (r : Int) (hT : T.length ≤ 1000000000000) : Df (C248 (T, A, B, r, ())) (fun y => y.2.2.2.1 = 0 ∨ ∃ e ∈ T, y.2.2.2.1 = e.2.2.2.1) := by
 show Df (F248 C288 _) _
 unfold F248
 dsimp only
 refine dZ (d288 T r hT) ?_
 rintro ⟨i, b, u⟩ h
 dsimp only at h ⊢
 with_reducible repeat' (first | apply dP | apply dX <;> intro _)
 · exact .inl rfl
 · rename_i h1
   have hlt : i.toNat < T.length := by omega
   refine .inr ⟨T[i.toNat], List.getElem_mem hlt, ?_⟩
   dsimp only
   rw [getD_lt hlt]
 · rename_i h1 h2
   have := h.2 h1
   refine dO ?_; omega
def TOk (T : List R6) : Prop := T.length ≤ 1000000000000 ∧ ∀ e ∈ T, 0 ≤ e.2.2.2.1 ∧ e.2.2.2.1 < 8
theorem d218 (T : List R6) (A : List R4) (B : List R3) (r : Int) (hT : TOk T) : Df (C218 (T, A, B, r, ())) (fun y => 0 ≤ y.1 ∧ y.1 < 8) := by
 show Df (F218 C248 _) _
 unfold F218
 dsimp only
 refine dZ (d248 T A B r hT.1) ?_
 rintro ⟨a, b, c, d, e, f, u⟩ h
 dsimp only at h ⊢
 refine dP ?_
 rcases h with rfl | ⟨e, he, rfl⟩
 · exact ⟨by decide, by decide⟩
 · exact hT.2 e he
theorem d215 (T : List R6) (A : List R4) (B : List R3) (r : Int) (hT : TOk T) : Df (C215 (T, A, B, r, ())) (fun _ => True) := by
 show Df (F215 C248 _) _
 unfold F215
 dsimp only
 exact dZ (d248 T A B r hT.1) fun _ _ => dP trivial
theorem d313 (T : List R6) (A : List R4) (B : List R3) (r : Int) (hT : TOk T) : Df (C313 (T, A, B, r, ())) (fun _ => True) := by
 show Df (F313 C248 _) _
 unfold F313
 dsimp only
 exact dZ (d248 T A B r hT.1) fun _ _ => dP trivial
theorem d306 (T : List R6) (A : List R4) (B : List R3) (r : Int) (hT : TOk T) : Df (C306 (T, A, B, r, ())) (fun _ => True) := by
 show Df (F306 C248 _) _
 unfold F306
 dsimp only
 exact dZ (d248 T A B r hT.1) fun _ _ => dP trivial
theorem d298 (a b c d e : Int) : Df (C298 (a, b, c, d, e, ())) (fun _ => True) := by
 show Df (F298 _) _
 unfold F298
 dsimp only
 with_reducible repeat' (first | apply dP | apply dX <;> intro _)
 all_goals trivial
theorem d297 (A : List R4) (r : Int) (hA : A.length ≤ 1000000000000) : Df (C297 (A, r, ())) (fun y => y.1 < A.length) := by
 show Df (F297 C298 C297_l0 _) _
 unfold F297
 dsimp only
 refine dZ (P := Sum.elim (fun _ => True) (fun y => y.1 < A.length)) ?_ ?_
 · refine dL ?I ?m ?h _ ?hv ?hn
   case I => exact (fun v => v.1 = A ∧ v.2.1 = A.length ∧ 0 ≤ v.2.2.1 ∧ v.2.2.1 ≤ A.length)
   case m => exact (fun v => (A.length - v.2.2.1).toNat)
   case hv => exact ⟨rfl, rfl, by first | omega | (dsimp only; omega), by first | omega | (dsimp only; omega)⟩
   case hn => exact (by first | omega | (dsimp only; omega))
   rintro ⟨x0, x1, x2, x3, u⟩ hI
   dsimp only at hI
   obtain ⟨rfl, rfl, h0, h1⟩ := hI
   unfold F297_l0
   dsimp only
   with_reducible repeat' (first | apply dP | apply dX <;> intro _)
   · refine dZ (d298 _ _ _ _ _) ?_
     rintro ⟨m, m', u⟩ -
     dsimp only
     rw [w64s (n := x2 + 1) (by omega)]
     with_reducible repeat' (first | apply dP | apply dX <;> intro _)
     · exact (by first | omega | (dsimp only; omega) : x2 < x0.length)
     · exact ⟨⟨rfl, rfl, by first | omega | (dsimp only; omega), by first | omega | (dsimp only; omega)⟩, by first | omega | (dsimp only; omega)⟩
   · refine dO ?_; omega
   · trivial
 · intro s hs
   refine dS hs ?_ ?_
   · rintro ⟨a, u⟩ -
     exact dP (by first | omega | (dsimp only; omega))
   · rintro ⟨a, b, u⟩ h
     exact dP h
theorem d276 (T : List R6) (A : List R4) (B : List R3) (r : Int) (hA : A.length ≤ 1000000000000) : Df (C276 (T, A, B, r, ())) (fun _ => True) := by
 show Df (F276 C297 _) _
 unfold F276
 dsimp only
 refine dZ (d297 A r hA) ?_
 rintro ⟨i, b, u⟩ h
 dsimp only at h ⊢
 with_reducible repeat' (first | apply dP | apply dX <;> intro _)
 all_goals first | trivial | (refine dO ?_; omega)
theorem d238 (a b c d : Int) : Df (C238 (a, b, c, d, ())) (fun _ => True) := by
 show Df (F238 _) _
 unfold F238
 dsimp only
 with_reducible repeat' (first | apply dP | apply dX <;> intro _)
 all_goals trivial
theorem d237 (A : List R3) (r : Int) (hA : A.length ≤ 1000000000000) : Df (C237 (A, r, ())) (fun y => y.1 < A.length) := by
 show Df (F237 C238 C237_l0 _) _
 unfold F237
 dsimp only
 refine dZ (P := Sum.elim (fun _ => True) (fun y => y.1 < A.length)) ?_ ?_
 · refine dL ?I ?m ?h _ ?hv ?hn
   case I => exact (fun v => v.1 = A ∧ v.2.1 = A.length ∧ 0 ≤ v.2.2.1 ∧ v.2.2.1 ≤ A.length)
   case m => exact (fun v => (A.length - v.2.2.1).toNat)
   case hv => exact ⟨rfl, rfl, by first | omega | (dsimp only; omega), by first | omega | (dsimp only; omega)⟩
   case hn => exact (by first | omega | (dsimp only; omega))
   rintro ⟨x0, x1, x2, x3, u⟩ hI
   dsimp only at hI
   obtain ⟨rfl, rfl, h0, h1⟩ := hI
   unfold F237_l0
   dsimp only
   with_reducible repeat' (first | apply dP | apply dX <;> intro _)
   · refine dZ (d238 _ _ _ _) ?_
     rintro ⟨m, m', u⟩ -
     dsimp only
     rw [w64s (n := x2 + 1) (by omega)]
     with_reducible repeat' (first | apply dP | apply dX <;> intro _)
     · exact (by first | omega | (dsimp only; omega) : x2 < x0.length)
     · exact ⟨⟨rfl, rfl, by first | omega | (dsimp only; omega), by first | omega | (dsimp only; omega)⟩, by first | omega | (dsimp only; omega)⟩
   · refine dO ?_; omega
   · trivial
 · intro s hs
   refine dS hs ?_ ?_
   · rintro ⟨a, u⟩ -
     exact dP (by first | omega | (dsimp only; omega))
   · rintro ⟨a, b, u⟩ h
     exact dP h
theorem d211 (T : List R6) (A : List R4) (B : List R3) (r : Int) (hB : B.length ≤ 1000000000000) : Df (C211 (T, A, B, r, ())) (fun _ => True) := by
 show Df (F211 C237 _) _
 unfold F211
 dsimp only
 refine dZ (d237 B r hB) ?_
 rintro ⟨i, b, u⟩ h
 dsimp only at h ⊢
 with_reducible repeat' (first | apply dP | apply dX <;> intro _)
 all_goals first | trivial | (refine dO ?_; omega)
theorem d216 (T : List R6) (A : List R4) (B : List R3) (r : Int) : Df (C216 (T, A, B, r, ())) (fun _ => True) := by
 unfold C216
 dsimp only
 with_reducible repeat' (first | apply dP | apply dX <;> intro _)
 · trivial
 · cases splitD r with
   | none => exact dP trivial
   | some s => exact dP trivial
theorem d212 (T : List R6) (A : List R4) (B : List R3) (r : Int) : Df (C212 (T, A, B, r, ())) (fun _ => True) := by
 show Df (F212 C216 _) _
 unfold F212
 dsimp only
 with_reducible repeat' (first | apply dP | apply dX <;> intro _)
 all_goals first | trivial | exact dZ (d216 T A B r) fun _ _ => dP trivial
theorem d210 (T : List R6) (A : List R4) (B : List R3) (l : List Int) (hl : l.length ≤ 1000000000000) : Df (C210 (l, T, A, B, ())) (fun y => y.1.length = l.length) := by
 show Df (F210 C212 C210_l0 _) _
 unfold F210
 dsimp only
 refine dZ (P := fun y => y.1.length = l.length) ?_ (fun _ h => dP h)
 refine dL ?I ?m ?h _ ?hv ?hn
 case I => exact (fun v => v.2.2.2.1 = l ∧ v.2.2.2.2.1 = l.length ∧ 0 ≤ v.2.2.2.2.2.1 ∧ v.2.2.2.2.2.1 ≤ l.length ∧ v.2.2.2.2.2.2.1.length = v.2.2.2.2.2.1)
 case m => exact (fun v => (l.length - v.2.2.2.2.2.1).toNat)
 case hv => exact ⟨rfl, rfl, by first | omega | (dsimp only; omega), by first | omega | (dsimp only; omega), rfl⟩
 case hn => exact (by first | omega | (dsimp only; omega))
 rintro ⟨x0, x1, x2, x3, x4, x5, x6, u⟩ hI
 dsimp only at hI
 obtain ⟨rfl, rfl, h0, h1, h2⟩ := hI
 unfold F210_l0
 dsimp only
 with_reducible repeat' (first | apply dP | apply dX <;> intro _)
 · refine dZ (d212 _ _ _ _) ?_
   rintro ⟨m, u⟩ -
   dsimp only
   rw [w64s (n := x5 + 1) (by omega)]
   with_reducible repeat' (first | apply dP | apply dX <;> intro _)
   · exact ⟨⟨rfl, rfl, by first | omega | (dsimp only; omega), by first | omega | (dsimp only; omega), by simp only [List.length_append, List.length_cons, List.length_nil]; omega⟩, by first | omega | (dsimp only; omega)⟩
   · refine dO ?_; simp only [List.length_cons, List.length_nil] at *; omega
 · refine dO ?_; omega
 · exact (by first | omega | (dsimp only; omega) : x6.length = x3.length)
theorem d210v1 (T : List R6) (A : List R4) (B : List R3) (hB : B.length ≤ 1000000000000) (l : List Int) (hl : l.length ≤ 1000000000000) : Df (C210v1 (l, T, A, B, ())) (fun y => y.1.length = l.length) := by
 show Df (F210v1 C211 C210v1_l0 _) _
 unfold F210v1
 dsimp only
 refine dZ (P := fun y => y.1.length = l.length) ?_ (fun _ h => dP h)
 refine dL ?I ?m ?h _ ?hv ?hn
 case I => exact (fun v => v.2.2.1 = B ∧ v.2.2.2.1 = l ∧ v.2.2.2.2.1 = l.length ∧ 0 ≤ v.2.2.2.2.2.1 ∧ v.2.2.2.2.2.1 ≤ l.length ∧ v.2.2.2.2.2.2.1.length = v.2.2.2.2.2.1)
 case m => exact (fun v => (l.length - v.2.2.2.2.2.1).toNat)
 case hv => exact ⟨rfl, rfl, rfl, by first | omega | (dsimp only; omega), by first | omega | (dsimp only; omega), rfl⟩
 case hn => exact (by first | omega | (dsimp only; omega))
 rintro ⟨x0, x1, x2, x3, x4, x5, x6, u⟩ hI
 dsimp only at hI
 obtain ⟨rfl, rfl, rfl, h0, h1, h2⟩ := hI
 unfold F210v1_l0
 dsimp only
 with_reducible repeat' (first | apply dP | apply dX <;> intro _)
 · refine dZ (d211 _ _ _ _ hB) ?_
   rintro ⟨m, u⟩ -
   dsimp only
   rw [w64s (n := x5 + 1) (by omega)]
   with_reducible repeat' (first | apply dP | apply dX <;> intro _)
   · exact ⟨⟨rfl, rfl, rfl, by first | omega | (dsimp only; omega), by first | omega | (dsimp only; omega), by simp only [List.length_append, List.length_cons, List.length_nil]; omega⟩, by first | omega | (dsimp only; omega)⟩
   · refine dO ?_; simp only [List.length_cons, List.length_nil] at *; omega
 · refine dO ?_; omega
 · exact (by first | omega | (dsimp only; omega) : x6.length = x3.length)
theorem d180 (T : List R6) (A : List R4) (B : List R3) (l : List Int) (hl : l.length ≤ 1000000000000) : Df (C180 (T, A, B, l, ())) (fun y => y.1.length = l.length) := by
 show Df (F180 C210 _) _
 unfold F180
 dsimp only
 exact dZ (d210 T A B l hl) fun _ h => dP h
theorem d179 (T : List R6) (A : List R4) (B : List R3) (hB : B.length ≤ 1000000000000) (l : List Int) (hl : l.length ≤ 1000000000000) : Df (C179 (T, A, B, l, ())) (fun y => y.1.length = l.length) := by
 show Df (F179 C210v1 _) _
 unfold F179
 dsimp only
 exact dZ (d210v1 T A B hB l hl) fun _ h => dP h
theorem d300 (a b c : Int) : Df (C300 (a, b, c, ())) (fun _ => True) := by
 show Df (F300 _) _
 unfold F300
 dsimp only
 with_reducible repeat' (first | apply dP | apply dX <;> intro _)
 all_goals trivial
theorem d301 (a : Int) : Df (C301 (a, ())) (fun y => y.1.length ≤ 3) := by
 show Df (F301 _) _
 unfold F301
 dsimp only
 with_reducible repeat' (first | apply dP | apply dX <;> intro _)
 all_goals (dsimp only; simp)
theorem d302 (a b : List Int) (ha : a.length ≤ 1000000) (hb : b.length ≤ 1000000) : Df (C302 ([a, b], ())) (fun y => y.1.length = a.length + b.length) := by
 show Df (F302 C312 C302_l0 C302_l1 _) _
 unfold F302
 dsimp only
 refine dZ (P := fun y => y.1 = [a, b] ∧ 0 ≤ y.2.1 ∧ y.2.1 ≤ 2000000) ?_ ?_
 · refine dL ?I ?m ?h _ ?hv ?hn
   case I => exact (fun v => v.1 = [a, b] ∧ v.2.2.1 = [a, b] ∧ v.2.2.2.1 = 2 ∧ ((v.2.2.2.2.1 = 0 ∧ v.2.1 = 0) ∨ (v.2.2.2.2.1 = 1 ∧ v.2.1 = a.length) ∨ (v.2.2.2.2.1 = 2 ∧ v.2.1 = a.length + b.length)))
   case m => exact (fun v => (2 - v.2.2.2.2.1).toNat)
   case hv => exact ⟨rfl, rfl, rfl, .inl ⟨rfl, rfl⟩⟩
   case hn => exact (by first | omega | (dsimp only; omega))
   rintro ⟨x0, x1, x2, x3, x4, u⟩ hI
   dsimp only at hI
   obtain ⟨rfl, rfl, rfl, hI⟩ := hI
   unfold F302_l0
   dsimp only
   rcases hI with ⟨rfl, rfl⟩ | ⟨rfl, rfl⟩ | ⟨rfl, rfl⟩
   · have e : ([a, b] : List (List Int)).getD (0 : Int).toNat [] = a := rfl
     rw [e, w64s (n := 0 + (a.length : Int)) (by omega), w64s (n := (0 : Int) + 1) (by omega)]
     with_reducible repeat' (first | apply dP | apply dX <;> intro _)
     all_goals first
      | exact ⟨⟨rfl, rfl, rfl, .inr (.inl ⟨rfl, by first | omega | (dsimp only; omega)⟩)⟩, by first | omega | (dsimp only; omega)⟩
      | (refine dO ?_; simp only [List.length_cons, List.length_nil] at *; omega)
      | (exfalso; omega)
   · have e : ([a, b] : List (List Int)).getD (1 : Int).toNat [] = b := rfl
     rw [e, w64s (n := (a.length : Int) + (b.length : Int)) (by omega), w64s (n := (1 : Int) + 1) (by omega)]
     with_reducible repeat' (first | apply dP | apply dX <;> intro _)
     all_goals first
      | exact ⟨⟨rfl, rfl, rfl, .inr (.inr ⟨rfl, rfl⟩)⟩, by first | omega | (dsimp only; omega)⟩
      | (refine dO ?_; simp only [List.length_cons, List.length_nil] at *; omega)
      | (exfalso; omega)
   · with_reducible repeat' (first | apply dP | apply dX <;> intro _)
     all_goals first
      | exact ⟨rfl, by first | omega | (dsimp only; omega), by first | omega | (dsimp only; omega)⟩
      | (refine dO ?_; simp only [List.length_cons, List.length_nil] at *; omega)
      | (exfalso; omega)
 · rintro ⟨x0, x1, u⟩ hI
   dsimp only at hI ⊢
   obtain ⟨rfl, h0, h1⟩ := hI
   refine dZ (P := fun y => y.1 = []) ?_ ?_
   · unfold C312
     dsimp only
     with_reducible repeat' (first | apply dP | apply dX <;> intro _)
     · rfl
     · refine dO ?_; omega
   rintro ⟨x2, u⟩ hx
   dsimp only at hx ⊢
   subst hx
   refine dZ (P := fun y => y.1.length = a.length + b.length) ?_ (fun _ h => dP h)
   refine dL ?I ?m ?h _ ?hv ?hn
   case I => exact (fun v => v.1 = [a, b] ∧ v.2.1 = 2 ∧ ((v.2.2.1 = 0 ∧ v.2.2.2.1.length = 0) ∨ (v.2.2.1 = 1 ∧ v.2.2.2.1.length = a.length) ∨ (v.2.2.1 = 2 ∧ v.2.2.2.1.length = a.length + b.length)))
   case m => exact (fun v => (2 - v.2.2.1).toNat)
   case hv => exact ⟨rfl, rfl, .inl ⟨rfl, rfl⟩⟩
   case hn => exact (by first | omega | (dsimp only; omega))
   rintro ⟨x0, x1, x2, x3, u⟩ hI
   dsimp only at hI
   obtain ⟨rfl, rfl, hI⟩ := hI
   unfold F302_l1
   dsimp only
   rcases hI with ⟨rfl, hx⟩ | ⟨rfl, hx⟩ | ⟨rfl, hx⟩
   · have e : ([a, b] : List (List Int)).getD (0 : Int).toNat [] = a := rfl
     rw [e, w64s (n := (0 : Int) + 1) (by omega)]
     with_reducible repeat' (first | apply dP | apply dX <;> intro _)
     all_goals first
      | exact ⟨⟨rfl, rfl, .inr (.inl ⟨rfl, by simp only [List.length_append]; omega⟩)⟩, by first | omega | (dsimp only; omega)⟩
      | (refine dO ?_; simp only [List.length_cons, List.length_nil] at *; omega)
      | (exfalso; omega)
   · have e : ([a, b] : List (List Int)).getD (1 : Int).toNat [] = b := rfl
     rw [e, w64s (n := (1 : Int) + 1) (by omega)]
     with_reducible repeat' (first | apply dP | apply dX <;> intro _)
     all_goals first
      | exact ⟨⟨rfl, rfl, .inr (.inr ⟨rfl, by simp only [List.length_append]; omega⟩)⟩, by first | omega | (dsimp only; omega)⟩
      | (refine dO ?_; simp only [List.length_cons, List.length_nil] at *; omega)
      | (exfalso; omega)
   · with_reducible repeat' (first | apply dP | apply dX <;> intro _)
     all_goals first
      | exact hx
      | (refine dO ?_; simp only [List.length_cons, List.length_nil] at *; omega)
      | (exfalso; omega)
def nxt (r : Int) : Option (Int × Int) := bif decide (65281 ≤ r) && decide (r ≤ 65374) then some (r - 65248, 0) else (splitD r).map fun s => (s.2.1, s.2.2.1)
def dep : Nat → Int → Bool
 | 0, _ => false
 | n + 1, r => match nxt r with
  | none => true
  | some (a, b) => dep n a && (b == 0 || dep n b)
theorem dep_k1 : ((List.range 94).all fun n => dep 4 ((33 + n : Nat) : Int)) = true := by kernel_rfl
theorem dep_k2 : (splitT.all fun s => dep 4 s.2.1 && (s.2.2.1 == 0 || dep 4 s.2.2.1)) = true := by kernel_rfl
theorem dep_all (r : Int) : dep 5 r = true := by
 unfold dep
 cases h : nxt r with
 | none => rfl
 | some p =>
  obtain ⟨a, b⟩ := p
  dsimp only
  unfold nxt at h
  by_cases hw : 65281 ≤ r ∧ r ≤ 65374
  · rw [decide_eq_true hw.1, decide_eq_true hw.2] at h
    simp only [Bool.and_self, cond_true, Option.some.injEq, Prod.mk.injEq] at h
    obtain ⟨rfl, rfl⟩ := h
    have := List.all_eq_true.1 dep_k1 (r - 65281).toNat (List.mem_range.2 (by omega))
    rw [show (((33 + (r - 65281).toNat : Nat)) : Int) = r - 65248 by omega] at this
    rw [this]; rfl
  · have e : (decide (65281 ≤ r) && decide (r ≤ 65374)) = false := by simp; omega
    rw [e] at h
    simp only [cond_false, Option.map_eq_some_iff] at h
    obtain ⟨s, hs, he⟩ := h
    have hm : s ∈ splitT := List.mem_of_find?_eq_some hs
    have := List.all_eq_true.1 dep_k2 s hm
    cases he
    exact this
theorem c216n (T : List R6) (A : List R4) (B : List R3) (r : Int) : Df (C216 (T, A, B, r, ())) (fun v => v.2.2.2.2.2.1 = false ∨ nxt r = some (v.2.1, v.2.2.1)) := by
 unfold C216 nxt
 dsimp only
 with_reducible repeat' (first | apply dP | apply dX <;> intro _)
 · rename_i h
   refine .inr ?_
   rw [decide_eq_true h.1, decide_eq_true h.2]; rfl
 · rename_i h
   have e : (decide (65281 ≤ r) && decide (r ≤ 65374)) = false := by simp; omega
   rw [e]
   cases splitD r with
   | none => exact dP (.inl rfl)
   | some s => exact dP (.inr rfl)
theorem d279c (G : T279) (r : Int) (sf b : Bool) (T : List R6) (A : List R4) (B : List R3) (v0 a c : Int) (s o : Bool) (K : Nat) (hK : 1 ≤ K)
 (ha : b = false → c = 0 → Df (G (T, A, B, a, sf, ())) (fun y => y.1.length ≤ K)) :
 Df (F279_c0 C216 G C300 C301 C302 (r, sf, b, T, A, B, v0, a, c, s, o, ())) (Sum.elim (fun y => y.1.length ≤ K) (fun y => y = (sf, T, A, B, v0, a, c, s, o, ()) ∧ b = false ∧ c ≠ 0)) := by
 unfold F279_c0
 dsimp only
 with_reducible repeat' (first | apply dP | apply dX <;> intro _)
 · exact (by simpa using hK : ([r] : List Int).length ≤ K)
 · rename_i h1 h2
   exact dZ (ha h1 h2) fun y hy => dP hy
 · rename_i h1 h2
   exact ⟨rfl, h1, h2⟩
theorem d279r (T : List R6) (A : List R4) (B : List R3) : ∀ (n m : Nat) (r : Int) (sf : Bool), dep n r = true → n ≤ 9 →
 Df (recN (fun G => F279 C216 G C300 C301 C302 (F279_c0 C216 G C300 C301 C302)) (n + m) (T, A, B, r, sf, ())) (fun y => y.1.length ≤ 3 * 2 ^ n)
 | 0, m, r, sf, h, hn => by cases h
 | n + 1, m, r, sf, h, hn => by
  rw [show n + 1 + m = (n + m) + 1 by omega]
  show Df (F279 C216 (recN (fun G => F279 C216 G C300 C301 C302 (F279_c0 C216 G C300 C301 C302)) (n + m)) C300 C301 C302 (F279_c0 C216 (recN (fun G => F279 C216 G C300 C301 C302 (F279_c0 C216 G C300 C301 C302)) (n + m)) C300 C301 C302) (T, A, B, r, sf, ())) _
  have ih := d279r T A B n m
  generalize recN (fun G => F279 C216 G C300 C301 C302 (F279_c0 C216 G C300 C301 C302)) (n + m) = G at ih ⊢
  have hp : 3 * 2 ^ n ≤ 3 * 2 ^ 9 := Nat.mul_le_mul_left 3 (Nat.pow_le_pow_right (by omega) (by omega))
  have hp1 : 1 ≤ 2 ^ n := Nat.one_le_two_pow
  have hp2 : 3 * 2 ^ (n + 1) = 3 * 2 ^ n + 3 * 2 ^ n := by rw [Nat.pow_succ]; omega
  generalize 3 * 2 ^ n = K at ih hp hp2
  have hK : 3 ≤ K ∨ True := .inr trivial
  rw [hp2]
  have hK3 : 3 ≤ K + K := by
   have : 3 * 2 ^ 1 ≤ 3 * 2 ^ (n + 1) := Nat.mul_le_mul_left 3 (Nat.pow_le_pow_right (by omega) (by omega))
   omega
  have ih' : ∀ (r : Int) (sf : Bool), dep n r = true → Df (G (T, A, B, r, sf, ())) (fun y => y.1.length ≤ K) := fun r sf h => ih r sf h (by omega)
  clear ih
  unfold F279
  dsimp only
  refine dZ (c216n T A B r) ?_
  rintro ⟨v0, a, c, s, o, is, u⟩ hv
  dsimp only at hv ⊢
  refine dZ (d300 _ _ _) ?_
  rintro ⟨b, u⟩ -
  dsimp only
  have two : is = true → c ≠ 0 → ∀ sf, Df ((G (T, A, B, a, sf, ())).bind fun val_2 => (G (T, A, B, c, sf, ())).bind fun val => (C302 ([val_2.fst, val.fst], ())).bind fun val => some (val.fst, ())) (fun y => y.1.length ≤ K + K) := by
   intro his hc sf
   rcases hv with rfl | hv
   · cases his
   · unfold dep at h
     rw [hv] at h
     simp only [Bool.and_eq_true, Bool.or_eq_true, beq_iff_eq] at h
     refine dZ (ih' a sf h.1) ?_
     rintro ⟨p, u⟩ hp'
     refine dZ (ih' c sf (h.2.resolve_left hc)) ?_
     rintro ⟨q, u⟩ hq
     dsimp only at hp' hq ⊢
     refine dZ (d302 p q (by omega) (by omega)) ?_
     rintro ⟨z, u⟩ hz
     exact dP (by dsimp only at hz ⊢; omega)
  have one : is = true → Df (G (T, A, B, a, sf, ())) (fun y => y.1.length ≤ K + K) := by
   intro his
   rcases hv with rfl | hv
   · cases his
   · unfold dep at h
     rw [hv] at h
     simp only [Bool.and_eq_true] at h
     exact (ih' a sf h.1).mono fun _ h => by omega
  with_reducible repeat' (first | apply dP | apply dX <;> intro _)
  · refine dZ (d301 _) ?_
    rintro ⟨l, u⟩ hl
    exact dP (by dsimp only at hl ⊢; omega)
  · refine dZ (d279c G r sf true T A B v0 a c s o (K + K) (by omega) (fun h => by cases h)) ?_
    intro z hz
    refine dS hz (fun y hy => dP hy) ?_
    rintro y ⟨-, h, -⟩
    cases h
  · rename_i h1 h2 h3
    refine dZ (d279c G r sf (!sf) T A B v0 a c s o (K + K) (by omega) (fun _ _ => one h2)) ?_
    intro z hz
    refine dS hz (fun y hy => dP hy) ?_
    rintro y ⟨rfl, -, hc⟩
    exact two h2 hc sf
  · rename_i h1 h2 h3
    refine dZ (d279c G r sf false T A B v0 a c s o (K + K) (by omega) (fun _ _ => one h2)) ?_
    intro z hz
    refine dS hz (fun y hy => dP hy) ?_
    rintro y ⟨rfl, -, hc⟩
    exact two h2 hc sf
theorem d279 (T : List R6) (A : List R4) (B : List R3) (r : Int) (sf : Bool) : Df (C279 (T, A, B, r, sf, ())) (fun y => y.1.length ≤ 96) := by
 obtain ⟨m, hm⟩ : ∃ m, big = 5 + m := ⟨big - 5, by unfold big; omega⟩
 show Df (recN (fun G => F279 C216 G C300 C301 C302 (F279_c0 C216 G C300 C301 C302)) big _) _
 rw [hm]
 exact d279r T A B 5 m r sf (dep_all r) (by omega)
theorem d240 (T : List R6) (A : List R4) (B : List R3) (l : List Int) (sf : Bool) (hl : l.length ≤ 100000000000) : Df (C240 (T, A, B, l, sf, ())) (fun y => y.1.length ≤ 96 * l.length) := by
 show Df (F240 C279 C240_l0 _) _
 unfold F240
 dsimp only
 refine dZ (P := fun y => y.1.length ≤ 96 * l.length) ?_ (fun _ h => dP h)
 refine dL ?I ?m ?h _ ?hv ?hn
 case I => exact (fun v => v.2.1 = l ∧ v.2.2.1 = l.length ∧ 0 ≤ v.2.2.2.1 ∧ v.2.2.2.1 ≤ l.length ∧ v.2.2.2.2.2.2.2.1.length ≤ 96 * v.2.2.2.1)
 case m => exact (fun v => (l.length - v.2.2.2.1).toNat)
 case hv => exact ⟨rfl, rfl, by first | omega | (dsimp only; omega), by first | omega | (dsimp only; omega), by simp⟩
 case hn => exact (by first | omega | (dsimp only; omega))
 rintro ⟨x0, x1, x2, x3, x4, x5, x6, x7, u⟩ hI
 dsimp only at hI
 obtain ⟨rfl, rfl, h0, h1, h2⟩ := hI
 unfold F240_l0
 dsimp only
 with_reducible repeat' (first | apply dP | apply dX <;> intro _)
 · refine dZ (d279 _ _ _ _ _) ?_
   rintro ⟨z, u⟩ hz
   dsimp only at hz ⊢
   rw [w64s (n := x3 + 1) (by omega)]
   with_reducible repeat' (first | apply dP | apply dX <;> intro _)
   · exact ⟨⟨rfl, rfl, by first | omega | (dsimp only; omega), by first | omega | (dsimp only; omega), by simp only [List.length_append]; omega⟩, by first | omega | (dsimp only; omega)⟩
   · refine dO ?_; omega
 · refine dO ?_; omega
 · exact (by first | omega | (dsimp only; omega) : x7.length ≤ 96 * x1.length)
theorem d303 (T : List R6) (A : List R4) (B : List R3) (a b : Int) : Df (C303 (T, A, B, a, b, ())) (fun _ => True) := by
 unfold C303
 dsimp only
 cases pairD a b with
 | none => exact dP trivial
 | some s => exact dP trivial
theorem d280_0 (a b : Int) (f : Bool) (T : List R6) (A : List R4) (B : List R3) : Df (C280_c0 (a, b, f, T, A, B, ())) (fun _ => True) := by
 show Df (F280_c0 C300 C303 _) _
 unfold F280_c0
 dsimp only
 with_reducible repeat' (first | apply dP | apply dX <;> intro _)
 · trivial
 · refine dZ (d300 _ _ _) ?_
   rintro ⟨z, u⟩ -
   dsimp only
   with_reducible repeat' (first | apply dP | apply dX <;> intro _)
   · refine dZ (d300 _ _ _) ?_
     rintro ⟨z, u⟩ -
     dsimp only
     with_reducible repeat' (first | apply dP | apply dX <;> intro _)
     all_goals trivial
   all_goals trivial
theorem d280 (T : List R6) (A : List R4) (B : List R3) (a b : Int) : Df (C280 (T, A, B, a, b, ())) (fun _ => True) := by
 show Df (F280 C300 C303 C280_c0 _) _
 unfold F280
 dsimp only
 have fin : ∀ f, Df ((C280_c0 (a, b, f, T, A, B, ())).bind fun val => Sum.elim (fun val => some (val.fst, val.snd.fst, ())) (fun val => (C303 (val.snd.snd.fst, val.snd.snd.snd.fst, val.snd.snd.snd.snd.fst, val.fst, val.snd.fst, ())).bind fun val => some (val.fst, val.snd.fst, ())) val) (fun _ => True) := by
  intro f
  refine dZ (d280_0 a b f T A B) ?_
  intro z hz
  cases z with
  | inl y => exact dP trivial
  | inr y => exact dZ (d303 _ _ _ _ _) fun _ _ => dP trivial
 refine dZ (d300 _ _ _) ?_
 rintro ⟨z, u⟩ -
 dsimp only
 with_reducible repeat' (first | apply dP | apply dX <;> intro _)
 · refine dZ (d300 _ _ _) ?_
   rintro ⟨z, u⟩ -
   exact fin _
 · exact fin _
theorem d241_0 (x0 x1 x2 x3 : Int) (x4 : List Int) (x5 x6 : Int) (x7 : Bool) (x8 : List R6) (x9 : List R4) (x10 : List R3) (x11 : List Int) (h : x7 = true → 0 ≤ x0 ∧ x0 < x11.length) :
 Df (C241_c0 (x0, x1, x2, x3, x4, x5, x6, x7, x8, x9, x10, x11, ())) (Sum.elim (fun y => ∃ l', l'.length = x11.length ∧ y = (x0, x1, x4, x5, x6, x8, x9, x10, l', ())) (fun y => y = (x0, x1, x2, x3, x4, x5, x6, x8, x9, x10, x11, ()))) := by
 show Df (F241_c0 C276 C280 _) _
 unfold F241_c0
 dsimp only
 with_reducible repeat' (first | apply dP | apply dX <;> intro _)
 · refine dZ (d280 _ _ _ _ _) ?_
   rintro ⟨a, b, u⟩ -
   dsimp only
   with_reducible repeat' (first | apply dP | apply dX <;> intro _)
   · exact ⟨_, List.length_set, rfl⟩
   · rename_i h1 h2 h3 h4
     exact absurd h2 h4
   · exact rfl
 · rename_i h1 h2
   exact dO (h2 (h h1))
 · exact rfl
theorem d241 (T : List R6) (A : List R4) (B : List R3) (l : List Int) (hl : l.length ≤ 10000000000000) (hA : A.length ≤ 1000000000000) : Df (C241 (T, A, B, l, ())) (fun y => y.1.length ≤ l.length) := by
 show Df (F241 C276 C280 C241_l0 _) _
 unfold F241
 dsimp only
 refine dZ (P := fun y => y.1.length ≤ l.length) ?_ (fun _ h => dP h)
 refine dL ?I ?m ?h _ ?hv ?hn
 case I => exact (fun v => v.2.2.1 = l ∧ v.2.2.2.1 = l.length ∧ 0 ≤ v.2.2.2.2.1 ∧ v.2.2.2.2.1 ≤ l.length ∧ v.2.2.2.2.2.2.1 = A ∧ v.2.2.2.2.2.2.2.2.1.length ≤ v.2.2.2.2.1 ∧ v.1 < v.2.2.2.2.2.2.2.2.1.length)
 case m => exact (fun v => (l.length - v.2.2.2.2.1).toNat)
 case hv => exact ⟨rfl, rfl, by first | omega | (dsimp only; omega), by first | omega | (dsimp only; omega), rfl, by simp, by simp⟩
 case hn => exact (by first | omega | (dsimp only; omega))
 rintro ⟨x0, x1, x2, x3, x4, x5, x6, x7, x8, u⟩ hI
 dsimp only at hI
 obtain ⟨rfl, rfl, h0, h1, rfl, h2, h3⟩ := hI
 have fin : ∀ (cl : Int) (f : Bool), (f = true → 0 ≤ x0 ∧ x0 < x8.length) → x4 < x2.length → Df ((C241_c0 (x0, x1, x2.getD x4.toNat 0, cl, x2, (x2.length : Int), x4, f, x5, x6, x7, x8, ())).bind fun val =>
  Sum.elim (fun val => some (Sum.inl (val.fst, val.snd.fst, val.snd.snd.fst, val.snd.snd.snd.fst, IntKind.i64.wrap (val.snd.snd.snd.snd.fst + 1), val.snd.snd.snd.snd.snd.fst, val.snd.snd.snd.snd.snd.snd.fst, val.snd.snd.snd.snd.snd.snd.snd.fst, val.snd.snd.snd.snd.snd.snd.snd.snd.fst, ())))
   (fun val => bif decide (List.length val.snd.snd.snd.snd.snd.snd.snd.snd.snd.snd.fst + [val.snd.snd.fst].length ≤ 140737488355328 / 4) then
    bif val.snd.snd.snd.fst == 0 then some (Sum.inl (IntKind.i64.wrap ((↑(val.snd.snd.snd.snd.snd.snd.snd.snd.snd.snd.fst ++ [val.snd.snd.fst]).length : Int) - 1), 0, val.snd.snd.snd.snd.fst, val.snd.snd.snd.snd.snd.fst, IntKind.i64.wrap (val.snd.snd.snd.snd.snd.snd.fst + 1), val.snd.snd.snd.snd.snd.snd.snd.fst, val.snd.snd.snd.snd.snd.snd.snd.snd.fst, val.snd.snd.snd.snd.snd.snd.snd.snd.snd.fst, val.snd.snd.snd.snd.snd.snd.snd.snd.snd.snd.fst ++ [val.snd.snd.fst], ()))
    else some (Sum.inl (val.fst, if val.snd.snd.snd.fst > val.snd.fst then val.snd.snd.snd.fst else val.snd.fst, val.snd.snd.snd.snd.fst, val.snd.snd.snd.snd.snd.fst, IntKind.i64.wrap (val.snd.snd.snd.snd.snd.snd.fst + 1), val.snd.snd.snd.snd.snd.snd.snd.fst, val.snd.snd.snd.snd.snd.snd.snd.snd.fst, val.snd.snd.snd.snd.snd.snd.snd.snd.snd.fst, val.snd.snd.snd.snd.snd.snd.snd.snd.snd.snd.fst ++ [val.snd.snd.fst], ()))
    else none) val)
  (Sum.elim (fun v' : Int × Int × List Int × Int × Int × List R6 × List R4 × List R3 × List Int × Unit => (v'.2.2.1 = x2 ∧ v'.2.2.2.1 = (x2.length : Int) ∧ 0 ≤ v'.2.2.2.2.1 ∧ v'.2.2.2.2.1 ≤ x2.length ∧ v'.2.2.2.2.2.2.1 = x6 ∧ v'.2.2.2.2.2.2.2.2.1.length ≤ v'.2.2.2.2.1 ∧ v'.1 < v'.2.2.2.2.2.2.2.2.1.length) ∧ (x2.length - v'.2.2.2.2.1).toNat < (x2.length - x4).toNat) (fun y : List Int × Unit => y.1.length ≤ x2.length)) := by
  intro cl f hf hlt
  refine dZ (d241_0 _ _ _ _ _ _ _ _ _ _ _ _ hf) ?_
  intro z hz
  refine dS hz ?_ ?_
  · rintro y ⟨l', hl', rfl⟩
    dsimp only
    rw [w64s (n := x4 + 1) (by omega)]
    exact dP ⟨⟨rfl, rfl, by first | omega | (dsimp only; omega), by first | omega | (dsimp only; omega), rfl, by first | omega | (dsimp only; omega), by first | omega | (dsimp only; omega)⟩, by first | omega | (dsimp only; omega)⟩
  · rintro y rfl
    dsimp only
    rw [w64s (n := x4 + 1) (by omega), w64s (n := ((x8 ++ [x2.getD x4.toNat 0]).length : Int) - 1) (by simp only [List.length_append, List.length_cons, List.length_nil]; omega)]
    with_reducible repeat' (first | apply dP | apply dX <;> intro _)
    · exact ⟨⟨rfl, rfl, by first | omega | (dsimp only; omega), by first | omega | (dsimp only; omega), rfl, by simp only [List.length_append, List.length_cons, List.length_nil]; omega, by simp only [List.length_append, List.length_cons, List.length_nil]; omega⟩, by first | omega | (dsimp only; omega)⟩
    · exact ⟨⟨rfl, rfl, by first | omega | (dsimp only; omega), by first | omega | (dsimp only; omega), rfl, by simp only [List.length_append, List.length_cons, List.length_nil]; omega, by simp only [List.length_append, List.length_cons, List.length_nil]; omega⟩, by first | omega | (dsimp only; omega)⟩
    · refine dO ?_; simp only [List.length_cons, List.length_nil] at *; omega
 unfold F241_l0
 dsimp only
 with_reducible repeat' (first | apply dP | apply dX <;> intro _)
 · rename_i h4 h5
   refine dZ (d276 _ _ _ _ hA) ?_
   rintro ⟨cl, u⟩ -
   dsimp only
   with_reducible repeat' (first | apply dP | apply dX <;> intro _)
   · exact fin _ _ (fun _ => by omega) (by omega)
   · exact fin _ _ (fun _ => by omega) (by omega)
   · exact fin _ _ (fun h => by cases h) (by omega)
 · refine dO ?_; omega
 · exact (by first | omega | (dsimp only; omega) : x8.length ≤ x2.length)
theorem d290 (a b : Int) : Df (C290 (a, b, ())) (fun y => 1 ≤ y.1 ∧ y.1 ≤ 26) := by
 show Df (F290 _) _
 unfold F290
 dsimp only
 refine dP ?_
 dsimp only
 generalize IntKind.i64.wrap (a - b) = n
 split <;> split <;> omega
theorem d291_0 (a : Int) (b : Bool) : Df (C291_c0 (a, b, ())) (fun _ => True) := by
 show Df (F291_c0 _) _
 unfold F291_c0
 dsimp only
 with_reducible repeat' (first | apply dP | apply dX <;> intro _)
 all_goals trivial
theorem d291 (a : Int) : Df (C291 (a, ())) (fun _ => True) := by
 show Df (F291 C291_c0 _) _
 unfold F291
 dsimp only
 with_reducible repeat' (first | apply dP | apply dX <;> intro _)
 all_goals (refine dZ (d291_0 _ _) ?_; intro z hz; cases z <;> exact dP trivial)
theorem d251_l (n b k : Int) (out : List UInt8) (j : Nat) (h0 : 0 ≤ n) (h1 : n < 10 ^ j) (hb : out.length + j ≤ 100000000000000) (hn : n ≤ 100000000000000) :
 Df (C251_l0 (n, b, k, out, ())) (fun y => y.1.length ≤ out.length + j + 1) := by
 refine dL ?I ?m ?h _ ?hv ?hn
 case I => exact (fun v => ∃ j' : Nat, 0 ≤ v.1 ∧ v.1 < 10 ^ j' ∧ v.1 ≤ n ∧ v.2.2.2.1.length + j' ≤ out.length + j)
 case m => exact (fun v => v.1.toNat)
 case hv => exact ⟨j, h0, h1, Int.le_refl _, Nat.le_refl _⟩
 case hn => exact (by first | omega | (dsimp only; omega))
 rintro ⟨x0, x1, x2, x3, u⟩ hI
 dsimp only at hI
 obtain ⟨j', i0, i1, i2, i3⟩ := hI
 unfold F251_l0
 dsimp only
 refine dZ (d290 _ _) ?_
 rintro ⟨t, u⟩ ht
 dsimp only at ht ⊢
 with_reducible repeat' (first | apply dP | apply dX <;> intro _)
 · refine dZ (d291 _) ?_
   rintro ⟨d, d', u⟩ -
   dsimp only
   with_reducible repeat' (first | apply dP | apply dX <;> intro _)
   · exact (by simp only [List.length_append, List.length_cons, List.length_nil]; omega : (x3 ++ [_]).length ≤ out.length + j + 1)
   · refine dO ?_; simp only [List.length_cons, List.length_nil] at *; omega
 · rename_i hge hne
   refine dZ (d291 _) ?_
   rintro ⟨d, d', u⟩ -
   dsimp only
   rw [w64s (n := 36 - t) (by omega)] at hne ⊢
   rw [w64s (n := x0 - t) (by omega), Int.tdiv_eq_ediv_of_nonneg (by omega)]
   have q0 : 0 ≤ (x0 - t) / (36 - t) := Int.ediv_nonneg (by omega) (by omega)
   have q1 : (x0 - t) / (36 - t) * (36 - t) ≤ x0 - t := Int.ediv_mul_le _ (by omega)
   have q2 : (x0 - t) / (36 - t) * 10 ≤ (x0 - t) / (36 - t) * (36 - t) := Int.mul_le_mul_of_nonneg_left (by omega) q0
   generalize (x0 - t) / (36 - t) = q at q0 q1 q2 ⊢
   rw [w64s (n := q) (by omega)]
   with_reducible repeat' (first | apply dP | apply dX <;> intro _)
   · obtain ⟨i, rfl⟩ : ∃ i, j' = i + 1 := by
      cases j' with
      | zero => simp at i1; omega
      | succ i => exact ⟨i, rfl⟩
     rw [Int.pow_succ] at i1
     generalize hP : (10 : Int) ^ i = P at i1
     refine ⟨⟨i, q0, ?_, ?_, ?_⟩, ?_⟩
     · show q < 10 ^ i
       rw [hP]; omega
     · dsimp only; omega
     · simp only [List.length_append, List.length_cons, List.length_nil]; omega
     · dsimp only; omega
   · rename_i hz
     exact absurd hz hne
   · refine dO ?_; simp only [List.length_cons, List.length_nil] at *; omega
 · rename_i hge hne
   rw [w64s (n := 36 - t) (by omega)] at hne
   refine dO ?_; omega
theorem d251 (n b : Int) (out : List UInt8) (h0 : 0 ≤ n) (h1 : n < 10 ^ 13) (hb : out.length ≤ 90000000000000) :
 Df (C251 (n, b, out, ())) (fun y => y.1.length ≤ out.length + 14) := by
 show Df (F251 C290 C291 C251_l0 _) _
 unfold F251
 dsimp only
 refine dZ (d290 _ _) ?_
 rintro ⟨t, u⟩ ht
 dsimp only at ht ⊢
 have h13 : (10 : Int) ^ 13 = 10000000000000 := rfl
 have h12 : (10 : Int) ^ 12 = 1000000000000 := rfl
 rw [h13] at h1
 with_reducible repeat' (first | apply dP | apply dX <;> intro _)
 · refine dZ (d291 _) ?_
   rintro ⟨d, d', u⟩ -
   dsimp only
   with_reducible repeat' (first | apply dP | apply dX <;> intro _)
   · exact (by simp only [List.length_append, List.length_cons, List.length_nil]; omega : (out ++ [_]).length ≤ out.length + 14)
   · refine dO ?_; simp only [List.length_cons, List.length_nil] at *; omega
 · rename_i hge hne
   refine dZ (d291 _) ?_
   rintro ⟨d, d', u⟩ -
   dsimp only
   rw [w64s (n := 36 - t) (by omega)] at hne ⊢
   rw [w64s (n := n - t) (by omega), Int.tdiv_eq_ediv_of_nonneg (by omega)]
   have q0 : 0 ≤ (n - t) / (36 - t) := Int.ediv_nonneg (by omega) (by omega)
   have q1 : (n - t) / (36 - t) * (36 - t) ≤ n - t := Int.ediv_mul_le _ (by omega)
   have q2 : (n - t) / (36 - t) * 10 ≤ (n - t) / (36 - t) * (36 - t) := Int.mul_le_mul_of_nonneg_left (by omega) q0
   generalize (n - t) / (36 - t) = q at q0 q1 q2 ⊢
   rw [w64s (n := q) (by omega)]
   with_reducible repeat' (first | apply dP | apply dX <;> intro _)
   · refine dZ (d251_l q b _ (out ++ [UInt8.ofNat (Int.toNat d)]) 12 q0 (by rw [h12]; omega) (by simp only [List.length_append, List.length_cons, List.length_nil]; omega) (by omega)) ?_
     rintro ⟨y, u⟩ hy
     simp only [List.length_append, List.length_cons, List.length_nil] at hy
     exact dP (by first | omega | (dsimp only; omega))
   · rename_i hz
     exact absurd hz hne
   · refine dO ?_; simp only [List.length_cons, List.length_nil] at *; omega
 · rename_i hge hne
   rw [w64s (n := 36 - t) (by omega)] at hne
   refine dO ?_; omega
theorem d252_l (a b : Int) (h0 : 0 ≤ a) (h1 : a ≤ 100000000000000000) : Df (C252_l0 (a, b, ())) (fun y => 0 ≤ y.1 ∧ y.1 ≤ 455) := by
 refine dL ?I ?m ?h _ ?hv ?hn
 case I => exact (fun v => 0 ≤ v.1 ∧ v.1 ≤ 100000000000000000)
 case m => exact (fun v => v.1.toNat)
 case hv => exact ⟨h0, h1⟩
 case hn => exact (by first | omega | (dsimp only; omega))
 rintro ⟨x0, x1, u⟩ hI
 dsimp only at hI
 unfold F252_l0
 dsimp only
 with_reducible repeat' (first | apply dP | apply dX <;> intro _)
 · rw [Int.tdiv_eq_ediv_of_nonneg (by omega), w64s (n := x0 / 35) (by omega)]
   exact ⟨⟨by first | omega | (dsimp only; omega), by first | omega | (dsimp only; omega)⟩, by first | omega | (dsimp only; omega)⟩
 · exact ⟨by first | omega | (dsimp only; omega), by first | omega | (dsimp only; omega)⟩
theorem d252_0 (a c : Int) (h0 : 0 ≤ a) (h1 : a ≤ 10000000000000000) : Df (C252_c0 (a, c, ())) (fun _ => True) := by
 show Df (F252_c0 C252_l0 _) _
 unfold F252_c0
 dsimp only
 have hm : 1 ≤ (if c > 1 then c else 1) := by split <;> omega
 generalize (if c > 1 then c else 1) = m at hm
 have q0 : 0 ≤ a / m := Int.ediv_nonneg h0 (by omega)
 have q1 : a / m ≤ a := Int.ediv_le_self _ h0
 rw [Int.tdiv_eq_ediv_of_nonneg h0, w64s (n := a / m) (by omega), w64s (n := a + a / m) (by omega)]
 with_reducible repeat' (first | apply dP | apply dX <;> intro _)
 · refine dZ (d252_l _ _ (by omega) (by omega)) ?_
   rintro ⟨x, y, u⟩ h
   dsimp only at h ⊢
   rw [w64s (n := x + 38) (by omega)]
   with_reducible repeat' (first | apply dP | apply dX <;> intro _)
   · trivial
   · refine dO ?_; omega
 · refine dO ?_; omega
theorem d252 (a c : Int) (f : Bool) (h0 : 0 ≤ a) (h1 : a ≤ 10000000000000000) : Df (C252 (a, c, f, ())) (fun _ => True) := by
 show Df (F252 C252_c0 _) _
 unfold F252
 dsimp only
 rw [Int.tdiv_eq_ediv_of_nonneg h0, Int.tdiv_eq_ediv_of_nonneg h0, w64s (n := a / 700) (by omega), w64s (n := a / 2) (by omega)]
 with_reducible repeat' (first | apply dP | apply dX <;> intro _)
 · exact dZ (d252_0 _ _ (by omega) (by omega)) fun _ _ => dP trivial
 · exact dZ (d252_0 _ _ (by omega) (by omega)) fun _ _ => dP trivial
def cnt (n : Int) (l : List Int) : Nat := l.countP fun r => decide (r < n)
def ceq (n : Int) (l : List Int) : Nat := l.countP fun r => decide (r = n)
theorem cnt_le (n : Int) (l : List Int) : cnt n l ≤ l.length := List.countP_le_length
theorem cnt_succ (n : Int) : ∀ l : List Int, cnt (n + 1) l = cnt n l + ceq n l
 | [] => rfl
 | x :: l => by
  have ih := cnt_succ n l
  unfold cnt ceq at *
  simp only [List.countP_cons, decide_eq_true_eq]
  split <;> split <;> split <;> omega
theorem cnt_same {n m : Int} (h : n ≤ m) : ∀ {l : List Int}, (∀ r ∈ l, n ≤ r → m ≤ r) → cnt m l = cnt n l
 | [], _ => rfl
 | x :: l, hl => by
  have ih := cnt_same (l := l) h fun r hr => hl r (List.mem_cons_of_mem _ hr)
  have hx := hl x List.mem_cons_self
  unfold cnt at *
  simp only [List.countP_cons, decide_eq_true_eq]
  split <;> split <;> omega
theorem cnt_all {n : Int} : ∀ {l : List Int}, (∀ r ∈ l, r < n) → cnt n l = l.length
 | [], _ => rfl
 | x :: l, hl => by
  have ih := cnt_all (l := l) fun r hr => hl r (List.mem_cons_of_mem _ hr)
  have hx := hl x List.mem_cons_self
  unfold cnt at *
  simp only [List.countP_cons, List.length_cons, decide_eq_true_eq, hx, if_true]
  omega
theorem ceq_pos {n : Int} : ∀ {l : List Int}, n ∈ l → 1 ≤ ceq n l
 | x :: l, h => by
  unfold ceq
  simp only [List.countP_cons, decide_eq_true_eq]
  rcases List.mem_cons.1 h with rfl | h
  · simp
  · have := ceq_pos h
    unfold ceq at this
    omega
theorem ceq_take {n : Int} {l : List Int} {i : Nat} (h : i < l.length) : ceq n (l.take (i + 1)) = ceq n (l.take i) + if l[i] = n then 1 else 0 := by
 unfold ceq
 rw [take_succ_get h, List.countP_append]
 simp [List.countP_cons]
theorem cnt_take {n : Int} {l : List Int} {i : Nat} (h : i < l.length) : cnt n (l.take (i + 1)) = cnt n (l.take i) + if l[i] < n then 1 else 0 := by
 unfold cnt
 rw [take_succ_get h, List.countP_append]
 simp [List.countP_cons]
theorem ceq_le_take (n : Int) (l : List Int) (i : Nat) : ceq n (l.take i) ≤ ceq n l := by
 unfold ceq
 exact (List.take_sublist i l).countP_le
theorem d250 (l : List Int) (n : Int) (hn : 0 ≤ n) (hl : l.length ≤ 1000000000000) : Df (C250 (l, n, ())) (fun y => (y.1 < 0 ∧ ∀ r ∈ l, r < n) ∨ (y.1 ∈ l ∧ n ≤ y.1 ∧ ∀ r ∈ l, n ≤ r → y.1 ≤ r)) := by
 show Df (F250 C250_l0 _) _
 unfold F250
 dsimp only
 refine dZ (P := fun y => (y.1 < 0 ∧ ∀ r ∈ l, r < n) ∨ (y.1 ∈ l ∧ n ≤ y.1 ∧ ∀ r ∈ l, n ≤ r → y.1 ≤ r)) ?_ (fun _ h => dP h)
 refine dL ?I ?m ?h _ ?hv ?hn
 case I => exact (fun v => v.1 = n ∧ v.2.2.1 = l ∧ v.2.2.2.1 = l.length ∧ 0 ≤ v.2.2.2.2.1 ∧ v.2.2.2.2.1 ≤ l.length ∧ ((v.2.1 < 0 ∧ ∀ r ∈ l.take v.2.2.2.2.1.toNat, r < n) ∨ (v.2.1 ∈ l ∧ n ≤ v.2.1 ∧ ∀ r ∈ l.take v.2.2.2.2.1.toNat, n ≤ r → v.2.1 ≤ r)))
 case m => exact (fun v => (l.length - v.2.2.2.2.1).toNat)
 case hv => exact ⟨rfl, rfl, rfl, by first | omega | (dsimp only; omega), by first | omega | (dsimp only; omega), .inl ⟨by first | omega | (dsimp only; omega), by simp⟩⟩
 case hn => exact (by first | omega | (dsimp only; omega))
 rintro ⟨x0, x1, x2, x3, x4, u⟩ hI
 dsimp only at hI
 obtain ⟨rfl, rfl, rfl, h0, h1, hI⟩ := hI
 unfold F250_l0
 dsimp only
 with_reducible repeat' (first | apply dP | apply dX <;> intro _)
 all_goals try rw [w64s (n := x4 + 1) (by omega)]
 · rename_i a1 a2 a3 a4
   have hlt : x4.toNat < x2.length := by omega
   rw [getD_lt hlt] at a3 ⊢
   refine ⟨⟨rfl, rfl, rfl, by first | omega | (dsimp only; omega), by first | omega | (dsimp only; omega), .inr ⟨List.getElem_mem hlt, a3, ?_⟩⟩, by first | omega | (dsimp only; omega)⟩
   dsimp only
   intro r hr hge
   rw [show (x4 + 1).toNat = x4.toNat + 1 by omega, take_succ_get hlt] at hr
   rcases List.mem_append.1 hr with hr | hr
   · rcases hI with ⟨_, hI⟩ | ⟨_, hx, _⟩
     · have := hI r hr; omega
     · omega
   · rw [List.mem_singleton] at hr; omega
 · rename_i a1 a2 a3 a4 a5
   have hlt : x4.toNat < x2.length := by omega
   rw [getD_lt hlt] at a3 a5 ⊢
   refine ⟨⟨rfl, rfl, rfl, by first | omega | (dsimp only; omega), by first | omega | (dsimp only; omega), .inr ⟨List.getElem_mem hlt, a3, ?_⟩⟩, by first | omega | (dsimp only; omega)⟩
   dsimp only
   intro r hr hge
   rw [show (x4 + 1).toNat = x4.toNat + 1 by omega, take_succ_get hlt] at hr
   rcases List.mem_append.1 hr with hr | hr
   · rcases hI with ⟨hx, _⟩ | ⟨_, hx, hI⟩
     · omega
     · have := hI r hr hge; omega
   · rw [List.mem_singleton] at hr; omega
 · rename_i a1 a2 a3 a4 a5
   have hlt : x4.toNat < x2.length := by omega
   rw [getD_lt hlt] at a3 a5
   refine ⟨⟨rfl, rfl, rfl, by first | omega | (dsimp only; omega), by first | omega | (dsimp only; omega), ?_⟩, by first | omega | (dsimp only; omega)⟩
   dsimp only
   rcases hI with ⟨hx, _⟩ | ⟨hm, hx, hI⟩
   · omega
   · refine .inr ⟨hm, hx, fun r hr hge => ?_⟩
     rw [show (x4 + 1).toNat = x4.toNat + 1 by omega, take_succ_get hlt] at hr
     rcases List.mem_append.1 hr with hr | hr
     · exact hI r hr hge
     · rw [List.mem_singleton] at hr; omega
 · rename_i a1 a2 a3
   have hlt : x4.toNat < x2.length := by omega
   rw [getD_lt hlt] at a3
   refine ⟨⟨rfl, rfl, rfl, by first | omega | (dsimp only; omega), by first | omega | (dsimp only; omega), ?_⟩, by first | omega | (dsimp only; omega)⟩
   dsimp only
   rcases hI with ⟨hx, hI⟩ | ⟨hm, hx, hI⟩
   · refine .inl ⟨hx, fun r hr => ?_⟩
     rw [show (x4 + 1).toNat = x4.toNat + 1 by omega, take_succ_get hlt] at hr
     rcases List.mem_append.1 hr with hr | hr
     · exact hI r hr
     · rw [List.mem_singleton] at hr; omega
   · refine .inr ⟨hm, hx, fun r hr hge => ?_⟩
     rw [show (x4 + 1).toNat = x4.toNat + 1 by omega, take_succ_get hlt] at hr
     rcases List.mem_append.1 hr with hr | hr
     · exact hI r hr hge
     · rw [List.mem_singleton] at hr; omega
 · refine dO ?_; omega
 · rw [List.take_of_length_le (by omega)] at hI
   exact hI
theorem d223_0 (l : List Int) (hl : l.length ≤ 1000000000000) : Df (C223_l0 (l, l, (l.length : Int), 0, [], ())) (Sum.elim (fun y => y.1 = l ∧ (∀ r ∈ l, 0 ≤ r ∧ r ≤ 1114111) ∧ y.2.1.length = cnt 128 l) (fun y => y.1 = [])) := by
 refine dL ?I ?m ?h _ ?hv ?hn
 case I => exact (fun v => v.1 = l ∧ v.2.1 = l ∧ v.2.2.1 = l.length ∧ 0 ≤ v.2.2.2.1 ∧ v.2.2.2.1 ≤ l.length ∧ (∀ r ∈ l.take v.2.2.2.1.toNat, 0 ≤ r ∧ r ≤ 1114111) ∧ v.2.2.2.2.1.length = cnt 128 (l.take v.2.2.2.1.toNat))
 case m => exact (fun v => (l.length - v.2.2.2.1).toNat)
 case hv => exact ⟨rfl, rfl, rfl, by first | omega | (dsimp only; omega), by first | omega | (dsimp only; omega), by simp, rfl⟩
 case hn => exact (by first | omega | (dsimp only; omega))
 rintro ⟨x0, x1, x2, x3, x4, u⟩ hI
 dsimp only at hI
 obtain ⟨rfl, rfl, rfl, h0, h1, h2, h3⟩ := hI
 unfold F223_l0
 dsimp only
 with_reducible repeat' (first | apply dP | apply dX <;> intro _)
 · refine dZ (d155 _) ?_
   rintro ⟨b, u⟩ hb
   dsimp only at hb ⊢
   have hlt : x3.toNat < x1.length := by omega
   have hc := cnt_le 128 (x1.take x3.toNat)
   rw [List.length_take] at hc
   have hr : b = true → ∀ r ∈ x1.take (x3.toNat + 1), 0 ≤ r ∧ r ≤ 1114111 := by
    intro hbt r hr
    rw [take_succ_get hlt] at hr
    rcases List.mem_append.1 hr with hr | hr
    · exact h2 r hr
    · rw [List.mem_singleton] at hr
      have := hb hbt
      rw [getD_lt hlt] at this
      subst hr; exact this
   have hct := cnt_take (n := 128) hlt
   have hs : (x3 + 1).toNat = x3.toNat + 1 := by omega
   rw [w64s (n := x3 + 1) (by omega)]
   with_reducible repeat' (first | apply dP | apply dX <;> intro _)
   · exact rfl
   · rename_i hbt hlow _
     rw [getD_lt hlt] at hlow
     rw [if_pos hlow] at hct
     exact ⟨⟨rfl, rfl, rfl, by first | omega | (dsimp only; omega), by first | omega | (dsimp only; omega), by dsimp only; rw [hs]; exact hr hbt, by dsimp only; rw [hs, List.length_append, hct, h3]; rfl⟩, by first | omega | (dsimp only; omega)⟩
   · refine dO ?_; simp only [List.length_cons, List.length_nil] at *; omega
   · rename_i hbt hlow
     rw [getD_lt hlt] at hlow
     rw [if_neg hlow] at hct
     exact ⟨⟨rfl, rfl, rfl, by first | omega | (dsimp only; omega), by first | omega | (dsimp only; omega), by dsimp only; rw [hs]; exact hr hbt, by dsimp only; rw [hs, hct, h3]; rfl⟩, by first | omega | (dsimp only; omega)⟩
 · refine dO ?_; omega
 · rw [List.take_of_length_le (by omega)] at h2 h3
   exact ⟨rfl, h2, h3⟩
theorem d223_1 (l : List Int) (p m delta bias h : Int) (out : List UInt8) (hl : l.length ≤ 1000000000000) (hh : h = cnt m l) (hd : 0 ≤ delta ∧ delta ≤ 2147483647) (ho : out.length ≤ l.length + 1 + 14 * cnt m l) :
 Df (C223_l1 (l, p, m, delta, bias, h, l, (l.length : Int), 0, out, ())) (fun y => y.1 = l ∧ y.2.1 = p ∧ y.2.2.1 = m ∧ 0 ≤ y.2.2.2.1 ∧ y.2.2.2.1 ≤ 2147483647 + l.length ∧ y.2.2.2.2.2.1 = cnt m l + ceq m l ∧ y.2.2.2.2.2.2.1.length ≤ l.length + 1 + 14 * (cnt m l + ceq m l)) := by
 refine dL ?I ?m ?h _ ?hv ?hn
 case I => exact (fun v => v.1 = l ∧ v.2.1 = p ∧ v.2.2.1 = m ∧ 0 ≤ v.2.2.2.1 ∧ v.2.2.2.1 ≤ 2147483647 + v.2.2.2.2.2.2.2.2.1 ∧ v.2.2.2.2.2.1 = cnt m l + ceq m (l.take v.2.2.2.2.2.2.2.2.1.toNat) ∧ v.2.2.2.2.2.2.1 = l ∧ v.2.2.2.2.2.2.2.1 = l.length ∧ 0 ≤ v.2.2.2.2.2.2.2.2.1 ∧ v.2.2.2.2.2.2.2.2.1 ≤ l.length ∧ v.2.2.2.2.2.2.2.2.2.1.length ≤ l.length + 1 + 14 * (cnt m l + ceq m (l.take v.2.2.2.2.2.2.2.2.1.toNat)))
 case m => exact (fun v => (l.length - v.2.2.2.2.2.2.2.2.1).toNat)
 case hv => exact ⟨rfl, rfl, rfl, hd.1, by first | omega | (dsimp only; omega), by dsimp only; rw [hh]; simp [ceq], rfl, rfl, by first | omega | (dsimp only; omega), by first | omega | (dsimp only; omega), by dsimp only; simpa [ceq] using ho⟩
 case hn => exact (by first | omega | (dsimp only; omega))
 rintro ⟨x0, x1, x2, x3, x4, x5, x6, x7, x8, x9, u⟩ hI
 dsimp only at hI
 obtain ⟨rfl, rfl, rfl, h0, h1, rfl, rfl, rfl, h2, h3, h4⟩ := hI
 have c1 := cnt_le x2 x6
 have c2 := ceq_le_take x2 x6 x8.toNat
 have c3 : ceq x2 x6 ≤ x6.length := List.countP_le_length
 unfold F223_l1
 dsimp only
 with_reducible repeat' (first | apply dP | apply dX <;> intro _)
 all_goals try rw [w64s (n := x8 + 1) (by omega)]
 · rename_i a1 a2 a3
   have hlt : x8.toNat < x6.length := by omega
   have hct := ceq_take (n := x2) hlt
   have hs : (x8 + 1).toNat = x8.toNat + 1 := by omega
   rw [getD_lt hlt] at a3
   rw [if_neg (by omega)] at hct
   rw [w64s (n := x3 + 1) (by omega)]
   refine ⟨⟨rfl, rfl, rfl, by first | omega | (dsimp only; omega), by first | omega | (dsimp only; omega), ?_, rfl, rfl, by first | omega | (dsimp only; omega), by first | omega | (dsimp only; omega), ?_⟩, by first | omega | (dsimp only; omega)⟩
   · dsimp only; rw [hs, hct]; simp
   · dsimp only; rw [hs, hct]; omega
 · rename_i a1 a2 a3 a4
   have hlt : x8.toNat < x6.length := by omega
   have hct := ceq_take (n := x2) hlt
   have hs : (x8 + 1).toNat = x8.toNat + 1 := by omega
   rw [getD_lt hlt] at a3 a4
   rw [if_pos a4] at hct
   refine dZ (d251 _ _ _ h0 (by rw [show (10 : Int) ^ 13 = 10000000000000 from rfl]; omega) (by omega)) ?_
   rintro ⟨y, u⟩ hy
   dsimp only at hy ⊢
   rw [w64s (n := ((cnt x2 x6 : Int) + (ceq x2 (x6.take x8.toNat) : Int)) + 1) (by omega)]
   refine dZ (d252 _ _ _ h0 (by omega)) ?_
   rintro ⟨z, u⟩ -
   dsimp only
   refine dP ⟨⟨rfl, rfl, rfl, by first | omega | (dsimp only; omega), by first | omega | (dsimp only; omega), ?_, rfl, rfl, by first | omega | (dsimp only; omega), by first | omega | (dsimp only; omega), ?_⟩, by first | omega | (dsimp only; omega)⟩
   · dsimp only; rw [hs, hct]; simp; omega
   · dsimp only; rw [hs, hct]; omega
 · rename_i a1 a2 a3 a4
   have hlt : x8.toNat < x6.length := by omega
   have hct := ceq_take (n := x2) hlt
   have hs : (x8 + 1).toNat = x8.toNat + 1 := by omega
   rw [getD_lt hlt] at a3 a4
   rw [if_neg a4] at hct
   refine ⟨⟨rfl, rfl, rfl, by first | omega | (dsimp only; omega), by first | omega | (dsimp only; omega), ?_, rfl, rfl, by first | omega | (dsimp only; omega), by first | omega | (dsimp only; omega), ?_⟩, by first | omega | (dsimp only; omega)⟩
   · dsimp only; rw [hs, hct]; simp
   · dsimp only; rw [hs, hct]; omega
 · refine dO ?_; omega
 · rw [List.take_of_length_le (by omega)] at h4 ⊢
   exact ⟨rfl, rfl, rfl, by first | omega | (dsimp only; omega), by first | omega | (dsimp only; omega), rfl, h4⟩
theorem d223_2 (l : List Int) (out : List UInt8) (hl : l.length ≤ 1000000000000) (hr : ∀ r ∈ l, 0 ≤ r ∧ r ≤ 1114111) (ho : out.length ≤ l.length + 1) :
 Df (C223_l2 (l, (cnt 128 l : Int), 128, 0, 72, (cnt 128 l : Int), out, ())) (Sum.elim (fun y => y.1.length ≤ 15 * l.length + 1) (fun y => y.1 = [])) := by
 refine dL ?I ?m ?h _ ?hv ?hn
 case I => exact (fun v => v.1 = l ∧ 128 ≤ v.2.2.1 ∧ v.2.2.1 ≤ 1114112 ∧ 0 ≤ v.2.2.2.1 ∧ v.2.2.2.1 ≤ 2147483648 + l.length ∧ v.2.2.2.2.2.1 = cnt v.2.2.1 l ∧ v.2.2.2.2.2.2.1.length ≤ l.length + 1 + 14 * cnt v.2.2.1 l)
 case m => exact (fun v => l.length - cnt v.2.2.1 l)
 case hv => exact ⟨rfl, by first | omega | (dsimp only; omega), by first | omega | (dsimp only; omega), by first | omega | (dsimp only; omega), by first | omega | (dsimp only; omega), rfl, by first | omega | (dsimp only; omega)⟩
 case hn => exact (by first | omega | (dsimp only; omega))
 rintro ⟨x0, x1, x2, x3, x4, x5, x6, u⟩ hI
 dsimp only at hI
 obtain ⟨rfl, h0, h1, h2, h3, rfl, h4⟩ := hI
 have c1 := cnt_le x2 x0
 unfold F223_l2
 dsimp only
 with_reducible repeat' (first | apply dP | apply dX <;> intro _)
 · rename_i hlt
   refine dZ (d250 x0 x2 (by omega) hl) ?_
   rintro ⟨m, u⟩ hm
   dsimp only at hm ⊢
   rcases hm with ⟨_, hm⟩ | ⟨hm, hnm, hmin⟩
   · have := cnt_all hm
     omega
   · have hm2 := hr m hm
     have hp0 : 0 ≤ (m - x2) * ((cnt x2 x0 : Int) + 1) := Int.mul_nonneg (by omega) (by omega)
     have hp1 : (m - x2) * ((cnt x2 x0 : Int) + 1) ≤ 1114111 * ((cnt x2 x0 : Int) + 1) := Int.mul_le_mul_of_nonneg_right (by omega) (by omega)
     rw [w32s (n := m - x2) (by omega), w64s (n := m - x2) (by omega), w64s (n := (cnt x2 x0 : Int) + 1) (by omega)]
     generalize (m - x2) * ((cnt x2 x0 : Int) + 1) = P at hp0 hp1 ⊢
     rw [w64s (n := P) (by omega), w64s (n := x3 + P) (by omega)]
     have hsame := cnt_same hnm hmin
     have hpos := ceq_pos hm
     have hsucc := cnt_succ m x0
     have c4 := cnt_le (m + 1) x0
     with_reducible repeat' (first | apply dP | apply dX <;> intro _)
     · exact rfl
     · refine dZ (d223_1 x0 x1 m (x3 + P) x4 _ x6 hl (by rw [hsame]) (by omega) (by omega)) ?_
       rintro ⟨y0, y1, y2, y3, y4, y5, y6, u⟩ hy
       dsimp only at hy ⊢
       obtain ⟨rfl, rfl, rfl, k0, k1, rfl, k2⟩ := hy
       rw [w32s (n := y2 + 1) (by omega), w64s (n := y3 + 1) (by omega)]
       refine dP ⟨⟨rfl, by first | omega | (dsimp only; omega), by first | omega | (dsimp only; omega), by first | omega | (dsimp only; omega), by first | omega | (dsimp only; omega), ?_, ?_⟩, ?_⟩
       · dsimp only; rw [hsucc]; simp
       · dsimp only; rw [hsucc]; exact k2
       · dsimp only; omega
 · exact (by first | omega | (dsimp only; omega) : x6.length ≤ 15 * x0.length + 1)
theorem d223 (l : List Int) (hl : l.length ≤ 1000000000000) : Df (C223 (l, ())) (fun y => y.1.length ≤ 15 * l.length + 1) := by
 show Df (F223 C155 C250 C251 C252 C223_c0 C223_l0 _) _
 unfold F223
 dsimp only
 refine dZ (d223_0 l hl) ?_
 intro z hz
 refine dS hz ?_ ?_
 · rintro ⟨x0, x1, u⟩ hx
   dsimp only at hx ⊢
   obtain ⟨rfl, hr, hc⟩ := hx
   have c0 := cnt_le 128 x0
   have fin : ∀ out : List UInt8, out.length ≤ x0.length + 1 → Df ((C223_c0 (x0, (x1.length : Int), out, ())).bind fun val => some (val.fst, val.snd.fst, ())) (fun y => y.1.length ≤ 15 * x0.length + 1) := by
    intro out ho
    refine dZ (P := fun y => y.1.length ≤ 15 * x0.length + 1) ?_ (fun _ h => dP h)
    show Df (F223_c0 C155 C250 C251 C252 C223_l2 _) _
    unfold F223_c0
    dsimp only
    rw [hc]
    refine dZ (d223_2 x0 out hl hr ho) ?_
    intro z hz
    refine dS hz ?_ ?_
    · rintro ⟨y, u⟩ hy; exact dP hy
    · rintro ⟨y, b, u⟩ hy
      dsimp only at hy
      subst hy
      exact dP (by simp)
   with_reducible repeat' (first | apply dP | apply dX <;> intro _)
   · exact fin _ (by simp only [List.length_append, List.length_cons, List.length_nil]; omega)
   · refine dO ?_; simp only [List.length_cons, List.length_nil] at *; omega
   · exact fin _ (by omega)
 · rintro ⟨y, b, u⟩ hy
   dsimp only at hy
   subst hy
   exact dP (by simp)
structure TK (T : List R6) (A : List R4) (B : List R3) : Prop where
 t : TOk T
 a : A.length ≤ 1000000000000
 b : B.length ≤ 1000000000000
section
variable {T : List R6} {A : List R4} {B : List R3}
theorem d304 (l : List Int) (p n : Int) (hp : 0 ≤ p ∧ p ≤ 1000000000000000) (hn : -1000000000000001 ≤ n ∧ n ≤ 1000000000000001) : Df (C304 (T, A, B, l, p, n, ())) (fun y => y.1 ≥ 0 → 0 ≤ p + n ∧ p + n < l.length) := by
 show Df (F304 _) _
 unfold F304
 dsimp only
 rw [w64s (n := p + n) (by omega)]
 with_reducible repeat' (first | apply dP | apply dX <;> intro _)
 · intro h; dsimp only at h; omega
 · intro h; dsimp only at h; omega
 · intro h; omega
 · refine dO ?_; omega
theorem d282 (h : TK T A B) (l : List Int) (p : Int) (hp : 0 ≤ p ∧ p ≤ 1000000000000000) : Df (C282 (T, A, B, l, p, ())) (fun _ => True) := by
 show Df (F282 C276 C304 _) _
 unfold F282
 dsimp only
 refine dZ (d304 l p (-1) hp (by omega)) ?_
 rintro ⟨x, u⟩ -
 exact dZ (d276 T A B _ h.a) fun _ _ => dP trivial
theorem d305 (h : TK T A B) (l : List Int) (p s : Int) (hp : 0 ≤ p ∧ p < l.length) (hl : l.length ≤ 1000000000000) (hs : s = 1 ∨ s = -1) : Df (C305 (T, A, B, l, p, s, ())) (fun _ => True) := by
 show Df (F305 C304 C313 C305_l0 _) _
 unfold F305
 dsimp only
 refine dZ (P := fun _ => True) ?_ ?_
 · refine dL ?I ?m ?h _ ?hv ?hn
   case I => exact (fun v => v.1 = s ∧ v.2.2.1 = T ∧ v.2.2.2.2.2.1 = l ∧ v.2.2.2.2.2.2.1 = p ∧ -1 ≤ p + v.2.1 ∧ p + v.2.1 ≤ l.length)
   case m => exact (fun v => (bif s == 1 then (l.length - (p + v.2.1)) else p + v.2.1 + 1).toNat)
   case hv => exact ⟨rfl, rfl, rfl, rfl, by first | omega | (dsimp only; omega), by first | omega | (dsimp only; omega)⟩
   case hn => exact (by rcases hs with rfl | rfl <;> simp <;> omega)
   rintro ⟨x0, x1, x2, x3, x4, x5, x6, u⟩ hI
   dsimp only at hI
   obtain ⟨rfl, rfl, rfl, rfl, h0, h1⟩ := hI
   unfold F305_l0
   dsimp only
   refine dZ (d304 x5 x6 x1 (by omega) (by omega)) ?_
   rintro ⟨c, u⟩ hc
   dsimp only at hc ⊢
   with_reducible repeat' (first | apply dP | apply dX <;> intro _)
   · rename_i hge
     have hc' := hc hge
     refine dZ (d304 x5 x6 x1 (by omega) (by omega)) ?_
     rintro ⟨c, u⟩ -
     dsimp only
     refine dZ (d313 x2 _ _ _ h.t) ?_
     rintro ⟨j, u⟩ -
     dsimp only
     rw [w64s (n := x1 + x0) (by omega)]
     with_reducible repeat' (first | apply dP | apply dX <;> intro _)
     · trivial
     · refine ⟨⟨rfl, rfl, rfl, rfl, by first | omega | (dsimp only; omega), by first | omega | (dsimp only; omega)⟩, ?_⟩
       rcases hs with rfl | rfl
       · simp only [show ((1 : Int) == 1) = true from rfl, cond_true]; omega
       · simp only [show ((-1 : Int) == 1) = false from rfl, cond_false]; omega
   · trivial
 · intro z hz
   cases z <;> exact dP trivial
theorem d283 (h : TK T A B) (l : List Int) (p : Int) (hp : 0 ≤ p ∧ p < l.length) (hl : l.length ≤ 1000000000000) : Df (C283 (T, A, B, l, p, ())) (fun _ => True) := by
 show Df (F283 C282 C305 _) _
 unfold F283
 dsimp only
 refine dZ (d305 h l p 1 hp hl (.inl rfl)) ?_
 rintro ⟨x, u⟩ -
 refine dZ (d282 h l p (by omega)) ?_
 rintro ⟨y, u⟩ -
 dsimp only
 with_reducible repeat' (first | apply dP | apply dX <;> intro _)
 · trivial
 · refine dZ (d305 h l p (-1) hp hl (.inr rfl)) ?_
   rintro ⟨x, u⟩ -
   dsimp only
   with_reducible repeat' (first | apply dP | apply dX <;> intro _)
   all_goals trivial
theorem d284 (l : List Int) (p : Int) (hp : 0 ≤ p ∧ p ≤ 1000000000000000) : Df (C284 (T, A, B, l, p, ())) (fun _ => True) := by
 show Df (F284 C304 _) _
 unfold F284
 dsimp only
 refine dZ (d304 l p (-1) hp (by omega)) ?_
 rintro ⟨x, u⟩ -
 dsimp only
 with_reducible repeat' (first | apply dP | apply dX <;> intro _)
 · exact dZ (d304 l p 1 hp (by omega)) fun _ _ => dP trivial
 · trivial
theorem d285 (h : TK T A B) (l : List Int) (p : Int) (hp : 0 ≤ p ∧ p ≤ 1000000000000000) : Df (C285 (T, A, B, l, p, ())) (fun _ => True) := by
 show Df (F285 C304 C306 _) _
 unfold F285
 dsimp only
 refine dZ (d304 l p 1 hp (by omega)) ?_
 rintro ⟨x, u⟩ -
 exact dZ (d306 T A B _ h.t) fun _ _ => dP trivial
theorem d286 (h : TK T A B) (l : List Int) (p : Int) (hp : 0 ≤ p ∧ p ≤ 1000000000000000) : Df (C286 (T, A, B, l, p, ())) (fun _ => True) := by
 show Df (F286 C304 C306 _) _
 unfold F286
 dsimp only
 refine dZ (d304 l p (-1) hp (by omega)) ?_
 rintro ⟨x, u⟩ -
 exact dZ (d306 T A B _ h.t) fun _ _ => dP trivial
theorem d242 (x : Int) : Df (C242 (x, ())) (fun _ => True) := by
 show Df (F242 _) _
 unfold F242
 dsimp only
 with_reducible repeat' (first | apply dP | apply dX <;> intro _)
 all_goals trivial
theorem d245 (x : Int) : Df (C245 (x, ())) (fun _ => True) := by
 show Df (F245 _) _
 unfold F245
 dsimp only
 with_reducible repeat' (first | apply dP | apply dX <;> intro _)
 all_goals trivial
theorem d281 (l : List Int) (hl : l.length ≤ 1000000000000) : Df (C281 (l, ())) (fun _ => True) := by
 show Df (F281 C245 C281_l0 _) _
 unfold F281
 dsimp only
 refine dZ (P := fun _ => True) ?_ (fun z _ => by cases z <;> exact dP trivial)
 refine dL ?I ?m ?h _ ?hv ?hn
 case I => exact (fun v => v.1 = l ∧ v.2.1 = l.length ∧ 0 ≤ v.2.2.1 ∧ v.2.2.1 ≤ l.length)
 case m => exact (fun v => (l.length - v.2.2.1).toNat)
 case hv => exact ⟨rfl, rfl, by first | omega | (dsimp only; omega), by first | omega | (dsimp only; omega)⟩
 case hn => exact (by first | omega | (dsimp only; omega))
 rintro ⟨x0, x1, x2, u⟩ hI
 dsimp only at hI
 obtain ⟨rfl, rfl, h0, h1⟩ := hI
 unfold F281_l0
 dsimp only
 with_reducible repeat' (first | apply dP | apply dX <;> intro _)
 · refine dZ (d245 _) ?_
   rintro ⟨b, u⟩ -
   dsimp only
   rw [w64s (n := x2 + 1) (by omega)]
   with_reducible repeat' (first | apply dP | apply dX <;> intro _)
   · trivial
   · exact ⟨⟨rfl, rfl, by first | omega | (dsimp only; omega), by first | omega | (dsimp only; omega)⟩, by first | omega | (dsimp only; omega)⟩
 · refine dO ?_; omega
 · trivial
theorem d281v1 (l : List Int) (hl : l.length ≤ 1000000000000) : Df (C281v1 (l, ())) (fun _ => True) := by
 show Df (F281v1 C242 C281v1_l0 _) _
 unfold F281v1
 dsimp only
 refine dZ (P := fun _ => True) ?_ (fun z _ => by cases z <;> exact dP trivial)
 refine dL ?I ?m ?h _ ?hv ?hn
 case I => exact (fun v => v.1 = l ∧ v.2.1 = l.length ∧ 0 ≤ v.2.2.1 ∧ v.2.2.1 ≤ l.length)
 case m => exact (fun v => (l.length - v.2.2.1).toNat)
 case hv => exact ⟨rfl, rfl, by first | omega | (dsimp only; omega), by first | omega | (dsimp only; omega)⟩
 case hn => exact (by first | omega | (dsimp only; omega))
 rintro ⟨x0, x1, x2, u⟩ hI
 dsimp only at hI
 obtain ⟨rfl, rfl, h0, h1⟩ := hI
 unfold F281v1_l0
 dsimp only
 with_reducible repeat' (first | apply dP | apply dX <;> intro _)
 · refine dZ (d242 _) ?_
   rintro ⟨b, u⟩ -
   dsimp only
   rw [w64s (n := x2 + 1) (by omega)]
   with_reducible repeat' (first | apply dP | apply dX <;> intro _)
   · trivial
   · exact ⟨⟨rfl, rfl, by first | omega | (dsimp only; omega), by first | omega | (dsimp only; omega)⟩, by first | omega | (dsimp only; omega)⟩
 · refine dO ?_; omega
 · trivial
theorem d243 (l : List Int) (p : Int) (hl : l.length ≤ 1000000000000) : Df (C243 (T, A, B, l, p, ())) (fun _ => True) := by
 show Df (F243 C244 _) _
 unfold F243
 dsimp only
 refine dZ (P := fun _ => True) ?_ (fun _ _ => dP trivial)
 show Df (F244 C281 _) _
 unfold F244
 dsimp only
 exact dZ (d281 l hl) fun _ _ => dP trivial
theorem d246 (l : List Int) (p : Int) (hl : l.length ≤ 1000000000000) : Df (C246 (T, A, B, l, p, ())) (fun _ => True) := by
 show Df (F246 C244v1 _) _
 unfold F246
 dsimp only
 refine dZ (P := fun _ => True) ?_ (fun _ _ => dP trivial)
 show Df (F244v1 C281v1 _) _
 unfold F244v1
 dsimp only
 exact dZ (d281v1 l hl) fun _ _ => dP trivial
theorem d307 (h : TK T A B) (r : Int) (l : List Int) (p : Int) : Df (C307 (r, T, A, B, l, p, ())) (fun y => y.2 = (T, A, B, l, p, ())) := by
 show Df (F307 C306 _) _
 unfold F307
 dsimp only
 refine dZ (d306 T A B _ h.t) ?_
 rintro ⟨x, u⟩ -
 dsimp only
 with_reducible repeat' (first | apply dP | apply dX <;> intro _)
 all_goals rfl
theorem d281v2 (h : TK T A B) (l : List Int) (l' : List Int) (p : Int) (hl : l.length ≤ 1000000000000) : Df (C281v2 (l, T, A, B, l', p, ())) (fun _ => True) := by
 show Df (F281v2 C307 C281v2_l0 _) _
 unfold F281v2
 dsimp only
 refine dZ (P := fun _ => True) ?_ (fun z _ => by cases z <;> exact dP trivial)
 refine dL ?I ?m ?h _ ?hv ?hn
 case I => exact (fun v => v.1 = l ∧ v.2.1 = l.length ∧ 0 ≤ v.2.2.1 ∧ v.2.2.1 ≤ l.length ∧ v.2.2.2 = (T, A, B, l', p, ()))
 case m => exact (fun v => (l.length - v.2.2.1).toNat)
 case hv => exact ⟨rfl, rfl, by first | omega | (dsimp only; omega), by first | omega | (dsimp only; omega), rfl⟩
 case hn => exact (by first | omega | (dsimp only; omega))
 rintro ⟨x0, x1, x2, x3, x4, x5, x6, x7, u⟩ hI
 dsimp only at hI
 obtain ⟨rfl, rfl, h0, h1, h2⟩ := hI
 simp only [Prod.mk.injEq] at h2
 obtain ⟨rfl, rfl, rfl, rfl, rfl, -⟩ := h2
 unfold F281v2_l0
 dsimp only
 with_reducible repeat' (first | apply dP | apply dX <;> intro _)
 · refine dZ (d307 h _ _ _) ?_
   rintro ⟨b, y1, y2, y3, y4, y5, u⟩ hy
   simp only [Prod.mk.injEq] at hy
   obtain ⟨rfl, rfl, rfl, rfl, rfl, -⟩ := hy
   dsimp only
   rw [w64s (n := x2 + 1) (by omega)]
   with_reducible repeat' (first | apply dP | apply dX <;> intro _)
   · trivial
   · exact ⟨⟨rfl, rfl, by first | omega | (dsimp only; omega), by first | omega | (dsimp only; omega), rfl⟩, by first | omega | (dsimp only; omega)⟩
 · refine dO ?_; omega
 · trivial
theorem d287 (h : TK T A B) (l : List Int) (p : Int) (hl : l.length ≤ 1000000000000) : Df (C287 (T, A, B, l, p, ())) (fun _ => True) := by
 show Df (F287 C244v2 _) _
 unfold F287
 dsimp only
 refine dZ (P := fun _ => True) ?_ (fun _ _ => dP trivial)
 show Df (F244v2 C281v2 _) _
 unfold F244v2
 dsimp only
 exact dZ (d281v2 h l l p hl) fun _ _ => dP trivial
theorem d214 (x : Int) : Df (C214 (x, ())) (fun _ => True) := by
 show Df (F214 C242 C245 C247 _) _
 unfold F214
 dsimp only
 refine dZ (d242 x) ?_
 rintro ⟨b, u⟩ -
 dsimp only
 with_reducible repeat' (first | apply dP | apply dX <;> intro _)
 · trivial
 · refine dZ (d245 x) ?_
   rintro ⟨b, u⟩ -
   dsimp only
   with_reducible repeat' (first | apply dP | apply dX <;> intro _)
   · trivial
   · refine dZ (P := fun _ => True) ⟨(), rfl, trivial⟩ ?_
     intro u _
     with_reducible repeat' (first | apply dP | apply dX <;> intro _)
     all_goals trivial
theorem d183 (h : TK T A B) (l : List Int) (p : Int) (hl : l.length ≤ 1000000000000) (hp : p ≤ 1000000000000) : Df (C183 (T, A, B, l, p, ())) (fun _ => True) := by
 show Df (F183 C214 C243 C246 C282 C283 C284 C285 C286 C287 _) _
 unfold F183
 dsimp only
 have fin : ∀ {x : Option (Bool × Unit)}, Df x (fun _ => True) → Df (x.bind fun val => bif val.fst then some ((1 : Int), ()) else some (2, ())) (fun _ => True) := by
  intro x hx
  refine dZ hx ?_
  rintro ⟨b, u⟩ -
  dsimp only
  with_reducible repeat' (first | apply dP | apply dX <;> intro _)
  all_goals trivial
 with_reducible repeat' (first | apply dP | apply dX <;> intro _)
 · trivial
 · trivial
 · refine dZ (d214 _) ?_
   intro z _
   rcases z with z | z | z | z | z | z | z | z | z
   · exact fin (d243 l p hl)
   · exact fin (d246 l p hl)
   · exact fin (d282 h l p (by omega))
   · exact fin (d283 h l p (by omega) hl)
   · exact fin (d284 l p (by omega))
   · exact fin (d285 h l p (by omega))
   · exact fin (d286 h l p (by omega))
   · exact fin (d287 h l p hl)
   · exact dP trivial
 · refine dO ?_; omega
theorem d217 (h : TK T A B) (r : Int) : Df (C217 (T, A, B, r, ())) (fun _ => True) := by
 show Df (F217 C215 C216 _) _
 unfold F217
 dsimp only
 refine dZ (d216 T A B r) ?_
 rintro ⟨v0, a, c, s, o, is, u⟩ -
 dsimp only
 with_reducible repeat' (first | apply dP | apply dX <;> intro _)
 all_goals first
  | trivial
  | (refine dZ (d215 T A B r h.t) ?_; rintro ⟨x, u⟩ -; dsimp only; (repeat' (first | apply dP | (apply dG <;> intro _))); all_goals trivial)
theorem d261 (h : TK T A B) (l : List Int) (hl : l.length ≤ 1000000000000) : Df (C261 (T, A, B, l, ())) (fun _ => True) := by
 show Df (F261 C183 C217 C261_l0 _) _
 unfold F261
 dsimp only
 refine dZ (P := fun _ => True) ?_ (fun z _ => by cases z <;> exact dP trivial)
 refine dL ?I ?m ?h _ ?hv ?hn
 case I => exact (fun v => v.1 = l ∧ v.2.1 = l ∧ v.2.2.1 = l.length ∧ 0 ≤ v.2.2.2.1 ∧ v.2.2.2.1 ≤ l.length ∧ v.2.2.2.2 = (T, A, B, ()))
 case m => exact (fun v => (l.length - v.2.2.2.1).toNat)
 case hv => exact ⟨rfl, rfl, rfl, by first | omega | (dsimp only; omega), by first | omega | (dsimp only; omega), rfl⟩
 case hn => exact (by first | omega | (dsimp only; omega))
 rintro ⟨x0, x1, x2, x3, x4, x5, x6, u⟩ hI
 dsimp only at hI
 obtain ⟨rfl, rfl, rfl, h0, h1, h2⟩ := hI
 simp only [Prod.mk.injEq] at h2
 obtain ⟨rfl, rfl, rfl, -⟩ := h2
 unfold F261_l0
 dsimp only
 with_reducible repeat' (first | apply dP | apply dX <;> intro _)
 · refine dZ (d183 h _ _ hl (by omega)) ?_
   rintro ⟨b, u⟩ -
   dsimp only
   rw [w64s (n := x3 + 1) (by omega)]
   with_reducible repeat' (first | apply dP | apply dX <;> intro _)
   · trivial
   · refine dZ (d217 h _) ?_
     rintro ⟨b, u⟩ -
     dsimp only
     with_reducible repeat' (first | apply dP | apply dX <;> intro _)
     · trivial
     · exact ⟨⟨rfl, rfl, rfl, by first | omega | (dsimp only; omega), by first | omega | (dsimp only; omega), rfl⟩, by first | omega | (dsimp only; omega)⟩
   · exact ⟨⟨rfl, rfl, rfl, by first | omega | (dsimp only; omega), by first | omega | (dsimp only; omega), rfl⟩, by first | omega | (dsimp only; omega)⟩
 · refine dO ?_; omega
 · trivial
theorem d260 (h : TK T A B) (l : List Int) (hl : l.length ≤ 1000000000000) : Df (C260 (T, A, B, l, ())) (fun y => y.2 = (T, A, B, l, ())) := by
 show Df (F260 C261 _) _
 unfold F260
 dsimp only
 exact dZ (d261 h l hl) fun _ _ => dP rfl
theorem d185 (h : TK T A B) (l : List Int) (hl : l.length ≤ 1000000000000) : Df (C185 (T, A, B, l, ())) (fun _ => True) := by
 show Df (F185 C218 C185_l0 _) _
 unfold F185
 dsimp only
 refine dZ (P := fun y => y.1.length = 8 ∧ y.2.1.length = 8) ?_ ?_
 · refine dL ?I ?m ?h _ ?hv ?hn
   case I => exact (fun v => v.1 = l ∧ v.2.1 = l.length ∧ 0 ≤ v.2.2.1 ∧ v.2.2.1 ≤ l.length ∧ v.2.2.2.1 = T ∧ v.2.2.2.2.2.2.1.length = 8 ∧ v.2.2.2.2.2.2.2.1.length = 8)
   case m => exact (fun v => (l.length - v.2.2.1).toNat)
   case hv => exact ⟨rfl, rfl, by first | omega | (dsimp only; omega), by first | omega | (dsimp only; omega), rfl, rfl, rfl⟩
   case hn => exact (by first | omega | (dsimp only; omega))
   rintro ⟨x0, x1, x2, x3, x4, x5, x6, x7, u⟩ hI
   dsimp only at hI
   obtain ⟨rfl, rfl, h0, h1, rfl, h2, h3⟩ := hI
   unfold F185_l0
   dsimp only
   with_reducible repeat' (first | apply dP | apply dX <;> intro _)
   · refine dZ (d218 x3 _ _ _ h.t) ?_
     rintro ⟨b, u⟩ hb
     dsimp only at hb ⊢
     rw [w64s (n := x2 + 1) (by omega)]
     with_reducible repeat' (first | apply dP | apply dX <;> intro _)
     all_goals first
      | exact ⟨⟨rfl, rfl, by first | omega | (dsimp only; omega), by first | omega | (dsimp only; omega), rfl, h2, by simp only [List.length_set]; omega⟩, by first | omega | (dsimp only; omega)⟩
      | (refine dO ?_; omega)
   · refine dO ?_; omega
   · exact ⟨h2, h3⟩
 · rintro ⟨x0, x1, u⟩ hx
   dsimp only at hx ⊢
   with_reducible repeat' (first | apply dP | apply dX <;> intro _)
   all_goals first | trivial | (refine dO ?_; omega)
theorem d153 (h : TK T A B) (l : List Int) (hl : l.length ≤ 1000000000000) : Df (C153 (T, A, B, l, ())) (fun _ => True) := by
 show Df (F153 C185 _) _
 unfold F153
 dsimp only
 exact dZ (d185 h l hl) fun _ _ => dP trivial
theorem d187 (h : TK T A B) (l : List Int) : Df (C187 (T, A, B, l, ())) (fun _ => True) := by
 show Df (F187 C218 _) _
 unfold F187
 dsimp only
 with_reducible repeat' (first | apply dP | apply dX <;> intro _)
 · trivial
 · refine dZ (d218 T A B _ h.t) ?_
   rintro ⟨b, u⟩ -
   dsimp only
   with_reducible repeat' (first | apply dP | apply dX <;> intro _)
   all_goals trivial
 · refine dO ?_; omega
theorem d154_0 (x : Bool) (y : Bool) (z : List Int) (hz : z.length = 8) : Df (C154_c0 (x, y, z, ())) (fun _ => True) := by
 show Df (F154_c0 C153 C185 C186 C187 _) _
 unfold F154_c0
 dsimp only
 with_reducible repeat' (first | apply dP | apply dX <;> intro _)
 all_goals first | trivial | (refine dO ?_; omega) | (rename_i h1 h2; exact absurd (show Int.toNat 1 < z.length by rw [hz]; decide) h2)
theorem d154_1 (x : Int) (y : Bool) (z : List Int) (hz : z.length = 8) : Df (C154_c1 (x, y, z, ())) (fun _ => True) := by
 show Df (F154_c1 C153 C185 C186 C187 C154_c0 _) _
 unfold F154_c1
 dsimp only
 with_reducible repeat' (first | apply dP | apply dX <;> intro _)
 all_goals exact dZ (d154_0 _ _ z hz) fun _ _ => dP trivial
end
end Go.Proofs.YtiacnhhmkdkpmaaGreatDoorA.W
