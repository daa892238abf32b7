/- The texts of the proof, one behind the other: W4, W5, W6, W7, W8, XDom, W9, W10, W11. -/
import Derived.Test.YtiacnhhmkdkpmaaGreatDoorAMo3
import Derived.RangeFuncBox
import Derived.OwnWalkIn
import Derived.TacticsInMore
import Derived.LoopNIn
import Derived.LoopIn
import Derived.Sort.LoopGhostIn
import Derived.Maps.AppendAt
set_option maxRecDepth 100000
set_option linter.unusedVariables false
namespace Go.Proofs.YtiacnhhmkdkpmaaGreatDoorA.W
open Go Go.Ae
abbrev T315_l0 := (Int × Int) × Int × Int × Int × List (Int) × LqA × LqB × LqC × Unit → Option ((Int × Int) × Int × Int × List (Int) × LqA × LqB × LqC × Unit)
def E315_l0 (f : T315_l0) : LEnt := ⟨Li81, Lo82, f⟩
abbrev T315 := (Int × Int) × Int × Int × Int × List (Int) × LqA × LqB × LqC × Unit → Option (List (Int) × LqA × LqB × LqC × Unit)
def E315 (f : T315) : FEnt := ⟨Li78, Lo72, f⟩
def K315 (f316 : T316) := lk [(316, E316 f316)]
theorem kok315 : KOk Tryz.prog (K315 C316) := (kc ok316 kn)
def F315_l0 (f316 : T316) : LpF ((Int × Int) × Int × Int × Int × List (Int) × LqA × LqB × LqC × Unit) ((Int × Int) × Int × Int × List (Int) × LqA × LqB × LqC × Unit) := fun (x0, x1, x2, x3, x4, x5, x6, x7, _) =>
 bif x2 != x3 then
 bif decide (x2 > x3) then
 (f316
 (((↑(Int.toNat x0.1) : Int), (↑(Int.toNat x0.2) : Int)), IntKind.i64.wrap (x1 - x2), x1, x3, x4, x5, x6,
 x7, ())).bind
 fun v =>
 some
 (Sum.inl
 (((↑(Int.toNat x0.1) : Int), (↑(Int.toNat x0.2) : Int)), x1, IntKind.i64.wrap (x2 - x3), x3, v.1,
 v.2.1, v.2.2.1, v.2.2.2.1, ()))
 else
 (f316
 (((↑(Int.toNat x0.1) : Int), (↑(Int.toNat x0.2) : Int)), IntKind.i64.wrap (x1 - x2),
 IntKind.i64.wrap (IntKind.i64.wrap (x1 + x3) - x2), x2, x4, x5, x6, x7, ())).bind
 fun v =>
 some
 (Sum.inl
 (((↑(Int.toNat x0.1) : Int), (↑(Int.toNat x0.2) : Int)), x1, x2, IntKind.i64.wrap (x3 - x2), v.1,
 v.2.1, v.2.2.1, v.2.2.2.1, ()))
 else some (Sum.inr (((↑(Int.toNat x0.1) : Int), (↑(Int.toNat x0.2) : Int)), x1, x2, x4, x5, x6, x7, ()))
def C315_l0 : T315_l0 := loopN (F315_l0 C316) big
theorem k315_l0 : LpOk 2 (subc (code Tryz.f315) [1, 1, 0, 0, 0]) (E315_l0 C315_l0) := zl1 Li81 Lo82 K315 F315_l0 C316 kok315
def N315 (f315_l0 : T315_l0) : Ann := (.seq .nil (.seq .nil (.seq (.blk (.loop (E315_l0 f315_l0))) .nil)))
def F315 (f316 : T316) (f315_l0 : T315_l0) : T315 := fun (x0, x1, x2, x3, x4, x5, x6, x7, _) =>
 (f315_l0
 (((↑(Int.toNat x0.1) : Int), (↑(Int.toNat x0.2) : Int)), x2, IntKind.i64.wrap (x2 - x1),
 IntKind.i64.wrap (x3 - x2), x4, x5, x6, x7, ())).bind
 fun v =>
 (f316
 (((↑(Int.toNat v.1.1) : Int), (↑(Int.toNat v.1.2) : Int)),
 IntKind.i64.wrap (v.2.1 - v.2.2.1), v.2.1, v.2.2.1, v.2.2.2.1,
 v.2.2.2.2.1, v.2.2.2.2.2.1, v.2.2.2.2.2.2.1, ())).bind
 fun v => some (v.1, v.2.1, v.2.2.1, v.2.2.2.1, ())
theorem h315 (f316 : T316) (f315_l0 : T315_l0) : AqF (K315 f316) 2 Tryz.f315 (N315 f315_l0) Li78 Lo72 (F315 f316 f315_l0) := fun v => by kernel_rfl
def C315 : T315 := F315 C316 C315_l0
theorem ok315 : FO 315 (E315 C315) :=
 qo kok315 Tryz.func315 (And.intro k315_l0 trivial) (h315 C316 C315_l0)
abbrev T311_l0 := (Int × Int) × Int × Int × Int × List (Int) × LqA × LqB × LqC × Unit → Option ((Int × Int) × Int × Int × List (Int) × LqA × LqB × LqC × Unit)
def E311_l0 (f : T311_l0) : LEnt := ⟨Li83, Lo84, f⟩
abbrev T311_l1 := (Int × Int) × Int × Int × List (Int) × LqA × LqB × LqC × Unit → Option (List (Int) × LqA × LqB × LqC × Unit)
def E311_l1 (f : T311_l1) : LEnt := ⟨Li85, Lo86, f⟩
abbrev T311_l2 := (Int × Int) × Int × Int × Int × List (Int) × LqA × LqB × LqC × Unit → Option ((Int × Int) × Int × Int × List (Int) × LqA × LqB × LqC × Unit)
def E311_l2 (f : T311_l2) : LEnt := ⟨Li87, Lo88, f⟩
abbrev T311_l3 := (Int × Int) × Int × Int × List (Int) × LqA × LqB × LqC × Unit → Option (List (Int) × LqA × LqB × LqC × Unit)
def E311_l3 (f : T311_l3) : LEnt := ⟨Li89, Lo90, f⟩
abbrev T311_l4 := (Int × Int) × Int × Int × Int × Int × Int × Int × Int × Int × List (Int) × LqA × LqB × LqC × Unit → Option ((Int × Int) × Int × Int × Int × Int × Int × Int × List (Int) × LqA × LqB × LqC × Unit)
def E311_l4 (f : T311_l4) : LEnt := ⟨Li91, Lo92, f⟩
abbrev T311_c0 := (Int × Int) × Int × Int × Int × List (Int) × LqA × LqB × LqC × Unit → Option (List (Int) × LqA × LqB × LqC × Unit)
def E311_c0 (f : T311_c0) : LEnt := ⟨Li93, Lo94, f⟩
abbrev T311_c1 := (Int × Int) × Int × Int × Int × Int × Int × List (Int) × LqA × LqB × LqC × Unit → Option (List (Int) × LqA × LqB × LqC × Unit)
def E311_c1 (f : T311_c1) : LEnt := ⟨Li95, Lo94, f⟩
abbrev T311_c2 := (Int × Int) × Int × Int × Int × Int × Int × Int × Int × List (Int) × LqA × LqB × LqC × Unit → Option (List (Int) × LqA × LqB × LqC × Unit)
def E311_c2 (f : T311_c2) : LEnt := ⟨Li96, Lo94, f⟩
abbrev T311 := (Int × Int) × Int × Int × Int × List (Int) × LqA × LqB × LqC × Unit → Option (List (Int) × LqA × LqB × LqC × Unit)
def E311 (f : T311) : FEnt := ⟨Li78, Lo72, f⟩
def K311 (f278 : T278) (f311 : T311) (f315 : T315) := lk [(278, E278 f278), (311, E311 f311), (315, E315 f315)]
theorem kok311 (G : T311) (hG : FnOk Tryz.prog 311 (E311 G)) : KOk Tryz.prog (K311 C278 G C315) := (kc ok278 (kc hG (kc ok315 kn)))
def F311_l0 (f278 : T278) (f311 : T311) (f315 : T315) : LpF ((Int × Int) × Int × Int × Int × List (Int) × LqA × LqB × LqC × Unit) ((Int × Int) × Int × Int × List (Int) × LqA × LqB × LqC × Unit) := fun (x0, x1, x2, x3, x4, x5, x6, x7, _) =>
 bif decide (x2 < x3) then
 bif
 decide
 (0 ≤
 IntKind.i64.wrap
 ((IntKind.u64.wrap (IntKind.i64.wrap (x2 + x3))).fdiv (2 ^ min 1 IntKind.u64.bits))) &&
 decide
 (IntKind.i64.wrap
 ((IntKind.u64.wrap (IntKind.i64.wrap (x2 + x3))).fdiv (2 ^ min 1 IntKind.u64.bits)) <
 (↑(Int.toNat x0.2) : Int)) then
 bif decide (0 ≤ x1) && decide (x1 < (↑(Int.toNat x0.2) : Int)) then
 (f278
 (x4.getD
 (Int.toNat x0.1 +
 (IntKind.i64.wrap
 ((IntKind.u64.wrap (IntKind.i64.wrap (x2 + x3))).fdiv
 (2 ^ min 1 IntKind.u64.bits))).toNat)
 0,
 x4.getD (Int.toNat x0.1 + x1.toNat) 0, x5, x6, x7, ())).bind
 fun v =>
 bif decide (v.1 < 0) then
 some
 (Sum.inl
 (((↑(Int.toNat x0.1) : Int), (↑(Int.toNat x0.2) : Int)), x1,
 IntKind.i64.wrap
 (IntKind.i64.wrap
 ((IntKind.u64.wrap (IntKind.i64.wrap (x2 + x3))).fdiv (2 ^ min 1 IntKind.u64.bits)) +
 1),
 x3, x4, v.2.1, v.2.2.1, v.2.2.2.1, ()))
 else
 some
 (Sum.inl
 (((↑(Int.toNat x0.1) : Int), (↑(Int.toNat x0.2) : Int)), x1, x2,
 IntKind.i64.wrap
 ((IntKind.u64.wrap (IntKind.i64.wrap (x2 + x3))).fdiv (2 ^ min 1 IntKind.u64.bits)),
 x4, v.2.1, v.2.2.1, v.2.2.2.1, ()))
 else none
 else none
 else some (Sum.inr (((↑(Int.toNat x0.1) : Int), (↑(Int.toNat x0.2) : Int)), x1, x2, x4, x5, x6, x7, ()))
theorem h311_l0 (f278 : T278) (f311 : T311) (f315 : T315) : AqL (K311 f278 f311 f315) 2 (subc (code Tryz.f311) [0, 1, 0, 1, 1, 0, 0, 0]) .nil Li83 Lo84 (F311_l0 f278 f311 f315) := fun v => by kernel_rfl
def C311_l0 (G : T311) : T311_l0 := loopN (F311_l0 C278 G C315) big
theorem k311_l0 (G : T311) (hG : FnOk Tryz.prog 311 (E311 G)) : LpOk 2 (subc (code Tryz.f311) [0, 1, 0, 1, 1, 0, 0, 0]) (E311_l0 (C311_l0 G)) :=
 frag_big (ins := Li83) (os := Lo84) (C := (C311_l0 G)) (frag_loop (ins := Li83) (os := Lo84) (n := .nil) (F := F311_l0 C278 G C315) hm hΓ (kok311 G hG) (fun _ => big) (ann_nil _) (h311_l0 C278 G C315)) rfl
def F311_l1 (f278 : T278) (f311 : T311) (f315 : T315) : LpF ((Int × Int) × Int × Int × List (Int) × LqA × LqB × LqC × Unit) (List (Int) × LqA × LqB × LqC × Unit) := fun (x0, x1, x2, x3, x4, x5, x6, _) =>
 bif decide (x2 < IntKind.i64.wrap (x1 - 1)) then
 bif decide (0 ≤ IntKind.i64.wrap (x2 + 1)) && decide (IntKind.i64.wrap (x2 + 1) < (↑(Int.toNat x0.2) : Int)) then
 bif decide (0 ≤ x2) && decide (x2 < (↑(Int.toNat x0.2) : Int)) then
 bif decide (0 ≤ x2) && decide (x2 < (↑(Int.toNat x0.2) : Int)) then
 bif
 decide (0 ≤ IntKind.i64.wrap (x2 + 1)) &&
 decide (IntKind.i64.wrap (x2 + 1) < (↑(Int.toNat x0.2) : Int)) then
 some
 (Sum.inl
 (((↑(Int.toNat x0.1) : Int), (↑(Int.toNat x0.2) : Int)), x1, IntKind.i64.wrap (x2 + 1),
 (x3.set (Int.toNat x0.1 + x2.toNat)
 (x3.getD (Int.toNat x0.1 + (IntKind.i64.wrap (x2 + 1)).toNat) 0)).set
 (Int.toNat x0.1 + (IntKind.i64.wrap (x2 + 1)).toNat)
 (x3.getD (Int.toNat x0.1 + x2.toNat) 0),
 x4, x5, x6, ()))
 else none
 else none
 else none
 else none
 else some (Sum.inr (x3, x4, x5, x6, ()))
theorem h311_l1 (f278 : T278) (f311 : T311) (f315 : T315) : AqL (K311 f278 f311 f315) 2 (subc (code Tryz.f311) [0, 1, 0, 1, 1, 1, 0, 1, 0, 0]) .nil Li85 Lo86 (F311_l1 f278 f311 f315) := fun v => by kernel_rfl
def C311_l1 (G : T311) : T311_l1 := loopN (F311_l1 C278 G C315) big
theorem k311_l1 (G : T311) (hG : FnOk Tryz.prog 311 (E311 G)) : LpOk 2 (subc (code Tryz.f311) [0, 1, 0, 1, 1, 1, 0, 1, 0, 0]) (E311_l1 (C311_l1 G)) :=
 frag_big (ins := Li85) (os := Lo86) (C := (C311_l1 G)) (frag_loop (ins := Li85) (os := Lo86) (n := .nil) (F := F311_l1 C278 G C315) hm hΓ (kok311 G hG) (fun _ => big) (ann_nil _) (h311_l1 C278 G C315)) rfl
def F311_l2 (f278 : T278) (f311 : T311) (f315 : T315) : LpF ((Int × Int) × Int × Int × Int × List (Int) × LqA × LqB × LqC × Unit) ((Int × Int) × Int × Int × List (Int) × LqA × LqB × LqC × Unit) := fun (x0, x1, x2, x3, x4, x5, x6, x7, _) =>
 bif decide (x2 < x3) then
 bif decide (0 ≤ x1) && decide (x1 < (↑(Int.toNat x0.2) : Int)) then
 bif
 decide
 (0 ≤
 IntKind.i64.wrap
 ((IntKind.u64.wrap (IntKind.i64.wrap (x2 + x3))).fdiv (2 ^ min 1 IntKind.u64.bits))) &&
 decide
 (IntKind.i64.wrap
 ((IntKind.u64.wrap (IntKind.i64.wrap (x2 + x3))).fdiv (2 ^ min 1 IntKind.u64.bits)) <
 (↑(Int.toNat x0.2) : Int)) then
 (f278
 (x4.getD (Int.toNat x0.1 + x1.toNat) 0,
 x4.getD
 (Int.toNat x0.1 +
 (IntKind.i64.wrap
 ((IntKind.u64.wrap (IntKind.i64.wrap (x2 + x3))).fdiv
 (2 ^ min 1 IntKind.u64.bits))).toNat)
 0,
 x5, x6, x7, ())).bind
 fun v =>
 bif !decide (v.1 < 0) then
 some
 (Sum.inl
 (((↑(Int.toNat x0.1) : Int), (↑(Int.toNat x0.2) : Int)), x1,
 IntKind.i64.wrap
 (IntKind.i64.wrap
 ((IntKind.u64.wrap (IntKind.i64.wrap (x2 + x3))).fdiv (2 ^ min 1 IntKind.u64.bits)) +
 1),
 x3, x4, v.2.1, v.2.2.1, v.2.2.2.1, ()))
 else
 some
 (Sum.inl
 (((↑(Int.toNat x0.1) : Int), (↑(Int.toNat x0.2) : Int)), x1, x2,
 IntKind.i64.wrap
 ((IntKind.u64.wrap (IntKind.i64.wrap (x2 + x3))).fdiv (2 ^ min 1 IntKind.u64.bits)),
 x4, v.2.1, v.2.2.1, v.2.2.2.1, ()))
 else none
 else none
 else some (Sum.inr (((↑(Int.toNat x0.1) : Int), (↑(Int.toNat x0.2) : Int)), x1, x2, x4, x5, x6, x7, ()))
theorem h311_l2 (f278 : T278) (f311 : T311) (f315 : T315) : AqL (K311 f278 f311 f315) 2 (subc (code Tryz.f311) [1, 0, 1, 0, 1, 1, 0, 0, 0]) .nil Li87 Lo88 (F311_l2 f278 f311 f315) := fun v => by kernel_rfl
def C311_l2 (G : T311) : T311_l2 := loopN (F311_l2 C278 G C315) big
theorem k311_l2 (G : T311) (hG : FnOk Tryz.prog 311 (E311 G)) : LpOk 2 (subc (code Tryz.f311) [1, 0, 1, 0, 1, 1, 0, 0, 0]) (E311_l2 (C311_l2 G)) :=
 frag_big (ins := Li87) (os := Lo88) (C := (C311_l2 G)) (frag_loop (ins := Li87) (os := Lo88) (n := .nil) (F := F311_l2 C278 G C315) hm hΓ (kok311 G hG) (fun _ => big) (ann_nil _) (h311_l2 C278 G C315)) rfl
def F311_l3 (f278 : T278) (f311 : T311) (f315 : T315) : LpF ((Int × Int) × Int × Int × List (Int) × LqA × LqB × LqC × Unit) (List (Int) × LqA × LqB × LqC × Unit) := fun (x0, x1, x2, x3, x4, x5, x6, _) =>
 bif decide (x2 > x1) then
 bif decide (0 ≤ IntKind.i64.wrap (x2 - 1)) && decide (IntKind.i64.wrap (x2 - 1) < (↑(Int.toNat x0.2) : Int)) then
 bif decide (0 ≤ x2) && decide (x2 < (↑(Int.toNat x0.2) : Int)) then
 bif decide (0 ≤ x2) && decide (x2 < (↑(Int.toNat x0.2) : Int)) then
 bif
 decide (0 ≤ IntKind.i64.wrap (x2 - 1)) &&
 decide (IntKind.i64.wrap (x2 - 1) < (↑(Int.toNat x0.2) : Int)) then
 some
 (Sum.inl
 (((↑(Int.toNat x0.1) : Int), (↑(Int.toNat x0.2) : Int)), x1, IntKind.i64.wrap (x2 - 1),
 (x3.set (Int.toNat x0.1 + x2.toNat)
 (x3.getD (Int.toNat x0.1 + (IntKind.i64.wrap (x2 - 1)).toNat) 0)).set
 (Int.toNat x0.1 + (IntKind.i64.wrap (x2 - 1)).toNat)
 (x3.getD (Int.toNat x0.1 + x2.toNat) 0),
 x4, x5, x6, ()))
 else none
 else none
 else none
 else none
 else some (Sum.inr (x3, x4, x5, x6, ()))
theorem h311_l3 (f278 : T278) (f311 : T311) (f315 : T315) : AqL (K311 f278 f311 f315) 2 (subc (code Tryz.f311) [1, 0, 1, 0, 1, 1, 1, 0, 1, 0, 0]) .nil Li89 Lo90 (F311_l3 f278 f311 f315) := fun v => by kernel_rfl
def C311_l3 (G : T311) : T311_l3 := loopN (F311_l3 C278 G C315) big
theorem k311_l3 (G : T311) (hG : FnOk Tryz.prog 311 (E311 G)) : LpOk 2 (subc (code Tryz.f311) [1, 0, 1, 0, 1, 1, 1, 0, 1, 0, 0]) (E311_l3 (C311_l3 G)) :=
 frag_big (ins := Li89) (os := Lo90) (C := (C311_l3 G)) (frag_loop (ins := Li89) (os := Lo90) (n := .nil) (F := F311_l3 C278 G C315) hm hΓ (kok311 G hG) (fun _ => big) (ann_nil _) (h311_l3 C278 G C315)) rfl
def F311_l4 (f278 : T278) (f311 : T311) (f315 : T315) : LpF ((Int × Int) × Int × Int × Int × Int × Int × Int × Int × Int × List (Int) × LqA × LqB × LqC × Unit) ((Int × Int) × Int × Int × Int × Int × Int × Int × List (Int) × LqA × LqB × LqC × Unit) := fun (x0, x1, x2, x3, x4, x5, x6, x7, x8, x9, x10, x11, x12, _) =>
 bif decide (x6 < x7) then
 bif
 decide
 (0 ≤
 IntKind.i64.wrap
 (x8 -
 IntKind.i64.wrap
 ((IntKind.u64.wrap (IntKind.i64.wrap (x6 + x7))).fdiv (2 ^ min 1 IntKind.u64.bits)))) &&
 decide
 (IntKind.i64.wrap
 (x8 -
 IntKind.i64.wrap
 ((IntKind.u64.wrap (IntKind.i64.wrap (x6 + x7))).fdiv (2 ^ min 1 IntKind.u64.bits))) <
 (↑(Int.toNat x0.2) : Int)) then
 bif
 decide
 (0 ≤
 IntKind.i64.wrap
 ((IntKind.u64.wrap (IntKind.i64.wrap (x6 + x7))).fdiv (2 ^ min 1 IntKind.u64.bits))) &&
 decide
 (IntKind.i64.wrap
 ((IntKind.u64.wrap (IntKind.i64.wrap (x6 + x7))).fdiv (2 ^ min 1 IntKind.u64.bits)) <
 (↑(Int.toNat x0.2) : Int)) then
 (f278
 (x9.getD
 (Int.toNat x0.1 +
 (IntKind.i64.wrap
 (x8 -
 IntKind.i64.wrap
 ((IntKind.u64.wrap (IntKind.i64.wrap (x6 + x7))).fdiv
 (2 ^ min 1 IntKind.u64.bits)))).toNat)
 0,
 x9.getD
 (Int.toNat x0.1 +
 (IntKind.i64.wrap
 ((IntKind.u64.wrap (IntKind.i64.wrap (x6 + x7))).fdiv
 (2 ^ min 1 IntKind.u64.bits))).toNat)
 0,
 x10, x11, x12, ())).bind
 fun v =>
 bif !decide (v.1 < 0) then
 some
 (Sum.inl
 (((↑(Int.toNat x0.1) : Int), (↑(Int.toNat x0.2) : Int)), x1, x2, x3, x4, x5,
 IntKind.i64.wrap
 (IntKind.i64.wrap
 ((IntKind.u64.wrap (IntKind.i64.wrap (x6 + x7))).fdiv (2 ^ min 1 IntKind.u64.bits)) +
 1),
 x7, x8, x9, v.2.1, v.2.2.1, v.2.2.2.1, ()))
 else
 some
 (Sum.inl
 (((↑(Int.toNat x0.1) : Int), (↑(Int.toNat x0.2) : Int)), x1, x2, x3, x4, x5, x6,
 IntKind.i64.wrap
 ((IntKind.u64.wrap (IntKind.i64.wrap (x6 + x7))).fdiv (2 ^ min 1 IntKind.u64.bits)),
 x8, x9, v.2.1, v.2.2.1, v.2.2.2.1, ()))
 else none
 else none
 else
 some
 (Sum.inr
 (((↑(Int.toNat x0.1) : Int), (↑(Int.toNat x0.2) : Int)), x1, x2, x3, x4, x5, x6, x9, x10, x11, x12,
 ()))
theorem h311_l4 (f278 : T278) (f311 : T311) (f315 : T315) : AqL (K311 f278 f311 f315) 2 (subc (code Tryz.f311) [1, 1, 1, 1, 1, 1, 1, 0, 0, 0]) .nil Li91 Lo92 (F311_l4 f278 f311 f315) := fun v => by kernel_rfl
def C311_l4 (G : T311) : T311_l4 := loopN (F311_l4 C278 G C315) big
theorem k311_l4 (G : T311) (hG : FnOk Tryz.prog 311 (E311 G)) : LpOk 2 (subc (code Tryz.f311) [1, 1, 1, 1, 1, 1, 1, 0, 0, 0]) (E311_l4 (C311_l4 G)) :=
 frag_big (ins := Li91) (os := Lo92) (C := (C311_l4 G)) (frag_loop (ins := Li91) (os := Lo92) (n := .nil) (F := F311_l4 C278 G C315) hm hΓ (kok311 G hG) (fun _ => big) (ann_nil _) (h311_l4 C278 G C315)) rfl
def F311_c0 (f278 : T278) (f311 : T311) (f315 : T315) : T311_c0 := fun (x0, x1, x2, x3, x4, x5, x6, x7, _) =>
 bif decide (x2 < x3) then
 bif decide (x3 < x1) then
 (f311 (((↑(Int.toNat x0.1) : Int), (↑(Int.toNat x0.2) : Int)), x2, x3, x1, x4, x5, x6, x7, ())).bind fun v =>
 some (v.1, v.2.1, v.2.2.1, v.2.2.2.1, ())
 else some (x4, x5, x6, x7, ())
 else some (x4, x5, x6, x7, ())
theorem h311_c0 (f278 : T278) (f311 : T311) (f315 : T315) : AqC (K311 f278 f311 f315) 2 (subc (code Tryz.f311) [1, 1, 1, 1, 1, 1, 1, 1, 1, 1, 1]) .nil Li93 Lo94 (F311_c0 f278 f311 f315) := fun v => by kernel_rfl
def C311_c0 (G : T311) : T311_c0 := F311_c0 C278 G C315
theorem k311_c0 (G : T311) (hG : FnOk Tryz.prog 311 (E311 G)) : CdOk 2 (subc (code Tryz.f311) [1, 1, 1, 1, 1, 1, 1, 1, 1, 1, 1]) (E311_c0 (C311_c0 G)) :=
 frag_code (ins := Li93) (os := Lo94) (n := .nil) (F := (C311_c0 G)) hm hΓ (kok311 G hG) (ann_nil _) (h311_c0 C278 G C315)
def N311_c1 (f311_c0 : T311_c0) : Ann := (.cut .nil (E311_c0 f311_c0))
def F311_c1 (f278 : T278) (f311 : T311) (f315 : T315) (f311_c0 : T311_c0) : T311_c1 := fun (x0, x1, x2, x3, x4, x5, x6, x7, x8, x9, _) =>
 bif decide (x1 < x4) then
 bif decide (x4 < x3) then
 (f311 (((↑(Int.toNat x0.1) : Int), (↑(Int.toNat x0.2) : Int)), x1, x4, x3, x6, x7, x8, x9, ())).bind fun v =>
 (f311_c0
 (((↑(Int.toNat x0.1) : Int), (↑(Int.toNat x0.2) : Int)), x2, x3, x5, v.1, v.2.1,
 v.2.2.1, v.2.2.2.1, ())).bind
 fun v => some (v.1, v.2.1, v.2.2.1, v.2.2.2.1, ())
 else
 (f311_c0 (((↑(Int.toNat x0.1) : Int), (↑(Int.toNat x0.2) : Int)), x2, x3, x5, x6, x7, x8, x9, ())).bind
 fun v => some (v.1, v.2.1, v.2.2.1, v.2.2.2.1, ())
 else
 (f311_c0 (((↑(Int.toNat x0.1) : Int), (↑(Int.toNat x0.2) : Int)), x2, x3, x5, x6, x7, x8, x9, ())).bind fun v =>
 some (v.1, v.2.1, v.2.2.1, v.2.2.2.1, ())
theorem h311_c1 (f278 : T278) (f311 : T311) (f315 : T315) (f311_c0 : T311_c0) : AqC (K311 f278 f311 f315) 2 (subc (code Tryz.f311) [1, 1, 1, 1, 1, 1, 1, 1, 1, 1]) (N311_c1 f311_c0) Li95 Lo94 (F311_c1 f278 f311 f315 f311_c0) := fun v => by kernel_rfl
def C311_c1 (G : T311) : T311_c1 := F311_c1 C278 G C315 (C311_c0 G)
theorem k311_c1 (G : T311) (hG : FnOk Tryz.prog 311 (E311 G)) : CdOk 2 (subc (code Tryz.f311) [1, 1, 1, 1, 1, 1, 1, 1, 1, 1]) (E311_c1 (C311_c1 G)) :=
 frag_code (ins := Li95) (os := Lo94) (n := (N311_c1 (C311_c0 G))) (F := (C311_c1 G)) hm hΓ (kok311 G hG) (ann_obs (And.intro (k311_c0 G hG) trivial) (by kernel_rfl)) (h311_c1 C278 G C315 (C311_c0 G))
def N311_c2 (f311_c1 : T311_c1) (f311_l4 : T311_l4) : Ann := (.seq .nil (.seq (.blk (.loop (E311_l4 f311_l4))) (.seq .nil (.cut .nil (E311_c1 f311_c1)))))
def F311_c2 (f278 : T278) (f311 : T311) (f315 : T315) (f311_c1 : T311_c1) (f311_l4 : T311_l4) : T311_c2 := fun (x0, x1, x2, x3, x4, x5, x6, x7, x8, x9, x10, x11, _) =>
 (f311_l4
 (((↑(Int.toNat x0.1) : Int), (↑(Int.toNat x0.2) : Int)), x1, x2, x3, x4, x5, x6, x7,
 IntKind.i64.wrap (x5 - 1), x8, x9, x10, x11, ())).bind
 fun v =>
 bif decide (v.2.2.2.2.2.2.1 < v.2.2.1) then
 bif decide (v.2.2.1 < IntKind.i64.wrap (v.2.2.2.2.2.1 - v.2.2.2.2.2.2.1)) then
 (f315
 (((↑(Int.toNat v.1.1) : Int), (↑(Int.toNat v.1.2) : Int)), v.2.2.2.2.2.2.1,
 v.2.2.1, IntKind.i64.wrap (v.2.2.2.2.2.1 - v.2.2.2.2.2.2.1),
 v.2.2.2.2.2.2.2.1, v.2.2.2.2.2.2.2.2.1,
 v.2.2.2.2.2.2.2.2.2.1, v.2.2.2.2.2.2.2.2.2.2.1, ())).bind
 fun v1 =>
 (f311_c1
 (((↑(Int.toNat v.1.1) : Int), (↑(Int.toNat v.1.2) : Int)), v.2.1, v.2.2.2.1,
 v.2.2.2.2.1, v.2.2.2.2.2.2.1,
 IntKind.i64.wrap (v.2.2.2.2.2.1 - v.2.2.2.2.2.2.1), v1.1,
 v1.2.1, v1.2.2.1, v1.2.2.2.1, ())).bind
 fun v => some (v.1, v.2.1, v.2.2.1, v.2.2.2.1, ())
 else
 (f311_c1
 (((↑(Int.toNat v.1.1) : Int), (↑(Int.toNat v.1.2) : Int)), v.2.1, v.2.2.2.1,
 v.2.2.2.2.1, v.2.2.2.2.2.2.1,
 IntKind.i64.wrap (v.2.2.2.2.2.1 - v.2.2.2.2.2.2.1),
 v.2.2.2.2.2.2.2.1, v.2.2.2.2.2.2.2.2.1,
 v.2.2.2.2.2.2.2.2.2.1, v.2.2.2.2.2.2.2.2.2.2.1, ())).bind
 fun v => some (v.1, v.2.1, v.2.2.1, v.2.2.2.1, ())
 else
 (f311_c1
 (((↑(Int.toNat v.1.1) : Int), (↑(Int.toNat v.1.2) : Int)), v.2.1, v.2.2.2.1,
 v.2.2.2.2.1, v.2.2.2.2.2.2.1,
 IntKind.i64.wrap (v.2.2.2.2.2.1 - v.2.2.2.2.2.2.1),
 v.2.2.2.2.2.2.2.1, v.2.2.2.2.2.2.2.2.1,
 v.2.2.2.2.2.2.2.2.2.1, v.2.2.2.2.2.2.2.2.2.2.1, ())).bind
 fun v => some (v.1, v.2.1, v.2.2.1, v.2.2.2.1, ())
theorem h311_c2 (f278 : T278) (f311 : T311) (f315 : T315) (f311_c1 : T311_c1) (f311_l4 : T311_l4) : AqC (K311 f278 f311 f315) 2 (subc (code Tryz.f311) [1, 1, 1, 1, 1, 1]) (N311_c2 f311_c1 f311_l4) Li96 Lo94 (F311_c2 f278 f311 f315 f311_c1 f311_l4) := fun v => by kernel_rfl
def C311_c2 (G : T311) : T311_c2 := F311_c2 C278 G C315 (C311_c1 G) (C311_l4 G)
theorem k311_c2 (G : T311) (hG : FnOk Tryz.prog 311 (E311 G)) : CdOk 2 (subc (code Tryz.f311) [1, 1, 1, 1, 1, 1]) (E311_c2 (C311_c2 G)) :=
 frag_code (ins := Li96) (os := Lo94) (n := (N311_c2 (C311_c1 G) (C311_l4 G))) (F := (C311_c2 G)) hm hΓ (kok311 G hG) (ann_obs (And.intro (k311_l4 G hG) (And.intro (k311_c1 G hG) trivial)) (by kernel_rfl)) (h311_c2 C278 G C315 (C311_c1 G) (C311_l4 G))
def N311 (f311_c2 : T311_c2) (f311_l0 : T311_l0) (f311_l1 : T311_l1) (f311_l2 : T311_l2) (f311_l3 : T311_l3) : Ann := (.seq (.seq .nil (.cond (.seq .nil (.seq .nil (.seq (.blk (.loop (E311_l0 f311_l0))) (.seq (.seq .nil (.blk (.loop (E311_l1 f311_l1)))) .nil)))) .nil)) (.seq (.seq .nil (.cond (.seq .nil (.seq .nil (.seq (.blk (.loop (E311_l2 f311_l2))) (.seq (.seq .nil (.blk (.loop (E311_l3 f311_l3)))) .nil)))) .nil)) (.seq .nil (.seq .nil (.seq .nil (.cut .nil (E311_c2 f311_c2)))))))
def F311 (f278 : T278) (f311 : T311) (f315 : T315) (f311_c2 : T311_c2) (f311_l0 : T311_l0) (f311_l1 : T311_l1) (f311_l2 : T311_l2) (f311_l3 : T311_l3) : T311 := fun (x0, x1, x2, x3, x4, x5, x6, x7, _) =>
 bif IntKind.i64.wrap (x2 - x1) == 1 then
 (f311_l0 (((↑(Int.toNat x0.1) : Int), (↑(Int.toNat x0.2) : Int)), x1, x2, x3, x4, x5, x6, x7, ())).bind fun v =>
 (f311_l1
 (((↑(Int.toNat v.1.1) : Int), (↑(Int.toNat v.1.2) : Int)), v.2.2.1, v.2.1,
 v.2.2.2.1, v.2.2.2.2.1, v.2.2.2.2.2.1, v.2.2.2.2.2.2.1,
 ())).bind
 fun v => some (v.1, v.2.1, v.2.2.1, v.2.2.2.1, ())
 else
 bif IntKind.i64.wrap (x3 - x2) == 1 then
 (f311_l2 (((↑(Int.toNat x0.1) : Int), (↑(Int.toNat x0.2) : Int)), x2, x1, x2, x4, x5, x6, x7, ())).bind
 fun v =>
 (f311_l3
 (((↑(Int.toNat v.1.1) : Int), (↑(Int.toNat v.1.2) : Int)), v.2.2.1, v.2.1,
 v.2.2.2.1, v.2.2.2.2.1, v.2.2.2.2.2.1,
 v.2.2.2.2.2.2.1, ())).bind
 fun v => some (v.1, v.2.1, v.2.2.1, v.2.2.2.1, ())
 else
 bif
 decide
 (x2 >
 IntKind.i64.wrap
 ((IntKind.u64.wrap (IntKind.i64.wrap (x1 + x3))).fdiv (2 ^ min 1 IntKind.u64.bits))) then
 (f311_c2
 (((↑(Int.toNat x0.1) : Int), (↑(Int.toNat x0.2) : Int)), x1, x2, x3,
 IntKind.i64.wrap
 ((IntKind.u64.wrap (IntKind.i64.wrap (x1 + x3))).fdiv (2 ^ min 1 IntKind.u64.bits)),
 IntKind.i64.wrap
 (IntKind.i64.wrap
 ((IntKind.u64.wrap (IntKind.i64.wrap (x1 + x3))).fdiv (2 ^ min 1 IntKind.u64.bits)) +
 x2),
 IntKind.i64.wrap
 (IntKind.i64.wrap
 (IntKind.i64.wrap
 ((IntKind.u64.wrap (IntKind.i64.wrap (x1 + x3))).fdiv
 (2 ^ min 1 IntKind.u64.bits)) +
 x2) -
 x3),
 IntKind.i64.wrap
 ((IntKind.u64.wrap (IntKind.i64.wrap (x1 + x3))).fdiv (2 ^ min 1 IntKind.u64.bits)),
 x4, x5, x6, x7, ())).bind
 fun v => some (v.1, v.2.1, v.2.2.1, v.2.2.2.1, ())
 else
 (f311_c2
 (((↑(Int.toNat x0.1) : Int), (↑(Int.toNat x0.2) : Int)), x1, x2, x3,
 IntKind.i64.wrap
 ((IntKind.u64.wrap (IntKind.i64.wrap (x1 + x3))).fdiv (2 ^ min 1 IntKind.u64.bits)),
 IntKind.i64.wrap
 (IntKind.i64.wrap
 ((IntKind.u64.wrap (IntKind.i64.wrap (x1 + x3))).fdiv (2 ^ min 1 IntKind.u64.bits)) +
 x2),
 x1, x2, x4, x5, x6, x7, ())).bind
 fun v => some (v.1, v.2.1, v.2.2.1, v.2.2.2.1, ())
theorem h311 (f278 : T278) (f311 : T311) (f315 : T315) (f311_c2 : T311_c2) (f311_l0 : T311_l0) (f311_l1 : T311_l1) (f311_l2 : T311_l2) (f311_l3 : T311_l3) : AqF (K311 f278 f311 f315) 2 Tryz.f311 (N311 f311_c2 f311_l0 f311_l1 f311_l2 f311_l3) Li78 Lo72 (F311 f278 f311 f315 f311_c2 f311_l0 f311_l1 f311_l2 f311_l3) := fun v => by kernel_rfl
def C311 : T311 := recN (fun G => F311 C278 G C315 (C311_c2 G) (C311_l0 G) (C311_l1 G) (C311_l2 G) (C311_l3 G)) big
theorem ok311 : FO 311 (E311 C311) :=
 fn_rec (ins := Li78) (os := Lo72) (F := fun G => F311 C278 G C315 (C311_c2 G) (C311_l0 G) (C311_l1 G) (C311_l2 G) (C311_l3 G)) (fun G hG => qo (kok311 G hG) Tryz.func311 (And.intro (k311_l0 G hG) (And.intro (k311_l1 G hG) (And.intro (k311_l2 G hG) (And.intro (k311_l3 G hG) (And.intro (k311_c2 G hG) trivial))))) (h311 C278 G C315 (C311_c2 G) (C311_l0 G) (C311_l1 G) (C311_l2 G) (C311_l3 G))) big
abbrev T299_l0 := (Int × Int) × Int × Int × Int × Int × List (Int) × LqA × LqB × LqC × Unit → Option ((Int × Int) × Int × Int × Int × List (Int) × LqA × LqB × LqC × Unit)
def E299_l0 (f : T299_l0) : LEnt := ⟨Li98, Lo99, f⟩
abbrev T299_l1 := (Int × Int) × Int × Int × Int × Int × List (Int) × LqA × LqB × LqC × Unit → Option ((Int × Int) × Int × Int × Int × List (Int) × LqA × LqB × LqC × Unit)
def E299_l1 (f : T299_l1) : LEnt := ⟨Li98, Lo100, f⟩
abbrev T299_l2 := (Int × Int) × Int × Int × List (Int) × LqA × LqB × LqC × Unit → Option (List (Int) × LqA × LqB × LqC × Unit)
def E299_l2 (f : T299_l2) : LEnt := ⟨Li101, Lo102, f⟩
abbrev T299 := (Int × Int) × Int × List (Int) × LqA × LqB × LqC × Unit → Option (List (Int) × LqA × LqB × LqC × Unit)
def E299 (f : T299) : FEnt := ⟨Li97, Lo72, f⟩
def K299 (f310 : T310) (f311 : T311) := lk [(310, E310 f310), (311, E311 f311)]
theorem kok299 : KOk Tryz.prog (K299 C310 C311) := (kc ok310 (kc ok311 kn))
def F299_l0 (f310 : T310) (f311 : T311) : LpF ((Int × Int) × Int × Int × Int × Int × List (Int) × LqA × LqB × LqC × Unit) ((Int × Int) × Int × Int × Int × List (Int) × LqA × LqB × LqC × Unit) := fun (x0, x1, x2, x3, x4, x5, x6, x7, x8, _) =>
 bif decide (x4 ≤ x1) then
 (f310 (((↑(Int.toNat x0.1) : Int), (↑(Int.toNat x0.2) : Int)), x3, x4, x5, x6, x7, x8, ())).bind fun v =>
 some
 (Sum.inl
 (((↑(Int.toNat x0.1) : Int), (↑(Int.toNat x0.2) : Int)), x1, x2, x4, IntKind.i64.wrap (x4 + x2), v.1,
 v.2.1, v.2.2.1, v.2.2.2.1, ()))
 else some (Sum.inr (((↑(Int.toNat x0.1) : Int), (↑(Int.toNat x0.2) : Int)), x1, x2, x3, x5, x6, x7, x8, ()))
def C299_l0 : T299_l0 := loopN (F299_l0 C310 C311) big
theorem k299_l0 : LpOk 2 (subc (code Tryz.f299) [1, 1, 0, 0, 0]) (E299_l0 C299_l0) := zl2 Li98 Lo99 K299 F299_l0 C310 C311 kok299
def F299_l1 (f310 : T310) (f311 : T311) : LpF ((Int × Int) × Int × Int × Int × Int × List (Int) × LqA × LqB × LqC × Unit) ((Int × Int) × Int × Int × Int × List (Int) × LqA × LqB × LqC × Unit) := fun (x0, x1, x2, x3, x4, x5, x6, x7, x8, _) =>
 bif decide (x4 ≤ x1) then
 (f311
 (((↑(Int.toNat x0.1) : Int), (↑(Int.toNat x0.2) : Int)), x3, IntKind.i64.wrap (x3 + x2), x4, x5, x6, x7, x8,
 ())).bind
 fun v =>
 some
 (Sum.inl
 (((↑(Int.toNat x0.1) : Int), (↑(Int.toNat x0.2) : Int)), x1, x2, x4,
 IntKind.i64.wrap (x4 + IntKind.i64.wrap (2 * x2)), v.1, v.2.1, v.2.2.1, v.2.2.2.1,
 ()))
 else some (Sum.inr (((↑(Int.toNat x0.1) : Int), (↑(Int.toNat x0.2) : Int)), x1, x2, x3, x5, x6, x7, x8, ()))
def C299_l1 : T299_l1 := loopN (F299_l1 C310 C311) big
theorem k299_l1 : LpOk 2 (subc (code Tryz.f299) [1, 1, 1, 1, 0, 0, 1, 0, 1, 0, 0, 0]) (E299_l1 C299_l1) := zl2 Li98 Lo100 K299 F299_l1 C310 C311 kok299
def N299_l2 (f299_l1 : T299_l1) : Ann := (.seq .nil (.blk (.seq .nil (.seq (.blk (.loop (E299_l1 f299_l1))) .nil))))
def F299_l2 (f310 : T310) (f311 : T311) (f299_l1 : T299_l1) : LpF ((Int × Int) × Int × Int × List (Int) × LqA × LqB × LqC × Unit) (List (Int) × LqA × LqB × LqC × Unit) := fun (x0, x1, x2, x3, x4, x5, x6, _) =>
 bif decide (x2 < x1) then
 (f299_l1
 (((↑(Int.toNat x0.1) : Int), (↑(Int.toNat x0.2) : Int)), x1, x2, 0, IntKind.i64.wrap (2 * x2), x3, x4, x5,
 x6, ())).bind
 fun v =>
 bif decide (IntKind.i64.wrap (v.2.2.2.1 + v.2.2.1) < v.2.1) then
 (f311
 (((↑(Int.toNat v.1.1) : Int), (↑(Int.toNat v.1.2) : Int)), v.2.2.2.1,
 IntKind.i64.wrap (v.2.2.2.1 + v.2.2.1), v.2.1, v.2.2.2.2.1,
 v.2.2.2.2.2.1, v.2.2.2.2.2.2.1, v.2.2.2.2.2.2.2.1,
 ())).bind
 fun v1 =>
 some
 (Sum.inl
 (((↑(Int.toNat v.1.1) : Int), (↑(Int.toNat v.1.2) : Int)), v.2.1,
 IntKind.i64.wrap (v.2.2.1 * 2), v1.1, v1.2.1, v1.2.2.1,
 v1.2.2.2.1, ()))
 else
 some
 (Sum.inl
 (((↑(Int.toNat v.1.1) : Int), (↑(Int.toNat v.1.2) : Int)), v.2.1,
 IntKind.i64.wrap (v.2.2.1 * 2), v.2.2.2.2.1, v.2.2.2.2.2.1,
 v.2.2.2.2.2.2.1, v.2.2.2.2.2.2.2.1, ()))
 else some (Sum.inr (x3, x4, x5, x6, ()))
def C299_l2 : T299_l2 := loopN (F299_l2 C310 C311 C299_l1) big
theorem k299_l2 : LpOk 2 (subc (code Tryz.f299) [1, 1, 1, 1, 0, 0]) (E299_l2 C299_l2) := zl2_1 Li101 Lo102 K299 N299_l2 F299_l2 C310 C311 C299_l1 kok299 (And.intro k299_l1 trivial)
def N299 (f299_l0 : T299_l0) (f299_l2 : T299_l2) : Ann := (.seq .nil (.seq .nil (.seq (.blk (.loop (E299_l0 f299_l0))) (.seq .nil (.blk (.loop (E299_l2 f299_l2)))))))
def F299 (f310 : T310) (f311 : T311) (f299_l0 : T299_l0) (f299_l2 : T299_l2) : T299 := fun (x0, x1, x2, x3, x4, x5, _) =>
 (f299_l0 (((↑(Int.toNat x0.1) : Int), (↑(Int.toNat x0.2) : Int)), x1, 20, 0, 20, x2, x3, x4, x5, ())).bind
 fun v =>
 (f310
 (((↑(Int.toNat v.1.1) : Int), (↑(Int.toNat v.1.2) : Int)), v.2.2.2.1, v.2.1,
 v.2.2.2.2.1, v.2.2.2.2.2.1, v.2.2.2.2.2.2.1,
 v.2.2.2.2.2.2.2.1, ())).bind
 fun v1 =>
 (f299_l2
 (((↑(Int.toNat v.1.1) : Int), (↑(Int.toNat v.1.2) : Int)), v.2.1, v.2.2.1,
 v1.1, v1.2.1, v1.2.2.1, v1.2.2.2.1, ())).bind
 fun v => some (v.1, v.2.1, v.2.2.1, v.2.2.2.1, ())
theorem h299 (f310 : T310) (f311 : T311) (f299_l0 : T299_l0) (f299_l2 : T299_l2) : AqF (K299 f310 f311) 2 Tryz.f299 (N299 f299_l0 f299_l2) Li97 Lo72 (F299 f310 f311 f299_l0 f299_l2) := fun v => by kernel_rfl
def C299 : T299 := F299 C310 C311 C299_l0 C299_l2
theorem ok299 : FO 299 (E299 C299) :=
 qo kok299 Tryz.func299 (And.intro k299_l0 (And.intro k299_l2 trivial)) (h299 C310 C311 C299_l0 C299_l2)
abbrev T277 := (Int × Int) × List (Int) × LqA × LqB × LqC × Unit → Option (List (Int) × LqA × LqB × LqC × Unit)
def E277 (f : T277) : FEnt := ⟨Li103, Lo72, f⟩
def K277 (f299 : T299) := lk [(299, E299 f299)]
def F277 (f299 : T299) : T277 := fun (x0, x1, x2, x3, x4, _) =>
 (f299
 (((↑(Int.toNat x0.1) : Int), (↑(Int.toNat x0.2) : Int)), (↑(Int.toNat x0.2) : Int), x1, x2, x3, x4,
 ())).bind
 fun v => some (v.1, v.2.1, v.2.2.1, v.2.2.2.1, ())
theorem h277 (f299 : T299) : AqF (K277 f299) 2 Tryz.f277 .nil Li103 Lo72 (F277 f299) := fun v => by kernel_rfl
def C277 : T277 := F277 C299
theorem ok277 : FO 277 (E277 C277) :=
 q0 (kc ok299 kn) Tryz.func277 (h277 C299)
abbrev T239_c0 := Int × Int × LqA × LqB × LqC × List (Int) × Unit → Option (Int × Int × LqA × LqB × LqC × List (Int) × Unit)
def E239_c0 (f : T239_c0) : LEnt := ⟨Li104, Lo105, f⟩
abbrev T239_l0 := Int × Int × LqA × LqB × LqC × List (Int) × Unit → Option (List (Int) × Unit)
def E239_l0 (f : T239_l0) : LEnt := ⟨Li104, Lo106, f⟩
abbrev T239 := LqA × LqB × LqC × List (Int) × Unit → Option (List (Int) × Unit)
def E239 (f : T239) : FEnt := ⟨Li9, Lo40, f⟩
def K239 (f275 : T275) (f276 : T276) (f277 : T277) := lk [(275, E275 f275), (276, E276 f276), (277, E277 f277)]
theorem kok239 : KOk Tryz.prog (K239 C275 C276 C277) := (kc ok275 (kc ok276 (kc ok277 kn)))
def F239_c0 (f275 : T275) (f276 : T276) (f277 : T277) : T239_c0 := fun (x0, x1, x2, x3, x4, x5, _) =>
 bif decide (0 ≤ x1) && decide (x1 ≤ (↑x5.length : Int)) then
 bif decide (0 ≤ x0) && decide (x0 ≤ x1) then
 (f277 (((↑x0.toNat : Int), (↑(x1.toNat - x0.toNat) : Int)), x5, x2, x3, x4, ())).bind fun v =>
 some (IntKind.i64.wrap (x1 + 1), x1, v.2.1, v.2.2.1, v.2.2.2.1, v.1, ())
 else none
 else none
theorem h239_c0 (f275 : T275) (f276 : T276) (f277 : T277) : AqC (K239 f275 f276 f277) 0 (subc (code Tryz.f239) [1, 1, 1, 0, 1, 0, 0, 1, 0, 0, 1]) .nil Li104 Lo105 (F239_c0 f275 f276 f277) := fun v => by kernel_rfl
def C239_c0 : T239_c0 := F239_c0 C275 C276 C277
theorem k239_c0 : CdOk 0 (subc (code Tryz.f239) [1, 1, 1, 0, 1, 0, 0, 1, 0, 0, 1]) (E239_c0 C239_c0) :=
 frc kok239 (h239_c0 C275 C276 C277)
def N239_l0 (f239_c0 : T239_c0) : Ann := (.seq .nil (.seq (.blk (.cut .nil (E239_c0 f239_c0))) .nil))
def F239_l0 (f275 : T275) (f276 : T276) (f277 : T277) (f239_c0 : T239_c0) : LpF (Int × Int × LqA × LqB × LqC × List (Int) × Unit) (List (Int) × Unit) := fun (x0, x1, x2, x3, x4, x5, _) =>
 bif decide (x1 ≤ (↑x5.length : Int)) then
 bif decide (x1 < (↑x5.length : Int)) then
 bif decide (0 ≤ x1) && decide (x1 < (↑x5.length : Int)) then
 (f276 (x2, x3, x4, x5.getD x1.toNat 0, ())).bind fun v =>
 bif decide (v.1 > 0) then some (Sum.inl (x0, IntKind.i64.wrap (x1 + 1), x2, x3, x4, x5, ()))
 else
 (f239_c0 (x0, x1, x2, x3, x4, x5, ())).bind fun v =>
 some
 (Sum.inl
 (v.1, IntKind.i64.wrap (v.2.1 + 1), v.2.2.1, v.2.2.2.1,
 v.2.2.2.2.1, v.2.2.2.2.2.1, ()))
 else none
 else
 (f239_c0 (x0, x1, x2, x3, x4, x5, ())).bind fun v =>
 some
 (Sum.inl
 (v.1, IntKind.i64.wrap (v.2.1 + 1), v.2.2.1, v.2.2.2.1, v.2.2.2.2.1,
 v.2.2.2.2.2.1, ()))
 else some (Sum.inr (x5, ()))
theorem h239_l0 (f275 : T275) (f276 : T276) (f277 : T277) (f239_c0 : T239_c0) : AqL (K239 f275 f276 f277) 0 (subc (code Tryz.f239) [1, 1, 1, 0, 1, 0, 0]) (N239_l0 f239_c0) Li104 Lo106 (F239_l0 f275 f276 f277 f239_c0) := fun v => by kernel_rfl
def C239_l0 : T239_l0 := loopN (F239_l0 C275 C276 C277 C239_c0) big
theorem k239_l0 : LpOk 0 (subc (code Tryz.f239) [1, 1, 1, 0, 1, 0, 0]) (E239_l0 C239_l0) :=
 frm kok239 (And.intro k239_c0 trivial) (h239_l0 C275 C276 C277 C239_c0)
def N239 (f239_l0 : T239_l0) : Ann := (.seq .nil (.seq .nil (.seq .nil (.seq (.seq .nil (.blk (.loop (E239_l0 f239_l0)))) .nil))))
def F239 (f275 : T275) (f276 : T276) (f277 : T277) (f239_l0 : T239_l0) : T239 := fun (x0, x1, x2, x3, _) =>
 (f275 (x3, ())).bind fun v => (f239_l0 (0, 0, x0, x1, x2, v.1, ())).bind fun v => some (v.1, ())
theorem h239 (f275 : T275) (f276 : T276) (f277 : T277) (f239_l0 : T239_l0) : AqF (K239 f275 f276 f277) 0 Tryz.f239 (N239 f239_l0) Li9 Lo40 (F239 f275 f276 f277 f239_l0) := fun v => by kernel_rfl
def C239 : T239 := F239 C275 C276 C277 C239_l0
theorem ok239 : FO 239 (E239 C239) :=
 qo kok239 Tryz.func239 (And.intro k239_l0 trivial) (h239 C275 C276 C277 C239_l0)
abbrev T300 := Int × Int × Int × Unit → Option (Bool × Unit)
def E300 (f : T300) : FEnt := ⟨Li54, Lo29, f⟩
def F300 : T300 := fun (x0, x1, x2, _) =>
 bif decide (x0 ≥ x1) then some (decide (x0 < IntKind.i32.wrap (x1 + IntKind.i32.wrap x2)), ())
 else some (false, ())
def C300 : T300 := F300
theorem ok300 : FO 300 (E300 C300) := zq0 Li54 Lo29 KqZ F300 kn Tryz.func300
abbrev T301 := Int × Unit → Option (List (Int) × Unit)
def E301 (f : T301) : FEnt := ⟨Li28, Lo40, f⟩
def F301 : T301 := fun (x0, _) =>
 bif decide ((IntKind.i32.wrap (x0 - 44032)).tmod 28 > 0) then
 some
 ([IntKind.i32.wrap (4352 + IntKind.i32.wrap ((IntKind.i32.wrap (x0 - 44032)).tdiv 588)),
 IntKind.i32.wrap (4449 + (IntKind.i32.wrap ((IntKind.i32.wrap (x0 - 44032)).tdiv 28)).tmod 21)] ++
 [IntKind.i32.wrap (4519 + (IntKind.i32.wrap (x0 - 44032)).tmod 28)],
 ())
 else
 some
 ([IntKind.i32.wrap (4352 + IntKind.i32.wrap ((IntKind.i32.wrap (x0 - 44032)).tdiv 588)),
 IntKind.i32.wrap (4449 + (IntKind.i32.wrap ((IntKind.i32.wrap (x0 - 44032)).tdiv 28)).tmod 21)],
 ())
def C301 : T301 := F301
theorem ok301 : FO 301 (E301 C301) := zq0 Li28 Lo40 KqZ F301 kn Tryz.func301
abbrev T302_l0 := List (List (Int)) × Int × List (List (Int)) × Int × Int × Unit → Option (List (List (Int)) × Int × Unit)
def E302_l0 (f : T302_l0) : LEnt := ⟨Li56, Lo57, f⟩
abbrev T302_l1 := List (List (Int)) × Int × Int × List (Int) × Unit → Option (List (Int) × Unit)
def E302_l1 (f : T302_l1) : LEnt := ⟨Li58, Lo59, f⟩
abbrev T302 := List (List (Int)) × Unit → Option (List (Int) × Unit)
def E302 (f : T302) : FEnt := ⟨Li55, Lo40, f⟩
def K302 (f312 : T312) := lk [(312, E312 f312)]
theorem kok302 : KOk Tryz.prog (K302 C312) := (kc ok312 kn)
def F302_l0 (f312 : T312) : LpF (List (List (Int)) × Int × List (List (Int)) × Int × Int × Unit) (List (List (Int)) × Int × Unit) := fun (x0, x1, x2, x3, x4, _) =>
 bif decide (x4 < x3) then
 bif decide (0 ≤ x4) && decide (x4 < (↑x2.length : Int)) then
 bif
 decide
 (IntKind.i64.wrap (x1 + (↑(List.length (x2.getD x4.toNat [])) : Int)) < 0) then
 none
 else
 some
 (Sum.inl
 (x0, IntKind.i64.wrap (x1 + (↑(List.length (x2.getD x4.toNat [])) : Int)), x2, x3,
 IntKind.i64.wrap (x4 + 1), ()))
 else none
 else some (Sum.inr (x0, x1, ()))
def C302_l0 : T302_l0 := loopN (F302_l0 C312) big
theorem k302_l0 : LpOk 0 (subc (code Tryz.f302) [1, 1, 0, 1, 0, 0]) (E302_l0 C302_l0) := zl1 Li56 Lo57 K302 F302_l0 C312 kok302
def F302_l1 (f312 : T312) : LpF (List (List (Int)) × Int × Int × List (Int) × Unit) (List (Int) × Unit) := fun (x0, x1, x2, x3, _) =>
 bif decide (x2 < x1) then
 bif decide (0 ≤ x2) && decide (x2 < (↑x0.length : Int)) then
 bif decide (x3.length + List.length (x0.getD x2.toNat []) ≤ 140737488355328 / 4) then
 some
 (Sum.inl (x0, x1, IntKind.i64.wrap (x2 + 1), x3 ++ x0.getD x2.toNat [], ()))
 else none
 else none
 else some (Sum.inr (x3, ()))
def C302_l1 : T302_l1 := loopN (F302_l1 C312) big
theorem k302_l1 : LpOk 0 (subc (code Tryz.f302) [1, 1, 1, 1, 0, 1, 0, 0]) (E302_l1 C302_l1) := zl1 Li58 Lo59 K302 F302_l1 C312 kok302
def N302 (f302_l0 : T302_l0) (f302_l1 : T302_l1) : Ann := (.seq .nil (.seq .nil (.seq (.seq .nil (.blk (.loop (E302_l0 f302_l0)))) (.seq .nil (.seq (.seq .nil (.blk (.loop (E302_l1 f302_l1)))) .nil)))))
def F302 (f312 : T312) (f302_l0 : T302_l0) (f302_l1 : T302_l1) : T302 := fun (x0, _) =>
 (f302_l0 (x0, 0, x0, (↑x0.length : Int), 0, ())).bind fun v =>
 (f312 (v.2.1, ())).bind fun v1 =>
 (f302_l1 (v.1, (↑(List.length v.1) : Int), 0, v1.1, ())).bind fun v => some (v.1, ())
theorem h302 (f312 : T312) (f302_l0 : T302_l0) (f302_l1 : T302_l1) : AqF (K302 f312) 0 Tryz.f302 (N302 f302_l0 f302_l1) Li55 Lo40 (F302 f312 f302_l0 f302_l1) := fun v => by kernel_rfl
def C302 : T302 := F302 C312 C302_l0 C302_l1
theorem ok302 : FO 302 (E302 C302) :=
 qo kok302 Tryz.func302 (And.intro k302_l0 (And.intro k302_l1 trivial)) (h302 C312 C302_l0 C302_l1)
abbrev T279_c0 := Int × Bool × Bool × LqA × LqB × LqC × Int × Int × Int × Bool × Bool × Unit → Option ((List (Int) × Unit) ⊕ (Bool × LqA × LqB × LqC × Int × Int × Int × Bool × Bool × Unit))
def E279_c0 (f : T279_c0) : LEnt := ⟨Li61, Lo62, f⟩
abbrev T279 := LqA × LqB × LqC × Int × Bool × Unit → Option (List (Int) × Unit)
def E279 (f : T279) : FEnt := ⟨Li60, Lo40, f⟩
def K279 (f216 : T216) (f279 : T279) (f300 : T300) (f301 : T301) (f302 : T302) := lk [(216, E216 f216), (279, E279 f279), (300, E300 f300), (301, E301 f301), (302, E302 f302)]
theorem kok279 (G : T279) (hG : FnOk Tryz.prog 279 (E279 G)) : KOk Tryz.prog (K279 C216 G C300 C301 C302) := (kc ok216 (kc hG (kc ok300 (kc ok301 (kc ok302 kn)))))
def F279_c0 (f216 : T216) (f279 : T279) (f300 : T300) (f301 : T301) (f302 : T302) : T279_c0 := fun (x0, x1, x2, x3, x4, x5, x6, x7, x8, x9, x10, _) =>
 bif x2 then some (Sum.inl ([x0], ()))
 else
 bif x8 == 0 then (f279 (x3, x4, x5, x7, x1, ())).bind fun v => some (Sum.inl (v.1, ()))
 else some (Sum.inr (x1, x3, x4, x5, x6, x7, x8, x9, x10, ()))
theorem h279_c0 (f216 : T216) (f279 : T279) (f300 : T300) (f301 : T301) (f302 : T302) : AqC (K279 f216 f279 f300 f301 f302) 0 (subc (code Tryz.f279) [1, 1, 0, 0, 1, 1, 1]) .nil Li61 Lo62 (F279_c0 f216 f279 f300 f301 f302) := fun v => by kernel_rfl
def C279_c0 (G : T279) : T279_c0 := F279_c0 C216 G C300 C301 C302
theorem k279_c0 (G : T279) (hG : FnOk Tryz.prog 279 (E279 G)) : CdOk 0 (subc (code Tryz.f279) [1, 1, 0, 0, 1, 1, 1]) (E279_c0 (C279_c0 G)) :=
 frag_code (ins := Li61) (os := Lo62) (n := .nil) (F := (C279_c0 G)) hm hΓ (kok279 G hG) (ann_nil _) (h279_c0 C216 G C300 C301 C302)
def N279 (f279_c0 : T279_c0) : Ann := (.seq .nil (.seq .nil (.seq (.blk (.seq .nil (.cond .nil (.cut .nil (E279_c0 f279_c0))))) .nil)))
def F279 (f216 : T216) (f279 : T279) (f300 : T300) (f301 : T301) (f302 : T302) (f279_c0 : T279_c0) : T279 := fun (x0, x1, x2, x3, x4, _) =>
 (f216 (x0, x1, x2, x3, ())).bind fun v =>
 (f300 (x3, 44032, 11172, ())).bind fun v1 =>
 bif v1.1 then (f301 (x3, ())).bind fun v => some (v.1, ())
 else
 bif !v.2.2.2.2.2.1 then
 (f279_c0
 (x3, x4, true, x0, x1, x2, v.1, v.2.1, v.2.2.1, v.2.2.2.1,
 v.2.2.2.2.1, ())).bind
 fun v =>
 Sum.elim (fun v => some (v.1, ()))
 (fun v =>
 (f279 (v.2.1, v.2.2.1, v.2.2.2.1, v.2.2.2.2.2.1, v.1, ())).bind
 fun v2 =>
 (f279
 (v.2.1, v.2.2.1, v.2.2.2.1, v.2.2.2.2.2.2.1, v.1,
 ())).bind
 fun v => (f302 ([v2.1, v.1], ())).bind fun v => some (v.1, ()))
 v
 else
 bif v.2.2.2.1 then
 (f279_c0
 (x3, x4, !x4, x0, x1, x2, v.1, v.2.1, v.2.2.1, v.2.2.2.1,
 v.2.2.2.2.1, ())).bind
 fun v =>
 Sum.elim (fun v => some (v.1, ()))
 (fun v =>
 (f279
 (v.2.1, v.2.2.1, v.2.2.2.1, v.2.2.2.2.2.1, v.1,
 ())).bind
 fun v2 =>
 (f279
 (v.2.1, v.2.2.1, v.2.2.2.1, v.2.2.2.2.2.2.1, v.1,
 ())).bind
 fun v => (f302 ([v2.1, v.1], ())).bind fun v => some (v.1, ()))
 v
 else
 (f279_c0
 (x3, x4, false, x0, x1, x2, v.1, v.2.1, v.2.2.1, v.2.2.2.1,
 v.2.2.2.2.1, ())).bind
 fun v =>
 Sum.elim (fun v => some (v.1, ()))
 (fun v =>
 (f279
 (v.2.1, v.2.2.1, v.2.2.2.1, v.2.2.2.2.2.1, v.1,
 ())).bind
 fun v2 =>
 (f279
 (v.2.1, v.2.2.1, v.2.2.2.1, v.2.2.2.2.2.2.1, v.1,
 ())).bind
 fun v => (f302 ([v2.1, v.1], ())).bind fun v => some (v.1, ()))
 v
theorem h279 (f216 : T216) (f279 : T279) (f300 : T300) (f301 : T301) (f302 : T302) (f279_c0 : T279_c0) : AqF (K279 f216 f279 f300 f301 f302) 0 Tryz.f279 (N279 f279_c0) Li60 Lo40 (F279 f216 f279 f300 f301 f302 f279_c0) := fun v => by kernel_rfl
def C279 : T279 := recN (fun G => F279 C216 G C300 C301 C302 (C279_c0 G)) big
theorem ok279 : FO 279 (E279 C279) :=
 fn_rec (ins := Li60) (os := Lo40) (F := fun G => F279 C216 G C300 C301 C302 (C279_c0 G)) (fun G hG => qo (kok279 G hG) Tryz.func279 (And.intro (k279_c0 G hG) trivial) (h279 C216 G C300 C301 C302 (C279_c0 G))) big
abbrev T240_l0 := Bool × List (Int) × Int × Int × LqA × LqB × LqC × List (Int) × Unit → Option (List (Int) × Unit)
def E240_l0 (f : T240_l0) : LEnt := ⟨Li64, Lo65, f⟩
abbrev T240 := LqA × LqB × LqC × List (Int) × Bool × Unit → Option (List (Int) × Unit)
def E240 (f : T240) : FEnt := ⟨Li63, Lo40, f⟩
def K240 (f279 : T279) := lk [(279, E279 f279)]
theorem kok240 : KOk Tryz.prog (K240 C279) := (kc ok279 kn)
def F240_l0 (f279 : T279) : LpF (Bool × List (Int) × Int × Int × LqA × LqB × LqC × List (Int) × Unit) (List (Int) × Unit) := fun (x0, x1, x2, x3, x4, x5, x6, x7, _) =>
 bif decide (x3 < x2) then
 bif decide (0 ≤ x3) && decide (x3 < (↑x1.length : Int)) then
 (f279 (x4, x5, x6, x1.getD x3.toNat 0, x0, ())).bind fun v =>
 bif decide (x7.length + List.length v.1 ≤ 140737488355328 / 4) then
 some (Sum.inl (x0, x1, x2, IntKind.i64.wrap (x3 + 1), x4, x5, x6, x7 ++ v.1, ()))
 else none
 else none
 else some (Sum.inr (x7, ()))
def C240_l0 : T240_l0 := loopN (F240_l0 C279) big
theorem k240_l0 : LpOk 0 (subc (code Tryz.f240) [1, 1, 0, 1, 0, 0]) (E240_l0 C240_l0) := zl1 Li64 Lo65 K240 F240_l0 C279 kok240
def N240 (f240_l0 : T240_l0) : Ann := (.seq .nil (.seq .nil (.seq (.seq .nil (.blk (.loop (E240_l0 f240_l0)))) .nil)))
def F240 (f279 : T279) (f240_l0 : T240_l0) : T240 := fun (x0, x1, x2, x3, x4, _) =>
 (f240_l0 (x4, x3, (↑x3.length : Int), 0, x0, x1, x2, [], ())).bind fun v => some (v.1, ())
def C240 : T240 := F240 C279 C240_l0
theorem ok240 : FO 240 (E240 C240) := zq1_1 Li63 Lo40 K240 N240 F240 C279 C240_l0 kok240 Tryz.func240 (And.intro k240_l0 trivial)
abbrev T280_c0 := Int × Int × Bool × LqA × LqB × LqC × Unit → Option ((Int × Bool × Unit) ⊕ (Int × Int × LqA × LqB × LqC × Unit))
def E280_c0 (f : T280_c0) : LEnt := ⟨Li107, Lo108, f⟩
abbrev T280 := LqA × LqB × LqC × Int × Int × Unit → Option (Int × Bool × Unit)
def E280 (f : T280) : FEnt := ⟨Li5, Lo6, f⟩
def K280 (f300 : T300) (f303 : T303) := lk [(300, E300 f300), (303, E303 f303)]
theorem kok280 : KOk Tryz.prog (K280 C300 C303) := (kc ok300 (kc ok303 kn))
def F280_c0 (f300 : T300) (f303 : T303) : T280_c0 := fun (x0, x1, x2, x3, x4, x5, _) =>
 bif x2 then
 some
 (Sum.inl
 (IntKind.i32.wrap
 (44032 +
 IntKind.i32.wrap
 (IntKind.i32.wrap (IntKind.i32.wrap (IntKind.i32.wrap (IntKind.i32.wrap (x0 - 4352) * 21) + x1) - 4449) *
 28)),
 true, ()))
 else
 (f300 (x0, 44032, 11172, ())).bind fun v =>
 bif v.1 then
 bif (IntKind.i32.wrap (x0 - 44032)).tmod 28 == 0 then
 (f300 (x1, 4520, 27, ())).bind fun v =>
 bif v.1 then some (Sum.inl (IntKind.i32.wrap (IntKind.i32.wrap (x0 + x1) - 4519), true, ()))
 else some (Sum.inr (x0, x1, x3, x4, x5, ()))
 else some (Sum.inr (x0, x1, x3, x4, x5, ()))
 else some (Sum.inr (x0, x1, x3, x4, x5, ()))
def C280_c0 : T280_c0 := F280_c0 C300 C303
theorem k280_c0 : CdOk 0 (subc (code Tryz.f280) [1, 0, 0, 1]) (E280_c0 C280_c0) := zc2 Li107 Lo108 K280 F280_c0 C300 C303 kok280
def N280 (f280_c0 : T280_c0) : Ann := (.seq .nil (.seq (.blk (.cut .nil (E280_c0 f280_c0))) .nil))
def F280 (f300 : T300) (f303 : T303) (f280_c0 : T280_c0) : T280 := fun (x0, x1, x2, x3, x4, _) =>
 (f300 (x3, 4352, 19, ())).bind fun v =>
 bif v.1 then
 (f300 (x4, 4449, 21, ())).bind fun v =>
 (f280_c0 (x3, x4, v.1, x0, x1, x2, ())).bind fun v =>
 Sum.elim (fun v => some (v.1, v.2.1, ()))
 (fun v =>
 (f303 (v.2.2.1, v.2.2.2.1, v.2.2.2.2.1, v.1, v.2.1, ())).bind
 fun v => some (v.1, v.2.1, ()))
 v
 else
 (f280_c0 (x3, x4, false, x0, x1, x2, ())).bind fun v =>
 Sum.elim (fun v => some (v.1, v.2.1, ()))
 (fun v =>
 (f303 (v.2.2.1, v.2.2.2.1, v.2.2.2.2.1, v.1, v.2.1, ())).bind
 fun v => some (v.1, v.2.1, ()))
 v
def C280 : T280 := F280 C300 C303 C280_c0
theorem ok280 : FO 280 (E280 C280) := zq2_1 Li5 Lo6 K280 N280 F280 C300 C303 C280_c0 kok280 Tryz.func280 (And.intro k280_c0 trivial)
abbrev T241_c0 := Int × Int × Int × Int × List (Int) × Int × Int × Bool × LqA × LqB × LqC × List (Int) × Unit → Option ((Int × Int × List (Int) × Int × Int × LqA × LqB × LqC × List (Int) × Unit) ⊕ (Int × Int × Int × Int × List (Int) × Int × Int × LqA × LqB × LqC × List (Int) × Unit))
def E241_c0 (f : T241_c0) : LEnt := ⟨Li109, Lo110, f⟩
abbrev T241_l0 := Int × Int × List (Int) × Int × Int × LqA × LqB × LqC × List (Int) × Unit → Option (List (Int) × Unit)
def E241_l0 (f : T241_l0) : LEnt := ⟨Li111, Lo112, f⟩
abbrev T241 := LqA × LqB × LqC × List (Int) × Unit → Option (List (Int) × Unit)
def E241 (f : T241) : FEnt := ⟨Li9, Lo40, f⟩
def K241 (f276 : T276) (f280 : T280) := lk [(276, E276 f276), (280, E280 f280)]
theorem kok241 : KOk Tryz.prog (K241 C276 C280) := (kc ok276 (kc ok280 kn))
def F241_c0 (f276 : T276) (f280 : T280) : T241_c0 := fun (x0, x1, x2, x3, x4, x5, x6, x7, x8, x9, x10, x11, _) =>
 bif x7 then
 bif decide (0 ≤ x0) && decide (x0 < (↑x11.length : Int)) then
 (f280 (x8, x9, x10, x11.getD x0.toNat 0, x2, ())).bind fun v =>
 bif v.2.1 then
 bif decide (0 ≤ x0) && decide (x0 < (↑x11.length : Int)) then
 some (Sum.inl (x0, x1, x4, x5, x6, x8, x9, x10, x11.set x0.toNat v.1, ()))
 else none
 else some (Sum.inr (x0, x1, x2, x3, x4, x5, x6, x8, x9, x10, x11, ()))
 else none
 else some (Sum.inr (x0, x1, x2, x3, x4, x5, x6, x8, x9, x10, x11, ()))
def C241_c0 : T241_c0 := F241_c0 C276 C280
theorem k241_c0 : CdOk 0 (subc (code Tryz.f241) [1, 1, 1, 0, 1, 0, 0, 1, 1, 0, 0, 1, 1, 0, 1]) (E241_c0 C241_c0) := zc2 Li109 Lo110 K241 F241_c0 C276 C280 kok241
def N241_l0 (f241_c0 : T241_c0) : Ann := (.seq .nil (.seq .nil (.seq (.blk (.seq .nil (.seq .nil (.seq (.cut .nil (E241_c0 f241_c0)) .nil)))) .nil)))
def F241_l0 (f276 : T276) (f280 : T280) (f241_c0 : T241_c0) : LpF (Int × Int × List (Int) × Int × Int × LqA × LqB × LqC × List (Int) × Unit) (List (Int) × Unit) := fun (x0, x1, x2, x3, x4, x5, x6, x7, x8, _) =>
 bif decide (x4 < x3) then
 bif decide (0 ≤ x4) && decide (x4 < (↑x2.length : Int)) then
 (f276 (x5, x6, x7, x2.getD x4.toNat 0, ())).bind fun v =>
 bif decide (x0 ≥ 0) then
 bif decide (x1 < v.1) then
 (f241_c0
 (x0, x1, x2.getD x4.toNat 0, v.1, x2, x3, x4, true, x5, x6, x7, x8,
 ())).bind
 fun v =>
 Sum.elim
 (fun v =>
 some
 (Sum.inl
 (v.1, v.2.1, v.2.2.1, v.2.2.2.1,
 IntKind.i64.wrap (v.2.2.2.2.1 + 1), v.2.2.2.2.2.1,
 v.2.2.2.2.2.2.1, v.2.2.2.2.2.2.2.1,
 v.2.2.2.2.2.2.2.2.1, ())))
 (fun v =>
 bif
 decide
 (List.length v.2.2.2.2.2.2.2.2.2.2.1 + [v.2.2.1].length ≤
 140737488355328 / 4) then
 bif v.2.2.2.1 == 0 then
 some
 (Sum.inl
 (IntKind.i64.wrap
 ((↑(v.2.2.2.2.2.2.2.2.2.2.1 ++ [v.2.2.1]).length : Int) -
 1),
 0, v.2.2.2.2.1, v.2.2.2.2.2.1,
 IntKind.i64.wrap (v.2.2.2.2.2.2.1 + 1), v.2.2.2.2.2.2.2.1,
 v.2.2.2.2.2.2.2.2.1, v.2.2.2.2.2.2.2.2.2.1,
 v.2.2.2.2.2.2.2.2.2.2.1 ++ [v.2.2.1], ()))
 else
 some
 (Sum.inl
 (v.1, if v.2.2.2.1 > v.2.1 then v.2.2.2.1 else v.2.1,
 v.2.2.2.2.1, v.2.2.2.2.2.1,
 IntKind.i64.wrap (v.2.2.2.2.2.2.1 + 1), v.2.2.2.2.2.2.2.1,
 v.2.2.2.2.2.2.2.2.1, v.2.2.2.2.2.2.2.2.2.1,
 v.2.2.2.2.2.2.2.2.2.2.1 ++ [v.2.2.1], ()))
 else none)
 v
 else
 (f241_c0
 (x0, x1, x2.getD x4.toNat 0, v.1, x2, x3, x4,
 x0 == IntKind.i64.wrap ((↑x8.length : Int) - 1), x5, x6, x7, x8, ())).bind
 fun v =>
 Sum.elim
 (fun v =>
 some
 (Sum.inl
 (v.1, v.2.1, v.2.2.1, v.2.2.2.1,
 IntKind.i64.wrap (v.2.2.2.2.1 + 1), v.2.2.2.2.2.1,
 v.2.2.2.2.2.2.1, v.2.2.2.2.2.2.2.1,
 v.2.2.2.2.2.2.2.2.1, ())))
 (fun v =>
 bif
 decide
 (List.length v.2.2.2.2.2.2.2.2.2.2.1 + [v.2.2.1].length ≤
 140737488355328 / 4) then
 bif v.2.2.2.1 == 0 then
 some
 (Sum.inl
 (IntKind.i64.wrap
 ((↑(v.2.2.2.2.2.2.2.2.2.2.1 ++ [v.2.2.1]).length : Int) -
 1),
 0, v.2.2.2.2.1, v.2.2.2.2.2.1,
 IntKind.i64.wrap (v.2.2.2.2.2.2.1 + 1), v.2.2.2.2.2.2.2.1,
 v.2.2.2.2.2.2.2.2.1, v.2.2.2.2.2.2.2.2.2.1,
 v.2.2.2.2.2.2.2.2.2.2.1 ++ [v.2.2.1], ()))
 else
 some
 (Sum.inl
 (v.1, if v.2.2.2.1 > v.2.1 then v.2.2.2.1 else v.2.1,
 v.2.2.2.2.1, v.2.2.2.2.2.1,
 IntKind.i64.wrap (v.2.2.2.2.2.2.1 + 1), v.2.2.2.2.2.2.2.1,
 v.2.2.2.2.2.2.2.2.1, v.2.2.2.2.2.2.2.2.2.1,
 v.2.2.2.2.2.2.2.2.2.2.1 ++ [v.2.2.1], ()))
 else none)
 v
 else
 (f241_c0
 (x0, x1, x2.getD x4.toNat 0, v.1, x2, x3, x4, false, x5, x6, x7, x8, ())).bind
 fun v =>
 Sum.elim
 (fun v =>
 some
 (Sum.inl
 (v.1, v.2.1, v.2.2.1, v.2.2.2.1,
 IntKind.i64.wrap (v.2.2.2.2.1 + 1), v.2.2.2.2.2.1,
 v.2.2.2.2.2.2.1, v.2.2.2.2.2.2.2.1,
 v.2.2.2.2.2.2.2.2.1, ())))
 (fun v =>
 bif
 decide
 (List.length v.2.2.2.2.2.2.2.2.2.2.1 + [v.2.2.1].length ≤
 140737488355328 / 4) then
 bif v.2.2.2.1 == 0 then
 some
 (Sum.inl
 (IntKind.i64.wrap
 ((↑(v.2.2.2.2.2.2.2.2.2.2.1 ++ [v.2.2.1]).length : Int) - 1),
 0, v.2.2.2.2.1, v.2.2.2.2.2.1,
 IntKind.i64.wrap (v.2.2.2.2.2.2.1 + 1), v.2.2.2.2.2.2.2.1,
 v.2.2.2.2.2.2.2.2.1, v.2.2.2.2.2.2.2.2.2.1,
 v.2.2.2.2.2.2.2.2.2.2.1 ++ [v.2.2.1], ()))
 else
 some
 (Sum.inl
 (v.1, if v.2.2.2.1 > v.2.1 then v.2.2.2.1 else v.2.1,
 v.2.2.2.2.1, v.2.2.2.2.2.1,
 IntKind.i64.wrap (v.2.2.2.2.2.2.1 + 1), v.2.2.2.2.2.2.2.1,
 v.2.2.2.2.2.2.2.2.1, v.2.2.2.2.2.2.2.2.2.1,
 v.2.2.2.2.2.2.2.2.2.2.1 ++ [v.2.2.1], ()))
 else none)
 v
 else none
 else some (Sum.inr (x8, ()))
def C241_l0 : T241_l0 := loopN (F241_l0 C276 C280 C241_c0) big
theorem k241_l0 : LpOk 0 (subc (code Tryz.f241) [1, 1, 1, 0, 1, 0, 0]) (E241_l0 C241_l0) := zl2_1 Li111 Lo112 K241 N241_l0 F241_l0 C276 C280 C241_c0 kok241 (And.intro k241_c0 trivial)
def N241 (f241_l0 : T241_l0) : Ann := (.seq .nil (.seq .nil (.seq .nil (.seq (.seq .nil (.blk (.loop (E241_l0 f241_l0)))) .nil))))
def F241 (f276 : T276) (f280 : T280) (f241_l0 : T241_l0) : T241 := fun (x0, x1, x2, x3, _) =>
 (f241_l0 (-1, 0, x3, (↑x3.length : Int), 0, x0, x1, x2, [], ())).bind fun v => some (v.1, ())
def C241 : T241 := F241 C276 C280 C241_l0
theorem ok241 : FO 241 (E241 C241) := zq2_1 Li9 Lo40 K241 N241 F241 C276 C280 C241_l0 kok241 Tryz.func241 (And.intro k241_l0 trivial)
abbrev T121_c0 := Int × Bool × Unit → Option ((Int × Int × Unit) ⊕ Unit)
def E121_c0 (f : T121_c0) : LEnt := ⟨Li25, Lo26, f⟩
abbrev T121_c1 := Int × Bool × Unit → Option ((Int × Int × Unit) ⊕ Unit)
def E121_c1 (f : T121_c1) : LEnt := ⟨Li27, Lo26, f⟩
abbrev T121 := Int × Unit → Option (Int × Int × Unit)
def E121 (f : T121) : FEnt := ⟨Li23, Lo24, f⟩
def F121_c0 : T121_c0 := fun (x0, x1, _) =>
 bif x1 then some (Sum.inl (2, IntKind.i32.wrap (intBits BinOp.and IntKind.u8 x0 15), ()))
 else
 bif decide (x0 ≥ 240) then
 bif decide (x0 < 245) then some (Sum.inl (3, IntKind.i32.wrap (intBits BinOp.and IntKind.u8 x0 7), ()))
 else some (Sum.inr ())
 else some (Sum.inr ())
theorem h121_c0 : AqC KqZ 0 (subc (code Tryz.f121) [1, 0, 0, 1, 1, 1, 1, 1]) .nil Li25 Lo26 (F121_c0) := fun v => by kernel_rfl
def C121_c0 : T121_c0 := F121_c0
theorem k121_c0 : CdOk 0 (subc (code Tryz.f121) [1, 0, 0, 1, 1, 1, 1, 1]) (E121_c0 C121_c0) :=
 frc kn (h121_c0)
def N121_c1 (f121_c0 : T121_c0) : Ann := (.cond .nil (.cut .nil (E121_c0 f121_c0)))
def F121_c1 (f121_c0 : T121_c0) : T121_c1 := fun (x0, x1, _) =>
 bif x1 then some (Sum.inl (1, IntKind.i32.wrap (intBits BinOp.and IntKind.u8 x0 31), ()))
 else
 bif decide (x0 ≥ 224) then
 (f121_c0 (x0, decide (x0 < 240), ())).bind fun v =>
 Sum.elim (fun v => some (Sum.inl (v.1, v.2.1, ()))) (fun v => some (Sum.inr ())) v
 else
 (f121_c0 (x0, false, ())).bind fun v =>
 Sum.elim (fun v => some (Sum.inl (v.1, v.2.1, ()))) (fun v => some (Sum.inr ())) v
theorem h121_c1 (f121_c0 : T121_c0) : AqC KqZ 0 (subc (code Tryz.f121) [1, 0, 0, 1, 1, 1]) (N121_c1 f121_c0) Li27 Lo26 (F121_c1 f121_c0) := fun v => by kernel_rfl
def C121_c1 : T121_c1 := F121_c1 C121_c0
theorem k121_c1 : CdOk 0 (subc (code Tryz.f121) [1, 0, 0, 1, 1, 1]) (E121_c1 C121_c1) :=
 frd kn (And.intro k121_c0 trivial) (h121_c1 C121_c0)
def N121 (f121_c1 : T121_c1) : Ann := (.seq .nil (.seq (.blk (.seq .nil (.cond .nil (.cut .nil (E121_c1 f121_c1))))) .nil))
def F121 (f121_c1 : T121_c1) : T121 := fun (x0, _) =>
 bif decide (x0 < 128) then some (0, IntKind.i32.wrap x0, ())
 else
 bif decide (x0 ≥ 194) then
 (f121_c1 (x0, decide (x0 < 224), ())).bind fun v =>
 Sum.elim (fun v => some (v.1, v.2.1, ())) (fun v => some (-1, 0, ())) v
 else
 (f121_c1 (x0, false, ())).bind fun v =>
 Sum.elim (fun v => some (v.1, v.2.1, ())) (fun v => some (-1, 0, ())) v
def C121 : T121 := F121 C121_c1
theorem ok121 : FO 121 (E121 C121) := zq0_1 Li23 Lo24 KqZ N121 F121 C121_c1 kn Tryz.func121 (And.intro k121_c1 trivial)
abbrev T83_l0 := LqS × Int × Int × Int × Int × List (Int) × Unit → Option ((LqS × Int × Int × Int × List (Int) × Unit) ⊕ (Int × List (Int) × Unit))
def E83_l0 (f : T83_l0) : LEnt := ⟨Li32, Lo33, f⟩
abbrev T83_l1 := LqS × Int × List (Int) × Unit → Option ((List (Int) × Unit) ⊕ (Int × List (Int) × Unit))
def E83_l1 (f : T83_l1) : LEnt := ⟨Li34, Lo35, f⟩
abbrev T83_g0 := Int × List (Int) × Unit → Option (Int × List (Int) × Unit)
def E83_g0 (f : T83_g0) : LEnt := ⟨Li36, Lo37, f⟩
abbrev T83 := LqS × Unit → Option (List (Int) × Int × Unit)
def E83 (f : T83) : FEnt := ⟨Li30, Lo31, f⟩
def K83 (f121 : T121) (f122 : T122) := lk [(121, E121 f121), (122, E122 f122)]
theorem kok83 : KOk Tryz.prog (K83 C121 C122) := (kc ok121 (kc ok122 kn))
def F83_l0 (f121 : T121) (f122 : T122) : LpF (LqS × Int × Int × Int × Int × List (Int) × Unit) ((LqS × Int × Int × Int × List (Int) × Unit) ⊕ (Int × List (Int) × Unit)) := fun (x0, x1, x2, x3, x4, x5, _) =>
 bif decide (x4 ≤ IntKind.i64.wrap (x3 + x1)) then
 bif decide (0 ≤ x4) && decide (x4 < (↑x0.length : Int)) then
 bif intBits BinOp.andNot IntKind.u8 (↑(x0.getD x4.toNat 0).toNat : Int) 63 != 128 then
 some (Sum.inr (Sum.inr (x3, x5, ())))
 else
 bif decide (0 ≤ x4) && decide (x4 < (↑x0.length : Int)) then
 some
 (Sum.inl
 (x0, x1,
 intBits BinOp.or IntKind.i32 (IntKind.i32.wrap (x2 * 2 ^ min 6 IntKind.i32.bits))
 (IntKind.i32.wrap (intBits BinOp.and IntKind.u8 (↑(x0.getD x4.toNat 0).toNat : Int) 63)),
 x3, IntKind.i64.wrap (x4 + 1), x5, ()))
 else none
 else none
 else some (Sum.inr (Sum.inl (x0, x1, x2, x3, x5, ())))
def C83_l0 : T83_l0 := loopN (F83_l0 C121 C122) big
theorem k83_l0 : LpOk 0 (subc (code Tryz.f83) [1, 0, 1, 1, 1, 1, 0, 0, 0, 1, 0, 1, 1, 0, 1, 0, 0]) (E83_l0 C83_l0) := zl2 Li32 Lo33 K83 F83_l0 C121 C122 kok83
def N83_l1 (f83_l0 : T83_l0) : Ann := (.seq .nil (.blk (.seq .nil (.seq .nil (.seq (.seq .nil (.blk (.loop (E83_l0 f83_l0)))) .nil)))))
def F83_l1 (f121 : T121) (f122 : T122) (f83_l0 : T83_l0) : LpF (LqS × Int × List (Int) × Unit) ((List (Int) × Unit) ⊕ (Int × List (Int) × Unit)) := fun (x0, x1, x2, _) =>
 bif decide (x1 < (↑x0.length : Int)) then
 bif decide (0 ≤ x1) && decide (x1 < (↑x0.length : Int)) then
 (f121 ((↑(x0.getD x1.toNat 0).toNat : Int), ())).bind fun v =>
 bif decide (v.1 < 0) then some (Sum.inr (Sum.inr (x1, x2, ())))
 else
 bif decide (IntKind.i64.wrap ((↑x0.length : Int) - x1) ≤ v.1) then
 some (Sum.inr (Sum.inr (x1, x2, ())))
 else
 (f83_l0 (x0, v.1, v.2.1, x1, IntKind.i64.wrap (x1 + 1), x2, ())).bind fun v =>
 Sum.elim
 (fun v =>
 (f122 (v.2.2.1, ())).bind fun v1 =>
 bif v1.1 != IntKind.i64.wrap (v.2.1 + 1) then
 some (Sum.inr (Sum.inr (v.2.2.2.1, v.2.2.2.2.1, ())))
 else
 bif
 decide
 (List.length v.2.2.2.2.1 + [v.2.2.1].length ≤ 140737488355328 / 4) then
 some
 (Sum.inl
 (v.1, IntKind.i64.wrap (v.2.2.2.1 + IntKind.i64.wrap (v.2.1 + 1)),
 v.2.2.2.2.1 ++ [v.2.2.1], ()))
 else none)
 (fun v => some (Sum.inr (Sum.inr (v.1, v.2.1, ())))) v
 else none
 else some (Sum.inr (Sum.inl (x2, ())))
def C83_l1 : T83_l1 := loopN (F83_l1 C121 C122 C83_l0) big
theorem k83_l1 : LpOk 0 (subc (code Tryz.f83) [1, 0, 1, 1, 1, 1, 0, 0, 0]) (E83_l1 C83_l1) := zl2_1 Li34 Lo35 K83 N83_l1 F83_l1 C121 C122 C83_l0 kok83 (And.intro k83_l0 trivial)
def F83_g0 (f121 : T121) (f122 : T122) : LpF (Int × List (Int) × Unit) (Int × List (Int) × Unit) := fun (x0, x1, _) =>
 some (Sum.inr (x0, x1, ()))
theorem h83_g0 (f121 : T121) (f122 : T122) (v : HS Li36) : aev Γ (K83 f121 f122) 0 ((findLabel (subc (code Tryz.f83) [1, 0]) 0).getD .skip) .nil (stof Li36 v) (aroundL 0 0 [] Li36 Lo37) = F83_g0 f121 f122 v := by kernel_rfl
def C83_g0 : T83_g0 := loopN (F83_g0 C121 C122) big
theorem k83_g0 : FragOk Tryz.prog 0 (ScopeFrom Tryz.prog (subc (code Tryz.f83) [1, 0]) 0) (E83_g0 C83_g0) :=
 frag_big (ins := Li36) (os := Lo37) (C := C83_g0) (frag_label (ins := Li36) (os := Lo37) (n := .nil) (ls := []) (F := F83_g0 C121 C122) (rest := ((findLabel (subc (code Tryz.f83) [1, 0]) 0).getD .skip)) hm hΓ kok83 (fun _ => big) (by kernel_rfl) (ann_nil _) find_nil (h83_g0 C121 C122)) rfl
def N83 (f83_g0 : T83_g0) (f83_l1 : T83_l1) : Ann := (.seq .nil (.scope (.seq .nil (.seq .nil (.seq .nil (.seq .nil (.seq (.blk (.loop (E83_l1 f83_l1))) .nil))))) [(0, (E83_g0 f83_g0))]))
def F83 (f121 : T121) (f122 : T122) (f83_g0 : T83_g0) (f83_l1 : T83_l1) : T83 := fun (x0, _) =>
 (f83_l1 (x0, 0, [], ())).bind fun v =>
 Sum.elim (fun v => some (v.1, -1, ()))
 (fun v => (f83_g0 (v.1, v.2.1, ())).bind fun v => some (v.2.1, v.1, ())) v
theorem h83 (f121 : T121) (f122 : T122) (f83_g0 : T83_g0) (f83_l1 : T83_l1) : AqF (K83 f121 f122) 0 Tryz.f83 (N83 f83_g0 f83_l1) Li30 Lo31 (F83 f121 f122 f83_g0 f83_l1) := fun v => by kernel_rfl
def C83 : T83 := F83 C121 C122 C83_g0 C83_l1
theorem ok83 : FO 83 (E83 C83) :=
 qo kok83 Tryz.func83 (And.intro k83_l1 (And.intro k83_g0 trivial)) (h83 C121 C122 C83_g0 C83_l1)
abbrev T213 := LqA × LqB × LqC × LqS × Bool × Bool × Unit → Option (LqS × Bool × Unit)
def E213 (f : T213) : FEnt := ⟨Li113, Lo51, f⟩
def K213 (f178 : T178) (f239 : T239) (f240 : T240) (f241 : T241) (f83 : T83) := lk [(178, E178 f178), (239, E239 f239), (240, E240 f240), (241, E241 f241), (83, E83 f83)]
def F213 (f178 : T178) (f239 : T239) (f240 : T240) (f241 : T241) (f83 : T83) : T213 := fun (x0, x1, x2, x3, x4, x5, _) =>
 (f83 (x3, ())).bind fun v =>
 bif decide (v.2.1 ≥ 0) then some ([], false, ())
 else
 (f240 (x0, x1, x2, v.1, x4, ())).bind fun v =>
 (f239 (x0, x1, x2, v.1, ())).bind fun v =>
 bif x5 then
 (f241 (x0, x1, x2, v.1, ())).bind fun v =>
 (f178 (v.1, ())).bind fun v => some (v.1, v.2.1, ())
 else (f178 (v.1, ())).bind fun v => some (v.1, v.2.1, ())
theorem h213 (f178 : T178) (f239 : T239) (f240 : T240) (f241 : T241) (f83 : T83) : AqF (K213 f178 f239 f240 f241 f83) 0 Tryz.f213 .nil Li113 Lo51 (F213 f178 f239 f240 f241 f83) := fun v => by kernel_rfl
def C213 : T213 := F213 C178 C239 C240 C241 C83
theorem ok213 : FO 213 (E213 C213) :=
 q0 (kc ok178 (kc ok239 (kc ok240 (kc ok241 (kc ok83 kn))))) Tryz.func213 (h213 C178 C239 C240 C241 C83)
abbrev T181 := LqA × LqB × LqC × LqS × Unit → Option (LqS × Bool × Unit)
def E181 (f : T181) : FEnt := ⟨Li17, Lo51, f⟩
def K181 (f213 : T213) := lk [(213, E213 f213)]
def F181 (f213 : T213) : T181 := fun (x0, x1, x2, x3, _) =>
 (f213 (x0, x1, x2, x3, false, true, ())).bind fun v => some (v.1, v.2.1, ())
def C181 : T181 := F181 C213
theorem ok181 : FO 181 (E181 C181) := zq1 Li17 Lo51 K181 F181 C213 (kc ok213 kn) Tryz.func181
abbrev T151 := LqA × LqB × LqC × LqS × Unit → Option (LqS × Bool × Unit)
def E151 (f : T151) : FEnt := ⟨Li17, Lo51, f⟩
def K151 (f178 : T178) (f179 : T179) (f180 : T180) (f181 : T181) (f83 : T83) := lk [(178, E178 f178), (179, E179 f179), (180, E180 f180), (181, E181 f181), (83, E83 f83)]
def F151 (f178 : T178) (f179 : T179) (f180 : T180) (f181 : T181) (f83 : T83) : T151 := fun (x0, x1, x2, x3, _) =>
 (f83 (x3, ())).bind fun v =>
 bif decide (v.2.1 ≥ 0) then some ([], false, ())
 else
 (f180 (x0, x1, x2, v.1, ())).bind fun v =>
 (f179 (x0, x1, x2, v.1, ())).bind fun v =>
 (f178 (v.1, ())).bind fun v =>
 (f181 (x0, x1, x2, v.1, ())).bind fun v => some (v.1, v.2.1, ())
theorem h151 (f178 : T178) (f179 : T179) (f180 : T180) (f181 : T181) (f83 : T83) : AqF (K151 f178 f179 f180 f181 f83) 0 Tryz.f151 .nil Li17 Lo51 (F151 f178 f179 f180 f181 f83) := fun v => by kernel_rfl
def C151 : T151 := F151 C178 C179 C180 C181 C83
theorem ok151 : FO 151 (E151 C151) :=
 q0 (kc ok178 (kc ok179 (kc ok180 (kc ok181 (kc ok83 kn))))) Tryz.func151 (h151 C178 C179 C180 C181 C83)
abbrev T21_l0 := LqS × Int × Int × Unit → Option (Unit ⊕ (Int × Unit))
def E21_l0 (f : T21_l0) : LEnt := ⟨Li115, Lo116, f⟩
abbrev T21 := LqS × Unit → Option (Int × Unit)
def E21 (f : T21) : FEnt := ⟨Li30, Lo10, f⟩
def F21_l0 : LpF (LqS × Int × Int × Unit) (Unit ⊕ (Int × Unit)) := fun (x0, x1, x2, _) =>
 bif decide (x2 < x1) then
 bif decide (0 ≤ x2) && decide (x2 < (↑x0.length : Int)) then
 bif decide ((↑(x0.getD x2.toNat 0).toNat : Int) ≥ 128) then some (Sum.inr (Sum.inr (x2, ())))
 else some (Sum.inl (x0, x1, IntKind.i64.wrap (x2 + 1), ()))
 else none
 else some (Sum.inr (Sum.inl ()))
def C21_l0 : T21_l0 := loopN (F21_l0) big
theorem k21_l0 : LpOk 0 (subc (code Tryz.f21) [1, 0, 1, 0, 0]) (E21_l0 C21_l0) := zl0 Li115 Lo116 KqZ F21_l0 kn
def N21 (f21_l0 : T21_l0) : Ann := (.seq .nil (.seq (.seq .nil (.blk (.loop (E21_l0 f21_l0)))) .nil))
def F21 (f21_l0 : T21_l0) : T21 := fun (x0, _) =>
 (f21_l0 (x0, (↑x0.length : Int), 0, ())).bind fun v =>
 Sum.elim (fun v => some (-1, ())) (fun v => some (v.1, ())) v
def C21 : T21 := F21 C21_l0
theorem ok21 : FO 21 (E21 C21) := zq0_1 Li30 Lo10 KqZ N21 F21 C21_l0 kn Tryz.func21 (And.intro k21_l0 trivial)
abbrev T250_l0 := Int × Int × List (Int) × Int × Int × Unit → Option (Int × Unit)
def E250_l0 (f : T250_l0) : LEnt := ⟨Li118, Lo119, f⟩
abbrev T250 := List (Int) × Int × Unit → Option (Int × Unit)
def E250 (f : T250) : FEnt := ⟨Li117, Lo38, f⟩
def F250_l0 : LpF (Int × Int × List (Int) × Int × Int × Unit) (Int × Unit) := fun (x0, x1, x2, x3, x4, _) =>
 bif decide (x4 < x3) then
 bif decide (0 ≤ x4) && decide (x4 < (↑x2.length : Int)) then
 bif decide (x2.getD x4.toNat 0 ≥ x0) then
 bif decide (x1 < 0) then
 some (Sum.inl (x0, x2.getD (x4.toNat) 0, x2, x3, IntKind.i64.wrap (x4 + 1), ()))
 else
 bif decide (x2.getD x4.toNat 0 < x1) then
 some (Sum.inl (x0, x2.getD (x4.toNat) 0, x2, x3, IntKind.i64.wrap (x4 + 1), ()))
 else some (Sum.inl (x0, x1, x2, x3, IntKind.i64.wrap (x4 + 1), ()))
 else some (Sum.inl (x0, x1, x2, x3, IntKind.i64.wrap (x4 + 1), ()))
 else none
 else some (Sum.inr (x1, ()))
def C250_l0 : T250_l0 := loopN (F250_l0) big
theorem k250_l0 : LpOk 0 (subc (code Tryz.f250) [1, 1, 0, 1, 0, 0]) (E250_l0 C250_l0) := zl0 Li118 Lo119 KqZ F250_l0 kn
def N250 (f250_l0 : T250_l0) : Ann := (.seq .nil (.seq .nil (.seq (.seq .nil (.blk (.loop (E250_l0 f250_l0)))) .nil)))
def F250 (f250_l0 : T250_l0) : T250 := fun (x0, x1, _) =>
 (f250_l0 (x1, -1, x0, (↑x0.length : Int), 0, ())).bind fun v => some (v.1, ())
def C250 : T250 := F250 C250_l0
theorem ok250 : FO 250 (E250 C250) := zq0_1 Li117 Lo38 KqZ N250 F250 C250_l0 kn Tryz.func250 (And.intro k250_l0 trivial)
abbrev T290 := Int × Int × Unit → Option (Int × Unit)
def E290 (f : T290) : FEnt := ⟨Li120, Lo10, f⟩
def F290 : T290 := fun (x0, x1, _) =>
 some
 (if (if 26 < IntKind.i64.wrap (x0 - x1) then 26 else IntKind.i64.wrap (x0 - x1)) > 1 then
 if 26 < IntKind.i64.wrap (x0 - x1) then 26 else IntKind.i64.wrap (x0 - x1)
 else 1,
 ())
def C290 : T290 := F290
theorem ok290 : FO 290 (E290 C290) := zq0 Li120 Lo10 KqZ F290 kn Tryz.func290
abbrev T291_c0 := Int × Bool × Unit → Option ((Int × Bool × Unit) ⊕ Unit)
def E291_c0 (f : T291_c0) : LEnt := ⟨Li123, Lo124, f⟩
abbrev T291 := Int × Unit → Option (Int × Bool × Unit)
def E291 (f : T291) : FEnt := ⟨Li121, Lo122, f⟩
def F291_c0 : T291_c0 := fun (x0, x1, _) =>
 bif x1 then some (Sum.inl (IntKind.u8.wrap (97 + IntKind.u8.wrap x0), true, ()))
 else
 bif decide (x0 ≥ 26) then
 bif decide (x0 < 36) then
 some (Sum.inl (IntKind.u8.wrap (48 + IntKind.u8.wrap (IntKind.i64.wrap (x0 - 26))), true, ()))
 else some (Sum.inr ())
 else some (Sum.inr ())
theorem h291_c0 : AqC KqZ 0 (subc (code Tryz.f291) [1, 0, 0, 1]) .nil Li123 Lo124 (F291_c0) := fun v => by kernel_rfl
def C291_c0 : T291_c0 := F291_c0
theorem k291_c0 : CdOk 0 (subc (code Tryz.f291) [1, 0, 0, 1]) (E291_c0 C291_c0) :=
 frc kn (h291_c0)
def N291 (f291_c0 : T291_c0) : Ann := (.seq .nil (.seq (.blk (.cut .nil (E291_c0 f291_c0))) .nil))
def F291 (f291_c0 : T291_c0) : T291 := fun (x0, _) =>
 bif decide (x0 ≥ 0) then
 (f291_c0 (x0, decide (x0 < 26), ())).bind fun v =>
 Sum.elim (fun v => some (v.1, v.2.1, ())) (fun v => some (0, false, ())) v
 else
 (f291_c0 (x0, false, ())).bind fun v =>
 Sum.elim (fun v => some (v.1, v.2.1, ())) (fun v => some (0, false, ())) v
def C291 : T291 := F291 C291_c0
theorem ok291 : FO 291 (E291 C291) := zq0_1 Li121 Lo122 KqZ N291 F291 C291_c0 kn Tryz.func291 (And.intro k291_c0 trivial)
abbrev T251_l0 := Int × Int × Int × LqS × Unit → Option (LqS × Unit)
def E251_l0 (f : T251_l0) : LEnt := ⟨Li127, Lo128, f⟩
abbrev T251 := Int × Int × LqS × Unit → Option (LqS × Unit)
def E251 (f : T251) : FEnt := ⟨Li125, Lo126, f⟩
def K251 (f290 : T290) (f291 : T291) := lk [(290, E290 f290), (291, E291 f291)]
theorem kok251 : KOk Tryz.prog (K251 C290 C291) := (kc ok290 (kc ok291 kn))
def F251_l0 (f290 : T290) (f291 : T291) : LpF (Int × Int × Int × LqS × Unit) (LqS × Unit) := fun (x0, x1, x2, x3, _) =>
 (f290 (x2, x1, ())).bind fun v =>
 bif decide (x0 < v.1) then
 (f291 (x0, ())).bind fun v =>
 bif decide (x3.length + [UInt8.ofNat (Int.toNat v.1)].length ≤ 140737488355328 / 1) then
 some (Sum.inr (x3 ++ [UInt8.ofNat (Int.toNat v.1)], ()))
 else none
 else
 bif IntKind.i64.wrap (36 - v.1) != 0 then
 (f291
 (IntKind.i64.wrap (v.1 + (IntKind.i64.wrap (x0 - v.1)).tmod (IntKind.i64.wrap (36 - v.1))),
 ())).bind
 fun v1 =>
 bif decide (x3.length + [UInt8.ofNat (Int.toNat v1.1)].length ≤ 140737488355328 / 1) then
 bif IntKind.i64.wrap (36 - v.1) != 0 then
 some
 (Sum.inl
 (IntKind.i64.wrap ((IntKind.i64.wrap (x0 - v.1)).tdiv (IntKind.i64.wrap (36 - v.1))), x1,
 IntKind.i64.wrap (x2 + 36), x3 ++ [UInt8.ofNat (Int.toNat v1.1)], ()))
 else none
 else none
 else none
theorem h251_l0 (f290 : T290) (f291 : T291) : AqL (K251 f290 f291) 1 (subc (code Tryz.f251) [1, 1, 0, 0]) .nil Li127 Lo128 (F251_l0 f290 f291) := fun v => by kernel_rfl
def C251_l0 : T251_l0 := loopN (F251_l0 C290 C291) big
theorem k251_l0 : FragOk Tryz.prog 1 (InLoop Tryz.prog (subc (code Tryz.f251) [1, 1, 0, 0])) (E251_l0 C251_l0) :=
 frag_big (ins := Li127) (os := Lo128) (C := C251_l0) (frag_inLoop (ins := Li127) (os := Lo128) (n := .nil) (F := F251_l0 C290 C291) hm hΓ kok251 (fun _ => big) (ann_nil _) (h251_l0 C290 C291)) rfl
def N251 (f251_l0 : T251_l0) : Ann := (.seq .nil (.seq .nil (.blk (.peel .nil (E251_l0 f251_l0)))))
def F251 (f290 : T290) (f291 : T291) (f251_l0 : T251_l0) : T251 := fun (x0, x1, x2, _) =>
 (f290 (36, x1, ())).bind fun v =>
 bif decide (x0 < v.1) then
 (f291 (x0, ())).bind fun v =>
 bif decide (x2.length + [UInt8.ofNat (Int.toNat v.1)].length ≤ 140737488355328 / 1) then
 some (x2 ++ [UInt8.ofNat (Int.toNat v.1)], ())
 else none
 else
 bif IntKind.i64.wrap (36 - v.1) != 0 then
 (f291
 (IntKind.i64.wrap (v.1 + (IntKind.i64.wrap (x0 - v.1)).tmod (IntKind.i64.wrap (36 - v.1))),
 ())).bind
 fun v1 =>
 bif decide (x2.length + [UInt8.ofNat (Int.toNat v1.1)].length ≤ 140737488355328 / 1) then
 bif IntKind.i64.wrap (36 - v.1) != 0 then
 (f251_l0
 (IntKind.i64.wrap ((IntKind.i64.wrap (x0 - v.1)).tdiv (IntKind.i64.wrap (36 - v.1))), x1,
 IntKind.i64.wrap (36 + 36), x2 ++ [UInt8.ofNat (Int.toNat v1.1)], ())).bind
 fun v => some (v.1, ())
 else none
 else none
 else none
theorem h251 (f290 : T290) (f291 : T291) (f251_l0 : T251_l0) : AqF (K251 f290 f291) 1 Tryz.f251 (N251 f251_l0) Li125 Lo126 (F251 f290 f291 f251_l0) := fun v => by kernel_rfl
def C251 : T251 := F251 C290 C291 C251_l0
theorem ok251 : FO 251 (E251 C251) :=
 qo kok251 Tryz.func251 (And.intro k251_l0 trivial) (h251 C290 C291 C251_l0)
abbrev T252_l0 := Int × Int × Unit → Option (Int × Int × Unit)
def E252_l0 (f : T252_l0) : LEnt := ⟨Li130, Lo131, f⟩
abbrev T252_c0 := Int × Int × Unit → Option (Int × Unit)
def E252_c0 (f : T252_c0) : LEnt := ⟨Li132, Lo133, f⟩
abbrev T252 := Int × Int × Bool × Unit → Option (Int × Unit)
def E252 (f : T252) : FEnt := ⟨Li129, Lo10, f⟩
def F252_l0 : LpF (Int × Int × Unit) (Int × Int × Unit) := fun (x0, x1, _) =>
 bif decide (x0 > 455) then some (Sum.inl (IntKind.i64.wrap (x0.tdiv 35), IntKind.i64.wrap (x1 + 36), ()))
 else some (Sum.inr (x0, x1, ()))
def C252_l0 : T252_l0 := loopN (F252_l0) big
theorem k252_l0 : LpOk 0 (subc (code Tryz.f252) [1, 1, 1, 1, 0, 0, 0]) (E252_l0 C252_l0) := zl0 Li130 Lo131 KqZ F252_l0 kn
def N252_c0 (f252_l0 : T252_l0) : Ann := (.seq .nil (.seq .nil (.seq (.blk (.loop (E252_l0 f252_l0))) .nil)))
def F252_c0 (f252_l0 : T252_l0) : T252_c0 := fun (x0, x1, _) =>
 bif (if x1 > 1 then x1 else 1) != 0 then
 (f252_l0 (IntKind.i64.wrap (x0 + IntKind.i64.wrap (x0.tdiv (if x1 > 1 then x1 else 1))), 0, ())).bind fun v =>
 bif IntKind.i64.wrap (v.1 + 38) != 0 then
 some
 (IntKind.i64.wrap
 (v.2.1 + IntKind.i64.wrap ((IntKind.i64.wrap (36 * v.1)).tdiv (IntKind.i64.wrap (v.1 + 38)))),
 ())
 else none
 else none
theorem h252_c0 (f252_l0 : T252_l0) : AqC KqZ 0 (subc (code Tryz.f252) [1, 1]) (N252_c0 f252_l0) Li132 Lo133 (F252_c0 f252_l0) := fun v => by kernel_rfl
def C252_c0 : T252_c0 := F252_c0 C252_l0
theorem k252_c0 : CdOk 0 (subc (code Tryz.f252) [1, 1]) (E252_c0 C252_c0) :=
 frd kn (And.intro k252_l0 trivial) (h252_c0 C252_l0)
def N252 (f252_c0 : T252_c0) : Ann := (.seq .nil (.cut .nil (E252_c0 f252_c0)))
def F252 (f252_c0 : T252_c0) : T252 := fun (x0, x1, x2, _) =>
 bif x2 then (f252_c0 (IntKind.i64.wrap (x0.tdiv 700), x1, ())).bind fun v => some (v.1, ())
 else (f252_c0 (IntKind.i64.wrap (x0.tdiv 2), x1, ())).bind fun v => some (v.1, ())
def C252 : T252 := F252 C252_c0
theorem ok252 : FO 252 (E252 C252) := zq0_1 Li129 Lo10 KqZ N252 F252 C252_c0 kn Tryz.func252 (And.intro k252_c0 trivial)
abbrev T223_l0 := List (Int) × List (Int) × Int × Int × LqS × Unit → Option ((List (Int) × LqS × Unit) ⊕ (LqS × Bool × Unit))
def E223_l0 (f : T223_l0) : LEnt := ⟨Li134, Lo135, f⟩
abbrev T223_l1 := List (Int) × Int × Int × Int × Int × Int × List (Int) × Int × Int × LqS × Unit → Option (List (Int) × Int × Int × Int × Int × Int × LqS × Unit)
def E223_l1 (f : T223_l1) : LEnt := ⟨Li136, Lo137, f⟩
abbrev T223_l2 := List (Int) × Int × Int × Int × Int × Int × LqS × Unit → Option ((LqS × Unit) ⊕ (LqS × Bool × Unit))
def E223_l2 (f : T223_l2) : LEnt := ⟨Li138, Lo139, f⟩
abbrev T223_c0 := List (Int) × Int × LqS × Unit → Option (LqS × Bool × Unit)
def E223_c0 (f : T223_c0) : LEnt := ⟨Li140, Lo141, f⟩
abbrev T223 := List (Int) × Unit → Option (LqS × Bool × Unit)
def E223 (f : T223) : FEnt := ⟨Li4, Lo51, f⟩
def K223 (f155 : T155) (f250 : T250) (f251 : T251) (f252 : T252) := lk [(155, E155 f155), (250, E250 f250), (251, E251 f251), (252, E252 f252)]
theorem kok223 : KOk Tryz.prog (K223 C155 C250 C251 C252) := (kc ok155 (kc ok250 (kc ok251 (kc ok252 kn))))
def F223_l0 (f155 : T155) (f250 : T250) (f251 : T251) (f252 : T252) : LpF (List (Int) × List (Int) × Int × Int × LqS × Unit) ((List (Int) × LqS × Unit) ⊕ (LqS × Bool × Unit)) := fun (x0, x1, x2, x3, x4, _) =>
 bif decide (x3 < x2) then
 bif decide (0 ≤ x3) && decide (x3 < (↑x1.length : Int)) then
 (f155 (x1.getD x3.toNat 0, ())).bind fun v =>
 bif !v.1 then some (Sum.inr (Sum.inr ([], false, ())))
 else
 bif decide (x1.getD x3.toNat 0 < 128) then
 bif
 decide
 (x4.length + [UInt8.ofNat (IntKind.u8.wrap (x1.getD x3.toNat 0)).toNat].length ≤
 140737488355328 / 1) then
 some
 (Sum.inl
 (x0, x1, x2, IntKind.i64.wrap (x3 + 1),
 x4 ++ [UInt8.ofNat (IntKind.u8.wrap (x1.getD x3.toNat 0)).toNat], ()))
 else none
 else some (Sum.inl (x0, x1, x2, IntKind.i64.wrap (x3 + 1), x4, ()))
 else none
 else some (Sum.inr (Sum.inl (x0, x4, ())))
theorem h223_l0 (f155 : T155) (f250 : T250) (f251 : T251) (f252 : T252) : AqL (K223 f155 f250 f251 f252) 0 (subc (code Tryz.f223) [1, 1, 0, 1, 0, 0]) .nil Li134 Lo135 (F223_l0 f155 f250 f251 f252) := fun v => by kernel_rfl
def C223_l0 : T223_l0 := loopN (F223_l0 C155 C250 C251 C252) big
theorem k223_l0 : LpOk 0 (subc (code Tryz.f223) [1, 1, 0, 1, 0, 0]) (E223_l0 C223_l0) :=
 frl kok223 (h223_l0 C155 C250 C251 C252)
def F223_l1 (f155 : T155) (f250 : T250) (f251 : T251) (f252 : T252) : LpF (List (Int) × Int × Int × Int × Int × Int × List (Int) × Int × Int × LqS × Unit) (List (Int) × Int × Int × Int × Int × Int × LqS × Unit) := fun (x0, x1, x2, x3, x4, x5, x6, x7, x8, x9, _) =>
 bif decide (x8 < x7) then
 bif decide (0 ≤ x8) && decide (x8 < (↑x6.length : Int)) then
 bif decide (x6.getD x8.toNat 0 < x2) then
 some (Sum.inl (x0, x1, x2, IntKind.i64.wrap (x3 + 1), x4, x5, x6, x7, IntKind.i64.wrap (x8 + 1), x9, ()))
 else
 bif x6.getD x8.toNat 0 == x2 then
 (f251 (x3, x4, x9, ())).bind fun v =>
 (f252 (x3, IntKind.i64.wrap (x5 + 1), x5 == x1, ())).bind fun v1 =>
 some
 (Sum.inl
 (x0, x1, x2, 0, v1.1, IntKind.i64.wrap (x5 + 1), x6, x7, IntKind.i64.wrap (x8 + 1), v.1,
 ()))
 else some (Sum.inl (x0, x1, x2, x3, x4, x5, x6, x7, IntKind.i64.wrap (x8 + 1), x9, ()))
 else none
 else some (Sum.inr (x0, x1, x2, x3, x4, x5, x9, ()))
theorem h223_l1 (f155 : T155) (f250 : T250) (f251 : T251) (f252 : T252) : AqL (K223 f155 f250 f251 f252) 0 (subc (code Tryz.f223) [1, 1, 1, 1, 1, 1, 0, 1, 0, 0, 1, 0, 1, 1, 1, 1, 0, 1, 0, 0]) .nil Li136 Lo137 (F223_l1 f155 f250 f251 f252) := fun v => by kernel_rfl
def C223_l1 : T223_l1 := loopN (F223_l1 C155 C250 C251 C252) big
theorem k223_l1 : LpOk 0 (subc (code Tryz.f223) [1, 1, 1, 1, 1, 1, 0, 1, 0, 0, 1, 0, 1, 1, 1, 1, 0, 1, 0, 0]) (E223_l1 C223_l1) :=
 frl kok223 (h223_l1 C155 C250 C251 C252)
def N223_l2 (f223_l1 : T223_l1) : Ann := (.seq .nil (.blk (.seq .nil (.seq .nil (.seq .nil (.seq .nil (.seq (.seq .nil (.blk (.loop (E223_l1 f223_l1)))) .nil)))))))
def F223_l2 (f155 : T155) (f250 : T250) (f251 : T251) (f252 : T252) (f223_l1 : T223_l1) : LpF (List (Int) × Int × Int × Int × Int × Int × LqS × Unit) ((LqS × Unit) ⊕ (LqS × Bool × Unit)) := fun (x0, x1, x2, x3, x4, x5, x6, _) =>
 bif decide (x5 < (↑x0.length : Int)) then
 (f250 (x0, x2, ())).bind fun v =>
 bif
 decide
 (IntKind.i64.wrap
 (x3 + IntKind.i64.wrap (IntKind.i64.wrap (IntKind.i32.wrap (v.1 - x2)) * IntKind.i64.wrap (x5 + 1))) >
 2147483647) then
 some (Sum.inr (Sum.inr ([], false, ())))
 else
 (f223_l1
 (x0, x1, v.1,
 IntKind.i64.wrap
 (x3 +
 IntKind.i64.wrap (IntKind.i64.wrap (IntKind.i32.wrap (v.1 - x2)) * IntKind.i64.wrap (x5 + 1))),
 x4, x5, x0, (↑x0.length : Int), 0, x6, ())).bind
 fun v =>
 some
 (Sum.inl
 (v.1, v.2.1, IntKind.i32.wrap (v.2.2.1 + 1), IntKind.i64.wrap (v.2.2.2.1 + 1),
 v.2.2.2.2.1, v.2.2.2.2.2.1, v.2.2.2.2.2.2.1, ()))
 else some (Sum.inr (Sum.inl (x6, ())))
theorem h223_l2 (f155 : T155) (f250 : T250) (f251 : T251) (f252 : T252) (f223_l1 : T223_l1) : AqL (K223 f155 f250 f251 f252) 0 (subc (code Tryz.f223) [1, 1, 1, 1, 1, 1, 0, 1, 0, 0]) (N223_l2 f223_l1) Li138 Lo139 (F223_l2 f155 f250 f251 f252 f223_l1) := fun v => by kernel_rfl
def C223_l2 : T223_l2 := loopN (F223_l2 C155 C250 C251 C252 C223_l1) big
theorem k223_l2 : LpOk 0 (subc (code Tryz.f223) [1, 1, 1, 1, 1, 1, 0, 1, 0, 0]) (E223_l2 C223_l2) :=
 frm kok223 (And.intro k223_l1 trivial) (h223_l2 C155 C250 C251 C252 C223_l1)
def N223_c0 (f223_l2 : T223_l2) : Ann := (.seq .nil (.seq (.seq .nil (.blk (.loop (E223_l2 f223_l2)))) .nil))
def F223_c0 (f155 : T155) (f250 : T250) (f251 : T251) (f252 : T252) (f223_l2 : T223_l2) : T223_c0 := fun (x0, x1, x2, _) =>
 (f223_l2 (x0, x1, 128, 0, 72, x1, x2, ())).bind fun v =>
 Sum.elim (fun v => some (v.1, true, ())) (fun v => some (v.1, v.2.1, ())) v
theorem h223_c0 (f155 : T155) (f250 : T250) (f251 : T251) (f252 : T252) (f223_l2 : T223_l2) : AqC (K223 f155 f250 f251 f252) 0 (subc (code Tryz.f223) [1, 1, 1, 1, 1]) (N223_c0 f223_l2) Li140 Lo141 (F223_c0 f155 f250 f251 f252 f223_l2) := fun v => by kernel_rfl
def C223_c0 : T223_c0 := F223_c0 C155 C250 C251 C252 C223_l2
theorem k223_c0 : CdOk 0 (subc (code Tryz.f223) [1, 1, 1, 1, 1]) (E223_c0 C223_c0) :=
 frd kok223 (And.intro k223_l2 trivial) (h223_c0 C155 C250 C251 C252 C223_l2)
def N223 (f223_c0 : T223_c0) (f223_l0 : T223_l0) : Ann := (.seq .nil (.seq .nil (.seq (.seq .nil (.blk (.loop (E223_l0 f223_l0)))) (.seq .nil (.cut .nil (E223_c0 f223_c0))))))
def F223 (f155 : T155) (f250 : T250) (f251 : T251) (f252 : T252) (f223_c0 : T223_c0) (f223_l0 : T223_l0) : T223 := fun (x0, _) =>
 (f223_l0 (x0, x0, (↑x0.length : Int), 0, [], ())).bind fun v =>
 Sum.elim
 (fun v =>
 bif decide ((↑(List.length v.2.1) : Int) > 0) then
 bif decide (List.length v.2.1 + [45].length ≤ 140737488355328 / 1) then
 (f223_c0 (v.1, (↑(List.length v.2.1) : Int), v.2.1 ++ [45], ())).bind
 fun v => some (v.1, v.2.1, ())
 else none
 else
 (f223_c0 (v.1, (↑(List.length v.2.1) : Int), v.2.1, ())).bind fun v =>
 some (v.1, v.2.1, ()))
 (fun v => some (v.1, v.2.1, ())) v
theorem h223 (f155 : T155) (f250 : T250) (f251 : T251) (f252 : T252) (f223_c0 : T223_c0) (f223_l0 : T223_l0) : AqF (K223 f155 f250 f251 f252) 0 Tryz.f223 (N223 f223_c0 f223_l0) Li4 Lo51 (F223 f155 f250 f251 f252 f223_c0 f223_l0) := fun v => by kernel_rfl
def C223 : T223 := F223 C155 C250 C251 C252 C223_c0 C223_l0
theorem ok223 : FO 223 (E223 C223) :=
 qo kok223 Tryz.func223 (And.intro k223_l0 (And.intro k223_c0 trivial)) (h223 C155 C250 C251 C252 C223_c0 C223_l0)
abbrev T254 := Int × Unit → Option (Bool × Int × Unit)
def E254 (f : T254) : FEnt := ⟨Li142, Lo143, f⟩
def F254 : T254 := fun (x0, _) =>
 some (decide (x0 ≥ 0), x0, ())
theorem h254 : AqF KqZ 1 Tryz.f254 .nil Li142 Lo143 (F254) := fun v => by kernel_rfl
def C254 : T254 := F254
theorem ok254 : FO 254 (E254 C254) :=
 q0 kn Tryz.func254 (h254)
abbrev T256 := LqA × LqB × LqC × LqS × Unit → Option (Bool × Unit)
def E256 (f : T256) : FEnt := ⟨Li17, Lo29, f⟩
def K256 (f181 : T181) := lk [(181, E181 f181)]
def F256 (f181 : T181) : T256 := fun (x0, x1, x2, x3, _) =>
 (f181 (x0, x1, x2, x3, ())).bind fun v =>
 bif v.2.1 then some (v.1 == x3, ()) else some (false, ())
def C256 : T256 := F256 C181
theorem ok256 : FO 256 (E256 C256) := zq1 Li17 Lo29 K256 F256 C181 (kc ok181 kn) Tryz.func256
abbrev T255 := LqS × LqA × LqB × LqC × Unit → Option (Bool × LqS × LqA × LqB × LqC × Unit)
def E255 (f : T255) : FEnt := ⟨Li144, Lo145, f⟩
def K255 (f21 : T21) (f256 : T256) := lk [(21, E21 f21), (256, E256 f256)]
def F255 (f21 : T21) (f256 : T256) : T255 := fun (x0, x1, x2, x3, _) =>
 (f21 (x0, ())).bind fun v =>
 bif decide (v.1 < 0) then some (true, x0, x1, x2, x3, ())
 else (f256 (x1, x2, x3, x0, ())).bind fun v => some (bif v.1 then false else true, x0, x1, x2, x3, ())
theorem h255 (f21 : T21) (f256 : T256) : AqF (K255 f21 f256) 2 Tryz.f255 .nil Li144 Lo145 (F255 f21 f256) := fun v => by kernel_rfl
def C255 : T255 := F255 C21 C256
theorem ok255 : FO 255 (E255 C255) :=
 q0 (kc ok21 (kc ok256 kn)) Tryz.func255 (h255 C21 C256)
abbrev T308 := LqS × LqS × Unit → Option (Bool × Unit)
def E308 (f : T308) : FEnt := ⟨Li114, Lo29, f⟩
def F308 : T308 := fun (x0, x1, _) =>
 bif decide ((↑x0.length : Int) ≥ (↑x1.length : Int)) then
 bif
 decide (0 ≤ IntKind.i64.wrap ((↑x0.length : Int) - (↑x1.length : Int))) &&
 decide (IntKind.i64.wrap ((↑x0.length : Int) - (↑x1.length : Int)) ≤ (↑x0.length : Int)) then
 some (List.drop (IntKind.i64.wrap ((↑x0.length : Int) - (↑x1.length : Int))).toNat x0 == x1, ())
 else none
 else some (false, ())
def C308 : T308 := F308
theorem ok308 : FO 308 (E308 C308) := zq0 Li114 Lo29 KqZ F308 kn Tryz.func308
abbrev T292 := LqS × LqS × Unit → Option (Bool × Unit)
def E292 (f : T292) : FEnt := ⟨Li114, Lo29, f⟩
def K292 (f308 : T308) := lk [(308, E308 f308)]
def F292 (f308 : T308) : T292 := fun (x0, x1, _) =>
 (f308 (x0, x1, ())).bind fun v => some (v.1, ())
def C292 : T292 := F292 C308
theorem ok292 : FO 292 (E292 C292) := zq1 Li114 Lo29 K292 F292 C308 (kc ok308 kn) Tryz.func292
abbrev T96 := LqS × LqS × Unit → Option (Bool × Unit)
def E96 (f : T96) : FEnt := ⟨Li114, Lo29, f⟩
def K96 (f131 : T131) := lk [(131, E131 f131)]
def F96 (f131 : T131) : T96 := fun (x0, x1, _) =>
 (f131 (x0, x1, ())).bind fun v => some (v.1, ())
def C96 : T96 := F96 C131
theorem ok96 : FO 96 (E96 C96) := zq1 Li114 Lo29 K96 F96 C131 (kc ok131 kn) Tryz.func96
abbrev T258 := LqS × Unit → Option (Bool × Unit)
def E258 (f : T258) : FEnt := ⟨Li30, Lo29, f⟩
def K258 (f292 : T292) (f96 : T96) := lk [(292, E292 f292), (96, E96 f96)]
def F258 (f292 : T292) (f96 : T96) : T258 := fun (x0, _) =>
 (f96 (x0, [45], ())).bind fun v =>
 bif v.1 then some (true, ())
 else
 (f292 (x0, [45], ())).bind fun v =>
 bif v.1 then some (true, ())
 else
 bif decide ((↑x0.length : Int) > 3) then
 bif decide (4 ≤ (↑x0.length : Int)) then
 some (List.drop 2 (List.take 4 x0) == [45, 45], ())
 else none
 else some (false, ())
def C258 : T258 := F258 C292 C96
theorem ok258 : FO 258 (E258 C258) := zq2 Li30 Lo29 K258 F258 C292 C96 (kc ok292 (kc ok96 kn)) Tryz.func258
abbrev T257 := LqS × Unit → Option (Bool × LqS × Unit)
def E257 (f : T257) : FEnt := ⟨Li146, Lo147, f⟩
def K257 (f258 : T258) := lk [(258, E258 f258)]
def F257 (f258 : T258) : T257 := fun (x0, _) =>
 (f258 (x0, ())).bind fun v => some (v.1, x0, ())
theorem h257 (f258 : T258) : AqF (K257 f258) 1 Tryz.f257 .nil Li146 Lo147 (F257 f258) := fun v => by kernel_rfl
def C257 : T257 := F257 C258
theorem ok257 : FO 257 (E257 C257) :=
 q0 (kc ok258 kn) Tryz.func257 (h257 C258)
abbrev T215 := LqA × LqB × LqC × Int × Unit → Option (Int × Unit)
def E215 (f : T215) : FEnt := ⟨Li0, Lo10, f⟩
def K215 (f248 : T248) := lk [(248, E248 f248)]
def F215 (f248 : T248) : T215 := fun (x0, x1, x2, x3, _) =>
 (f248 (x0, x1, x2, x3, ())).bind fun v => some (v.2.2.1, ())
def C215 : T215 := F215 C248
theorem ok215 : FO 215 (E215 C215) := zq1 Li0 Lo10 K215 F215 C248 (kc ok248 kn) Tryz.func215
abbrev T259 := LqA × LqB × LqC × List (Int) × Unit → Option (Bool × LqA × LqB × LqC × List (Int) × Unit)
def E259 (f : T259) : FEnt := ⟨Li154, Lo155, f⟩
def K259 (f215 : T215) := lk [(215, E215 f215)]
def F259 (f215 : T215) : T259 := fun (x0, x1, x2, x3, _) =>
 bif decide (0 < (↑x3.length : Int)) then
 (f215 (x0, x1, x2, x3.getD 0 0, ())).bind fun v =>
 some (v.1 == 4, x0, x1, x2, x3, ())
 else none
theorem h259 (f215 : T215) : AqF (K259 f215) 2 Tryz.f259 .nil Li154 Lo155 (F259 f215) := fun v => by kernel_rfl
def C259 : T259 := F259 C215
theorem ok259 : FO 259 (E259 C259) :=
 q0 (kc ok215 kn) Tryz.func259 (h259 C215)
abbrev T242 := Int × Unit → Option (Bool × Unit)
def E242 (f : T242) : FEnt := ⟨Li28, Lo29, f⟩
def F242 : T242 := fun (x0, _) =>
 bif decide (x0 ≥ 1632) then some (decide (x0 ≤ 1641), ()) else some (false, ())
def C242 : T242 := F242
theorem ok242 : FO 242 (E242 C242) := zq0 Li28 Lo29 KqZ F242 kn Tryz.func242
abbrev T245 := Int × Unit → Option (Bool × Unit)
def E245 (f : T245) : FEnt := ⟨Li28, Lo29, f⟩
def F245 : T245 := fun (x0, _) =>
 bif decide (x0 ≥ 1776) then some (decide (x0 ≤ 1785), ()) else some (false, ())
def C245 : T245 := F245
theorem ok245 : FO 245 (E245 C245) := zq0 Li28 Lo29 KqZ F245 kn Tryz.func245
abbrev T214 := Int × Unit → Option (Unit ⊕ Unit ⊕ Unit ⊕ Unit ⊕ Unit ⊕ Unit ⊕ Unit ⊕ Unit ⊕ Unit)
def E214 (f : T214) : FEnt := ⟨Li28, Lo156, f⟩
def K214 (f242 : T242) (f245 : T245) (f247 : T247) := lk [(242, E242 f242), (245, E245 f245), (247, E247 f247)]
def F214 (f242 : T242) (f245 : T245) (f247 : T247) : T214 := fun (x0, _) =>
 (f242 (x0, ())).bind fun v =>
 bif v.1 then some (Sum.inl ())
 else
 (f245 (x0, ())).bind fun v =>
 bif v.1 then some (Sum.inr (Sum.inl ()))
 else
 (f247 ()).bind fun v =>
 bif decide (x0 = 8205) then some (Sum.inr (Sum.inr (Sum.inl ())))
 else
 bif decide (x0 = 8204) then some (Sum.inr (Sum.inr (Sum.inr (Sum.inl ()))))
 else
 bif decide (x0 = 183) then some (Sum.inr (Sum.inr (Sum.inr (Sum.inr (Sum.inl ())))))
 else
 bif decide (x0 = 885) then some (Sum.inr (Sum.inr (Sum.inr (Sum.inr (Sum.inr (Sum.inl ()))))))
 else
 bif decide (x0 = 1523) then
 some (Sum.inr (Sum.inr (Sum.inr (Sum.inr (Sum.inr (Sum.inr (Sum.inl ())))))))
 else
 bif decide (x0 = 1524) then
 some (Sum.inr (Sum.inr (Sum.inr (Sum.inr (Sum.inr (Sum.inr (Sum.inl ())))))))
 else
 bif decide (x0 = 12539) then
 some (Sum.inr (Sum.inr (Sum.inr (Sum.inr (Sum.inr (Sum.inr (Sum.inr (Sum.inl ()))))))))
 else
 some (Sum.inr (Sum.inr (Sum.inr (Sum.inr (Sum.inr (Sum.inr (Sum.inr (Sum.inr ()))))))))
theorem h214 (f242 : T242) (f245 : T245) (f247 : T247) : AqF (K214 f242 f245 f247) 0 Tryz.f214 .nil Li28 Lo156 (F214 f242 f245 f247) := fun v => by kernel_rfl
def C214 : T214 := F214 C242 C245 C247
theorem ok214 : FO 214 (E214 C214) :=
 q0 (kc ok242 (kc ok245 (kc ok247 kn))) Tryz.func214 (h214 C242 C245 C247)
abbrev T281_l0 := List (Int) × Int × Int × Unit → Option (Unit ⊕ (Int × Unit))
def E281_l0 (f : T281_l0) : LEnt := ⟨Li158, Lo159, f⟩
abbrev T281 := List (Int) × Unit → Option (Int × Unit)
def E281 (f : T281) : FEnt := ⟨Li157, Lo10, f⟩
def K281 (f245 : T245) := lk [(245, E245 f245)]
theorem kok281 : KOk Tryz.prog (K281 C245) := (kc ok245 kn)
def F281_l0 (f245 : T245) : LpF (List (Int) × Int × Int × Unit) (Unit ⊕ (Int × Unit)) := fun (x0, x1, x2, _) =>
 bif decide (x2 < x1) then
 bif decide (0 ≤ x2) && decide (x2 < (↑x0.length : Int)) then
 (f245 (x0.getD x2.toNat 0, ())).bind fun v =>
 bif v.1 then some (Sum.inr (Sum.inr (x2, ())))
 else some (Sum.inl (x0, x1, IntKind.i64.wrap (x2 + 1), ()))
 else none
 else some (Sum.inr (Sum.inl ()))
def C281_l0 : T281_l0 := loopN (F281_l0 C245) big
theorem k281_l0 : LpOk 0 (subc (code Tryz.f281) [1, 0, 1, 0, 0]) (E281_l0 C281_l0) := zl1 Li158 Lo159 K281 F281_l0 C245 kok281
def N281 (f281_l0 : T281_l0) : Ann := (.seq .nil (.seq (.seq .nil (.blk (.loop (E281_l0 f281_l0)))) .nil))
def F281 (f245 : T245) (f281_l0 : T281_l0) : T281 := fun (x0, _) =>
 (f281_l0 (x0, (↑x0.length : Int), 0, ())).bind fun v =>
 Sum.elim (fun v => some (-1, ())) (fun v => some (v.1, ())) v
def C281 : T281 := F281 C245 C281_l0
theorem ok281 : FO 281 (E281 C281) := zq1_1 Li157 Lo10 K281 N281 F281 C245 C281_l0 kok281 Tryz.func281 (And.intro k281_l0 trivial)
abbrev T244 := List (Int) × Unit → Option (Bool × Unit)
def E244 (f : T244) : FEnt := ⟨Li157, Lo29, f⟩
def K244 (f281 : T281) := lk [(281, E281 f281)]
def F244 (f281 : T281) : T244 := fun (x0, _) =>
 (f281 (x0, ())).bind fun v => some (decide (v.1 ≥ 0), ())
def C244 : T244 := F244 C281
theorem ok244 : FO 244 (E244 C244) := zq1 Li157 Lo29 K244 F244 C281 (kc ok281 kn) Tryz.func244
abbrev T243 := LqA × LqB × LqC × List (Int) × Int × Unit → Option (Bool × Unit)
def E243 (f : T243) : FEnt := ⟨Li160, Lo29, f⟩
def K243 (f244 : T244) := lk [(244, E244 f244)]
def F243 (f244 : T244) : T243 := fun (x0, x1, x2, x3, x4, _) =>
 (f244 (x3, ())).bind fun v => some (bif v.1 then false else true, ())
def C243 : T243 := F243 C244
theorem ok243 : FO 243 (E243 C243) := zq1 Li160 Lo29 K243 F243 C244 (kc ok244 kn) Tryz.func243
abbrev T281v1_l0 := List (Int) × Int × Int × Unit → Option (Unit ⊕ (Int × Unit))
def E281v1_l0 (f : T281v1_l0) : LEnt := ⟨Li162, Lo159, f⟩
abbrev T281v1 := List (Int) × Unit → Option (Int × Unit)
def E281v1 (f : T281v1) : FEnt := ⟨Li161, Lo10, f⟩
def K281v1 (f242 : T242) := lk [(242, E242 f242)]
theorem kok281v1 : KOk Tryz.prog (K281v1 C242) := (kc ok242 kn)
def F281v1_l0 (f242 : T242) : LpF (List (Int) × Int × Int × Unit) (Unit ⊕ (Int × Unit)) := fun (x0, x1, x2, _) =>
 bif decide (x2 < x1) then
 bif decide (0 ≤ x2) && decide (x2 < (↑x0.length : Int)) then
 (f242 (x0.getD x2.toNat 0, ())).bind fun v =>
 bif v.1 then some (Sum.inr (Sum.inr (x2, ())))
 else some (Sum.inl (x0, x1, IntKind.i64.wrap (x2 + 1), ()))
 else none
 else some (Sum.inr (Sum.inl ()))
def C281v1_l0 : T281v1_l0 := loopN (F281v1_l0 C242) big
theorem k281v1_l0 : LpOk 0 (subc (code Tryz.f281) [1, 0, 1, 0, 0]) (E281v1_l0 C281v1_l0) := zl1 Li162 Lo159 K281v1 F281v1_l0 C242 kok281v1
def N281v1 (f281v1_l0 : T281v1_l0) : Ann := (.seq .nil (.seq (.seq .nil (.blk (.loop (E281v1_l0 f281v1_l0)))) .nil))
def F281v1 (f242 : T242) (f281v1_l0 : T281v1_l0) : T281v1 := fun (x0, _) =>
 (f281v1_l0 (x0, (↑x0.length : Int), 0, ())).bind fun v =>
 Sum.elim (fun v => some (-1, ())) (fun v => some (v.1, ())) v
def C281v1 : T281v1 := F281v1 C242 C281v1_l0
theorem ok281v1 : FO 281 (E281v1 C281v1) := zq1_1 Li161 Lo10 K281v1 N281v1 F281v1 C242 C281v1_l0 kok281v1 Tryz.func281 (And.intro k281v1_l0 trivial)
abbrev T244v1 := List (Int) × Unit → Option (Bool × Unit)
def E244v1 (f : T244v1) : FEnt := ⟨Li161, Lo29, f⟩
def K244v1 (f281v1 : T281v1) := lk [(281, E281v1 f281v1)]
def F244v1 (f281v1 : T281v1) : T244v1 := fun (x0, _) =>
 (f281v1 (x0, ())).bind fun v => some (decide (v.1 ≥ 0), ())
def C244v1 : T244v1 := F244v1 C281v1
theorem ok244v1 : FO 244 (E244v1 C244v1) := zq1 Li161 Lo29 K244v1 F244v1 C281v1 (kc ok281v1 kn) Tryz.func244
abbrev T246 := LqA × LqB × LqC × List (Int) × Int × Unit → Option (Bool × Unit)
def E246 (f : T246) : FEnt := ⟨Li160, Lo29, f⟩
def K246 (f244v1 : T244v1) := lk [(244, E244v1 f244v1)]
def F246 (f244v1 : T244v1) : T246 := fun (x0, x1, x2, x3, x4, _) =>
 (f244v1 (x3, ())).bind fun v => some (bif v.1 then false else true, ())
def C246 : T246 := F246 C244v1
theorem ok246 : FO 246 (E246 C246) := zq1 Li160 Lo29 K246 F246 C244v1 (kc ok244v1 kn) Tryz.func246
abbrev T304 := LqA × LqB × LqC × List (Int) × Int × Int × Unit → Option (Int × Unit)
def E304 (f : T304) : FEnt := ⟨Li163, Lo38, f⟩
def F304 : T304 := fun (x0, x1, x2, x3, x4, x5, _) =>
 bif decide (IntKind.i64.wrap (x4 + x5) < 0) then some (-1, ())
 else
 bif decide (IntKind.i64.wrap (x4 + x5) ≥ (↑x3.length : Int)) then some (-1, ())
 else
 bif decide (0 ≤ IntKind.i64.wrap (x4 + x5)) && decide (IntKind.i64.wrap (x4 + x5) < (↑x3.length : Int)) then
 some (x3.getD ((IntKind.i64.wrap (x4 + x5)).toNat) 0, ())
 else none
def C304 : T304 := F304
theorem ok304 : FO 304 (E304 C304) := zq0 Li163 Lo38 KqZ F304 kn Tryz.func304
abbrev T282 := LqA × LqB × LqC × List (Int) × Int × Unit → Option (Bool × Unit)
def E282 (f : T282) : FEnt := ⟨Li160, Lo29, f⟩
def K282 (f276 : T276) (f304 : T304) := lk [(276, E276 f276), (304, E304 f304)]
def F282 (f276 : T276) (f304 : T304) : T282 := fun (x0, x1, x2, x3, x4, _) =>
 (f304 (x0, x1, x2, x3, x4, -1, ())).bind fun v =>
 (f276 (x0, x1, x2, v.1, ())).bind fun v => some (v.1 == 9, ())
def C282 : T282 := F282 C276 C304
theorem ok282 : FO 282 (E282 C282) := zq2 Li160 Lo29 K282 F282 C276 C304 (kc ok276 (kc ok304 kn)) Tryz.func282
abbrev T313 := LqA × LqB × LqC × Int × Unit → Option (Int × Unit)
def E313 (f : T313) : FEnt := ⟨Li0, Lo10, f⟩
def K313 (f248 : T248) := lk [(248, E248 f248)]
def F313 (f248 : T248) : T313 := fun (x0, x1, x2, x3, _) =>
 (f248 (x0, x1, x2, x3, ())).bind fun v => some (v.2.2.2.2.1, ())
def C313 : T313 := F313 C248
theorem ok313 : FO 313 (E313 C313) := zq1 Li0 Lo10 K313 F313 C248 (kc ok248 kn) Tryz.func313
abbrev T305_l0 := Int × Int × LqA × LqB × LqC × List (Int) × Int × Unit → Option (Unit ⊕ (Int × Unit))
def E305_l0 (f : T305_l0) : LEnt := ⟨Li164, Lo165, f⟩
abbrev T305 := LqA × LqB × LqC × List (Int) × Int × Int × Unit → Option (Int × Unit)
def E305 (f : T305) : FEnt := ⟨Li163, Lo10, f⟩
def K305 (f304 : T304) (f313 : T313) := lk [(304, E304 f304), (313, E313 f313)]
theorem kok305 : KOk Tryz.prog (K305 C304 C313) := (kc ok304 (kc ok313 kn))
def F305_l0 (f304 : T304) (f313 : T313) : LpF (Int × Int × LqA × LqB × LqC × List (Int) × Int × Unit) (Unit ⊕ (Int × Unit)) := fun (x0, x1, x2, x3, x4, x5, x6, _) =>
 (f304 (x2, x3, x4, x5, x6, x1, ())).bind fun v =>
 bif decide (v.1 ≥ 0) then
 (f304 (x2, x3, x4, x5, x6, x1, ())).bind fun v =>
 (f313 (x2, x3, x4, v.1, ())).bind fun v =>
 bif v.1 != 3 then some (Sum.inr (Sum.inr (v.1, ())))
 else some (Sum.inl (x0, IntKind.i64.wrap (x1 + x0), x2, x3, x4, x5, x6, ()))
 else some (Sum.inr (Sum.inl ()))
def C305_l0 : T305_l0 := loopN (F305_l0 C304 C313) big
theorem k305_l0 : LpOk 0 (subc (code Tryz.f305) [1, 0, 1, 0, 0]) (E305_l0 C305_l0) := zl2 Li164 Lo165 K305 F305_l0 C304 C313 kok305
def N305 (f305_l0 : T305_l0) : Ann := (.seq .nil (.seq (.seq .nil (.blk (.loop (E305_l0 f305_l0)))) .nil))
def F305 (f304 : T304) (f313 : T313) (f305_l0 : T305_l0) : T305 := fun (x0, x1, x2, x3, x4, x5, _) =>
 (f305_l0 (x5, x5, x0, x1, x2, x3, x4, ())).bind fun v =>
 Sum.elim (fun v => some (0, ())) (fun v => some (v.1, ())) v
def C305 : T305 := F305 C304 C313 C305_l0
theorem ok305 : FO 305 (E305 C305) := zq2_1 Li163 Lo10 K305 N305 F305 C304 C313 C305_l0 kok305 Tryz.func305 (And.intro k305_l0 trivial)
abbrev T283 := LqA × LqB × LqC × List (Int) × Int × Unit → Option (Bool × Unit)
def E283 (f : T283) : FEnt := ⟨Li160, Lo29, f⟩
def K283 (f282 : T282) (f305 : T305) := lk [(282, E282 f282), (305, E305 f305)]
def F283 (f282 : T282) (f305 : T305) : T283 := fun (x0, x1, x2, x3, x4, _) =>
 (f305 (x0, x1, x2, x3, x4, 1, ())).bind fun v =>
 (f282 (x0, x1, x2, x3, x4, ())).bind fun v1 =>
 bif v1.1 then some (true, ())
 else
 (f305 (x0, x1, x2, x3, x4, -1, ())).bind fun v2 =>
 bif v2.1 == 1 then bif v.1 == 1 then some (true, ()) else some (v.1 == 2, ())
 else some (false, ())
def C283 : T283 := F283 C282 C305
theorem ok283 : FO 283 (E283 C283) := zq2 Li160 Lo29 K283 F283 C282 C305 (kc ok282 (kc ok305 kn)) Tryz.func283
abbrev T284 := LqA × LqB × LqC × List (Int) × Int × Unit → Option (Bool × Unit)
def E284 (f : T284) : FEnt := ⟨Li160, Lo29, f⟩
def K284 (f304 : T304) := lk [(304, E304 f304)]
def F284 (f304 : T304) : T284 := fun (x0, x1, x2, x3, x4, _) =>
 (f304 (x0, x1, x2, x3, x4, -1, ())).bind fun v =>
 bif v.1 == 108 then (f304 (x0, x1, x2, x3, x4, 1, ())).bind fun v => some (v.1 == 108, ())
 else some (false, ())
def C284 : T284 := F284 C304
theorem ok284 : FO 284 (E284 C284) := zq1 Li160 Lo29 K284 F284 C304 (kc ok304 kn) Tryz.func284
abbrev T306 := LqA × LqB × LqC × Int × Unit → Option (Int × Unit)
def E306 (f : T306) : FEnt := ⟨Li0, Lo10, f⟩
def K306 (f248 : T248) := lk [(248, E248 f248)]
def F306 (f248 : T248) : T306 := fun (x0, x1, x2, x3, _) =>
 (f248 (x0, x1, x2, x3, ())).bind fun v => some (v.2.2.2.2.2.1, ())
def C306 : T306 := F306 C248
theorem ok306 : FO 306 (E306 C306) := zq1 Li0 Lo10 K306 F306 C248 (kc ok248 kn) Tryz.func306
abbrev T285 := LqA × LqB × LqC × List (Int) × Int × Unit → Option (Bool × Unit)
def E285 (f : T285) : FEnt := ⟨Li160, Lo29, f⟩
def K285 (f304 : T304) (f306 : T306) := lk [(304, E304 f304), (306, E306 f306)]
def F285 (f304 : T304) (f306 : T306) : T285 := fun (x0, x1, x2, x3, x4, _) =>
 (f304 (x0, x1, x2, x3, x4, 1, ())).bind fun v =>
 (f306 (x0, x1, x2, v.1, ())).bind fun v => some (v.1 == 2, ())
def C285 : T285 := F285 C304 C306
theorem ok285 : FO 285 (E285 C285) := zq2 Li160 Lo29 K285 F285 C304 C306 (kc ok304 (kc ok306 kn)) Tryz.func285
abbrev T286 := LqA × LqB × LqC × List (Int) × Int × Unit → Option (Bool × Unit)
def E286 (f : T286) : FEnt := ⟨Li160, Lo29, f⟩
def K286 (f304 : T304) (f306 : T306) := lk [(304, E304 f304), (306, E306 f306)]
def F286 (f304 : T304) (f306 : T306) : T286 := fun (x0, x1, x2, x3, x4, _) =>
 (f304 (x0, x1, x2, x3, x4, -1, ())).bind fun v =>
 (f306 (x0, x1, x2, v.1, ())).bind fun v => some (v.1 == 4, ())
def C286 : T286 := F286 C304 C306
theorem ok286 : FO 286 (E286 C286) := zq2 Li160 Lo29 K286 F286 C304 C306 (kc ok304 (kc ok306 kn)) Tryz.func286
abbrev T307 := Int × LqA × LqB × LqC × List (Int) × Int × Unit → Option (Bool × LqA × LqB × LqC × List (Int) × Int × Unit)
def E307 (f : T307) : FEnt := ⟨Li166, Lo167, f⟩
def K307 (f306 : T306) := lk [(306, E306 f306)]
def F307 (f306 : T306) : T307 := fun (x0, x1, x2, x3, x4, x5, _) =>
 (f306 (x1, x2, x3, x0, ())).bind fun v =>
 bif v.1 == 7 then some (true, x1, x2, x3, x4, x5, ())
 else some (v.1 == 8, x1, x2, x3, x4, x5, ())
theorem h307 (f306 : T306) : AqF (K307 f306) 1 Tryz.f307 .nil Li166 Lo167 (F307 f306) := fun v => by kernel_rfl
def C307 : T307 := F307 C306
theorem ok307 : FO 307 (E307 C307) :=
 q0 (kc ok306 kn) Tryz.func307 (h307 C306)
abbrev T281v2_l0 := List (Int) × Int × Int × LqA × LqB × LqC × List (Int) × Int × Unit → Option ((LqA × LqB × LqC × List (Int) × Int × Unit) ⊕ (Int × LqA × LqB × LqC × List (Int) × Int × Unit))
def E281v2_l0 (f : T281v2_l0) : LEnt := ⟨Li170, Lo171, f⟩
abbrev T281v2 := List (Int) × LqA × LqB × LqC × List (Int) × Int × Unit → Option (Int × LqA × LqB × LqC × List (Int) × Int × Unit)
def E281v2 (f : T281v2) : FEnt := ⟨Li168, Lo169, f⟩
def K281v2 (f307 : T307) := lk [(307, E307 f307)]
theorem kok281v2 : KOk Tryz.prog (K281v2 C307) := (kc ok307 kn)
def F281v2_l0 (f307 : T307) : LpF (List (Int) × Int × Int × LqA × LqB × LqC × List (Int) × Int × Unit) ((LqA × LqB × LqC × List (Int) × Int × Unit) ⊕ (Int × LqA × LqB × LqC × List (Int) × Int × Unit)) := fun (x0, x1, x2, x3, x4, x5, x6, x7, _) =>
 bif decide (x2 < x1) then
 bif decide (0 ≤ x2) && decide (x2 < (↑x0.length : Int)) then
 (f307 (x0.getD x2.toNat 0, x3, x4, x5, x6, x7, ())).bind fun v =>
 bif v.1 then
 some
 (Sum.inr
 (Sum.inr
 (x2, v.2.1, v.2.2.1, v.2.2.2.1, v.2.2.2.2.1,
 v.2.2.2.2.2.1, ())))
 else
 some
 (Sum.inl
 (x0, x1, IntKind.i64.wrap (x2 + 1), v.2.1, v.2.2.1, v.2.2.2.1,
 v.2.2.2.2.1, v.2.2.2.2.2.1, ()))
 else none
 else some (Sum.inr (Sum.inl (x3, x4, x5, x6, x7, ())))
def C281v2_l0 : T281v2_l0 := loopN (F281v2_l0 C307) big
theorem k281v2_l0 : LpOk 1 (subc (code Tryz.f281) [1, 0, 1, 0, 0]) (E281v2_l0 C281v2_l0) := zl1 Li170 Lo171 K281v2 F281v2_l0 C307 kok281v2
def N281v2 (f281v2_l0 : T281v2_l0) : Ann := (.seq .nil (.seq (.seq .nil (.blk (.loop (E281v2_l0 f281v2_l0)))) .nil))
def F281v2 (f307 : T307) (f281v2_l0 : T281v2_l0) : T281v2 := fun (x0, x1, x2, x3, x4, x5, _) =>
 (f281v2_l0 (x0, (↑x0.length : Int), 0, x1, x2, x3, x4, x5, ())).bind fun v =>
 Sum.elim
 (fun v =>
 some (-1, v.1, v.2.1, v.2.2.1, v.2.2.2.1, v.2.2.2.2.1, ()))
 (fun v =>
 some
 (v.1, v.2.1, v.2.2.1, v.2.2.2.1, v.2.2.2.2.1,
 v.2.2.2.2.2.1, ()))
 v
theorem h281v2 (f307 : T307) (f281v2_l0 : T281v2_l0) : AqF (K281v2 f307) 1 Tryz.f281 (N281v2 f281v2_l0) Li168 Lo169 (F281v2 f307 f281v2_l0) := fun v => by kernel_rfl
def C281v2 : T281v2 := F281v2 C307 C281v2_l0
theorem ok281v2 : FO 281 (E281v2 C281v2) :=
 qo kok281v2 Tryz.func281 (And.intro k281v2_l0 trivial) (h281v2 C307 C281v2_l0)
abbrev T244v2 := List (Int) × LqA × LqB × LqC × List (Int) × Int × Unit → Option (Bool × LqA × LqB × LqC × List (Int) × Int × Unit)
def E244v2 (f : T244v2) : FEnt := ⟨Li168, Lo167, f⟩
def K244v2 (f281v2 : T281v2) := lk [(281, E281v2 f281v2)]
def F244v2 (f281v2 : T281v2) : T244v2 := fun (x0, x1, x2, x3, x4, x5, _) =>
 (f281v2 (x0, x1, x2, x3, x4, x5, ())).bind fun v =>
 some
 (decide (v.1 ≥ 0), v.2.1, v.2.2.1, v.2.2.2.1, v.2.2.2.2.1,
 v.2.2.2.2.2.1, ())
theorem h244v2 (f281v2 : T281v2) : AqF (K244v2 f281v2) 1 Tryz.f244 .nil Li168 Lo167 (F244v2 f281v2) := fun v => by kernel_rfl
def C244v2 : T244v2 := F244v2 C281v2
theorem ok244v2 : FO 244 (E244v2 C244v2) :=
 q0 (kc ok281v2 kn) Tryz.func244 (h244v2 C281v2)
abbrev T287 := LqA × LqB × LqC × List (Int) × Int × Unit → Option (Bool × Unit)
def E287 (f : T287) : FEnt := ⟨Li160, Lo29, f⟩
def K287 (f244v2 : T244v2) := lk [(244, E244v2 f244v2)]
def F287 (f244v2 : T244v2) : T287 := fun (x0, x1, x2, x3, x4, _) =>
 (f244v2 (x3, x0, x1, x2, x3, x4, ())).bind fun v => some (v.1, ())
def C287 : T287 := F287 C244v2
theorem ok287 : FO 287 (E287 C287) := zq1 Li160 Lo29 K287 F287 C244v2 (kc ok244v2 kn) Tryz.func287
abbrev T183 := LqA × LqB × LqC × List (Int) × Int × Unit → Option (Int × Unit)
def E183 (f : T183) : FEnt := ⟨Li172, Lo10, f⟩
def K183 (f214 : T214) (f243 : T243) (f246 : T246) (f282 : T282) (f283 : T283) (f284 : T284) (f285 : T285) (f286 : T286) (f287 : T287) := lk [(214, E214 f214), (243, E243 f243), (246, E246 f246), (282, E282 f282), (283, E283 f283), (284, E284 f284), (285, E285 f285), (286, E286 f286), (287, E287 f287)]
def F183 (f214 : T214) (f243 : T243) (f246 : T246) (f282 : T282) (f283 : T283) (f284 : T284) (f285 : T285) (f286 : T286) (f287 : T287) : T183 := fun (x0, x1, x2, x3, x4, _) =>
 bif decide (x4 < 0) then some (0, ())
 else
 bif decide (x4 ≥ (↑x3.length : Int)) then some (0, ())
 else
 bif decide (0 ≤ x4) && decide (x4 < (↑x3.length : Int)) then
 (f214 (x3.getD x4.toNat 0, ())).bind fun v =>
 Sum.elim
 (fun v =>
 (f243 (x0, x1, x2, x3, x4, ())).bind fun v =>
 bif v.1 then some (1, ()) else some (2, ()))
 (fun v =>
 Sum.elim
 (fun v =>
 (f246 (x0, x1, x2, x3, x4, ())).bind fun v =>
 bif v.1 then some (1, ()) else some (2, ()))
 (fun v =>
 Sum.elim
 (fun v =>
 (f282 (x0, x1, x2, x3, x4, ())).bind fun v =>
 bif v.1 then some (1, ()) else some (2, ()))
 (fun v =>
 Sum.elim
 (fun v =>
 (f283 (x0, x1, x2, x3, x4, ())).bind fun v =>
 bif v.1 then some (1, ()) else some (2, ()))
 (fun v =>
 Sum.elim
 (fun v =>
 (f284 (x0, x1, x2, x3, x4, ())).bind fun v =>
 bif v.1 then some (1, ()) else some (2, ()))
 (fun v =>
 Sum.elim
 (fun v =>
 (f285 (x0, x1, x2, x3, x4, ())).bind fun v =>
 bif v.1 then some (1, ()) else some (2, ()))
 (fun v =>
 Sum.elim
 (fun v =>
 (f286 (x0, x1, x2, x3, x4, ())).bind fun v =>
 bif v.1 then some (1, ()) else some (2, ()))
 (fun v =>
 Sum.elim
 (fun v =>
 (f287 (x0, x1, x2, x3, x4, ())).bind fun v =>
 bif v.1 then some (1, ()) else some (2, ()))
 (fun v => some (0, ())) v)
 v)
 v)
 v)
 v)
 v)
 v)
 v
 else none
theorem h183 (f214 : T214) (f243 : T243) (f246 : T246) (f282 : T282) (f283 : T283) (f284 : T284) (f285 : T285) (f286 : T286) (f287 : T287) : AqF (K183 f214 f243 f246 f282 f283 f284 f285 f286 f287) 0 Tryz.f183 .nil Li172 Lo10 (F183 f214 f243 f246 f282 f283 f284 f285 f286 f287) := fun v => by kernel_rfl
def C183 : T183 := F183 C214 C243 C246 C282 C283 C284 C285 C286 C287
theorem ok183 : FO 183 (E183 C183) :=
 q0 (kc ok214 (kc ok243 (kc ok246 (kc ok282 (kc ok283 (kc ok284 (kc ok285 (kc ok286 (kc ok287 kn))))))))) Tryz.func183 (h183 C214 C243 C246 C282 C283 C284 C285 C286 C287)
abbrev T217 := LqA × LqB × LqC × Int × Unit → Option (Bool × Unit)
def E217 (f : T217) : FEnt := ⟨Li0, Lo29, f⟩
def K217 (f215 : T215) (f216 : T216) := lk [(215, E215 f215), (216, E216 f216)]
def F217 (f215 : T215) (f216 : T216) : T217 := fun (x0, x1, x2, x3, _) =>
 (f216 (x0, x1, x2, x3, ())).bind fun v =>
 bif v.2.2.2.2.2.1 then
 bif v.2.2.2.1 then some (false, ())
 else
 bif v.2.2.2.2.1 then some (false, ())
 else
 (f215 (x0, x1, x2, x3, ())).bind fun v =>
 bif v.1 == 2 then some (true, ())
 else
 bif v.1 == 3 then some (true, ())
 else
 bif v.1 == 4 then some (true, ())
 else bif v.1 == 5 then some (true, ()) else some (x3 == 45, ())
 else
 (f215 (x0, x1, x2, x3, ())).bind fun v =>
 bif v.1 == 2 then some (true, ())
 else
 bif v.1 == 3 then some (true, ())
 else
 bif v.1 == 4 then some (true, ())
 else bif v.1 == 5 then some (true, ()) else some (x3 == 45, ())
def C217 : T217 := F217 C215 C216
theorem ok217 : FO 217 (E217 C217) := zq2 Li0 Lo29 K217 F217 C215 C216 (kc ok215 (kc ok216 kn)) Tryz.func217
abbrev T261_l0 := List (Int) × List (Int) × Int × Int × LqA × LqB × LqC × Unit → Option (Unit ⊕ (Bool × Unit))
def E261_l0 (f : T261_l0) : LEnt := ⟨Li173, Lo174, f⟩
abbrev T261 := LqA × LqB × LqC × List (Int) × Unit → Option (Bool × Unit)
def E261 (f : T261) : FEnt := ⟨Li9, Lo29, f⟩
def K261 (f183 : T183) (f217 : T217) := lk [(183, E183 f183), (217, E217 f217)]
theorem kok261 : KOk Tryz.prog (K261 C183 C217) := (kc ok183 (kc ok217 kn))
def F261_l0 (f183 : T183) (f217 : T217) : LpF (List (Int) × List (Int) × Int × Int × LqA × LqB × LqC × Unit) (Unit ⊕ (Bool × Unit)) := fun (x0, x1, x2, x3, x4, x5, x6, _) =>
 bif decide (x3 < x2) then
 bif decide (0 ≤ x3) && decide (x3 < (↑x1.length : Int)) then
 (f183 (x4, x5, x6, x0, x3, ())).bind fun v =>
 bif v.1 == 2 then some (Sum.inr (Sum.inr (true, ())))
 else
 bif v.1 == 0 then
 (f217 (x4, x5, x6, x1.getD x3.toNat 0, ())).bind fun v =>
 bif !v.1 then some (Sum.inr (Sum.inr (true, ())))
 else some (Sum.inl (x0, x1, x2, IntKind.i64.wrap (x3 + 1), x4, x5, x6, ()))
 else some (Sum.inl (x0, x1, x2, IntKind.i64.wrap (x3 + 1), x4, x5, x6, ()))
 else none
 else some (Sum.inr (Sum.inl ()))
def C261_l0 : T261_l0 := loopN (F261_l0 C183 C217) big
theorem k261_l0 : LpOk 0 (subc (code Tryz.f261) [1, 0, 1, 0, 0]) (E261_l0 C261_l0) := zl2 Li173 Lo174 K261 F261_l0 C183 C217 kok261
def N261 (f261_l0 : T261_l0) : Ann := (.seq .nil (.seq (.seq .nil (.blk (.loop (E261_l0 f261_l0)))) .nil))
def F261 (f183 : T183) (f217 : T217) (f261_l0 : T261_l0) : T261 := fun (x0, x1, x2, x3, _) =>
 (f261_l0 (x3, x3, (↑x3.length : Int), 0, x0, x1, x2, ())).bind fun v =>
 Sum.elim (fun v => some (false, ())) (fun v => some (v.1, ())) v
def C261 : T261 := F261 C183 C217 C261_l0
theorem ok261 : FO 261 (E261 C261) := zq2_1 Li9 Lo29 K261 N261 F261 C183 C217 C261_l0 kok261 Tryz.func261 (And.intro k261_l0 trivial)
abbrev T260 := LqA × LqB × LqC × List (Int) × Unit → Option (Bool × LqA × LqB × LqC × List (Int) × Unit)
def E260 (f : T260) : FEnt := ⟨Li154, Lo155, f⟩
def K260 (f261 : T261) := lk [(261, E261 f261)]
def F260 (f261 : T261) : T260 := fun (x0, x1, x2, x3, _) =>
 (f261 (x0, x1, x2, x3, ())).bind fun v => some (v.1, x0, x1, x2, x3, ())
theorem h260 (f261 : T261) : AqF (K260 f261) 2 Tryz.f260 .nil Li154 Lo155 (F260 f261) := fun v => by kernel_rfl
def C260 : T260 := F260 C261
theorem ok260 : FO 260 (E260 C260) :=
 q0 (kc ok261 kn) Tryz.func260 (h260 C261)
abbrev T185_l0 := List (Int) × Int × Int × LqA × LqB × LqC × List (Int) × List (Int) × Unit → Option (List (Int) × List (Int) × Unit)
def E185_l0 (f : T185_l0) : LEnt := ⟨Li176, Lo177, f⟩
abbrev T185 := LqA × LqB × LqC × List (Int) × Unit → Option (Int × Int × Int × Int × Int × Int × Int × Int × Unit)
def E185 (f : T185) : FEnt := ⟨Li9, Lo175, f⟩
def K185 (f218 : T218) := lk [(218, E218 f218)]
theorem kok185 : KOk Tryz.prog (K185 C218) := (kc ok218 kn)
def F185_l0 (f218 : T218) : LpF (List (Int) × Int × Int × LqA × LqB × LqC × List (Int) × List (Int) × Unit) (List (Int) × List (Int) × Unit) := fun (x0, x1, x2, x3, x4, x5, x6, x7, _) =>
 bif decide (x2 < x1) then
 bif decide (0 ≤ x2) && decide (x2 < (↑x0.length : Int)) then
 (f218 (x3, x4, x5, x0.getD x2.toNat 0, ())).bind fun v =>
 bif decide (x7.length = 8) then
 bif decide (0 ≤ v.1) && decide (v.1 < (↑8 : Int)) then
 bif decide (Int.toNat v.1 < x7.length) then
 bif decide (x7.length = 8) then
 bif decide (0 ≤ v.1) && decide (v.1 < (↑8 : Int)) then
 bif decide (Int.toNat v.1 < x7.length) then
 some
 (Sum.inl
 (x0, x1, IntKind.i64.wrap (x2 + 1), x3, x4, x5, x6,
 x7.set (Int.toNat v.1)
 (IntKind.i64.wrap (x7.getD (Int.toNat v.1) 0 + 1)),
 ()))
 else none
 else none
 else none
 else none
 else none
 else none
 else none
 else some (Sum.inr (x6, x7, ()))
def C185_l0 : T185_l0 := loopN (F185_l0 C218) big
theorem k185_l0 : LpOk 0 (subc (code Tryz.f185) [1, 1, 0, 1, 0, 0]) (E185_l0 C185_l0) := zl1 Li176 Lo177 K185 F185_l0 C218 kok185
def N185 (f185_l0 : T185_l0) : Ann := (.seq .nil (.seq .nil (.seq (.seq .nil (.blk (.loop (E185_l0 f185_l0)))) .nil)))
def F185 (f218 : T218) (f185_l0 : T185_l0) : T185 := fun (x0, x1, x2, x3, _) =>
 (f185_l0 (x3, (↑x3.length : Int), 0, x0, x1, x2, [0, 0, 0, 0, 0, 0, 0, 0], [0, 0, 0, 0, 0, 0, 0, 0], ())).bind
 fun v =>
 bif decide (List.length v.2.1 = 8) then
 bif decide (List.length v.1 = 8) then
 some
 (v.2.1.getD 0 0, v.2.1.getD 1 0, v.2.1.getD 2 0,
 v.2.1.getD 3 0, v.2.1.getD 4 0, v.2.1.getD 5 0,
 v.2.1.getD 6 0, v.2.1.getD 7 0, ())
 else none
 else none
def C185 : T185 := F185 C218 C185_l0
theorem ok185 : FO 185 (E185 C185) := zq1_1 Li9 Lo175 K185 N185 F185 C218 C185_l0 kok185 Tryz.func185 (And.intro k185_l0 trivial)
abbrev T153 := LqA × LqB × LqC × List (Int) × Unit → Option (Bool × Unit)
def E153 (f : T153) : FEnt := ⟨Li9, Lo29, f⟩
def K153 (f185 : T185) := lk [(185, E185 f185)]
def F153 (f185 : T185) : T153 := fun (x0, x1, x2, x3, _) =>
 (f185 (x0, x1, x2, x3, ())).bind fun v =>
 some
 (decide
 (IntKind.i64.wrap
 (IntKind.i64.wrap
 ([v.1, v.2.1, v.2.2.1, v.2.2.2.1, v.2.2.2.2.1,
 v.2.2.2.2.2.1, v.2.2.2.2.2.2.1,
 v.2.2.2.2.2.2.2.1].getD
 2 0 +
 [v.1, v.2.1, v.2.2.1, v.2.2.2.1, v.2.2.2.2.1,
 v.2.2.2.2.2.1, v.2.2.2.2.2.2.1,
 v.2.2.2.2.2.2.2.1].getD
 3 0) +
 [v.1, v.2.1, v.2.2.1, v.2.2.2.1, v.2.2.2.2.1,
 v.2.2.2.2.2.1, v.2.2.2.2.2.2.1,
 v.2.2.2.2.2.2.2.1].getD
 5 0) >
 0),
 ())
def C153 : T153 := F153 C185
theorem ok153 : FO 153 (E153 C153) := zq1 Li9 Lo29 K153 F153 C185 (kc ok185 kn) Tryz.func153
abbrev T187 := LqA × LqB × LqC × List (Int) × Unit → Option (Int × Unit)
def E187 (f : T187) : FEnt := ⟨Li9, Lo10, f⟩
def K187 (f218 : T218) := lk [(218, E218 f218)]
def F187 (f218 : T218) : T187 := fun (x0, x1, x2, x3, _) =>
 bif (↑x3.length : Int) == 0 then some (0, ())
 else
 bif decide (0 < (↑x3.length : Int)) then
 (f218 (x0, x1, x2, x3.getD 0 0, ())).bind fun v =>
 bif v.1 == 2 then some (2, ())
 else
 bif v.1 == 3 then some (2, ())
 else bif v.1 == 1 then some (v.1, ()) else some (0, ())
 else none
def C187 : T187 := F187 C218
theorem ok187 : FO 187 (E187 C187) := zq1 Li9 Lo10 K187 F187 C218 (kc ok218 kn) Tryz.func187
abbrev T154_c0 := Bool × Bool × List (Int) × Unit → Option (Bool × Unit)
def E154_c0 (f : T154_c0) : LEnt := ⟨Li178, Lo179, f⟩
abbrev T154_c1 := Int × Bool × List (Int) × Unit → Option (Bool × Unit)
def E154_c1 (f : T154_c1) : LEnt := ⟨Li180, Lo179, f⟩
abbrev T154 := LqA × LqB × LqC × List (Int) × Unit → Option (Bool × Unit)
def E154 (f : T154) : FEnt := ⟨Li9, Lo29, f⟩
def K154 (f153 : T153) (f185 : T185) (f186 : T186) (f187 : T187) := lk [(153, E153 f153), (185, E185 f185), (186, E186 f186), (187, E187 f187)]
theorem kok154 : KOk Tryz.prog (K154 C153 C185 C186 C187) := (kc ok153 (kc ok185 (kc ok186 (kc ok187 kn))))
def F154_c0 (f153 : T153) (f185 : T185) (f186 : T186) (f187 : T187) : T154_c0 := fun (x0, x1, x2, _) =>
 bif decide (x2.length = 8) then
 bif decide (Int.toNat 1 < x2.length) then
 bif x2.getD 1 0 == 0 then
 bif x1 then some (bif x0 then false else true, ()) else some (false, ())
 else some (false, ())
 else none
 else none
theorem h154_c0 (f153 : T153) (f185 : T185) (f186 : T186) (f187 : T187) : AqC (K154 f153 f185 f186 f187) 0 (subc (code Tryz.f154) [1, 1, 0, 1, 0, 1, 0, 1, 1]) .nil Li178 Lo179 (F154_c0 f153 f185 f186 f187) := fun v => by kernel_rfl
def C154_c0 : T154_c0 := F154_c0 C153 C185 C186 C187
theorem k154_c0 : CdOk 0 (subc (code Tryz.f154) [1, 1, 0, 1, 0, 1, 0, 1, 1]) (E154_c0 C154_c0) :=
 frc kok154 (h154_c0 C153 C185 C186 C187)
def N154_c1 (f154_c0 : T154_c0) : Ann := (.cut .nil (E154_c0 f154_c0))
def F154_c1 (f153 : T153) (f185 : T185) (f186 : T186) (f187 : T187) (f154_c0 : T154_c0) : T154_c1 := fun (x0, x1, x2, _) =>
 bif x0 == 2 then (f154_c0 (x1, true, x2, ())).bind fun v => some (v.1, ())
 else
 bif x0 == 3 then (f154_c0 (x1, true, x2, ())).bind fun v => some (v.1, ())
 else
 bif x0 == 4 then (f154_c0 (x1, true, x2, ())).bind fun v => some (v.1, ())
 else (f154_c0 (x1, x0 == 5, x2, ())).bind fun v => some (v.1, ())
theorem h154_c1 (f153 : T153) (f185 : T185) (f186 : T186) (f187 : T187) (f154_c0 : T154_c0) : AqC (K154 f153 f185 f186 f187) 0 (subc (code Tryz.f154) [1, 1, 0, 1, 0, 1, 0, 1]) (N154_c1 f154_c0) Li180 Lo179 (F154_c1 f153 f185 f186 f187 f154_c0) := fun v => by kernel_rfl
def C154_c1 : T154_c1 := F154_c1 C153 C185 C186 C187 C154_c0
theorem k154_c1 : CdOk 0 (subc (code Tryz.f154) [1, 1, 0, 1, 0, 1, 0, 1]) (E154_c1 C154_c1) :=
 frd kok154 (And.intro k154_c0 trivial) (h154_c1 C153 C185 C186 C187 C154_c0)
def N154 (f154_c1 : T154_c1) : Ann := (.seq .nil (.seq .nil (.seq (.seq .nil (.blk (.seq .nil (.cond (.cut .nil (E154_c1 f154_c1)) .nil)))) .nil)))
def F154 (f153 : T153) (f185 : T185) (f186 : T186) (f187 : T187) (f154_c1 : T154_c1) : T154 := fun (x0, x1, x2, x3, _) =>
 (f185 (x0, x1, x2, x3, ())).bind fun v =>
 (f186 (x0, x1, x2, x3, ())).bind fun v1 =>
 (f187 (x0, x1, x2, x3, ())).bind fun v2 =>
 bif v2.1 == 2 then
 bif
 decide
 ([v.1, v.2.1, v.2.2.1, v.2.2.2.1, v.2.2.2.2.1,
 v.2.2.2.2.2.1, v.2.2.2.2.2.2.1,
 v.2.2.2.2.2.2.2.1].getD
 4 0 >
 0) then
 (f154_c1
 (v1.1,
 decide
 ([v.1, v.2.1, v.2.2.1, v.2.2.2.1, v.2.2.2.2.1,
 v.2.2.2.2.2.1, v.2.2.2.2.2.2.1,
 v.2.2.2.2.2.2.2.1].getD
 5 0 >
 0),
 [v.1, v.2.1, v.2.2.1, v.2.2.2.1, v.2.2.2.2.1,
 v.2.2.2.2.2.1, v.2.2.2.2.2.2.1, v.2.2.2.2.2.2.2.1],
 ())).bind
 fun v => some (v.1, ())
 else
 (f154_c1
 (v1.1, false,
 [v.1, v.2.1, v.2.2.1, v.2.2.2.1, v.2.2.2.2.1,
 v.2.2.2.2.2.1, v.2.2.2.2.2.2.1, v.2.2.2.2.2.2.2.1],
 ())).bind
 fun v => some (v.1, ())
 else
 bif v2.1 == 1 then
 (f153 (x0, x1, x2, x3, ())).bind fun v =>
 bif !v.1 then bif v1.1 == 1 then some (true, ()) else some (v1.1 == 4, ())
 else some (false, ())
 else some ((↑x3.length : Int) == 0, ())
theorem h154 (f153 : T153) (f185 : T185) (f186 : T186) (f187 : T187) (f154_c1 : T154_c1) : AqF (K154 f153 f185 f186 f187) 0 Tryz.f154 (N154 f154_c1) Li9 Lo29 (F154 f153 f185 f186 f187 f154_c1) := fun v => by kernel_rfl
def C154 : T154 := F154 C153 C185 C186 C187 C154_c1
theorem ok154 : FO 154 (E154 C154) :=
 qo kok154 Tryz.func154 (And.intro k154_c1 trivial) (h154 C153 C185 C186 C187 C154_c1)
abbrev T262 := LqA × LqB × LqC × List (Int) × Unit → Option (Bool × LqA × LqB × LqC × List (Int) × Unit)
def E262 (f : T262) : FEnt := ⟨Li154, Lo155, f⟩
def K262 (f153 : T153) (f154 : T154) := lk [(153, E153 f153), (154, E154 f154)]
def F262 (f153 : T153) (f154 : T154) : T262 := fun (x0, x1, x2, x3, _) =>
 (f153 (x0, x1, x2, x3, ())).bind fun v =>
 bif v.1 then
 (f154 (x0, x1, x2, x3, ())).bind fun v => some (bif v.1 then false else true, x0, x1, x2, x3, ())
 else some (false, x0, x1, x2, x3, ())
theorem h262 (f153 : T153) (f154 : T154) : AqF (K262 f153 f154) 2 Tryz.f262 .nil Li154 Lo155 (F262 f153 f154) := fun v => by kernel_rfl
def C262 : T262 := F262 C153 C154
theorem ok262 : FO 262 (E262 C262) :=
 q0 (kc ok153 (kc ok154 kn)) Tryz.func262 (h262 C153 C154)
abbrev T263 := List (Int) × LqS × Bool × Unit → Option (Bool × List (Int) × LqS × Bool × Unit)
def E263 (f : T263) : FEnt := ⟨Li181, Lo182, f⟩
def K263 (f223 : T223) := lk [(223, E223 f223)]
def F263 (f223 : T223) : T263 := fun (x0, x1, x2, _) =>
 (f223 (x0, ())).bind fun v => some (bif v.2.1 then false else true, x0, v.1, v.2.1, ())
theorem h263 (f223 : T223) : AqF (K263 f223) 3 Tryz.f263 .nil Li181 Lo182 (F263 f223) := fun v => by kernel_rfl
def C263 : T263 := F263 C223
theorem ok263 : FO 263 (E263 C263) :=
 q0 (kc ok223 kn) Tryz.func263 (h263 C223)
abbrev T264 := LqS × Unit → Option (Bool × LqS × Unit)
def E264 (f : T264) : FEnt := ⟨Li146, Lo147, f⟩
def F264 : T264 := fun (x0, _) =>
 some (decide (IntKind.i64.wrap (4 + (↑x0.length : Int)) > 63), x0, ())
theorem h264 : AqF KqZ 1 Tryz.f264 .nil Li146 Lo147 (F264) := fun v => by kernel_rfl
def C264 : T264 := F264
theorem ok264 : FO 264 (E264 C264) :=
 q0 kn Tryz.func264 (h264)
abbrev T253 := Int × Int × Int × Int × Int × Int × Int × Int × Int × LqS × LqA × LqB × LqC × List (Int) × LqS × Bool × Unit → Option (Int × Int × Int × Int × Int × Int × Int × Int × Int × Int × LqS × LqA × LqB × LqC × List (Int) × LqS × Bool × Unit)
def E253 (f : T253) : FEnt := ⟨Li183, Lo184, f⟩
def K253 (f254 : T254) (f255 : T255) (f257 : T257) (f259 : T259) (f260 : T260) (f262 : T262) (f263 : T263) (f264 : T264) := lk [(254, E254 f254), (255, E255 f255), (257, E257 f257), (259, E259 f259), (260, E260 f260), (262, E262 f262), (263, E263 f263), (264, E264 f264)]
def N253 : Ann := (.seq .nil (.seq (.seq .nil (.blk (.unroll 10 .nil))) .nil))
def F253 (f254 : T254) (f255 : T255) (f257 : T257) (f259 : T259) (f260 : T260) (f262 : T262) (f263 : T263) (f264 : T264) : T253 := fun (x0, x1, x2, x3, x4, x5, x6, x7, x8, x9, x10, x11, x12, x13, x14, x15, _) =>
 (f254 (x8, ())).bind fun v =>
 bif v.1 then some (x0, x0, x1, x2, x3, x4, x5, x6, x7, v.2.1, x9, x10, x11, x12, x13, x14, x15, ())
 else
 (f255 (x9, x10, x11, x12, ())).bind fun v1 =>
 bif v1.1 then
 some
 (x1, x0, x1, x2, x3, x4, x5, x6, x7, v.2.1, v1.2.1, v1.2.2.1, v1.2.2.2.1,
 v1.2.2.2.2.1, x13, x14, x15, ())
 else
 (f257 (v1.2.1, ())).bind fun v2 =>
 bif v2.1 then
 some
 (x2, x0, x1, x2, x3, x4, x5, x6, x7, v.2.1, v2.2.1, v1.2.2.1, v1.2.2.2.1,
 v1.2.2.2.2.1, x13, x14, x15, ())
 else
 (f259 (v1.2.2.1, v1.2.2.2.1, v1.2.2.2.2.1, x13, ())).bind fun v3 =>
 bif v3.1 then
 some
 (x3, x0, x1, x2, x3, x4, x5, x6, x7, v.2.1, v2.2.1, v3.2.1, v3.2.2.1,
 v3.2.2.2.1, v3.2.2.2.2.1, x14, x15, ())
 else
 (f260 (v3.2.1, v3.2.2.1, v3.2.2.2.1, v3.2.2.2.2.1, ())).bind
 fun v4 =>
 bif v4.1 then
 some
 (x4, x0, x1, x2, x3, x4, x5, x6, x7, v.2.1, v2.2.1, v4.2.1, v4.2.2.1,
 v4.2.2.2.1, v4.2.2.2.2.1, x14, x15, ())
 else
 (f262 (v4.2.1, v4.2.2.1, v4.2.2.2.1, v4.2.2.2.2.1, ())).bind
 fun v5 =>
 bif v5.1 then
 some
 (x5, x0, x1, x2, x3, x4, x5, x6, x7, v.2.1, v2.2.1, v5.2.1,
 v5.2.2.1, v5.2.2.2.1, v5.2.2.2.2.1, x14, x15, ())
 else
 (f263 (v5.2.2.2.2.1, x14, x15, ())).bind fun v6 =>
 bif v6.1 then
 some
 (x6, x0, x1, x2, x3, x4, x5, x6, x7, v.2.1, v2.2.1, v5.2.1,
 v5.2.2.1, v5.2.2.2.1, v6.2.1, v6.2.2.1,
 v6.2.2.2.1, ())
 else
 (f264 (v6.2.2.1, ())).bind fun v7 =>
 bif v7.1 then
 some
 (x7, x0, x1, x2, x3, x4, x5, x6, x7, v.2.1, v2.2.1, v5.2.1,
 v5.2.2.1, v5.2.2.2.1, v6.2.1, v7.2.1,
 v6.2.2.2.1, ())
 else
 some
 (0, x0, x1, x2, x3, x4, x5, x6, x7, v.2.1, v2.2.1, v5.2.1,
 v5.2.2.1, v5.2.2.2.1, v6.2.1, v7.2.1,
 v6.2.2.2.1, ())
theorem h253 (f254 : T254) (f255 : T255) (f257 : T257) (f259 : T259) (f260 : T260) (f262 : T262) (f263 : T263) (f264 : T264) : AqF (K253 f254 f255 f257 f259 f260 f262 f263 f264) 7 Tryz.f253 N253 Li183 Lo184 (F253 f254 f255 f257 f259 f260 f262 f263 f264) := fun v => by kernel_rfl
def C253 : T253 := F253 C254 C255 C257 C259 C260 C262 C263 C264
theorem ok253 : FO 253 (E253 C253) :=
 qo (kc ok254 (kc ok255 (kc ok257 (kc ok259 (kc ok260 (kc ok262 (kc ok263 (kc ok264 kn)))))))) Tryz.func253 trivial (h253 C254 C255 C257 C259 C260 C262 C263 C264)
abbrev T224 := LqA × LqB × LqC × LqS × Unit → Option (Int × Unit)
def E224 (f : T224) : FEnt := ⟨Li17, Lo10, f⟩
def K224 (f253 : T253) (f83 : T83) := lk [(253, E253 f253), (83, E83 f83)]
def F224 (f253 : T253) (f83 : T83) : T224 := fun (x0, x1, x2, x3, _) =>
 (f83 (x3, ())).bind fun v =>
 (f253 (7, 4, 11, 10, 8, 9, 12, 5, v.2.1, x3, x0, x1, x2, v.1, [], false, ())).bind fun v =>
 some (v.1, ())
def C224 : T224 := F224 C253 C83
theorem ok224 : FO 224 (E224 C224) := zq2 Li17 Lo10 K224 F224 C253 C83 (kc ok253 (kc ok83 kn)) Tryz.func224
abbrev T265 := LqS × Unit → Option (Bool × LqS × Unit)
def E265 (f : T265) : FEnt := ⟨Li146, Lo147, f⟩
def F265 : T265 := fun (x0, _) =>
 some (x0 == [], x0, ())
theorem h265 : AqF KqZ 1 Tryz.f265 .nil Li146 Lo147 (F265) := fun v => by kernel_rfl
def C265 : T265 := F265
theorem ok265 : FO 265 (E265 C265) :=
 q0 kn Tryz.func265 (h265)
abbrev T266 := LqS × Unit → Option (Bool × LqS × Unit)
def E266 (f : T266) : FEnt := ⟨Li146, Lo147, f⟩
def F266 : T266 := fun (x0, _) =>
 some (decide ((↑x0.length : Int) > 63), x0, ())
theorem h266 : AqF KqZ 1 Tryz.f266 .nil Li146 Lo147 (F266) := fun v => by kernel_rfl
def C266 : T266 := F266
theorem ok266 : FO 266 (E266 C266) :=
 q0 kn Tryz.func266 (h266)
abbrev T268_c0 := Int × Bool × Unit → Option (Bool × Unit)
def E268_c0 (f : T268_c0) : LEnt := ⟨Li185, Lo186, f⟩
abbrev T268_c1 := Int × Bool × Unit → Option (Bool × Unit)
def E268_c1 (f : T268_c1) : LEnt := ⟨Li185, Lo186, f⟩
abbrev T268 := Int × Unit → Option (Bool × Unit)
def E268 (f : T268) : FEnt := ⟨Li28, Lo29, f⟩
def F268_c0 : T268_c0 := fun (x0, x1, _) =>
 bif x1 then some (true, ())
 else
 bif decide (x0 ≥ 48) then bif decide (x0 ≤ 57) then some (true, ()) else some (x0 == 45, ())
 else some (x0 == 45, ())
theorem h268_c0 : AqC KqZ 0 (subc (code Tryz.f268) [1, 0, 0, 0, 1, 1, 1]) .nil Li185 Lo186 (F268_c0) := fun v => by kernel_rfl
def C268_c0 : T268_c0 := F268_c0
theorem k268_c0 : CdOk 0 (subc (code Tryz.f268) [1, 0, 0, 0, 1, 1, 1]) (E268_c0 C268_c0) :=
 frc kn (h268_c0)
def N268_c1 (f268_c0 : T268_c0) : Ann := (.cond .nil (.cut .nil (E268_c0 f268_c0)))
def F268_c1 (f268_c0 : T268_c0) : T268_c1 := fun (x0, x1, _) =>
 bif x1 then some (true, ())
 else
 bif decide (x0 ≥ 65) then (f268_c0 (x0, decide (x0 ≤ 90), ())).bind fun v => some (v.1, ())
 else (f268_c0 (x0, false, ())).bind fun v => some (v.1, ())
theorem h268_c1 (f268_c0 : T268_c0) : AqC KqZ 0 (subc (code Tryz.f268) [1, 0, 0, 0, 1]) (N268_c1 f268_c0) Li185 Lo186 (F268_c1 f268_c0) := fun v => by kernel_rfl
def C268_c1 : T268_c1 := F268_c1 C268_c0
theorem k268_c1 : CdOk 0 (subc (code Tryz.f268) [1, 0, 0, 0, 1]) (E268_c1 C268_c1) :=
 frd kn (And.intro k268_c0 trivial) (h268_c1 C268_c0)
def N268 (f268_c1 : T268_c1) : Ann := (.seq .nil (.seq (.blk (.seq (.cut .nil (E268_c1 f268_c1)) .nil)) .nil))
def F268 (f268_c1 : T268_c1) : T268 := fun (x0, _) =>
 bif decide (x0 ≥ 97) then
 (f268_c1 (x0, decide (x0 ≤ 122), ())).bind fun v =>
 bif v.1 then some (false, ()) else some (true, ())
 else (f268_c1 (x0, false, ())).bind fun v => bif v.1 then some (false, ()) else some (true, ())
def C268 : T268 := F268 C268_c1
theorem ok268 : FO 268 (E268 C268) := zq0_1 Li28 Lo29 KqZ N268 F268 C268_c1 kn Tryz.func268 (And.intro k268_c1 trivial)
abbrev T156_l0 := Bool × (LqS × Int) × Unit → Option ((Int × Unit) ⊕ Unit)
def E156_l0 (f : T156_l0) : LEnt := ⟨Li188, Lo189, f⟩
abbrev T156 := LqS × Bool × Unit → Option (Int × Unit)
def E156 (f : T156) : FEnt := ⟨Li187, Lo10, f⟩
def K156 (f268 : T268) := lk [(268, E268 f268)]
theorem kok156 : KOk Tryz.prog (K156 C268) := (kc ok268 kn)
def F156_l0 (f268 : T268) : LpF (Bool × (LqS × Int) × Unit) ((Int × Unit) ⊕ Unit) := fun (x0, x1, _) =>
 bif decide (Int.toNat x1.2 < List.length x1.1) then
 (f268 ((↑(decR x1.1 (Int.toNat x1.2)).1 : Int), ())).bind fun v =>
 bif v.1 == x0 then some (Sum.inr (Sum.inl ((↑(Int.toNat x1.2) : Int), ())))
 else some (Sum.inl (x0, (x1.1, (↑(Int.toNat x1.2 + (decR x1.1 (Int.toNat x1.2)).2) : Int)), ()))
 else some (Sum.inr (Sum.inr ()))
def C156_l0 : T156_l0 := loopN (F156_l0 C268) big
theorem k156_l0 : LpOk 0 (subc (code Tryz.f156) [1, 0, 1, 0, 0]) (E156_l0 C156_l0) := zl1 Li188 Lo189 K156 F156_l0 C268 kok156
def N156 (f156_l0 : T156_l0) : Ann := (.seq .nil (.seq (.seq .nil (.blk (.loop (E156_l0 f156_l0)))) .nil))
def F156 (f268 : T268) (f156_l0 : T156_l0) : T156 := fun (x0, x1, _) =>
 (f156_l0 (x1, (x0, (↑0 : Int)), ())).bind fun v =>
 Sum.elim (fun v => some (v.1, ())) (fun v => some (-1, ())) v
def C156 : T156 := F156 C268 C156_l0
theorem ok156 : FO 156 (E156 C156) := zq1_1 Li187 Lo10 K156 N156 F156 C268 C156_l0 kok156 Tryz.func156 (And.intro k156_l0 trivial)
abbrev T123 := LqS × Unit → Option (Int × Unit)
def E123 (f : T123) : FEnt := ⟨Li190, Lo10, f⟩
def K123 (f156 : T156) := lk [(156, E156 f156)]
def F123 (f156 : T156) : T123 := fun (x0, _) =>
 (f156 (x0, true, ())).bind fun v => some (v.1, ())
def C123 : T123 := F123 C156
theorem ok123 : FO 123 (E123 C123) := zq1 Li190 Lo10 K123 F123 C156 (kc ok156 kn) Tryz.func123
abbrev T84 := LqS × Unit → Option (Bool × Unit)
def E84 (f : T84) : FEnt := ⟨Li190, Lo29, f⟩
def K84 (f123 : T123) := lk [(123, E123 f123)]
def F84 (f123 : T123) : T84 := fun (x0, _) =>
 (f123 (x0, ())).bind fun v => some (decide (v.1 ≥ 0), ())
def C84 : T84 := F84 C123
theorem ok84 : FO 84 (E84 C84) := zq1 Li190 Lo29 K84 F84 C123 (kc ok123 kn) Tryz.func84
abbrev T267 := LqS × Unit → Option (Bool × LqS × Unit)
def E267 (f : T267) : FEnt := ⟨Li146, Lo147, f⟩
def K267 (f84 : T84) := lk [(84, E84 f84)]
def F267 (f84 : T84) : T267 := fun (x0, _) =>
 (f84 (x0, ())).bind fun v => some (v.1, x0, ())
theorem h267 (f84 : T84) : AqF (K267 f84) 1 Tryz.f267 .nil Li146 Lo147 (F267 f84) := fun v => by kernel_rfl
def C267 : T267 := F267 C84
theorem ok267 : FO 267 (E267 C267) :=
 q0 (kc ok84 kn) Tryz.func267 (h267 C84)
abbrev T269 := LqS × Unit → Option (Bool × LqS × Unit)
def E269 (f : T269) : FEnt := ⟨Li146, Lo147, f⟩
def K269 (f258 : T258) := lk [(258, E258 f258)]
def F269 (f258 : T258) : T269 := fun (x0, _) =>
 (f258 (x0, ())).bind fun v => some (v.1, x0, ())
theorem h269 (f258 : T258) : AqF (K269 f258) 1 Tryz.f269 .nil Li146 Lo147 (F269 f258) := fun v => by kernel_rfl
def C269 : T269 := F269 C258
theorem ok269 : FO 269 (E269 C269) :=
 q0 (kc ok258 kn) Tryz.func269 (h269 C258)
abbrev T253v1 := Int × Int × Int × Int × LqS × Unit → Option (Int × Int × Int × Int × Int × LqS × Unit)
def E253v1 (f : T253v1) : FEnt := ⟨Li191, Lo192, f⟩
def K253v1 (f265 : T265) (f266 : T266) (f267 : T267) (f269 : T269) := lk [(265, E265 f265), (266, E266 f266), (267, E267 f267), (269, E269 f269)]
def N253v1 : Ann := (.seq .nil (.seq (.seq .nil (.blk (.unroll 6 .nil))) .nil))
def F253v1 (f265 : T265) (f266 : T266) (f267 : T267) (f269 : T269) : T253v1 := fun (x0, x1, x2, x3, x4, _) =>
 (f265 (x4, ())).bind fun v =>
 bif v.1 then some (x0, x0, x1, x2, x3, v.2.1, ())
 else
 (f266 (v.2.1, ())).bind fun v =>
 bif v.1 then some (x1, x0, x1, x2, x3, v.2.1, ())
 else
 (f267 (v.2.1, ())).bind fun v =>
 bif v.1 then some (x2, x0, x1, x2, x3, v.2.1, ())
 else
 (f269 (v.2.1, ())).bind fun v =>
 bif v.1 then some (x3, x0, x1, x2, x3, v.2.1, ())
 else some (0, x0, x1, x2, x3, v.2.1, ())
theorem h253v1 (f265 : T265) (f266 : T266) (f267 : T267) (f269 : T269) : AqF (K253v1 f265 f266 f267 f269) 2 Tryz.f253 N253v1 Li191 Lo192 (F253v1 f265 f266 f267 f269) := fun v => by kernel_rfl
def C253v1 : T253v1 := F253v1 C265 C266 C267 C269
theorem ok253v1 : FO 253 (E253v1 C253v1) :=
 qo (kc ok265 (kc ok266 (kc ok267 (kc ok269 kn)))) Tryz.func253 trivial (h253v1 C265 C266 C267 C269)
abbrev T225 := LqS × Unit → Option (Int × Unit)
def E225 (f : T225) : FEnt := ⟨Li30, Lo10, f⟩
def K225 (f253v1 : T253v1) := lk [(253, E253v1 f253v1)]
def F225 (f253v1 : T253v1) : T225 := fun (x0, _) =>
 (f253v1 (13, 5, 8, 11, x0, ())).bind fun v => some (v.1, ())
def C225 : T225 := F225 C253v1
theorem ok225 : FO 225 (E225 C225) := zq1 Li30 Lo10 K225 F225 C253v1 (kc ok253v1 kn) Tryz.func225
abbrev T293_l0 := LqS × Int × Int × Unit → Option (Unit ⊕ (Int × Unit))
def E293_l0 (f : T293_l0) : LEnt := ⟨Li193, Lo159, f⟩
abbrev T293 := LqS × Int × Unit → Option (Int × Unit)
def E293 (f : T293) : FEnt := ⟨Li13, Lo10, f⟩
def F293_l0 : LpF (LqS × Int × Int × Unit) (Unit ⊕ (Int × Unit)) := fun (x0, x1, x2, _) =>
 bif decide (x2 ≥ 0) then
 bif decide (0 ≤ x2) && decide (x2 < (↑x0.length : Int)) then
 bif (↑(x0.getD x2.toNat 0).toNat : Int) == x1 then some (Sum.inr (Sum.inr (x2, ())))
 else some (Sum.inl (x0, x1, IntKind.i64.wrap (x2 - 1), ()))
 else none
 else some (Sum.inr (Sum.inl ()))
def C293_l0 : T293_l0 := loopN (F293_l0) big
theorem k293_l0 : LpOk 0 (subc (code Tryz.f293) [1, 0, 1, 0, 0]) (E293_l0 C293_l0) := zl0 Li193 Lo159 KqZ F293_l0 kn
def N293 (f293_l0 : T293_l0) : Ann := (.seq .nil (.seq (.seq .nil (.blk (.loop (E293_l0 f293_l0)))) .nil))
def F293 (f293_l0 : T293_l0) : T293 := fun (x0, x1, _) =>
 (f293_l0 (x0, x1, IntKind.i64.wrap ((↑x0.length : Int) - 1), ())).bind fun v =>
 Sum.elim (fun v => some (-1, ())) (fun v => some (v.1, ())) v
def C293 : T293 := F293 C293_l0
theorem ok293 : FO 293 (E293 C293) := zq0_1 Li13 Lo10 KqZ N293 F293 C293_l0 kn Tryz.func293 (And.intro k293_l0 trivial)
abbrev T270 := LqS × Int × Unit → Option (Int × Unit)
def E270 (f : T270) : FEnt := ⟨Li13, Lo10, f⟩
def K270 (f293 : T293) := lk [(293, E293 f293)]
def F270 (f293 : T293) : T270 := fun (x0, x1, _) =>
 (f293 (x0, x1, ())).bind fun v => some (v.1, ())
def C270 : T270 := F270 C293
theorem ok270 : FO 270 (E270 C270) := zq1 Li13 Lo10 K270 F270 C293 (kc ok293 kn) Tryz.func270
abbrev T294_c0 := Int × Bool × Unit → Option ((Int × Bool × Unit) ⊕ Unit)
def E294_c0 (f : T294_c0) : LEnt := ⟨Li194, Lo195, f⟩
abbrev T294_c1 := Int × Bool × Unit → Option ((Int × Bool × Unit) ⊕ Unit)
def E294_c1 (f : T294_c1) : LEnt := ⟨Li196, Lo195, f⟩
abbrev T294 := Int × Unit → Option (Int × Bool × Unit)
def E294 (f : T294) : FEnt := ⟨Li23, Lo150, f⟩
def F294_c0 : T294_c0 := fun (x0, x1, _) =>
 bif x1 then some (Sum.inl (IntKind.i64.wrap (IntKind.u8.wrap (x0 - 65)), true, ()))
 else
 bif decide (x0 ≥ 97) then
 bif decide (x0 ≤ 122) then some (Sum.inl (IntKind.i64.wrap (IntKind.u8.wrap (x0 - 97)), true, ()))
 else some (Sum.inr ())
 else some (Sum.inr ())
theorem h294_c0 : AqC KqZ 0 (subc (code Tryz.f294) [1, 0, 0, 1, 1, 1]) .nil Li194 Lo195 (F294_c0) := fun v => by kernel_rfl
def C294_c0 : T294_c0 := F294_c0
theorem k294_c0 : CdOk 0 (subc (code Tryz.f294) [1, 0, 0, 1, 1, 1]) (E294_c0 C294_c0) :=
 frc kn (h294_c0)
def N294_c1 (f294_c0 : T294_c0) : Ann := (.cond .nil (.cut .nil (E294_c0 f294_c0)))
def F294_c1 (f294_c0 : T294_c0) : T294_c1 := fun (x0, x1, _) =>
 bif x1 then some (Sum.inl (IntKind.i64.wrap (IntKind.i64.wrap (IntKind.u8.wrap (x0 - 48)) + 26), true, ()))
 else
 bif decide (x0 ≥ 65) then
 (f294_c0 (x0, decide (x0 ≤ 90), ())).bind fun v =>
 Sum.elim (fun v => some (Sum.inl (v.1, v.2.1, ()))) (fun v => some (Sum.inr ())) v
 else
 (f294_c0 (x0, false, ())).bind fun v =>
 Sum.elim (fun v => some (Sum.inl (v.1, v.2.1, ()))) (fun v => some (Sum.inr ())) v
theorem h294_c1 (f294_c0 : T294_c0) : AqC KqZ 0 (subc (code Tryz.f294) [1, 0, 0, 1]) (N294_c1 f294_c0) Li196 Lo195 (F294_c1 f294_c0) := fun v => by kernel_rfl
def C294_c1 : T294_c1 := F294_c1 C294_c0
theorem k294_c1 : CdOk 0 (subc (code Tryz.f294) [1, 0, 0, 1]) (E294_c1 C294_c1) :=
 frd kn (And.intro k294_c0 trivial) (h294_c1 C294_c0)
def N294 (f294_c1 : T294_c1) : Ann := (.seq .nil (.seq (.blk (.cut .nil (E294_c1 f294_c1))) .nil))
def F294 (f294_c1 : T294_c1) : T294 := fun (x0, _) =>
 bif decide (x0 ≥ 48) then
 (f294_c1 (x0, decide (x0 ≤ 57), ())).bind fun v =>
 Sum.elim (fun v => some (v.1, v.2.1, ())) (fun v => some (0, false, ())) v
 else
 (f294_c1 (x0, false, ())).bind fun v =>
 Sum.elim (fun v => some (v.1, v.2.1, ())) (fun v => some (0, false, ())) v
def C294 : T294 := F294 C294_c1
theorem ok294 : FO 294 (E294 C294) := zq0_1 Li23 Lo150 KqZ N294 F294 C294_c1 kn Tryz.func294 (And.intro k294_c1 trivial)
abbrev T271_l0 := LqS × Int × Int × Int × Int × Int × Unit → Option (Unit ⊕ Unit ⊕ (Int × LqS × Unit))
def E271_l0 (f : T271_l0) : LEnt := ⟨Li199, Lo200, f⟩
abbrev T271_g0 := Unit → Option (Int × LqS × Unit)
def E271_g0 (f : T271_g0) : LEnt := ⟨Li201, Lo202, f⟩
abbrev T271 := LqS × Int × Unit → Option (Int × LqS × Unit)
def E271 (f : T271) : FEnt := ⟨Li197, Lo198, f⟩
def K271 (f290 : T290) (f294 : T294) := lk [(290, E290 f290), (294, E294 f294)]
theorem kok271 : KOk Tryz.prog (K271 C290 C294) := (kc ok290 (kc ok294 kn))
def F271_l0 (f290 : T290) (f294 : T294) : LpF (LqS × Int × Int × Int × Int × Int × Unit) (Unit ⊕ Unit ⊕ (Int × LqS × Unit)) := fun (x0, x1, x2, x3, x4, x5, _) =>
 bif decide (x5 < x4) then
 bif decide (0 ≤ x5) && decide (x5 < (↑x0.length : Int)) then
 (f294 ((↑(x0.getD x5.toNat 0).toNat : Int), ())).bind fun v =>
 bif !v.2.1 then some (Sum.inr (Sum.inr (Sum.inl ())))
 else
 bif decide (x3 > 2147483647) then some (Sum.inr (Sum.inr (Sum.inl ())))
 else
 bif decide (IntKind.i64.wrap (x2 + IntKind.i64.wrap (v.1 * x3)) > 2147483647) then
 some (Sum.inr (Sum.inr (Sum.inl ())))
 else
 (f290 (IntKind.i64.wrap (36 * IntKind.i64.wrap (x5 + 1)), x1, ())).bind fun v1 =>
 bif decide (v.1 < v1.1) then
 bif
 decide (0 ≤ IntKind.i64.wrap (x5 + 1)) &&
 decide (IntKind.i64.wrap (x5 + 1) ≤ (↑x0.length : Int)) then
 some
 (Sum.inr
 (Sum.inr
 (Sum.inr
 (IntKind.i64.wrap (x2 + IntKind.i64.wrap (v.1 * x3)),
 List.drop (IntKind.i64.wrap (x5 + 1)).toNat x0, ()))))
 else none
 else
 some
 (Sum.inl
 (x0, x1, IntKind.i64.wrap (x2 + IntKind.i64.wrap (v.1 * x3)),
 IntKind.i64.wrap (x3 * IntKind.i64.wrap (36 - v1.1)), x4, IntKind.i64.wrap (x5 + 1),
 ()))
 else none
 else some (Sum.inr (Sum.inl ()))
def C271_l0 : T271_l0 := loopN (F271_l0 C290 C294) big
theorem k271_l0 : LpOk 0 (subc (code Tryz.f271) [1, 0, 1, 0, 1, 0, 0]) (E271_l0 C271_l0) := zl2 Li199 Lo200 K271 F271_l0 C290 C294 kok271
def F271_g0 (f290 : T290) (f294 : T294) : LpF (Unit) (Int × LqS × Unit) := fun (_) =>
 some (Sum.inr (-1, [], ()))
theorem h271_g0 (f290 : T290) (f294 : T294) (v : HS Li201) : aev Γ (K271 f290 f294) 0 ((findLabel (subc (code Tryz.f271) [1, 0]) 0).getD .skip) .nil (stof Li201 v) (aroundL 0 0 [] Li201 Lo202) = F271_g0 f290 f294 v := by kernel_rfl
def C271_g0 : T271_g0 := loopN (F271_g0 C290 C294) big
theorem k271_g0 : FragOk Tryz.prog 0 (ScopeFrom Tryz.prog (subc (code Tryz.f271) [1, 0]) 0) (E271_g0 C271_g0) :=
 frag_big (ins := Li201) (os := Lo202) (C := C271_g0) (frag_label (ins := Li201) (os := Lo202) (n := .nil) (ls := []) (F := F271_g0 C290 C294) (rest := ((findLabel (subc (code Tryz.f271) [1, 0]) 0).getD .skip)) hm hΓ kok271 (fun _ => big) (by kernel_rfl) (ann_nil _) find_nil (h271_g0 C290 C294)) rfl
def N271 (f271_g0 : T271_g0) (f271_l0 : T271_l0) : Ann := (.seq .nil (.scope (.seq .nil (.seq (.seq .nil (.blk (.loop (E271_l0 f271_l0)))) .nil)) [(0, (E271_g0 f271_g0))]))
def F271 (f290 : T290) (f294 : T294) (f271_g0 : T271_g0) (f271_l0 : T271_l0) : T271 := fun (x0, x1, _) =>
 (f271_l0 (x0, x1, 0, 1, (↑x0.length : Int), 0, ())).bind fun v =>
 Sum.elim (fun v => some (-1, [], ()))
 (fun v =>
 Sum.elim (fun v => (f271_g0 ()).bind fun v => some (v.1, v.2.1, ()))
 (fun v => some (v.1, v.2.1, ())) v)
 v
theorem h271 (f290 : T290) (f294 : T294) (f271_g0 : T271_g0) (f271_l0 : T271_l0) : AqF (K271 f290 f294) 0 Tryz.f271 (N271 f271_g0 f271_l0) Li197 Lo198 (F271 f290 f294 f271_g0 f271_l0) := fun v => by kernel_rfl
def C271 : T271 := F271 C290 C294 C271_g0 C271_l0
theorem ok271 : FO 271 (E271 C271) :=
 qo kok271 Tryz.func271 (And.intro k271_l0 (And.intro k271_g0 trivial)) (h271 C290 C294 C271_g0 C271_l0)
abbrev T226_l0 := LqS × Int × Int × Int × Bool × List (Int) × Unit → Option ((List (Int) × Unit) ⊕ (Bool × Unit))
def E226_l0 (f : T226_l0) : LEnt := ⟨Li204, Lo205, f⟩
abbrev T226_c0 := LqS × List (Int) × Unit → Option (Bool × List (Int) × Unit)
def E226_c0 (f : T226_c0) : LEnt := ⟨Li206, Lo207, f⟩
abbrev T226 := LqS × Unit → Option (List (Int) × Bool × Unit)
def E226 (f : T226) : FEnt := ⟨Li30, Lo203, f⟩
def K226 (f155 : T155) (f21 : T21) (f252 : T252) (f270 : T270) (f271 : T271) (f272 : T272) := lk [(155, E155 f155), (21, E21 f21), (252, E252 f252), (270, E270 f270), (271, E271 f271), (272, E272 f272)]
theorem kok226 : KOk Tryz.prog (K226 C155 C21 C252 C270 C271 C272) := (kc ok155 (kc ok21 (kc ok252 (kc ok270 (kc ok271 (kc ok272 kn))))))
def F226_l0 (f155 : T155) (f21 : T21) (f252 : T252) (f270 : T270) (f271 : T271) (f272 : T272) : LpF (LqS × Int × Int × Int × Bool × List (Int) × Unit) ((List (Int) × Unit) ⊕ (Bool × Unit)) := fun (x0, x1, x2, x3, x4, x5, _) =>
 bif !x0 == [] then
 (f271 (x0, x3, ())).bind fun v =>
 bif decide (v.1 < 0) then some (Sum.inr (Sum.inr (false, ())))
 else
 bif decide (IntKind.i64.wrap (x2 + v.1) > 2147483647) then some (Sum.inr (Sum.inr (false, ())))
 else
 (f252 (v.1, IntKind.i64.wrap ((↑x5.length : Int) + 1), x4, ())).bind fun v1 =>
 bif IntKind.i64.wrap ((↑x5.length : Int) + 1) != 0 then
 bif
 decide
 (IntKind.i64.wrap
 (x1 +
 IntKind.i64.wrap
 ((IntKind.i64.wrap (x2 + v.1)).tdiv (IntKind.i64.wrap ((↑x5.length : Int) + 1)))) >
 1114111) then
 some (Sum.inr (Sum.inr (false, ())))
 else
 (f155
 (IntKind.i32.wrap
 (IntKind.i64.wrap
 (x1 +
 IntKind.i64.wrap
 ((IntKind.i64.wrap (x2 + v.1)).tdiv (IntKind.i64.wrap ((↑x5.length : Int) + 1))))),
 ())).bind
 fun v2 =>
 bif !v2.1 then some (Sum.inr (Sum.inr (false, ())))
 else
 bif IntKind.i64.wrap ((↑x5.length : Int) + 1) != 0 then
 (f272
 ((IntKind.i64.wrap (x2 + v.1)).tmod (IntKind.i64.wrap ((↑x5.length : Int) + 1)), x5,
 [IntKind.i32.wrap
 (IntKind.i64.wrap
 (x1 +
 IntKind.i64.wrap
 ((IntKind.i64.wrap (x2 + v.1)).tdiv
 (IntKind.i64.wrap ((↑x5.length : Int) + 1)))))],
 ())).bind
 fun v3 =>
 some
 (Sum.inl
 (v.2.1,
 IntKind.i64.wrap
 (x1 +
 IntKind.i64.wrap
 ((IntKind.i64.wrap (x2 + v.1)).tdiv (IntKind.i64.wrap ((↑x5.length : Int) + 1)))),
 IntKind.i64.wrap
 ((IntKind.i64.wrap (x2 + v.1)).tmod (IntKind.i64.wrap ((↑x5.length : Int) + 1)) + 1),
 v1.1, false, v3.1, ()))
 else none
 else none
 else some (Sum.inr (Sum.inl (x5, ())))
theorem h226_l0 (f155 : T155) (f21 : T21) (f252 : T252) (f270 : T270) (f271 : T271) (f272 : T272) : AqL (K226 f155 f21 f252 f270 f271 f272) 0 (subc (code Tryz.f226) [1, 1, 1, 1, 1, 0, 1, 0, 0]) .nil Li204 Lo205 (F226_l0 f155 f21 f252 f270 f271 f272) := fun v => by kernel_rfl
def C226_l0 : T226_l0 := loopN (F226_l0 C155 C21 C252 C270 C271 C272) big
theorem k226_l0 : LpOk 0 (subc (code Tryz.f226) [1, 1, 1, 1, 1, 0, 1, 0, 0]) (E226_l0 C226_l0) :=
 frl kok226 (h226_l0 C155 C21 C252 C270 C271 C272)
def N226_c0 (f226_l0 : T226_l0) : Ann := (.seq .nil (.seq (.seq .nil (.blk (.loop (E226_l0 f226_l0)))) .nil))
def F226_c0 (f155 : T155) (f21 : T21) (f252 : T252) (f270 : T270) (f271 : T271) (f272 : T272) (f226_l0 : T226_l0) : T226_c0 := fun (x0, x1, _) =>
 (f226_l0 (x0, 128, 0, 72, true, x1, ())).bind fun v =>
 Sum.elim (fun v => some (true, v.1, ())) (fun v => some (v.1, [], ())) v
theorem h226_c0 (f155 : T155) (f21 : T21) (f252 : T252) (f270 : T270) (f271 : T271) (f272 : T272) (f226_l0 : T226_l0) : AqC (K226 f155 f21 f252 f270 f271 f272) 0 (subc (code Tryz.f226) [1, 1, 1, 1]) (N226_c0 f226_l0) Li206 Lo207 (F226_c0 f155 f21 f252 f270 f271 f272 f226_l0) := fun v => by kernel_rfl
def C226_c0 : T226_c0 := F226_c0 C155 C21 C252 C270 C271 C272 C226_l0
theorem k226_c0 : CdOk 0 (subc (code Tryz.f226) [1, 1, 1, 1]) (E226_c0 C226_c0) :=
 frd kok226 (And.intro k226_l0 trivial) (h226_c0 C155 C21 C252 C270 C271 C272 C226_l0)
def N226 (f226_c0 : T226_c0) : Ann := (.seq .nil (.seq .nil (.seq .nil (.cut .nil (E226_c0 f226_c0)))))
def F226 (f155 : T155) (f21 : T21) (f252 : T252) (f270 : T270) (f271 : T271) (f272 : T272) (f226_c0 : T226_c0) : T226 := fun (x0, _) =>
 (f21 (x0, ())).bind fun v =>
 bif decide (v.1 ≥ 0) then some ([], false, ())
 else
 (f270 (x0, 45, ())).bind fun v =>
 bif decide (v.1 > 0) then
 bif decide (0 ≤ v.1) && decide (v.1 ≤ (↑x0.length : Int)) then
 bif
 decide ((List.take (Int.toNat v.1) x0).length ≤ 70368744177664) &&
 (List.take (Int.toNat v.1) x0).all fun b => decide (b.toNat < 128) then
 bif
 decide (0 ≤ IntKind.i64.wrap (v.1 + 1)) &&
 decide (IntKind.i64.wrap (v.1 + 1) ≤ (↑x0.length : Int)) then
 (f226_c0
 (List.drop (IntKind.i64.wrap (v.1 + 1)).toNat x0,
 List.map (fun b => (↑b.toNat : Int)) (List.take (Int.toNat v.1) x0), ())).bind
 fun v => some (v.2.1, v.1, ())
 else none
 else none
 else none
 else (f226_c0 (x0, [], ())).bind fun v => some (v.2.1, v.1, ())
theorem h226 (f155 : T155) (f21 : T21) (f252 : T252) (f270 : T270) (f271 : T271) (f272 : T272) (f226_c0 : T226_c0) : AqF (K226 f155 f21 f252 f270 f271 f272) 0 Tryz.f226 (N226 f226_c0) Li30 Lo203 (F226 f155 f21 f252 f270 f271 f272 f226_c0) := fun v => by kernel_rfl
def C226 : T226 := F226 C155 C21 C252 C270 C271 C272 C226_c0
theorem ok226 : FO 226 (E226 C226) :=
 qo kok226 Tryz.func226 (And.intro k226_c0 trivial) (h226 C155 C21 C252 C270 C271 C272 C226_c0)
abbrev T192 := LqA × LqB × LqC × LqS × Unit → Option (LqS × LqS × Int × Unit)
def E192 (f : T192) : FEnt := ⟨Li17, Lo18, f⟩
def K192 (f132 : T132) (f151 : T151) (f178 : T178) (f21 : T21) (f223 : T223) (f224 : T224) (f225 : T225) (f226 : T226) (f83 : T83) := lk [(132, E132 f132), (151, E151 f151), (178, E178 f178), (21, E21 f21), (223, E223 f223), (224, E224 f224), (225, E225 f225), (226, E226 f226), (83, E83 f83)]
def F192 (f132 : T132) (f151 : T151) (f178 : T178) (f21 : T21) (f223 : T223) (f224 : T224) (f225 : T225) (f226 : T226) (f83 : T83) : T192 := fun (x0, x1, x2, x3, _) =>
 (f151 (x0, x1, x2, x3, ())).bind fun v =>
 (f132 (v.1, [120, 110, 45, 45], ())).bind fun v1 =>
 bif !v.2.1 then some ([], [], 7, ())
 else
 (f21 (v.1, ())).bind fun v2 =>
 bif decide (v2.1 ≥ 0) then
 (f83 (v.1, ())).bind fun v3 =>
 (f223 (v3.1, ())).bind fun v4 =>
 bif decide ([120, 110, 45, 45].length + List.length v4.1 ≤ 9223372036854775807) then
 (f224 (x0, x1, x2, v.1, ())).bind fun v5 =>
 some ([120, 110, 45, 45] ++ v4.1, v.1, v5.1, ())
 else none
 else
 bif !v1.2.1 then (f225 (v.1, ())).bind fun v3 => some (v.1, v.1, v3.1, ())
 else
 (f226 (v1.1, ())).bind fun v3 =>
 bif !v3.2.1 then some ([], [], 12, ())
 else
 bif decide ((↑(List.length v.1) : Int) > 63) then some ([], [], 5, ())
 else
 (f178 (v3.1, ())).bind fun v4 =>
 (f224 (x0, x1, x2, v4.1, ())).bind fun v5 =>
 bif v5.1 != 0 then some ([], [], v5.1, ())
 else
 (f223 (v3.1, ())).bind fun v6 =>
 bif !v6.1 == v1.1 then some ([], [], 12, ())
 else some (v.1, v4.1, 0, ())
theorem h192 (f132 : T132) (f151 : T151) (f178 : T178) (f21 : T21) (f223 : T223) (f224 : T224) (f225 : T225) (f226 : T226) (f83 : T83) : AqF (K192 f132 f151 f178 f21 f223 f224 f225 f226 f83) 0 Tryz.f192 .nil Li17 Lo18 (F192 f132 f151 f178 f21 f223 f224 f225 f226 f83) := fun v => by kernel_rfl
def C192 : T192 := F192 C132 C151 C178 C21 C223 C224 C225 C226 C83
theorem ok192 : FO 192 (E192 C192) :=
 q0 (kc ok132 (kc ok151 (kc ok178 (kc ok21 (kc ok223 (kc ok224 (kc ok225 (kc ok226 (kc ok83 kn))))))))) Tryz.func192 (h192 C132 C151 C178 C21 C223 C224 C225 C226 C83)
abbrev T159 := LqA × LqB × LqC × LqS × Unit → Option (LqS × Int × Unit)
def E159 (f : T159) : FEnt := ⟨Li17, Lo208, f⟩
def K159 (f192 : T192) := lk [(192, E192 f192)]
def F159 (f192 : T192) : T159 := fun (x0, x1, x2, x3, _) =>
 (f192 (x0, x1, x2, x3, ())).bind fun v =>
 bif v.2.2.1 != 0 then some ([], v.2.2.1, ()) else some (v.1, 0, ())
def C159 : T159 := F159 C192
theorem ok159 : FO 159 (E159 C159) := zq1 Li17 Lo208 K159 F159 C192 (kc ok192 kn) Tryz.func159
abbrev T160 := LqA × LqB × LqC × LqS × Unit → Option (LqS × Int × Unit)
def E160 (f : T160) : FEnt := ⟨Li17, Lo208, f⟩
def K160 (f192 : T192) := lk [(192, E192 f192)]
def F160 (f192 : T192) : T160 := fun (x0, x1, x2, x3, _) =>
 (f192 (x0, x1, x2, x3, ())).bind fun v =>
 bif v.2.2.1 != 0 then some ([], v.2.2.1, ()) else some (v.2.1, 0, ())
def C160 : T160 := F160 C192
theorem ok160 : FO 160 (E160 C160) := zq1 Li17 Lo208 K160 F160 C192 (kc ok192 kn) Tryz.func160
abbrev T162 := LqS × Int × Unit → Option (Int × Unit)
def E162 (f : T162) : FEnt := ⟨Li13, Lo10, f⟩
def K162 (f196 : T196) := lk [(196, E196 f196)]
def F162 (f196 : T196) : T162 := fun (x0, x1, _) =>
 (f196 (x0, x1, ())).bind fun v => some (v.1, ())
def C162 : T162 := F162 C196
theorem ok162 : FO 162 (E162 C162) := zq1 Li13 Lo10 K162 F162 C196 (kc ok196 kn) Tryz.func162
abbrev T197_c0 := LqS × LqS × Int × Bool × Unit → Option (Int × Unit)
def E197_c0 (f : T197_c0) : LEnt := ⟨Li209, Lo210, f⟩
abbrev T197 := LqS × LqS × Unit → Option (Int × Unit)
def E197 (f : T197) : FEnt := ⟨Li114, Lo10, f⟩
def K197 (f162 : T162) := lk [(162, E162 f162)]
theorem kok197 : KOk Tryz.prog (K197 C162) := (kc ok162 kn)
def F197_c0 (f162 : T162) : T197_c0 := fun (x0, x1, x2, x3, _) =>
 bif x3 then some (0, ())
 else
 bif x2 == 1 then
 bif decide (0 < (↑x1.length : Int)) then
 (f162 (x0, (↑(x1.getD 0 0).toNat : Int), ())).bind fun v => some (v.1, ())
 else none
 else bif decide (x2 ≥ (↑x0.length : Int)) then some (-1, ()) else none
def C197_c0 : T197_c0 := F197_c0 C162
theorem k197_c0 : CdOk 0 (subc (code Tryz.f197) [1, 1, 0, 0, 1]) (E197_c0 C197_c0) := zc1 Li209 Lo210 K197 F197_c0 C162 kok197
def N197 (f197_c0 : T197_c0) : Ann := (.seq .nil (.seq .nil (.seq (.blk (.cut .nil (E197_c0 f197_c0))) .nil)))
def F197 (f162 : T162) (f197_c0 : T197_c0) : T197 := fun (x0, x1, _) =>
 bif (↑x1.length : Int) == 0 then
 (f197_c0 (x0, x1, (↑x1.length : Int), true, ())).bind fun v => some (v.1, ())
 else (f197_c0 (x0, x1, (↑x1.length : Int), x1 == x0, ())).bind fun v => some (v.1, ())
def C197 : T197 := F197 C162 C197_c0
theorem ok197 : FO 197 (E197 C197) := zq1_1 Li114 Lo10 K197 N197 F197 C162 C197_c0 kok197 Tryz.func197 (And.intro k197_c0 trivial)
abbrev T163 := LqS × LqS × Unit → Option (LqS × LqS × Bool × Unit)
def E163 (f : T163) : FEnt := ⟨Li114, Lo211, f⟩
def K163 (f197 : T197) := lk [(197, E197 f197)]
def F163 (f197 : T197) : T163 := fun (x0, x1, _) =>
 (f197 (x0, x1, ())).bind fun v =>
 bif decide (v.1 ≥ 0) then
 bif decide (0 ≤ v.1) && decide (v.1 ≤ (↑x0.length : Int)) then
 bif
 decide (0 ≤ IntKind.i64.wrap (v.1 + (↑x1.length : Int))) &&
 decide (IntKind.i64.wrap (v.1 + (↑x1.length : Int)) ≤ (↑x0.length : Int)) then
 some
 (List.take (Int.toNat v.1) x0, List.drop (IntKind.i64.wrap (v.1 + (↑x1.length : Int))).toNat x0, true,
 ())
 else none
 else none
 else some (x0, [], false, ())
def C163 : T163 := F163 C197
theorem ok163 : FO 163 (E163 C163) := zq1 Li114 Lo211 K163 F163 C197 (kc ok197 kn) Tryz.func163
abbrev T129 := LqS × LqS × Unit → Option (LqS × LqS × Bool × Unit)
def E129 (f : T129) : FEnt := ⟨Li114, Lo211, f⟩
def K129 (f163 : T163) := lk [(163, E163 f163)]
def F129 (f163 : T163) : T129 := fun (x0, x1, _) =>
 (f163 (x0, x1, ())).bind fun v => some (v.1, v.2.1, v.2.2.1, ())
def C129 : T129 := F129 C163
theorem ok129 : FO 129 (E129 C129) := zq1 Li114 Lo211 K129 F129 C163 (kc ok163 kn) Tryz.func129
end Go.Proofs.YtiacnhhmkdkpmaaGreatDoorA.W
namespace Go.Proofs.YtiacnhhmkdkpmaaGreatDoorA.W
open Go Go.Ae Go.RowKit
attribute [local go_sem] Oper.semAt_some
theorem cut_call {s sep l r : List UInt8} {ok : Bool} (h : C129 (s, sep, ()) = some (l, r, ok, ())) {w : World} (hg : GI w m0) :
 Calls Tryz.prog 129 #[.string ⟨⟨s⟩⟩, .string ⟨⟨sep⟩⟩] w fun e w' => e = .returned (.tuple #[.string ⟨⟨l⟩⟩, .string ⟨⟨r⟩⟩, .bool ok]) ∧ Below w.heap.size w w' := by
 refine (FnOk.call0 (v := (s, sep, ())) (y := (l, r, ok, ())) ok129 Tryz.func129 (by kernel_rfl) (by kernel_rfl) hg (fun _ h => h.elim) rfl ⟨_, _, rfl, rfl, _, _, rfl, rfl, rfl⟩ rfl h ?_).mono fun e w' ⟨rv, h1, h2, ax, l', u, h3, h4⟩ => ?_
 · intro ax l' u h3
   cases osel_one_inv h3
   rfl
 · cases osel_one_inv h3
   obtain ⟨v, r', e1, ⟨a, e2, e3⟩, e4⟩ := h4
   have e4' : r' = [] := e4
   subst e4'
   cases e1
   subst h1 e2
   refine ⟨?_, h2⟩
   obtain ⟨v1, q1, f1, rfl, v2, q2, f2, rfl, v3, q3, f3, rfl, f4⟩ := e3
   have f4' : q3 = [] := f4
   subst f4' f3 f2
   cases a
   cases f1
   rfl
def partsC : Nat → List UInt8 → Option (List (List UInt8))
 | 0, _ => none
 | n + 1, s => (C129 (s, [46], ())).bind fun a => bif a.2.2.1 then (partsC n a.2.1).map (a.1 :: ·) else some [a.1]
theorem box_of_block {W W' : World} {b : Nat} {t : TypeId} {v : Value} (h : Boxed W b t v) (hk : W'.heap[b]? = W.heap[b]?) : Boxed W' b t v := hk.trans h
set_option maxHeartbeats 4000000 in
theorem parts_seq (n : Nat) (hn : 1 ≤ n) (Bs : Nat) (s : List UInt8) (xs : List (List UInt8)) (N : Nat) (hxs : partsC N s = some xs) (w : World) (hb : Boxed w Bs 9 (.string ⟨⟨s⟩⟩)) (hg : GI w m0) (hnb : ∀ b ∈ GlobB, b ≠ Bs) :
 SeqD Fence.wide n Tryz.prog 222 #[.pointer (some ⟨Bs, 0, none⟩)] (fun x : List UInt8 => #[.string ⟨⟨x⟩⟩]) (fun b => b = Bs ∨ b ∈ GlobB) Bs xs w := by
 intro l J Jx W hW hJ hJx hY h0
 have hb' : Boxed W Bs 9 (.string ⟨⟨s⟩⟩) := (hW.block Bs hb.lt).trans hb
 have hg' : GI W m0 := gi_below hg hW
 refine callsIn_of_wp Tryz.func222 rfl trivial ?_ rfl
 simp only [Tryz.ntmps222, List.size_toArray, List.length_cons, List.length_nil, Nat.reduceAdd, Nat.reduceSub, Array.replicate_succ, Array.replicate_zero, List.push_toArray, List.append_toArray, List.nil_append, List.cons_append]
 gi_wp2
 gi_loopg [] N (fun k wr => ∃ (pre t : List (List UInt8)) (rest : List UInt8), xs = pre ++ t ∧ partsC k rest = some t ∧ J pre wr ∧ Boxed wr Bs 9 (.string ⟨⟨rest⟩⟩) ∧ GI wr m0)
 case atStart => exact ⟨[], xs, s, rfl, hxs, h0, hb', hg'⟩
 case round =>
  rename_i JJ KK hJJ hKK
  obtain ⟨pre, t, rest, hx, hp, hJs, hbx, hgr⟩ := hrel
  cases gk with
  | zero => cases hp
  | succ k =>
   simp only [partsC] at hp
   obtain ⟨⟨lf, rt, ok, u⟩, hc, hp2⟩ := Option.bind_eq_some_iff.1 hp
   simp only at hp2
   have hcell := hbx.cell
   have hpre : pre ++ [lf] <+: xs := by
    rw [hx]
    cases ok with
    | true =>
     obtain ⟨t', h1, rfl⟩ := Option.map_eq_some_iff.1 hp2
     exact ⟨t', by simp⟩
    | false =>
     have : t = [lf] := (Option.some.inj hp2).symm
     exact ⟨[], by simp [this]⟩
   gi_wp2_with (refine ⟨trivial, ?_⟩; gi_at_call 129; refine (callsIn_wide.2 (cut_call hc hgr)).mono ?_; rintro e w' ⟨rfl, hbel⟩; obtain ⟨fn, tmps, assign, body, hy, hR⟩ := hY pre lf w' hpre (hJ _ _ _ hJs (Oth.of_below hbel)))
   refine hR.mono ?_
   rintro e W3 (⟨rfl, hJ3, hs3, hk3⟩ | ⟨rfl, hJx3⟩)
   · have hbx3 : Boxed W3 Bs 9 (.string ⟨⟨rest⟩⟩) := (hk3 Bs (.inl rfl)).trans ((hbel.block Bs hbx.lt).trans hbx)
     have hg3 : GI W3 m0 := gi_keep (gi_below hgr hbel) hs3 fun b hb => hk3 b (.inr hb)
     have hc3 := hbx3.cell
     have hf3 := hbx3.frozen
     cases ok with
     | true =>
      obtain ⟨t', h1, rfl⟩ := Option.map_eq_some_iff.1 hp2
      gi_wp2
      gi_roundg k
      case rel => exact ⟨pre ++ [lf], t', rt, by simp [hx], h1, hJ _ _ _ hJ3 (Oth.set Bs 0 W3 _), Boxed.set _ hbx3, gi_keep hg3 (by simp) fun b hb => Below.heap_setCell _ _ _ _ (hnb b hb)⟩
      case measure => omega
     | false =>
      have ht : t = [lf] := (Option.some.inj hp2).symm
      subst ht
      gi_wp2
      refine bodyPost_ret (results_none rfl _ _ _) rfl ?_
      exact ⟨⟨_, rfl⟩, .inl (hx ▸ hJ3)⟩
   · gi_wp2
     refine bodyPost_ret (results_none rfl _ _ _) rfl ?_
     exact ⟨⟨_, rfl⟩, .inr ⟨_, hpre, hJx3⟩⟩
def encS (x : List UInt8) : Value := .string ⟨⟨x⟩⟩
theorem ownsRow_oth {N Bs base : Nat} {A B : World} {e : TypeId} {size k : Nat} {v : Value} {xs : List Value} (hBs : Bs < base) (h : A.ownsRow base e size v k xs) (ho : OthR N Bs A B) : B.ownsRow base e size v k xs := by
 refine ⟨h.1, ?_⟩
 rcases h.2 with h | ⟨g, cap, cur, e1, h2, h3, h4⟩
 · exact .inl h
 · exact .inr ⟨g, cap, cur, e1, h2, ho.keep g _ h3 (by omega) (.inr rfl), h4⟩
theorem oth_othR {N Bs : Nat} {W0 A B : World} (hN : W0.heap.size ≤ N) (h : Oth Bs W0 A) (ho : OthR N Bs A B) : Oth Bs W0 B :=
 ⟨ho.os.trans h.os, ho.tape.trans h.tape, ho.output.trans h.output, Nat.le_trans h.size ho.size, fun b hb hne => by
  have h1 := h.keep b hb hne
  obtain ⟨o, h2⟩ : ∃ o, W0.heap[b]? = some o := ⟨_, Array.getElem?_eq_getElem hb⟩
  rw [h2] at h1 ⊢
  exact ho.keep b o h1 hne (.inl (by omega))⟩
theorem info_string : (Tryz.prog.info? 9).map (fun i => (i.zero, i.size, i.bytes)) = some (some (.string ⟨#[]⟩), 1, 16) := by kernel_rfl
set_option maxHeartbeats 4000000 in
theorem gather_walk (gf : Nat) (hgf : ∀ args w, (callFunc gf args).run Tryz.prog w = .ok (.enter gf args) w) (Bs : Nat) (xs : List (List UInt8)) (w : World) (hBs : Bs < w.heap.size) (hg : GI w m0) (hlen : xs.length ≤ 1000000000000)
 (hseq : ∀ W, Below w.heap.size w W → SeqD Fence.wide 2 Tryz.prog gf #[.pointer (some ⟨Bs, 0, none⟩)] (fun x : List UInt8 => #[Value.string ⟨⟨x⟩⟩]) (fun b => b = Bs ∨ b ∈ GlobB) Bs xs W) :
 CallsIn Fence.wide 3 Tryz.prog 221 #[.slice none 0 0, .func (.func gf) #[] #[.pointer (some ⟨Bs, 0, none⟩)]] w fun e W' =>
  ∃ v, e = .returned v ∧ W'.ownsRow w.heap.size 9 1 v xs.length (xs.map encS) ∧ Oth Bs w W' := by
 obtain ⟨i0, hi, hz0, hz1, hz2⟩ := info_parts info_string
 refine callsIn_of_wp_marks Tryz.func221 rfl trivial ?_ rfl
 simp only [Tryz.ntmps221, List.size_toArray, List.length_cons, List.length_nil, Nat.reduceAdd, Nat.reduceSub, Array.replicate_succ, Array.replicate_zero, List.push_toArray, List.append_toArray, List.nil_append, List.cons_append]
 gi_wp2
 have hB0 : Below w.heap.size w (w.alloc (.cells #[.slice none 0 0] 89)) := (Below.refl _ w).alloc (Nat.le_refl _) _
 refine wpIn_rangeFunc_dir (F := Fence.wide) rfl (by omega) (gf := gf) (lb := #[.pointer (some ⟨Bs, 0, none⟩)]) rfl trivial hgf (hseq _ hB0)
  (by rintro b (rfl | hb); · (rw [World.size_alloc]; omega)
      · (have := (hg.b b hb).1; rw [World.size_alloc]; omega)) (by rw [World.size_alloc]; omega) (fun _ => rfl)
  (fun pre W => (∃ v, Boxed W w.heap.size 89 v ∧ W.ownsRow w.heap.size 9 1 v pre.length (pre.map encS)) ∧ Oth Bs w W)
  (fun _ _ _ => False)
  (fun s A B hs ho => by
   obtain ⟨⟨v, h1, h2⟩, h3⟩ := hs
   exact ⟨⟨v, boxed_oth h1 (by omega) ho, ownsRow_oth hBs h2 ho⟩, oth_othR (by rw [World.size_alloc]; omega) h3 ho⟩)
  (fun _ _ _ _ hs _ => hs)
  ⟨⟨_, Boxed.new _ _ _, World.ownsRow_nil _ _ _ _⟩, Oth.of_below hB0⟩
  (fun x => { tmps := #[.slice none 0 0, .func (.func gf) #[] #[.pointer (some ⟨Bs, 0, none⟩)], .pointer (some ⟨w.heap.size, 0, none⟩), undef, .slice none 0 0, .string ⟨⟨x⟩⟩, .func (.func gf) #[] #[.pointer (some ⟨Bs, 0, none⟩)], .string ⟨⟨x⟩⟩, undef, undef, undef, undef, undef], defers := [] }) ?assign ?body ?done ?stop
 case assign =>
  intro l x W K hK
  gi_wp2
  exact hK
 case body =>
  rintro l pre x W hsz hpre ⟨⟨v, hv, hrow⟩, hoth⟩
  have hc := hv.cell
  have hpl : pre.length < xs.length := by have := hpre.length_le; simp at this; omega
  have hsz2 := hoth.size
  gi_wp2_with (gi_at_builtin; refine wpListIn_append_own _ rfl _ _ 89 rfl w.heap.size 9 i0 (.string ⟨#[]⟩) 1 16 Tryz.underlying89 hi hz0 hz1 hz2 rfl (by decide) _ _ _ rfl (hrow.alloc _) ⟨W.heap.size, 0, none⟩ 1 1 [.string ⟨⟨x⟩⟩] rfl rfl (cell_one_new _ _ _) (by simp [Value.oneCell']) (by simp only [maxLen]; omega) (by omega) (by simp; omega) ?_; intro v' w1 hown' hgrow _; obtain ⟨g', cap', rfl⟩ := ownsRow_succ hown'; obtain ⟨hv1, hv2, hr2, hk2, hb2⟩ := hv.appended (by decide) hrow hsz2 (Nat.le_refl _) hown' hgrow; have hc1 := hv1.cell; have hf1 := hv1.frozen)
  exact ⟨hk2.from _, fun b hb => hb2.block b (by
   rcases hb with rfl | hb
   · exact hBs
   · exact (hg.b b hb).1), ⟨_, hv2, by simpa [encS] using hr2⟩, hb2.os.trans hoth.os, hb2.tape.trans hoth.tape, hb2.output.trans hoth.output, Nat.le_trans hoth.size hb2.size, fun b hb hne => (hb2.block b hb).trans (hoth.keep b hb hne)⟩
 case done =>
  rintro D W hD ⟨⟨v, hv, hrow⟩, hoth⟩ hK
  have hc := hv.cell
  gi_wp2
  refine ⟨by simp, .inl ⟨_, _, rfl, run_takeDeferred hK, ?_⟩⟩
  have hD' : w.heap.size + 1 ≤ D := by rw [World.size_alloc] at hD; exact hD
  exact ⟨_, results_tmp rfl _ _ _, v, rfl, ownsRow_putObj hrow _ hK rfl, hoth.os, hoth.tape, hoth.output, by simpa [World.putObj] using hoth.size, fun b hb hne => (World.putObj_heap_other (by omega)).trans (hoth.keep b hb hne)⟩
 case stop =>
  rintro D c pre W _ _ h _
  exact h.elim
set_option maxHeartbeats 4000000 in
theorem parts_mk (s : List UInt8) (w : World) : Calls Tryz.prog 190 #[.string ⟨⟨s⟩⟩] w fun e w' => e = .returned (.func (.func 222) #[] #[.pointer (some ⟨w.heap.size, 0, none⟩)]) ∧ w' = w.alloc (.cells #[.string ⟨⟨s⟩⟩] 9) := by
 go_enter Tryz.func190, Tryz.ntmps190
 go_wp2
 go_returns
 exact ⟨rfl, rfl⟩
theorem collect_call (gf Bs : Nat) (hgf : ∀ args w, (callFunc gf args).run Tryz.prog w = .ok (.enter gf args) w) (xs : List (List UInt8)) (w : World) (hBs : Bs < w.heap.size) (hg : GI w m0) (hlen : xs.length ≤ 1000000000000)
 (hseq : ∀ W, Below w.heap.size w W → SeqD Fence.wide 2 Tryz.prog gf #[.pointer (some ⟨Bs, 0, none⟩)] (fun x : List UInt8 => #[Value.string ⟨⟨x⟩⟩]) (fun b => b = Bs ∨ b ∈ GlobB) Bs xs W) :
 Calls Tryz.prog 189 #[.func (.func gf) #[] #[.pointer (some ⟨Bs, 0, none⟩)]] w fun e W' =>
  ∃ v, e = .returned v ∧ W'.ownsRow w.heap.size 9 1 v xs.length (xs.map encS) ∧ Oth Bs w W' := by
 go_enter Tryz.func189, Tryz.ntmps189
 go_wp2_with (go_at_call 221; refine (callsIn_wide.1 (gather_walk gf hgf Bs xs w hBs hg hlen hseq)).mono ?_; rintro e W' ⟨v, rfl, h1, h2⟩)
 go_returns
 exact ⟨v, rfl, h1, h2⟩
def labelsF (f : List UInt8) (ok : Bool) : Option (List (List UInt8) × Int) :=
 bif !ok then some ([], 7) else bif f.isEmpty then some ([], 13) else
 bif decide (f.length ≤ 1000000000) then
  (partsC (f.length + 2) (Lib.replaceAll f [227, 128, 130] [46])).bind fun ps => bif decide (ps.length ≤ 1000000000000) then (bif decide (32 < ps.length) then some ([], 2) else some (ps, 0)) else none
 else none
theorem max_len {w : World} (hg : GI w m0) : ∃ m, w.cell? ⟨2, 0, none⟩ = some (.int .i64 m) := by first | exact hg.i | exact hg.i.1
theorem replace_call (f : List UInt8) (hf : f.length ≤ 1000000000) (w : World) (hg : GI w m0) :
 Calls Tryz.prog 188 #[.string ⟨⟨f⟩⟩, .string ⟨#[227, 128, 130]⟩, .string ⟨#[46]⟩] w fun e w' => e = .returned (.string ⟨⟨Lib.replaceAll f [227, 128, 130] [46]⟩⟩) ∧ Below w.heap.size w w' := by
 obtain ⟨m, hm⟩ := max_len hg
 have hcnt := Lib.count_le f [227, 128, 130]
 refine (Go.Proofs.Any.strings_ReplaceAll Tryz.lays155 Tryz.Builder_Extra_155 ⟨⟨f⟩⟩ ⟨#[227, 128, 130]⟩ ⟨#[46]⟩ m w ?_ hm ?_ ?_).mono ?_
 · show f.length < _
   omega
 · decide
 · show f.length + Lib.count f [227, 128, 130] * 1 ≤ _
   omega
 · rintro e w' ⟨h1, h2⟩
   exact ⟨h1, h2⟩
theorem below_oth {Bs B : Nat} {A W W' : World} (h : Below B A W) (hB : B ≤ W.heap.size) (hBs : B ≤ Bs) (ho : Oth Bs W W') : Below B A W' :=
 h.trans ⟨ho.os, ho.tape, ho.output, ho.size, fun k hk => ho.keep k (by omega) (by omega)⟩
theorem row_slice {W : World} {base : Nat} {e : TypeId} {v : Value} {n : Nat} {xs : List Value} (h : W.ownsRow base e 1 v n xs) : ∃ a cap, v = .slice a n cap := by
 rcases h.2 with ⟨h1, h2⟩ | ⟨g, cap, cur, h1, _⟩
 · subst h2; exact ⟨_, _, h1⟩
 · exact ⟨_, _, h1⟩
set_option maxHeartbeats 4000000 in
theorem labels_walk (v0 v1 v2 v3 v4 : Value) (s f : List UInt8) (ok : Bool) (ls : List (List UInt8)) (c : Int) (w : World) (hg : GI w m0) (hC : labelsF f ok = some (ls, c))
 (hfold : ∀ W, Below w.heap.size w W → Calls Tryz.prog 151 #[.agg #[v0, v1, v2, v3, v4], .string ⟨⟨s⟩⟩] W fun e W' => e = .returned (.tuple #[.string ⟨⟨f⟩⟩, .bool ok]) ∧ Below W.heap.size W W') :
 Calls Tryz.prog 157 #[.agg #[v0, v1, v2, v3, v4], .string ⟨⟨s⟩⟩] w fun e w' => ∃ v, e = .returned (.tuple #[v, .int .i64 c]) ∧ Below w.heap.size w w' ∧ w'.ownsRow w.heap.size 9 1 v ls.length (ls.map encS) := by
 have hW0 : Below w.heap.size w (w.alloc (.cells #[v0, v1, v2, v3, v4] 39)) := (Below.refl _ w).alloc (Nat.le_refl _) _
 have hF := hfold _ hW0
 clear hfold
 cases ok with
 | false =>
  have hC' : (([] : List (List UInt8)), (7 : Int)) = (ls, c) := Option.some.inj hC
  cases hC'
  go_enter Tryz.func157, Tryz.ntmps157
  go_wp2_with (go_at_call 151; refine hF.mono ?_; rintro e w1 ⟨rfl, hb1⟩)
  go_returns
  exact ⟨_, rfl, hW0.trans (hb1.mono hW0.size), World.ownsRow_nil _ _ _ _⟩
 | true =>
  cases f with
  | nil =>
   have hC' : (([] : List (List UInt8)), (13 : Int)) = (ls, c) := Option.some.inj hC
   cases hC'
   go_enter Tryz.func157, Tryz.ntmps157
   go_wp2_with (go_at_call 151; refine hF.mono ?_; rintro e w1 ⟨rfl, hb1⟩)
   go_returns
   exact ⟨_, rfl, hW0.trans (hb1.mono hW0.size), World.ownsRow_nil _ _ _ _⟩
  | cons f0 f1 =>
   have hC1 : (bif decide ((f0 :: f1).length ≤ 1000000000) then
    (partsC ((f0 :: f1).length + 2) (Lib.replaceAll (f0 :: f1) [227, 128, 130] [46])).bind fun ps => bif decide (ps.length ≤ 1000000000000) then (bif decide (32 < ps.length) then some (([] : List (List UInt8)), (2 : Int)) else some (ps, 0)) else none
    else none) = some (ls, c) := hC
   rcases cond_some hC1 with ⟨hlen, hC2⟩ | ⟨_, hC2⟩
   case inr => cases hC2
   have hlen' := of_decide_eq_true hlen
   obtain ⟨ps, hps, hC3⟩ := Option.bind_eq_some_iff.1 hC2
   rcases cond_some hC3 with ⟨hl2, hC4⟩ | ⟨_, hC4⟩
   case inr => cases hC4
   have hl2' := of_decide_eq_true hl2
   have hcc : ∀ W : World, GI W m0 → Calls Tryz.prog 189 #[.func (.func 222) #[] #[.pointer (some ⟨W.heap.size, 0, none⟩)]] (W.alloc (.cells #[.string ⟨⟨Lib.replaceAll (f0 :: f1) [227, 128, 130] [46]⟩⟩] 9)) fun e W' =>
    ∃ v, e = .returned v ∧ W'.ownsRow (W.alloc (.cells #[.string ⟨⟨Lib.replaceAll (f0 :: f1) [227, 128, 130] [46]⟩⟩] 9)).heap.size 9 1 v ps.length (ps.map encS) ∧ Oth W.heap.size (W.alloc (.cells #[.string ⟨⟨Lib.replaceAll (f0 :: f1) [227, 128, 130] [46]⟩⟩] 9)) W' := fun W hgW => by
    have hbW : Below W.heap.size W (W.alloc (.cells #[.string ⟨⟨Lib.replaceAll (f0 :: f1) [227, 128, 130] [46]⟩⟩] 9)) := (Below.refl _ W).alloc (Nat.le_refl _) _
    have hgW' := gi_below hgW hbW
    refine collect_call 222 W.heap.size (enters_of Tryz.func222 (by kernel_rfl) rfl) ps _ (by rw [World.size_alloc]; omega) hgW' hl2' fun W2 hb2 => ?_
    exact parts_seq 2 (by omega) W.heap.size _ ps _ hps W2 (box_of_block (Boxed.new _ _ _) (hb2.block _ (by rw [World.size_alloc]; omega))) (gi_below hgW' hb2) fun b hb => by have := (hgW.b b hb).1; omega
   have hg1 := fun W hb => replace_call (f0 :: f1) hlen' W (gi_below hg hb)
   generalize Lib.replaceAll (f0 :: f1) [227, 128, 130] [46] = r at hps hcc hg1
   have fin : ∀ {w1 w2 w4 : World} {v : Value}, Below (w.alloc (.cells #[v0, v1, v2, v3, v4] 39)).heap.size (w.alloc (.cells #[v0, v1, v2, v3, v4] 39)) w1 → Below w1.heap.size w1 w2 → w4.ownsRow (w2.alloc (.cells #[.string ⟨⟨r⟩⟩] 9)).heap.size 9 1 v ps.length (ps.map encS) → Oth w2.heap.size (w2.alloc (.cells #[.string ⟨⟨r⟩⟩] 9)) w4 → Below w.heap.size w w4 ∧ w4.ownsRow w.heap.size 9 1 v ps.length (ps.map encS) := by
    intro w1 w2 w4 v h1 h2 h3 h4
    have b2 : Below w.heap.size w w2 := (hW0.trans (h1.mono hW0.size)).trans (h2.mono (by have := hW0.size; have := h1.size; omega))
    have b3 : Below w.heap.size w (w2.alloc (.cells #[.string ⟨⟨r⟩⟩] 9)) := b2.alloc b2.size _
    refine ⟨below_oth b3 b3.size b2.size h4, h3.1, ?_⟩
    rcases h3.2 with h | ⟨g, cap, cur, e1, e2, e3⟩
    · exact .inl h
    · exact .inr ⟨g, cap, cur, e1, Nat.le_trans b3.size e2, e3⟩
   have Fin : Hid _ := @fin
   clear fin
   by_cases h32 : 32 < ps.length
   · rw [decide_eq_true h32, cond_true] at hC4
     have hC' : (([] : List (List UInt8)), (2 : Int)) = (ls, c) := Option.some.inj hC4
     cases hC'
     clear hC hC1 hC2 hC3 hC4
     go_enter Tryz.func157, Tryz.ntmps157
     go_wp2_with (first
      | (go_at_call 151; refine hF.mono ?_; rintro e w1 ⟨rfl, hb1⟩)
      | (go_at_call 188; refine (hg1 _ (hW0.trans (hb1.mono hW0.size))).mono ?_; rintro e w2 ⟨rfl, hb2⟩)
      | (go_at_call 190; refine (parts_mk r _).mono ?_; rintro e w3 ⟨rfl, rfl⟩)
      | (go_at_call 189; have hgw2 : GI w2 m0 := gi_below (gi_below (gi_below hg hW0) hb1) hb2; refine (hcc _ hgw2).mono ?_; rintro e w4 ⟨v, rfl, hrow, hoth⟩; obtain ⟨sa, sc, rfl⟩ := row_slice hrow)
      | go_in)
     go_returns
     exact ⟨_, rfl, (Fin.out hb1 hb2 hrow hoth).1, World.ownsRow_nil _ _ _ _⟩
   · rw [decide_eq_false h32, cond_false] at hC4
     have hC' : (ps, (0 : Int)) = (ls, c) := Option.some.inj hC4
     cases hC'
     clear hC hC1 hC2 hC3 hC4
     go_enter Tryz.func157, Tryz.ntmps157
     go_wp2_with (first
      | (go_at_call 151; refine hF.mono ?_; rintro e w1 ⟨rfl, hb1⟩)
      | (go_at_call 188; refine (hg1 _ (hW0.trans (hb1.mono hW0.size))).mono ?_; rintro e w2 ⟨rfl, hb2⟩)
      | (go_at_call 190; refine (parts_mk r _).mono ?_; rintro e w3 ⟨rfl, rfl⟩)
      | (go_at_call 189; have hgw2 : GI w2 m0 := gi_below (gi_below (gi_below hg hW0) hb1) hb2; refine (hcc _ hgw2).mono ?_; rintro e w4 ⟨v, rfl, hrow, hoth⟩; obtain ⟨sa, sc, rfl⟩ := row_slice hrow)
      | go_in)
     go_returns
     exact ⟨_, rfl, (Fin.out hb1 hb2 hrow hoth).1, (Fin.out hb1 hb2 hrow hoth).2⟩
set_option maxHeartbeats 4000000 in
theorem values_seq (n : Nat) (hn : 1 ≤ n) (Bs base : Nat) (v : Value) (xs : List (List UInt8)) (K : Nat → Prop) (w : World) (hb : Boxed w Bs 89 v) (hrow : w.ownsRow base 9 1 v xs.length (xs.map encS)) (hlen : xs.length ≤ 1000000000000) (hKb : K Bs) (hKv : ∀ b, v.ownBlock = some b → K b) (Bd : Nat) :
 SeqD Fence.wide n Tryz.prog 191 #[.pointer (some ⟨Bs, 0, none⟩)] (fun x : List UInt8 => #[Value.string ⟨⟨x⟩⟩]) K Bd xs w := by
 intro l J Jx W hW hJ hJx hY h0
 have hb' : Boxed W Bs 89 v := (hW.block Bs hb.lt).trans hb
 have hc := hb'.cell
 rcases hrow.2 with ⟨rfl, hn0⟩ | ⟨g, cap, cur, rfl, hg1, hg2, hg3, hg4, hg5, hg6⟩
 · have hx : xs = [] := List.eq_nil_of_length_eq_zero hn0
   subst hx
   refine callsIn_of_wp Tryz.func191 rfl trivial ?_ rfl
   simp only [Tryz.ntmps191, List.size_toArray, List.length_cons, List.length_nil, Nat.reduceAdd, Nat.reduceSub, Array.replicate_succ, Array.replicate_zero, List.push_toArray, List.append_toArray, List.nil_append, List.cons_append]
   gi_wp2
   gi_loopw [7] (fun i wr => i = .int .i64 0 ∧ J [] wr) (fun _ _ => 0)
   case atStart => exact ⟨rfl, h0⟩
   case round =>
    obtain ⟨rfl, hJs⟩ := hrel
    gi_wp2
    go_end0
    exact ⟨⟨_, rfl⟩, .inl hJs⟩
 · have hKg : K g := hKv g rfl
   have hgW : W.heap[g]? = some (.cells cur 9 (0, 0)) := (hW.block g (lt_of_some hg2)).trans hg2
   have hcur : ∀ (k : Nat) x, xs[k]? = some x → cur[k]? = some (.string ⟨⟨x⟩⟩) := fun k x hk => by
    have hlt : k < xs.length := (List.getElem?_eq_some_iff.1 hk).1
    have h1 : (cur.toList.take (xs.length * 1))[k]? = some (encS x) := by rw [hg6, List.getElem?_map, hk]; rfl
    rw [List.getElem?_take_of_lt (by omega), Array.getElem?_toList] at h1
    exact h1
   refine callsIn_of_wp Tryz.func191 rfl trivial ?_ rfl
   simp only [Tryz.ntmps191, List.size_toArray, List.length_cons, List.length_nil, Nat.reduceAdd, Nat.reduceSub, Array.replicate_succ, Array.replicate_zero, List.push_toArray, List.append_toArray, List.nil_append, List.cons_append]
   generalize hN : xs.length = N at *
   gi_wp2
   gi_loopw [7] (fun i wr => ∃ k : Nat, i = .int .i64 k ∧ k ≤ N ∧ Hid (J (xs.take k) wr) ∧ Hid (wr.heap[g]? = some (.cells cur 9 (0, 0)))) (fun i _ => N - (intOf i).toNat)
   case atStart => exact ⟨0, rfl, Nat.zero_le _, h0, hgW⟩
   case round =>
    obtain ⟨k, rfl, hk, hJs, hgr⟩ := hrel
    by_cases hlt : k < N
    · obtain ⟨x, hx⟩ : ∃ x, xs[k]? = some x := ⟨_, List.getElem?_eq_getElem (by omega)⟩
      have htk : xs.take (k + 1) = xs.take k ++ [x] := by rw [List.take_add_one, hx]; rfl
      have hpre : xs.take k ++ [x] <+: xs := htk ▸ List.take_prefix _ _
      have hcx : wr.cell? ⟨g, k, none⟩ = some (.string ⟨⟨x⟩⟩) := by simp only [World.cell?, hgr.out]; exact hcur k x hx
      obtain ⟨fn, tmps, assign, body, hy, hR⟩ := hY _ x wr hpre hJs.out
      clear hcur
      gi_wp2
      refine hR.mono ?_
      rintro e W3 (⟨rfl, hJ3, hs3, hk3⟩ | ⟨rfl, hJx3⟩)
      · have hg3 : Hid (W3.heap[g]? = some (.cells cur 9 (0, 0))) := (hk3 g hKg).trans hgr.out
        have hJ4 : Hid (J (xs.take (k + 1)) W3) := by rw [htk]; exact hJ3
        gi_wp2
        go_roundw
        case rel => exact ⟨k + 1, by simp, by omega, hJ4, hg3⟩
        case measure => simp [intOf]; omega
      · gi_wp2
        refine bodyPost_ret (results_none rfl _ _ _) rfl ?_
        exact ⟨⟨_, rfl⟩, .inr ⟨_, hpre, hJx3⟩⟩
    · obtain rfl : k = N := by omega
      gi_wp2
      go_end0
      exact ⟨⟨_, rfl⟩, .inl (by have := hJs.out; rwa [List.take_of_length_le (by omega)] at this)⟩
set_option maxHeartbeats 4000000 in
theorem values_mk (a : Option Addr) (n cap : Nat) (w : World) : Calls Tryz.prog 158 #[.slice a n cap] w fun e w' => e = .returned (.func (.func 191) #[] #[.pointer (some ⟨w.heap.size, 0, none⟩)]) ∧ w' = w.alloc (.cells #[.slice a n cap] 89) := by
 go_enter Tryz.func158, Tryz.ntmps158
 go_wp2
 go_returns
 exact ⟨rfl, rfl⟩
def K0 : Calls' := fun f => Ae.lookA f []
theorem kok0 : KOk Tryz.prog K0 := kok_nil _
noncomputable def body124 : Code := match subc (code Tryz.f124) [1, 1, 1, 1, 0, 1, 0] with | .rangeFunc _ _ _ b => b | c => c
noncomputable def ops11 : Array Oper := match subc body124 [0, 1, 1, 1] with | .region _ ops _ => ops | _ => #[]
def t11 (x y : List UInt8) : List AV := [.top, .top, .top, .top, .top, .top, .top, .top, .top, .ptr 2 0, .ptr 3 0, .top, .str x, .top, .str y] ++ List.replicate 45 .top
def o11 (ps qs : List (List UInt8)) : Store := [[.rowc 9 .str ps], [.rowc 9 .str qs], [.row 0], [.row 1]]
def o11' (ps qs : List (List UInt8)) (x y : List UInt8) : Store := [[], [], [.row 5], [.row 7], [.rowc 9 .str [x]], [.rowc 9 .str (ps ++ [x])], [.rowc 9 .str [y]], [.rowc 9 .str (qs ++ [y])]]
theorem r11 (ps qs : List (List UInt8)) (x y : List UInt8) : dregion Γ K0 ops11 ⟨t11 x y, o11 ps qs⟩ (fun s => some s.o) =
 bif decide (ps.length + 1 ≤ 140737488355328 / 16) then (bif decide (qs.length + 1 ≤ 140737488355328 / 16) then some (o11' ps qs x y) else none) else none := by kernel_rfl
theorem nd11 : ∀ (i : Nat) o, ops11[i]? = some o → ∀ c, o.op ≠ .defer c := by
 have h : (ops11.toList.all fun o => match o.op with | .defer _ => false | _ => true) = true := by kernel_rfl
 intro i o ho c hc
 have := List.all_eq_true.1 h o (Array.mem_toList_iff.2 (Array.mem_of_getElem? ho))
 rw [hc] at this
 cases this
theorem repL_of {w : World} {m : Md} {g : List Value} : ∀ (av : List AV) (vs : List Value), av.length = vs.length → (∀ (i : Nat) v, vs[i]? = some v → RepV w m g (av.getD i .top) v) → RepL w m g av vs
 | [], [], _, _ => rfl
 | a :: av, v :: vs, hl, h => ⟨v, vs, rfl, h 0 v rfl, repL_of av vs (by simpa using hl) fun i u hu => h (i + 1) u hu⟩
structure Two (base A9 A10 : Nat) (W : World) (ps qs : List (List UInt8)) : Prop where
 ex : ∃ va vu t9 t10, Boxed W A9 t9 va ∧ Boxed W A10 t10 vu ∧ W.ownsRow base 9 1 va ps.length (ps.map encS) ∧ W.ownsRow base 9 1 vu qs.length (qs.map encS) ∧
  (∀ b, va.ownBlock = some b → b ≠ A9 ∧ b ≠ A10 ∧ vu.ownBlock ≠ some b) ∧ ∀ b, vu.ownBlock = some b → b ≠ A9 ∧ b ≠ A10
def TwoB (A9 A10 : Nat) (va vu : Value) (b : Nat) : Prop := b = A9 ∨ b = A10 ∨ va.ownBlock = some b ∨ vu.ownBlock = some b
theorem repE_enc {w : World} {m : Md} {l : List (List UInt8)} {xs : List Value} (h : RepE w m .str l xs) (hl : xs.length = l.length * 1) : xs = l.map encS := by
 apply List.ext_getElem?
 intro j
 rw [List.getElem?_map]
 by_cases hj : j < l.length
 · have h1 : ((xs.drop (j * 1)).take 1) = [.string ⟨⟨l[j]⟩⟩] := h j l[j] (List.getElem?_eq_getElem hj)
   have h2 : ((xs.drop (j * 1)).take 1)[0]? = some (.string ⟨⟨l[j]⟩⟩) := by rw [h1]; rfl
   rw [List.getElem?_take_of_lt (by omega), List.getElem?_drop] at h2
   simp only [Nat.mul_one, Nat.add_zero] at h2
   rw [h2, List.getElem?_eq_getElem hj]
   rfl
 · rw [List.getElem?_eq_none (by omega), List.getElem?_eq_none (by omega)]
   rfl
theorem enc_repE {w : World} {m : Md} (l : List (List UInt8)) : RepE w m .str l (l.map encS) := by
 intro j x hj
 change List UInt8 at x
 change l[j]? = some x at hj
 show ((l.map encS).drop (j * 1)).take 1 = [.string ⟨⟨x⟩⟩]
 have hlt := (List.getElem?_eq_some_iff.1 hj).1
 have : ((l.map encS).drop j) = encS x :: (l.map encS).drop (j + 1) := by
  rw [← List.map_drop, List.drop_eq_getElem_cons hlt, List.map_cons, List.map_drop]
  rw [(List.getElem?_eq_some_iff.1 hj).2]
 rw [Nat.mul_one, this]
 rfl
theorem row_zero {W : World} {base : Nat} {e : TypeId} {size n : Nat} {v : Value} {xs : List Value} (h : W.ownsRow base e size v n xs) : W.ownsRow 0 e size v n xs := by
 refine ⟨h.1, ?_⟩
 rcases h.2 with h | ⟨g, cap, cur, e1, h2, h3⟩
 · exact .inl h
 · exact .inr ⟨g, cap, cur, e1, Nat.zero_le _, h3⟩
theorem row_ge {W : World} {base : Nat} {e : TypeId} {size n : Nat} {v : Value} {xs : List Value} (h : W.ownsRow base e size v n xs) : ∀ b, v.ownBlock = some b → base ≤ b ∧ b < W.heap.size ∧ ∃ o, W.heap[b]? = some o ∧ o.isCells = true := by
 rcases h.2 with ⟨rfl, _⟩ | ⟨g, cap, cur, rfl, h2, h3, _⟩
 · intro b hb; cases hb
 · intro b hb; cases hb; exact ⟨h2, lt_of_some h3, _, h3, rfl⟩
theorem box_repO {w : World} {m : Md} {g : List Value} {A : Nat} {t : TypeId} {v : Value} {i : Nat} (h : Boxed w A t v) (hi : g[i]? = some v) (hv : ∃ ao n c, v = .slice ao n c) : RepO w m g (.pointer (some ⟨A, 0, none⟩)) [.row i] :=
 ⟨fun _ _ _ e => (by cases e), fun _ _ e => (by cases e), fun _ => ⟨A, t, _, rfl, h, v, [], rfl, ⟨hi, hv⟩, rfl⟩, fun _ _ e => (by cases e), trivial⟩
theorem row_repO {w : World} {m : Md} {g : List Value} {base : Nat} {v : Value} {l : List (List UInt8)} (h : w.ownsRow base 9 1 v l.length (l.map encS)) : RepO w m g v [.rowc 9 .str l] :=
 ⟨fun _ _ _ e => (by cases e; exact ⟨_, row_zero h, enc_repE l⟩), fun _ _ e => (by cases e), fun e => (by cases e), fun _ _ e => (by cases e), trivial⟩
theorem region11 (l n0 : Nat) (ps qs : List (List UInt8)) (x y : List UInt8) (hp : ps.length ≤ 1000000000000) (hq : qs.length ≤ 1000000000000) (tm : List Value) (base R A9 A10 : Nat) (hR : base ≤ R) (W : World) (hg : GI W m0) (hgb : ∀ b ∈ GlobB, b < base)
 (hne : A9 ≠ A10) (h9 : base ≤ A9) (h10 : base ≤ A10) (h : Two R A9 A10 W ps qs) (hlen : tm.length = 60) (hbase : R ≤ W.heap.size)
 (e9 : tm[9]? = some (.pointer (some ⟨A9, 0, none⟩))) (e10 : tm[10]? = some (.pointer (some ⟨A10, 0, none⟩))) (e12 : tm[12]? = some (.string ⟨⟨x⟩⟩)) (e14 : tm[14]? = some (.string ⟨⟨y⟩⟩)) :
 (Code.region 11 ops11 true).wpIn (Fence.wide.inRound l) n0 Tryz.prog (fun e a' w' => e = .normal ∧ Two R A9 A10 w' (ps ++ [x]) (qs ++ [y]) ∧ w'.os = W.os ∧ w'.tape = W.tape ∧ w'.output = W.output ∧ W.heap.size ≤ w'.heap.size ∧
  (∀ b, b < R → b ≠ A9 → b ≠ A10 → w'.heap[b]? = W.heap[b]?) ∧ ∀ (b : Nat) (o : Obj), W.heap[b]? = some o → o.isCells = false → w'.heap[b]? = some o) { tmps := tm.toArray, defers := [] } W := by
 obtain ⟨va, vu, t9, t10, b9, b10, r9, r10, s1, s2⟩ := h.ex
 have g1 := row_ge r9
 have g2 := row_ge r10
 obtain ⟨sa1, sc1, es1⟩ := row_slice r9
 obtain ⟨sa2, sc2, es2⟩ := row_slice r10
 have hmu : ∀ b, TwoB A9 A10 va vu b → base ≤ b ∧ b < W.heap.size ∧ ∃ o, W.heap[b]? = some o ∧ o.isCells = true := by
  rintro b (rfl | rfl | hb | hb)
  · exact ⟨h9, b9.lt, _, b9, rfl⟩
  · exact ⟨h10, b10.lt, _, b10, rfl⟩
  · have := g1 b hb; exact ⟨by omega, this.2⟩
  · have := g2 b hb; exact ⟨by omega, this.2⟩
 have hrep : Rep W ⟨TwoB A9 A10 va vu, TwoB A9 A10 va vu⟩ [va, vu, .pointer (some ⟨A9, 0, none⟩), .pointer (some ⟨A10, 0, none⟩)] ⟨t11 x y, o11 ps qs⟩ { tmps := tm.toArray, defers := [] } := by
  refine ⟨?_, rfl, ?_⟩
  · refine repL_of _ _ (by simp [t11, hlen]) fun i v hv => ?_
    have hv' : tm[i]? = some v := hv
    have hi : i < 60 := hlen ▸ (List.getElem?_eq_some_iff.1 hv').1
    by_cases i9 : i = 9
    · subst i9; rw [e9] at hv'; cases hv'; exact ⟨A9, rfl, rfl⟩
    by_cases i10 : i = 10
    · subst i10; rw [e10] at hv'; cases hv'; exact ⟨A10, rfl, rfl⟩
    by_cases i12 : i = 12
    · subst i12; rw [e12] at hv'; cases hv'; rfl
    by_cases i14 : i = 14
    · subst i14; rw [e14] at hv'; cases hv'; rfl
    have ht : (t11 x y).getD i .top = .top := by
     have hc : i = 0 ∨ i = 1 ∨ i = 2 ∨ i = 3 ∨ i = 4 ∨ i = 5 ∨ i = 6 ∨ i = 7 ∨ i = 8 ∨ i = 11 ∨ i = 13 ∨ 15 ≤ i := by omega
     rcases hc with rfl | rfl | rfl | rfl | rfl | rfl | rfl | rfl | rfl | rfl | rfl | hc
     iterate 11 rfl
     unfold t11
     rw [List.getD_eq_getElem?_getD, List.getElem?_append_right (by simpa using hc), List.getElem?_replicate]
     split <;> rfl
    rw [ht]
    trivial
  · refine ⟨⟨hg.i, fun b hb => ⟨(hg.b b hb).1, fun hc => ?_⟩⟩, rfl, ?_, fun _ h => h, fun b hb => (hmu b hb).2.1, ?_, ?_⟩
    · have := (hmu b hc).1; have := hgb b hb; omega
    · rintro b ⟨i, gi, cs, k1, k2, k3⟩
      match i with
      | 0 => cases k1; cases k2; exact .inr (.inr (.inl k3))
      | 1 => cases k1; cases k2; exact .inr (.inr (.inr k3))
      | 2 => cases k1; cases k2; cases k3; exact .inl rfl
      | 3 => cases k1; cases k2; cases k3; exact .inr (.inl rfl)
      | i + 4 => cases k1
    · intro i gi cs k1 k2
      match i with
      | 0 => cases k1; cases k2; exact row_repO r9
      | 1 => cases k1; cases k2; exact row_repO r10
      | 2 => cases k1; cases k2; exact box_repO b9 rfl ⟨_, _, _, es1⟩
      | 3 => cases k1; cases k2; exact box_repO b10 rfl ⟨_, _, _, es2⟩
      | i + 4 => cases k1
    · intro i j gi gj ci cj b hij k1 k2 k3 k4 k5 k6
      match i, j with
      | 0, 0 | 1, 1 | 2, 2 | 3, 3 => exact hij rfl
      | 0, 1 => cases k1; cases k2; cases k3; cases k4; exact (s1 b k5).2.2 k6
      | 1, 0 => cases k1; cases k2; cases k3; cases k4; exact (s1 b k6).2.2 k5
      | 0, 2 => cases k1; cases k2; cases k3; cases k4; cases k6; exact (s1 _ k5).1 rfl
      | 0, 3 => cases k1; cases k2; cases k3; cases k4; cases k6; exact (s1 _ k5).2.1 rfl
      | 1, 2 => cases k1; cases k2; cases k3; cases k4; cases k6; exact (s2 _ k5).1 rfl
      | 1, 3 => cases k1; cases k2; cases k3; cases k4; cases k6; exact (s2 _ k5).2 rfl
      | 2, 0 => cases k1; cases k2; cases k3; cases k4; cases k5; exact (s1 _ k6).1 rfl
      | 3, 0 => cases k1; cases k2; cases k3; cases k4; cases k5; exact (s1 _ k6).2.1 rfl
      | 2, 1 => cases k1; cases k2; cases k3; cases k4; cases k5; exact (s2 _ k6).1 rfl
      | 3, 1 => cases k1; cases k2; cases k3; cases k4; cases k5; exact (s2 _ k6).2 rfl
      | 2, 3 => cases k1; cases k2; cases k3; cases k4; cases k5; cases k6; exact hne rfl
      | 3, 2 => cases k1; cases k2; cases k3; cases k4; cases k5; cases k6; exact hne rfl
      | i + 4, _ => cases k1
      | _, j + 4 => cases k3
 have hlim : (140737488355328 : Nat) / 16 = 8796093022208 := rfl
 have hrun : dregion Γ K0 ops11 ⟨t11 x y, o11 ps qs⟩ (fun s => some s.o) = some (o11' ps qs x y) := by
  rw [r11, hlim, decide_eq_true (show ps.length + 1 ≤ 8796093022208 by omega), decide_eq_true (show qs.length + 1 ≤ 8796093022208 by omega)]
  rfl
 refine wpIn_mono (dregion_in l n0 nd11 hm hΓ kok0 hrep hrun (Q := fun a' w' => Two R A9 A10 w' (ps ++ [x]) (qs ++ [y]) ∧ w'.os = W.os ∧ w'.tape = W.tape ∧ w'.output = W.output ∧ W.heap.size ≤ w'.heap.size ∧
  (∀ b, b < R → b ≠ A9 → b ≠ A10 → w'.heap[b]? = W.heap[b]?) ∧ ∀ (b : Nat) (o : Obj), W.heap[b]? = some o → o.isCells = false → w'.heap[b]? = some o) ?_) fun e a' w' h => h
 intro st' a' w' m' g' k1 k2 k3 k4
 have ho : st'.o = o11' ps qs x y := Option.some.inj k1
 have hob := k2.obj
 rw [ho] at hob
 have q2 : g'[2]? = some (.pointer (some ⟨A9, 0, none⟩)) := k4 2 _ rfl
 have q3 : g'[3]? = some (.pointer (some ⟨A10, 0, none⟩)) := k4 3 _ rfl
 have hlen8 : g'.length = 8 := hob.len
 obtain ⟨v5, q5⟩ : ∃ v, g'[5]? = some v := ⟨_, List.getElem?_eq_getElem (by omega)⟩
 obtain ⟨v7, q7⟩ : ∃ v, g'[7]? = some v := ⟨_, List.getElem?_eq_getElem (by omega)⟩
 obtain ⟨b2, ty2, arr2, z1, z2, z3⟩ := (hob.obj 2 _ [.row 5] q2 rfl).box rfl
 obtain ⟨b3, ty3, arr3, y1, y2, y3⟩ := (hob.obj 3 _ [.row 7] q3 rfl).box rfl
 cases z1
 cases y1
 obtain ⟨u5, r5, z4, ⟨z5, z6⟩, z7⟩ := z3
 obtain ⟨u7, r7, y4, ⟨y5, y6⟩, y7⟩ := y3
 rw [q5] at z5
 rw [q7] at y5
 cases z5
 cases y5
 have z7' : r5 = [] := z7
 have y7' : r7 = [] := y7
 subst z7' y7'
 obtain ⟨xs5, o5, p5⟩ := (hob.obj 5 _ [.rowc 9 .str (ps ++ [x])] q5 rfl).rowc _ _ _ rfl
 obtain ⟨xs7, o7, p7⟩ := (hob.obj 7 _ [.rowc 9 .str (qs ++ [y])] q7 rfl).rowc _ _ _ rfl
 have hx5 := repE_enc p5 o5.1
 have hx7 := repE_enc p7 o7.1
 subst hx5 hx7
 have hge : ∀ (i : Nat) gi cs b, i ≠ 2 → i ≠ 3 → g'[i]? = some gi → (o11' ps qs x y)[i]? = some cs → blk gi cs = some b → R ≤ b := fun i gi cs b n2 n3 c1 c2 c3 => by
  by_cases hlt : b < W.heap.size
  · rcases k3.mutb b hlt (hob.nm b (hob.sub b ⟨i, gi, cs, c1, c2, c3⟩)) with h | h | h | h
    · exact (hob.sep i 2 _ _ _ _ _ n2 c1 c2 q2 rfl c3 (by rw [h]; rfl)).elim
    · exact (hob.sep i 3 _ _ _ _ _ n3 c1 c2 q3 rfl c3 (by rw [h]; rfl)).elim
    · exact (g1 b h).1
    · exact (g2 b h).1
  · omega
 have hkeep : ∀ (b : Nat) (o : Obj), W.heap[b]? = some o → ¬ TwoB A9 A10 va vu b → w'.heap[b]? = some o := fun b o hb hn => (k3.keep b (lt_of_some hb) hn).trans hb
 refine ⟨⟨v5, v7, ty2, ty3, ?_, ?_, ?_, ?_, ?_, ?_⟩, k3.os, k3.tape, k3.output, k3.size, ?_, ?_⟩
 · have : arr2 = #[v5] := by cases arr2; simpa using z4
   subst this; exact z2
 · have : arr3 = #[v7] := by cases arr3; simpa using y4
   subst this; exact y2
 · exact own_base o5 fun b hb => hge 5 _ _ b (by decide) (by decide) q5 rfl hb
 · exact own_base o7 fun b hb => hge 7 _ _ b (by decide) (by decide) q7 rfl hb
 · intro b hb
   refine ⟨?_, ?_, fun hc => ?_⟩
   · rintro rfl; exact hob.sep 5 2 _ _ _ _ _ (by decide) q5 rfl q2 rfl hb rfl
   · rintro rfl; exact hob.sep 5 3 _ _ _ _ _ (by decide) q5 rfl q3 rfl hb rfl
   · exact hob.sep 5 7 _ _ _ _ _ (by decide) q5 rfl q7 rfl hb hc
 · intro b hb
   refine ⟨?_, ?_⟩
   · rintro rfl; exact hob.sep 7 2 _ _ _ _ _ (by decide) q7 rfl q2 rfl hb rfl
   · rintro rfl; exact hob.sep 7 3 _ _ _ _ _ (by decide) q7 rfl q3 rfl hb rfl
 · intro b hb hn9 hn10
   refine k3.keep b (by omega) fun hc => ?_
   rcases hc with h | h | h | h
   · exact hn9 h
   · exact hn10 h
   · have := (g1 b h).1; omega
   · have := (g2 b h).1; omega
 · intro b o hb hc
   refine hkeep b o hb fun hcc => ?_
   obtain ⟨_, _, o', e1, e2⟩ := hmu b hcc
   rw [hb] at e1
   cases e1
   rw [hc] at e2
   cases e2
def bothF (A U : List UInt8 → Option (List UInt8 × Int)) : List (List UInt8) → List (List UInt8) → List (List UInt8) → Option (Int × List (List UInt8) × List (List UInt8))
 | [], ps, qs => some (0, ps, qs)
 | x :: xs, ps, qs => (A x).bind fun a => bif a.2 != 0 then some (a.2, [], []) else (U x).bind fun u => bothF A U xs (ps ++ [a.1]) (qs ++ [u.1])
theorem two_othR {N Bs R A9 A10 : Nat} {W W' : World} {ps qs : List (List UInt8)} (h : Two R A9 A10 W ps qs) (h9 : A9 ≠ Bs) (h10 : A10 ≠ Bs) (hR : Bs < R) (ho : OthR N Bs W W') : Two R A9 A10 W' ps qs := by
 obtain ⟨va, vu, t9, t10, b9, b10, r9, r10, s1, s2⟩ := h.ex
 exact ⟨va, vu, t9, t10, boxed_oth b9 h9 ho, boxed_oth b10 h10 ho, ownsRow_oth hR r9 ho, ownsRow_oth hR r10 ho, s1, s2⟩
theorem row_repT {W : World} {base : Nat} {v : Value} {l : List (List UInt8)} (h : W.ownsRow base 9 1 v l.length (l.map encS)) : RepT W m0 (.lst .str) l [v] := by
 rcases h.2 with ⟨rfl, h0⟩ | ⟨g, cap, cur, rfl, h2, h3, h4, h5, h6, h7⟩
 · have hl : l = [] := List.eq_nil_of_length_eq_zero h0
   subst hl
   exact ⟨none, 0, rfl, Nat.le_refl _, by omega, fun _ => rfl, fun j x hj => by
    have hj' : ([] : List (List UInt8))[j]? = some x := hj
    simp at hj'⟩
 · refine ⟨_, cap, rfl, h4, by simp only [maxLen] at h5; omega, fun e => (by cases e), fun j x hj => ?_⟩
   change List UInt8 at x
   change l[j]? = some x at hj
   refine ⟨g, 0, [.string ⟨⟨x⟩⟩], rfl, rfl, rfl, lt_of_some h3, fun hm => hm, fun i u hu => ?_⟩
   have hlt := (List.getElem?_eq_some_iff.1 hj).1
   match i with
   | i + 1 => cases hu
   | 0 =>
    cases hu
    have h1 : (cur.toList.take (l.length * 1))[j]? = some (encS x) := by rw [h7, List.getElem?_map, hj]; rfl
    rw [List.getElem?_take_of_lt (by omega), Array.getElem?_toList] at h1
    simp only [World.cell?, h3]
    show cur[0 + j * 1 + 0]? = _
    rw [show 0 + j * 1 + 0 = j by omega]
    exact h1
theorem join_call {W : World} {base : Nat} {v : Value} {l : List (List UInt8)} {r : List UInt8} (h : W.ownsRow base 9 1 v l.length (l.map encS)) (hj : joinF (l, [46], ()) = some (r, ())) (hg : GI W m0) :
 Calls Tryz.prog 73 #[v, .string ⟨#[46]⟩] W fun e W' => e = .returned (.string ⟨⟨r⟩⟩) ∧ Below W.heap.size W W' := by
 have hj' : C73 (l, [46], ()) = some (r, ()) := hj
 refine (FnOk.call0 (v := (l, [46], ())) (y := (r, ())) ok73 Tryz.func73 (by kernel_rfl) (by kernel_rfl) hg (fun _ h => h.elim) rfl ⟨v, _, rfl, row_repT h, _, _, rfl, rfl, rfl⟩ rfl hj' ?_).mono fun e w' ⟨rv, h1, h2, ax, l', u, h3, h4⟩ => ?_
 · intro ax l' u h3
   cases osel_one_inv h3
   rfl
 · cases osel_one_inv h3
   obtain ⟨v, r', e1, e2, e4⟩ := h4
   have e4' : r' = [] := e4
   subst e4'
   cases e1
   subst h1 e2
   exact ⟨rfl, h2⟩
def outF (res : Int × List (List UInt8) × List (List UInt8)) : Option (List UInt8 × List UInt8 × Int) :=
 bif res.1 != 0 then some ([], [], res.1) else (joinF (res.2.1, [46], ())).bind fun ja => bif decide (253 < ja.1.length) then some ([], [], 5) else (joinF (res.2.2, [46], ())).bind fun ju => some (ja.1, ju.1, 0)
set_option maxHeartbeats 4000000 in
theorem both_walk (v0 v1 v2 v3 v4 : Value) (s : List UInt8) (ls : List (List UInt8)) (A U : List UInt8 → Option (List UInt8 × Int)) (res : Int × List (List UInt8) × List (List UInt8)) (w : World) (hg : GI w m0) (hll : ls.length ≤ 32)
 (hres : bothF A U ls [] [] = some res) (oa ou : List UInt8) (oc : Int) (hout : outF res = some (oa, ou, oc))
 (hlab : ∀ W, Below w.heap.size w W → Calls Tryz.prog 157 #[.agg #[v0, v1, v2, v3, v4], .string ⟨⟨s⟩⟩] W fun e w' => ∃ v, e = .returned (.tuple #[v, .int .i64 0]) ∧ Below W.heap.size W w' ∧ w'.ownsRow W.heap.size 9 1 v ls.length (ls.map encS))
 (hA : ∀ x r, A x = some r → ∀ W, Below w.heap.size w W → Calls Tryz.prog 159 #[.agg #[v0, v1, v2, v3, v4], .string ⟨⟨x⟩⟩] W fun e W' => e = .returned (.tuple #[.string ⟨⟨r.1⟩⟩, .int .i64 r.2]) ∧ Below W.heap.size W W')
 (hU : ∀ x r, U x = some r → ∀ W, Below w.heap.size w W → Calls Tryz.prog 160 #[.agg #[v0, v1, v2, v3, v4], .string ⟨⟨x⟩⟩] W fun e W' => e = .returned (.tuple #[.string ⟨⟨r.1⟩⟩, .int .i64 r.2]) ∧ Below W.heap.size W W') :
 Calls Tryz.prog 124 #[.agg #[v0, v1, v2, v3, v4], .string ⟨⟨s⟩⟩] w fun e w' => e = .returned (.tuple #[.string ⟨⟨oa⟩⟩, .string ⟨⟨ou⟩⟩, .int .i64 oc]) ∧ Below w.heap.size w w' := by
 refine (callsIn_wide (n := 3)).1 ?_
 refine callsIn_of_wp_marks Tryz.func124 rfl trivial ?_ rfl
 simp only [Tryz.ntmps124, List.size_toArray, List.length_cons, List.length_nil, Nat.reduceAdd, Nat.reduceSub, Array.replicate_succ, Array.replicate_zero, List.push_toArray, List.append_toArray, List.nil_append, List.cons_append]
 have hW0 : Below w.heap.size w ((((w.alloc (.cells #[v0, v1, v2, v3, v4] 39)).alloc (.cells #[.string ⟨#[]⟩] 9)).alloc (.cells #[.string ⟨#[]⟩] 9)).alloc (.cells #[.int .i64 0] 44)) :=
  ((((Below.refl _ w).alloc (Nat.le_refl _) _).alloc (by simp) _).alloc (by simp <;> omega) _).alloc (by simp <;> omega) _
 gi_wp2_with (first
  | (refine ⟨trivial, ?_⟩; gi_at_call 157; refine (callsIn_wide.2 (hlab _ hW0)).mono ?_; rintro e w1 ⟨lv, rfl, hb1, hrow⟩; obtain ⟨la, lc, rfl⟩ := row_slice hrow)
  | (refine ⟨trivial, ?_⟩; gi_at_call 158; refine (callsIn_wide.2 (values_mk _ _ _ _)).mono ?_; rintro e w2 ⟨rfl, rfl⟩))
 have hb0 : Below w.heap.size w w1 := hW0.trans (hb1.mono hW0.size)
 have hsz1 : w.heap.size + 4 ≤ w1.heap.size := by have := hb1.size; simp at this; omega
 have hT : ∀ X, Below w1.heap.size w1 X → X.cell? ⟨w.heap.size, 0, none⟩ = some v0 ∧ X.cell? ⟨w.heap.size, 1, none⟩ = some v1 ∧ X.cell? ⟨w.heap.size, 2, none⟩ = some v2 ∧ X.cell? ⟨w.heap.size, 3, none⟩ = some v3 ∧ X.cell? ⟨w.heap.size, 4, none⟩ = some v4 := fun X hX => by
  have h1 : X.heap[w.heap.size]? = some (.cells #[v0, v1, v2, v3, v4] 39) := by
   rw [hX.block _ (by omega), hb1.block _ (by simp <;> omega), Below.heap_alloc _ _ _ (by simp <;> omega), Below.heap_alloc _ _ _ (by simp <;> omega), Below.heap_alloc _ _ _ (by simp), heap_alloc_new]
  exact ⟨by rw [cell_of_cells h1]; rfl, by rw [cell_of_cells h1]; rfl, by rw [cell_of_cells h1]; rfl, by rw [cell_of_cells h1]; rfl, by rw [cell_of_cells h1]; rfl⟩
 have hR : ∀ X, Below w1.heap.size w1 X → Boxed X (w.heap.size + 1) 9 (.string ⟨#[]⟩) ∧ Boxed X (w.heap.size + 1 + 1) 9 (.string ⟨#[]⟩) ∧ Boxed X (w.heap.size + 1 + 1 + 1) 44 (.int .i64 0) := fun X hX => by
  refine ⟨?_, ?_, ?_⟩
  · show X.heap[_]? = _
    rw [hX.block _ (by omega), hb1.block _ (by simp <;> omega), Below.heap_alloc _ _ _ (by simp <;> omega), Below.heap_alloc _ _ _ (by simp)]
    have := heap_alloc_new (w.alloc (.cells #[v0, v1, v2, v3, v4] 39)) (.cells #[.string ⟨#[]⟩] 9)
    rwa [World.size_alloc] at this
  · show X.heap[_]? = _
    rw [hX.block _ (by omega), hb1.block _ (by simp <;> omega), Below.heap_alloc _ _ _ (by simp)]
    have := heap_alloc_new ((w.alloc (.cells #[v0, v1, v2, v3, v4] 39)).alloc (.cells #[.string ⟨#[]⟩] 9)) (.cells #[.string ⟨#[]⟩] 9)
    rwa [World.size_alloc, World.size_alloc] at this
  · show X.heap[_]? = _
    rw [hX.block _ (by omega), hb1.block _ (by simp)]
    have := heap_alloc_new (((w.alloc (.cells #[v0, v1, v2, v3, v4] 39)).alloc (.cells #[.string ⟨#[]⟩] 9)).alloc (.cells #[.string ⟨#[]⟩] 9)) (.cells #[.int .i64 0] 44)
    rwa [World.size_alloc, World.size_alloc, World.size_alloc] at this
 have hg1 : GI w1 m0 := gi_below hg hb0
 have hW2 : Below w1.heap.size w1 (((w1.alloc (.cells #[.slice none 0 0] 89)).alloc (.cells #[.slice none 0 0] 89)).alloc (.cells #[.slice la ls.length lc] 89)) :=
  (((Below.refl _ w1).alloc (Nat.le_refl _) _).alloc (by simp) _).alloc (by simp <;> omega) _
 have hszN : (((w1.alloc (.cells #[.slice none 0 0] 89)).alloc (.cells #[.slice none 0 0] 89)).alloc (.cells #[.slice la ls.length lc] 89)).heap.size = w1.heap.size + 3 := by simp
 have hbv : Boxed (((w1.alloc (.cells #[.slice none 0 0] 89)).alloc (.cells #[.slice none 0 0] 89)).alloc (.cells #[.slice la ls.length lc] 89)) (w1.heap.size + 1 + 1) 89 (.slice la ls.length lc) := by
  have := Boxed.new ((w1.alloc (.cells #[.slice none 0 0] 89)).alloc (.cells #[.slice none 0 0] 89)) 89 (.slice la ls.length lc)
  rwa [World.size_alloc, World.size_alloc] at this
 have hb9 : Boxed (((w1.alloc (.cells #[.slice none 0 0] 89)).alloc (.cells #[.slice none 0 0] 89)).alloc (.cells #[.slice la ls.length lc] 89)) w1.heap.size 89 (.slice none 0 0) :=
  ((Boxed.new w1 89 (.slice none 0 0)).alloc _).alloc _
 have hb10 : Boxed (((w1.alloc (.cells #[.slice none 0 0] 89)).alloc (.cells #[.slice none 0 0] 89)).alloc (.cells #[.slice la ls.length lc] 89)) (w1.heap.size + 1) 89 (.slice none 0 0) := by
  have := (Boxed.new (w1.alloc (.cells #[.slice none 0 0] 89)) 89 (.slice none 0 0)).alloc (.cells #[.slice la ls.length lc] 89)
  rwa [World.size_alloc] at this
 have hrow2 : (((w1.alloc (.cells #[.slice none 0 0] 89)).alloc (.cells #[.slice none 0 0] 89)).alloc (.cells #[.slice la ls.length lc] 89)).ownsRow 0 9 1 (.slice la ls.length lc) ls.length (ls.map encS) := by
  have := row_zero hrow
  exact ((this.alloc _).alloc _).alloc _
 have hown : ∀ b, (Value.slice la ls.length lc).ownBlock = some b → b < w1.heap.size := fun b hb => ((row_ge hrow) b hb).2.1
 clear hlab
 refine wpIn_rangeFunc_dir (F := Fence.wide) (n := 3) rfl (by omega) (gf := 191) (lb := #[.pointer (some ⟨w1.heap.size + 1 + 1, 0, none⟩)]) rfl trivial (enters_of Tryz.func191 (by kernel_rfl) rfl)
  (K := fun b => b = w1.heap.size + 1 + 1 ∨ (Value.slice la ls.length lc).ownBlock = some b)
  (values_seq 2 (by omega) (w1.heap.size + 1 + 1) 0 _ ls _ _ hbv hrow2 (by omega) (.inl rfl) (fun b hb => .inr hb) (w1.heap.size + 1 + 1))
  (by rintro b (rfl | hb)
      · rw [hszN]; omega
      · have := hown b hb; rw [hszN]; omega) (by rw [hszN]; omega) (fun _ => rfl)
  (fun pre W => ∃ ps qs rest, ls = pre ++ rest ∧ bothF A U rest ps qs = some res ∧ ps.length = pre.length ∧ qs.length = pre.length ∧ Two (w1.heap.size + 3) w1.heap.size (w1.heap.size + 1) W ps qs ∧ Below w1.heap.size w1 W)
  (fun c pre W => c = .ret ∧ res.1 ≠ 0 ∧ Boxed W (w.heap.size + 1) 9 (.string ⟨#[]⟩) ∧ Boxed W (w.heap.size + 1 + 1) 9 (.string ⟨#[]⟩) ∧ Boxed W (w.heap.size + 1 + 1 + 1) 44 (.int .i64 res.1) ∧ Below w.heap.size w W)
  (fun pre X Y hs ho => by
   obtain ⟨ps, qs, rest, h1, h2, h3, h4, h5, h6⟩ := hs
   exact ⟨ps, qs, rest, h1, h2, h3, h4, two_othR h5 (by omega) (by omega) (by omega) ho, below_othR h6 (Nat.le_refl _) (by rw [hszN]; omega) (by omega) ho⟩)
  (fun c pre X Y hs ho => by
   obtain ⟨h1, h2, h3, h4, h5, h6⟩ := hs
   exact ⟨h1, h2, boxed_oth h3 (by omega) ho, boxed_oth h4 (by omega) ho, boxed_oth h5 (by omega) ho, below_othR h6 (Nat.le_refl _) (by rw [hszN]; omega) (by omega) ho⟩)
  ⟨[], [], ls, rfl, hres, rfl, rfl, ⟨_, _, _, _, hb9, hb10, World.ownsRow_nil _ _ _ _, World.ownsRow_nil _ _ _ _, fun b hb => (by cases hb), fun b hb => (by cases hb)⟩, hW2⟩
  (fun x => { tmps := #[.agg #[v0, v1, v2, v3, v4], .string ⟨⟨s⟩⟩, .pointer (some ⟨w.heap.size, 0, none⟩), undef, .pointer (some ⟨w.heap.size + 1, 0, none⟩), .pointer (some ⟨w.heap.size + 1 + 1, 0, none⟩), .pointer (some ⟨w.heap.size + 1 + 1 + 1, 0, none⟩), .slice la ls.length lc, .int .i64 0,
   .pointer (some ⟨w1.heap.size, 0, none⟩), .pointer (some ⟨w1.heap.size + 1, 0, none⟩), .string ⟨⟨x⟩⟩, undef, undef, undef, undef, undef, .tuple #[.slice la ls.length lc, .int .i64 0], .agg #[v0, v1, v2, v3, v4], .string ⟨⟨s⟩⟩, .tuple #[.slice la ls.length lc, .int .i64 0], .slice la ls.length lc, .int .i64 0, .int .i64 0, .bool false, undef, .slice la ls.length lc,
   .func (.func 191) #[] #[.pointer (some ⟨w1.heap.size + 1 + 1, 0, none⟩)], .string ⟨⟨x⟩⟩, undef, undef, undef, undef, undef, undef, undef, undef, undef, undef, undef, undef, undef, undef, undef, undef, undef, undef, undef, undef, undef, undef, undef, undef, undef, undef, undef, undef, undef, undef, undef], defers := [] }) ?assign ?body ?done ?stop
 case assign =>
  intro l x W K hK
  gi_wp2
  exact hK
 case body =>
  rintro l pre x W hsz hpre ⟨ps, qs, rest, hls, hbf, hlp, hlq, hTwo, hbel⟩
  obtain ⟨rest', rfl⟩ : ∃ r, rest = x :: r := by
   obtain ⟨t, ht⟩ := hpre
   rw [hls, List.append_assoc] at ht
   have := List.append_cancel_left ht
   exact ⟨t, by simpa using this.symm⟩
  simp only [bothF] at hbf
  obtain ⟨⟨a1, a2⟩, ha, hbf2⟩ := Option.bind_eq_some_iff.1 hbf
  simp only at hbf2
  rw [hszN] at hsz
  have hWw : Below w.heap.size w W := hb0.trans (hbel.mono (by omega))
  have hcA := hA x _ ha W hWw
  obtain ⟨t0, t1, t2, t3, t4⟩ := hT W hbel
  by_cases hz : a2 = 0
  · subst hz
    have hbf3 : ((U x).bind fun u => bothF A U rest' (ps ++ [a1]) (qs ++ [u.1])) = some res := hbf2
    obtain ⟨⟨u1, u2⟩, hu, hbf4⟩ := Option.bind_eq_some_iff.1 hbf3
    simp only at hbf4
    have hcU := hU x _ hu
    gi_wp2_with (first
     | (refine ⟨trivial, ?_⟩; gi_at_call 159; refine (CallsIn.inRound l (callsIn_wide.2 hcA)).mono ?_; rintro e W3 ⟨rfl, hb3⟩; have hbel3 : Below w1.heap.size w1 W3 := hbel.trans (hb3.mono (by omega)); obtain ⟨t5, t6, t7, t8, t9⟩ := hT W3 hbel3)
     | (refine ⟨trivial, ?_⟩; gi_at_call 160; refine (CallsIn.inRound l (callsIn_wide.2 (hcU W3 (hb0.trans (hbel3.mono (by omega)))))).mono ?_; rintro e W4 ⟨rfl, hb4⟩))
    have hb34 : Below W.heap.size W W4 := hb3.trans (hb4.mono hb3.size)
    have hTwo4 : Two (w1.heap.size + 3) w1.heap.size (w1.heap.size + 1) W4 ps qs := two_othR (N := 0) (Bs := w1.heap.size + 1 + 1) hTwo (by omega) (by omega) (by omega) (Oth.of_below hb34).toR
    have hll2 : pre.length ≤ 32 := by have := hpre.length_le; simp at this; omega
    refine wpIn_mono (c := Code.region 11 ops11 true) (region11 l _ ps qs a1 u1 (by omega) (by omega) _ w1.heap.size (w1.heap.size + 3) w1.heap.size (w1.heap.size + 1) (by omega) W4 (gi_below hg1 (hbel3.trans (hb4.mono (by have := hbel3.size; omega)))) (fun b hb => (hg1.b b hb).1) (by omega) (Nat.le_refl _) (by omega) hTwo4 rfl (by have := hb34.size; omega) rfl rfl rfl rfl) ?_
    rintro e a' w' ⟨rfl, hTwo', o1, o2, o3, o4, o5, o6⟩
    refine ⟨⟨Nat.le_trans hb34.size o4, fun k o _ hk hc => o6 k o ((hb34.block k (lt_of_some hk)).trans hk) hc⟩, ?_, ps ++ [a1], qs ++ [u1], rest', by simp [hls], hbf4, by simp; omega, by simp; omega, hTwo', ?_⟩
    · rintro b (rfl | hb)
      · rw [o5 _ (by omega) (by omega) (by omega), hb34.block _ (by omega)]
      · have := hown b hb
        rw [o5 _ (by omega) (by omega) (by omega), hb34.block _ (by omega)]
    · exact (hbel.trans (hb34.mono (by omega))).trans ⟨o1, o2, o3, o4, fun k hk => o5 k (by omega) (by omega) (by omega)⟩
  · have hbf3 : some (a2, ([] : List (List UInt8)), ([] : List (List UInt8))) = some res := by
     rw [← hbf2, show (a2 != 0) = true by simpa using hz]; rfl
    cases hbf3
    gi_wp2_with (refine ⟨trivial, ?_⟩; gi_at_call 159; refine (CallsIn.inRound l (callsIn_wide.2 hcA)).mono ?_; rintro e W3 ⟨rfl, hb3⟩; have hbel3 : Below w1.heap.size w1 W3 := hbel.trans (hb3.mono (by omega)); obtain ⟨q1, q2, q3⟩ := hR W3 hbel3; have q4 := q1.cell; have q5 := q1.frozen; have q6 := q2.cell; have q7 := q2.frozen; have q8 := q3.cell; have q9 := q3.frozen)
    refine ⟨KeepsFrom.trans ⟨hb3.size, fun k o _ h _ => (hb3.block k (lt_of_some h)).trans h⟩ ((((KeepsOthers.setCell _ _ _).trans (KeepsOthers.setCell _ _ _)).trans (KeepsOthers.setCell _ _ _)).from _), rfl, ?_, ?_, ?_, ?_⟩
    · exact setBox (setBox (Boxed.set _ q1) (by omega)) (by omega)
    · exact setBox (Boxed.set _ (setBox q2 (by omega))) (by omega)
    · exact Boxed.set _ (setBox (setBox q3 (by omega)) (by omega))
    · exact (((hb0.trans (hbel3.mono (by omega))).setCell (p := ⟨w.heap.size + 1, 0, none⟩) (show w.heap.size ≤ w.heap.size + 1 by omega) _).setCell (p := ⟨w.heap.size + 1 + 1, 0, none⟩) (show w.heap.size ≤ w.heap.size + 1 + 1 by omega) _).setCell (p := ⟨w.heap.size + 1 + 1 + 1, 0, none⟩) (show w.heap.size ≤ w.heap.size + 1 + 1 + 1 by omega) _
 case done =>
  rintro D W hD ⟨ps, qs, rest, hls, hbf, hlp, hlq, hTwo, hbel⟩ hK
  have hrest : rest = [] := by
   have := congrArg List.length hls
   simp at this
   exact this
  subst hrest
  have hres' : (0, ps, qs) = res := Option.some.inj hbf
  subst hres'
  have ho : ((joinF (ps, [46], ())).bind fun ja => bif decide (253 < ja.1.length) then some (([] : List UInt8), ([] : List UInt8), (5 : Int)) else (joinF (qs, [46], ())).bind fun ju => some (ja.1, ju.1, 0)) = some (oa, ou, oc) := hout
  obtain ⟨⟨ja, ju0⟩, hja, ho2⟩ := Option.bind_eq_some_iff.1 ho
  obtain ⟨va, vu, ta, tu, bx9, bx10, rw9, rw10, _, _⟩ := hTwo.ex
  have hcj := join_call rw9 hja (gi_below hg1 hbel)
  have c9 := bx9.cell
  have c10 := bx10.cell
  have hDW : D < W.heap.size := lt_of_some hK
  rw [hszN] at hD
  have hs8 : w1.heap.size ≤ W.heap.size := hbel.size
  clear hls hbf hout ho hres hll hlp hlq
  by_cases h253 : 253 < ja.length
  · have ho3 : some (([] : List UInt8), ([] : List UInt8), (5 : Int)) = some (oa, ou, oc) := by rw [← ho2]; simp only; rw [decide_eq_true h253]; rfl
    cases ho3
    gi_wp2_with (refine ⟨trivial, ?_⟩; gi_at_call 73; refine (callsIn_wide.2 hcj).mono ?_; rintro e W5 ⟨rfl, hb5⟩; have hbel5 : Below w1.heap.size w1 W5 := hbel.trans (hb5.mono (by have := hbel.size; omega)); obtain ⟨q1, q2, q3⟩ := hR W5 hbel5; have q4 := q1.cell; have q5 := q1.frozen; have q6 := q2.cell; have q7 := q2.frozen; have q8 := q3.cell; have q9 := q3.frozen)
    have hKX : ((((W5.setCell ⟨w.heap.size + 1, 0, none⟩ (.string ⟨#[]⟩)).setCell ⟨w.heap.size + 1 + 1, 0, none⟩ (.string ⟨#[]⟩)).setCell ⟨w.heap.size + 1 + 1 + 1, 0, none⟩ (.int .i64 5))).heap[D]? = some (.deferred (some [])) := by
     rw [Below.heap_setCell _ _ _ _ (show D ≠ w.heap.size + 1 + 1 + 1 by omega), Below.heap_setCell _ _ _ _ (show D ≠ w.heap.size + 1 + 1 by omega), Below.heap_setCell _ _ _ _ (show D ≠ w.heap.size + 1 by omega)]
     exact (hb5.block D hDW).trans hK
    refine ⟨by simp, .inl ⟨_, _, rfl, run_takeDeferred hKX, ?_⟩⟩
    have e1 := setBox (b' := w.heap.size + 1 + 1 + 1) (u := (.int .i64 5)) (setBox (b' := w.heap.size + 1 + 1) (u := (.string ⟨#[]⟩)) (Boxed.set (.string ⟨#[]⟩) q1) (by omega)) (by omega)
    have e2 := setBox (b' := w.heap.size + 1 + 1 + 1) (u := (.int .i64 5)) (Boxed.set (.string ⟨#[]⟩) (setBox (b' := w.heap.size + 1) (u := (.string ⟨#[]⟩)) q2 (by omega))) (by omega)
    have e3 := Boxed.set (.int .i64 5) (setBox (b' := w.heap.size + 1 + 1) (u := (.string ⟨#[]⟩)) (setBox (b' := w.heap.size + 1) (u := (.string ⟨#[]⟩)) q3 (by omega)) (by omega))
    have hc1 := cell_kept e1.cell (grownBy_putObj' _ D (.deferred none)) (fun r e => by cases e; exact ⟨_, hKX, rfl⟩)
    have hc2 := cell_kept e2.cell (grownBy_putObj' _ D (.deferred none)) (fun r e => by cases e; exact ⟨_, hKX, rfl⟩)
    have hc3 := cell_kept e3.cell (grownBy_putObj' _ D (.deferred none)) (fun r e => by cases e; exact ⟨_, hKX, rfl⟩)
    have hbX := (((hb0.trans (hbel5.mono (show w.heap.size ≤ w1.heap.size by omega))).setCell (p := ⟨w.heap.size + 1, 0, none⟩) (show w.heap.size ≤ w.heap.size + 1 by omega) (.string ⟨#[]⟩)).setCell (p := ⟨w.heap.size + 1 + 1, 0, none⟩) (show w.heap.size ≤ w.heap.size + 1 + 1 by omega) (.string ⟨#[]⟩)).setCell (p := ⟨w.heap.size + 1 + 1 + 1, 0, none⟩) (show w.heap.size ≤ w.heap.size + 1 + 1 + 1 by omega) (.int .i64 5)
    refine ⟨.tuple #[(.string ⟨#[]⟩), (.string ⟨#[]⟩), (.int .i64 5)], ?_, rfl, hbX.trans (belowK_b (w := w) (Nat.le_refl _) _ D _ _ (by omega) hKX rfl rfl)⟩
    simp [results, Tryz.f124, go_sem, hc1, hc2, hc3]
  · have ho3 : ((joinF (qs, [46], ())).bind fun ju => some (ja, ju.1, (0 : Int))) = some (oa, ou, oc) := by rw [← ho2]; simp only; rw [decide_eq_false h253]; rfl
    obtain ⟨⟨ju, ju1⟩, hju, ho4⟩ := Option.bind_eq_some_iff.1 ho3
    cases ho4
    gi_wp2_with (first
     | (refine ⟨trivial, ?_⟩; gi_at_call 73; refine (callsIn_wide.2 hcj).mono ?_; clear hcj; rintro e W5 ⟨rfl, hb5⟩; have hbel5 : Below w1.heap.size w1 W5 := hbel.trans (hb5.mono (by have := hbel.size; omega)); have c11 : W5.cell? ⟨w1.heap.size + 1, 0, none⟩ = some vu := (hb5.cell (p := ⟨w1.heap.size + 1, 0, none⟩) bx10.lt).trans c10; have hcj2 := join_call (ownsRow_oth (N := 0) (Bs := w1.heap.size + 1 + 1) (by omega) rw10 (Oth.of_below hb5).toR) hju (gi_below hg1 hbel5))
     | (refine ⟨trivial, ?_⟩; gi_at_call 73; refine (callsIn_wide.2 hcj2).mono ?_; clear hcj2; rintro e W6 ⟨rfl, hb6⟩; have hbel6 : Below w1.heap.size w1 W6 := hbel5.trans (hb6.mono (by have := hbel5.size; omega)); obtain ⟨q1, q2, q3⟩ := hR W6 hbel6; have q4 := q1.cell; have q5 := q1.frozen; have q6 := q2.cell; have q7 := q2.frozen; have q8 := q3.cell; have q9 := q3.frozen))
    have hKX : ((((W6.setCell ⟨w.heap.size + 1, 0, none⟩ (.string ⟨⟨oa⟩⟩)).setCell ⟨w.heap.size + 1 + 1, 0, none⟩ (.string ⟨⟨ju⟩⟩)).setCell ⟨w.heap.size + 1 + 1 + 1, 0, none⟩ (.int .i64 0))).heap[D]? = some (.deferred (some [])) := by
     rw [Below.heap_setCell _ _ _ _ (show D ≠ w.heap.size + 1 + 1 + 1 by omega), Below.heap_setCell _ _ _ _ (show D ≠ w.heap.size + 1 + 1 by omega), Below.heap_setCell _ _ _ _ (show D ≠ w.heap.size + 1 by omega)]
     exact (hb6.block D (Nat.lt_of_lt_of_le hDW hb5.size)).trans ((hb5.block D hDW).trans hK)
    refine ⟨by simp, .inl ⟨_, _, rfl, run_takeDeferred hKX, ?_⟩⟩
    have e1 := setBox (b' := w.heap.size + 1 + 1 + 1) (u := (.int .i64 0)) (setBox (b' := w.heap.size + 1 + 1) (u := (.string ⟨⟨ju⟩⟩)) (Boxed.set (.string ⟨⟨oa⟩⟩) q1) (by omega)) (by omega)
    have e2 := setBox (b' := w.heap.size + 1 + 1 + 1) (u := (.int .i64 0)) (Boxed.set (.string ⟨⟨ju⟩⟩) (setBox (b' := w.heap.size + 1) (u := (.string ⟨⟨oa⟩⟩)) q2 (by omega))) (by omega)
    have e3 := Boxed.set (.int .i64 0) (setBox (b' := w.heap.size + 1 + 1) (u := (.string ⟨⟨ju⟩⟩)) (setBox (b' := w.heap.size + 1) (u := (.string ⟨⟨oa⟩⟩)) q3 (by omega)) (by omega))
    have hc1 := cell_kept e1.cell (grownBy_putObj' _ D (.deferred none)) (fun r e => by cases e; exact ⟨_, hKX, rfl⟩)
    have hc2 := cell_kept e2.cell (grownBy_putObj' _ D (.deferred none)) (fun r e => by cases e; exact ⟨_, hKX, rfl⟩)
    have hc3 := cell_kept e3.cell (grownBy_putObj' _ D (.deferred none)) (fun r e => by cases e; exact ⟨_, hKX, rfl⟩)
    have hbX := (((hb0.trans (hbel6.mono (show w.heap.size ≤ w1.heap.size by omega))).setCell (p := ⟨w.heap.size + 1, 0, none⟩) (show w.heap.size ≤ w.heap.size + 1 by omega) (.string ⟨⟨oa⟩⟩)).setCell (p := ⟨w.heap.size + 1 + 1, 0, none⟩) (show w.heap.size ≤ w.heap.size + 1 + 1 by omega) (.string ⟨⟨ju⟩⟩)).setCell (p := ⟨w.heap.size + 1 + 1 + 1, 0, none⟩) (show w.heap.size ≤ w.heap.size + 1 + 1 + 1 by omega) (.int .i64 0)
    refine ⟨.tuple #[(.string ⟨⟨oa⟩⟩), (.string ⟨⟨ju⟩⟩), (.int .i64 0)], ?_, rfl, hbX.trans (belowK_b (w := w) (Nat.le_refl _) _ D _ _ (by omega) hKX rfl rfl)⟩
    simp [results, Tryz.f124, go_sem, hc1, hc2, hc3]
 case stop =>
  rintro D c pre W hD hpre ⟨rfl, hne, h1, h2, h3, hbel⟩ hK
  have ho : some (([] : List UInt8), ([] : List UInt8), res.1) = some (oa, ou, oc) := by
   rw [← hout]
   unfold outF
   rw [show (res.1 != 0) = true by simpa using hne]; rfl
  cases ho
  gi_wp2
  refine ⟨by simp, .inl ⟨_, _, rfl, run_takeDeferred hK, ?_⟩⟩
  have hc1 := cell_kept h1.cell (grownBy_putObj' _ D (.deferred none)) (fun r e => by cases e; exact ⟨_, hK, rfl⟩)
  have hc2 := cell_kept h2.cell (grownBy_putObj' _ D (.deferred none)) (fun r e => by cases e; exact ⟨_, hK, rfl⟩)
  have hc3 := cell_kept h3.cell (grownBy_putObj' _ D (.deferred none)) (fun r e => by cases e; exact ⟨_, hK, rfl⟩)
  rw [hszN] at hD
  refine ⟨.tuple #[.string ⟨#[]⟩, .string ⟨#[]⟩, .int .i64 res.1], ?_, rfl, hbel.trans (belowK_b (w := w) (Nat.le_refl _) W D _ _ (by omega) hK rfl rfl)⟩
  simp [results, Tryz.f124, go_sem, hc1, hc2, hc3]
set_option maxHeartbeats 4000000 in
theorem both_err (v0 v1 v2 v3 v4 : Value) (s : List UInt8) (c : Int) (hc : c ≠ 0) (w : World)
 (hlab : ∀ W, Below w.heap.size w W → Calls Tryz.prog 157 #[.agg #[v0, v1, v2, v3, v4], .string ⟨⟨s⟩⟩] W fun e w' => ∃ v, e = .returned (.tuple #[v, .int .i64 c]) ∧ Below W.heap.size W w') :
 Calls Tryz.prog 124 #[.agg #[v0, v1, v2, v3, v4], .string ⟨⟨s⟩⟩] w fun e w' => e = .returned (.tuple #[.string ⟨#[]⟩, .string ⟨#[]⟩, .int .i64 c]) ∧ Below w.heap.size w w' := by
 have hW0 : Below w.heap.size w ((((w.alloc (.cells #[v0, v1, v2, v3, v4] 39)).alloc (.cells #[.string ⟨#[]⟩] 9)).alloc (.cells #[.string ⟨#[]⟩] 9)).alloc (.cells #[.int .i64 0] 44)) :=
  ((((Below.refl _ w).alloc (Nat.le_refl _) _).alloc (by simp) _).alloc (by simp <;> omega) _).alloc (by simp <;> omega) _
 have hR : ∀ X, Below (w.heap.size + 4) ((((w.alloc (.cells #[v0, v1, v2, v3, v4] 39)).alloc (.cells #[.string ⟨#[]⟩] 9)).alloc (.cells #[.string ⟨#[]⟩] 9)).alloc (.cells #[.int .i64 0] 44)) X → Boxed X (w.heap.size + 1) 9 (.string ⟨#[]⟩) ∧ Boxed X (w.heap.size + 1 + 1) 9 (.string ⟨#[]⟩) ∧ Boxed X (w.heap.size + 1 + 1 + 1) 44 (.int .i64 0) := fun X hX => by
  refine ⟨?_, ?_, ?_⟩
  · show X.heap[_]? = _
    rw [hX.block _ (by omega), Below.heap_alloc _ _ _ (by simp <;> omega), Below.heap_alloc _ _ _ (by simp)]
    have := heap_alloc_new (w.alloc (.cells #[v0, v1, v2, v3, v4] 39)) (.cells #[.string ⟨#[]⟩] 9)
    rwa [World.size_alloc] at this
  · show X.heap[_]? = _
    rw [hX.block _ (by omega), Below.heap_alloc _ _ _ (by simp)]
    have := heap_alloc_new ((w.alloc (.cells #[v0, v1, v2, v3, v4] 39)).alloc (.cells #[.string ⟨#[]⟩] 9)) (.cells #[.string ⟨#[]⟩] 9)
    rwa [World.size_alloc, World.size_alloc] at this
  · show X.heap[_]? = _
    rw [hX.block _ (by omega)]
    have := heap_alloc_new (((w.alloc (.cells #[v0, v1, v2, v3, v4] 39)).alloc (.cells #[.string ⟨#[]⟩] 9)).alloc (.cells #[.string ⟨#[]⟩] 9)) (.cells #[.int .i64 0] 44)
    rwa [World.size_alloc, World.size_alloc, World.size_alloc] at this
 have hl := hlab _ hW0
 clear hlab
 go_enter Tryz.func124, Tryz.ntmps124
 go_wp2_with (go_at_call 157; refine hl.mono ?_; rintro e w1 ⟨lv, rfl, hb1⟩; obtain ⟨q1, q2, q3⟩ := hR w1 (hb1.mono (by simp)); have q4 := q1.cell; have q5 := q1.frozen; have q6 := q2.cell; have q7 := q2.frozen; have q8 := q3.cell; have q9 := q3.frozen)
 have e1 := setBox (b' := w.heap.size + 1 + 1 + 1) (u := (.int .i64 c)) (setBox (b' := w.heap.size + 1 + 1) (u := (.string ⟨#[]⟩)) (Boxed.set (.string ⟨#[]⟩) q1) (by omega)) (by omega)
 have e2 := setBox (b' := w.heap.size + 1 + 1 + 1) (u := (.int .i64 c)) (Boxed.set (.string ⟨#[]⟩) (setBox (b' := w.heap.size + 1) (u := (.string ⟨#[]⟩)) q2 (by omega))) (by omega)
 have e3 := Boxed.set (.int .i64 c) (setBox (b' := w.heap.size + 1 + 1) (u := (.string ⟨#[]⟩)) (setBox (b' := w.heap.size + 1) (u := (.string ⟨#[]⟩)) q3 (by omega)) (by omega))
 have hc1 := e1.cell
 have hc2 := e2.cell
 have hc3 := e3.cell
 have hbX := (((hW0.trans (hb1.mono (by simp <;> omega))).setCell (p := ⟨w.heap.size + 1, 0, none⟩) (show w.heap.size ≤ w.heap.size + 1 by omega) (.string ⟨#[]⟩)).setCell (p := ⟨w.heap.size + 1 + 1, 0, none⟩) (show w.heap.size ≤ w.heap.size + 1 + 1 by omega) (.string ⟨#[]⟩)).setCell (p := ⟨w.heap.size + 1 + 1 + 1, 0, none⟩) (show w.heap.size ≤ w.heap.size + 1 + 1 + 1 by omega) (.int .i64 c)
 (try simp only [Exit.inBlock, Exit.then])
 refine bodyPost_ret (by simp [results, Tryz.results124, go_sem, hc1, hc2, hc3]; try rfl) rfl ?_
 exact ⟨rfl, hbX⟩
theorem tbl_int {f : FuncId} {fn : Func} {F : T159} (h : FnOk Tryz.prog f ⟨Li17, Lo208, F⟩) (hf : Tryz.prog.funcs[f]? = some fn) (hb : fn.body.isSome = true) (hname : (fn.name == "runtime.NumGoroutine") = false) {t0 t1 t2} {x r : List UInt8} {c : Int} (hF : F (t0, t1, t2, x, ()) = some (r, c, ()))
 {w : World} {m : Md} (gi : GI w m) (hlt : ∀ b, m.a b → b < w.heap.size) {a : Array Value} (ht : RepL w m [] (tabA t0 t1 t2) a.toList) :
 Calls Tryz.prog f #[.agg a, .string ⟨⟨x⟩⟩] w fun e w' => e = .returned (.tuple #[.string ⟨⟨r⟩⟩, .int .i64 c]) ∧ Below w.heap.size w w' := by
 refine (FnOk.call0 (v := (t0, t1, t2, x, ())) (y := (r, c, ())) h hf hb hname gi hlt rfl ⟨_, _, rfl, ⟨a, rfl, ht⟩, _, _, rfl, rfl, rfl⟩ rfl hF ?_).mono fun e w' ⟨rv, h1, h2, ax, l', u, h3, h4⟩ => ?_
 · intro ax l' u h3
   cases osel_one_inv h3
   rfl
 · cases osel_one_inv h3
   obtain ⟨v, r', e1, ⟨b, e2, e3⟩, e4⟩ := h4
   have e4' : r' = [] := e4
   subst e4'
   cases e1
   subst h1 e2
   refine ⟨?_, h2⟩
   obtain ⟨v1, q1, f1, rfl, v2, q2, f2, ⟨rfl, _⟩, f4⟩ := e3
   have f4' : q2 = [] := f4
   subst f4' f2
   cases b
   cases f1
   rfl
theorem tbl_bool {f : FuncId} {fn : Func} {F : T151} (h : FnOk Tryz.prog f ⟨Li17, Lo51, F⟩) (hf : Tryz.prog.funcs[f]? = some fn) (hb : fn.body.isSome = true) (hname : (fn.name == "runtime.NumGoroutine") = false) {t0 t1 t2} {x r : List UInt8} {c : Bool} (hF : F (t0, t1, t2, x, ()) = some (r, c, ()))
 {w : World} {m : Md} (gi : GI w m) (hlt : ∀ b, m.a b → b < w.heap.size) {a : Array Value} (ht : RepL w m [] (tabA t0 t1 t2) a.toList) :
 Calls Tryz.prog f #[.agg a, .string ⟨⟨x⟩⟩] w fun e w' => e = .returned (.tuple #[.string ⟨⟨r⟩⟩, .bool c]) ∧ Below w.heap.size w w' := by
 refine (FnOk.call0 (v := (t0, t1, t2, x, ())) (y := (r, c, ())) h hf hb hname gi hlt rfl ⟨_, _, rfl, ⟨a, rfl, ht⟩, _, _, rfl, rfl, rfl⟩ rfl hF ?_).mono fun e w' ⟨rv, h1, h2, ax, l', u, h3, h4⟩ => ?_
 · intro ax l' u h3
   cases osel_one_inv h3
   rfl
 · cases osel_one_inv h3
   obtain ⟨v, r', e1, ⟨b, e2, e3⟩, e4⟩ := h4
   have e4' : r' = [] := e4
   subst e4'
   cases e1
   subst h1 e2
   refine ⟨?_, h2⟩
   obtain ⟨v1, q1, f1, rfl, v2, q2, f2, rfl, f4⟩ := e3
   have f4' : q2 = [] := f4
   subst f4' f2
   cases b
   cases f1
   rfl
def C124 : T124 := fun (t0, t1, t2, s, _) =>
 (C151 (t0, t1, t2, s, ())).bind fun f => (labelsF f.1 f.2.1).bind fun lc =>
  bif lc.2 != 0 then some ([], [], lc.2, ()) else
  bif decide (lc.1.length ≤ 32) then
   (bothF (fun x => (C159 (t0, t1, t2, x, ())).map fun r => (r.1, r.2.1)) (fun x => (C160 (t0, t1, t2, x, ())).map fun r => (r.1, r.2.1)) lc.1 [] []).bind fun res => (outF res).map fun o => (o.1, o.2.1, o.2.2, ())
  else none
theorem ok124 : FnOk Tryz.prog 124 (E124 C124) := by
 refine hand Tryz.func124 (by kernel_rfl) (by kernel_rfl) (fun _ => rfl) (fun _ => rfl) ?_
 rintro ⟨t0, t1, t2, s, u⟩ y hy w m args gi hn hlt hargs
 obtain ⟨va, r1, e1, ⟨a, rfl, ht⟩, vs, r2, e2, e3, e4⟩ := hargs
 have e4' : r2 = [] := e4
 have e3' : vs = .string ⟨⟨s⟩⟩ := e3
 subst e4' e3' e2
 have ha : args = #[.agg a, .string ⟨⟨s⟩⟩] := by cases args; simpa using e1
 subst ha
 have ht0 : RepL w m [] (tabA t0 t1 t2) a.toList := ht
 have hst : ∀ W, Below w.heap.size w W → Stp w m W m := fun W hb => stp_below hb fun b hb => (hn b hb).elim
 have htW : ∀ W, Below w.heap.size w W → RepL W m [] (tabA t0 t1 t2) a.toList := fun W hb => RepL.mono (hst W hb) (fun _ _ h => h) _ _ ht0
 have hltW : ∀ W, Below w.heap.size w W → ∀ b, m.a b → b < W.heap.size := fun W hb b h => Nat.lt_of_lt_of_le (hlt b h) hb.size
 have g0 : GI w m0 := ⟨gi.i, fun b hb => ⟨(gi.b b hb).1, fun h => h⟩⟩
 obtain ⟨v0, v1, v2, v3, v4, rfl⟩ : ∃ v0 v1 v2 v3 v4, a = #[v0, v1, v2, v3, v4] := by
  obtain ⟨w0, q0, f0, _, w1, q1, f1, _, w2, q2, f2, _, w3, q3, f3, _, w4, q4, f4, _, f5⟩ := ht0
  have f5' : q4 = [] := f5
  subst f5' f4 f3 f2 f1
  exact ⟨w0, w1, w2, w3, w4, by cases a; simpa using f0⟩
 have hy1 : ((C151 (t0, t1, t2, s, ())).bind fun f => (labelsF f.1 f.2.1).bind fun lc =>
  bif lc.2 != 0 then some ([], [], lc.2, ()) else
  bif decide (lc.1.length ≤ 32) then
   (bothF (fun x => (C159 (t0, t1, t2, x, ())).map fun r => (r.1, r.2.1)) (fun x => (C160 (t0, t1, t2, x, ())).map fun r => (r.1, r.2.1)) lc.1 [] []).bind fun res => (outF res).map fun o => (o.1, o.2.1, o.2.2, ())
  else none) = some y := hy
 obtain ⟨⟨f, ok, u0⟩, hf, hy2⟩ := Option.bind_eq_some_iff.1 hy1
 obtain ⟨⟨ls, c⟩, hls, hy3⟩ := Option.bind_eq_some_iff.1 hy2
 simp only at hls hy3
 have hfold : ∀ W, Below w.heap.size w W → Calls Tryz.prog 151 #[.agg #[v0, v1, v2, v3, v4], .string ⟨⟨s⟩⟩] W fun e W' => e = .returned (.tuple #[.string ⟨⟨f⟩⟩, .bool ok]) ∧ Below W.heap.size W W' :=
  fun W hb => tbl_bool ok151 Tryz.func151 (by kernel_rfl) (by kernel_rfl) hf (gi.mono (hst W hb)) (hltW W hb) (htW W hb)
 have hlab : ∀ W, Below w.heap.size w W → Calls Tryz.prog 157 #[.agg #[v0, v1, v2, v3, v4], .string ⟨⟨s⟩⟩] W fun e w' => ∃ v, e = .returned (.tuple #[v, .int .i64 c]) ∧ Below W.heap.size W w' ∧ w'.ownsRow W.heap.size 9 1 v ls.length (ls.map encS) :=
  fun W hb => labels_walk v0 v1 v2 v3 v4 s f ok ls c W (gi_below g0 hb) hls fun W2 hb2 => hfold W2 (hb.trans (hb2.mono hb.size))
 suffices hmain : ∃ oa ou oc, y = (oa, ou, oc, ()) ∧ Calls Tryz.prog 124 #[.agg #[v0, v1, v2, v3, v4], .string ⟨⟨s⟩⟩] w fun e w' => e = .returned (.tuple #[.string ⟨⟨oa⟩⟩, .string ⟨⟨ou⟩⟩, .int .i64 oc]) ∧ Below w.heap.size w w' by
  obtain ⟨oa, ou, oc, rfl, hc⟩ := hmain
  refine hc.mono fun e w' ⟨k1, k2⟩ => ⟨_, k1, k2, .ret, [.tuple 3, .str, .str, .int .i64], (oa, ou, oc, ()), osel_one [.tuple 3, .str, .str, .int .i64] (oa, ou, oc, ()), rfl, rfl, ?_⟩
  exact ⟨_, [], rfl, ⟨_, rfl, _, _, rfl, rfl, _, _, rfl, rfl, _, _, rfl, ⟨rfl, fun h => (by cases h)⟩, rfl⟩, rfl⟩
 by_cases hc : c = 0
 · subst hc
   have hy4 : (bif decide (ls.length ≤ 32) then
    (bothF (fun x => (C159 (t0, t1, t2, x, ())).map fun r => (r.1, r.2.1)) (fun x => (C160 (t0, t1, t2, x, ())).map fun r => (r.1, r.2.1)) ls [] []).bind fun res => (outF res).map fun o => (o.1, o.2.1, o.2.2, ())
    else none) = some y := hy3
   rcases cond_some hy4 with ⟨h32, hy5⟩ | ⟨_, hy5⟩
   case inr => cases hy5
   obtain ⟨res, hres, hy6⟩ := Option.bind_eq_some_iff.1 hy5
   obtain ⟨⟨oa, ou, oc⟩, hout, hy7⟩ := Option.map_eq_some_iff.1 hy6
   refine ⟨oa, ou, oc, hy7.symm, ?_⟩
   refine both_walk v0 v1 v2 v3 v4 s ls _ _ res w g0 (of_decide_eq_true h32) hres oa ou oc hout (fun W hb => hlab W hb) ?_ ?_
   · intro x r hr W hb
     obtain ⟨⟨r1, r2, r3⟩, hq, rfl⟩ := Option.map_eq_some_iff.1 hr
     exact tbl_int ok159 Tryz.func159 (by kernel_rfl) (by kernel_rfl) hq (gi.mono (hst W hb)) (hltW W hb) (htW W hb)
   · intro x r hr W hb
     obtain ⟨⟨r1, r2, r3⟩, hq, rfl⟩ := Option.map_eq_some_iff.1 hr
     exact tbl_int ok160 Tryz.func160 (by kernel_rfl) (by kernel_rfl) hq (gi.mono (hst W hb)) (hltW W hb) (htW W hb)
 · rcases cond_some hy3 with ⟨_, hy4⟩ | ⟨h0, _⟩
   case inr => exact (hc (by simpa using h0)).elim
   cases hy4
   exact ⟨[], [], c, rfl, both_err v0 v1 v2 v3 v4 s c hc w fun W hb => (hlab W hb).mono fun e w' ⟨v, k1, k2, _⟩ => ⟨v, k1, k2⟩⟩
end Go.Proofs.YtiacnhhmkdkpmaaGreatDoorA.W
namespace Go.Proofs.YtiacnhhmkdkpmaaGreatDoorA.W
open Go Go.Ae
abbrev T127 := LqS × Int × Unit → Option (Int × Unit)
def E127 (f : T127) : FEnt := ⟨Li13, Lo10, f⟩
def K127 (f162 : T162) := lk [(162, E162 f162)]
def F127 (f162 : T162) : T127 := fun (x0, x1, _) =>
 (f162 (x0, x1, ())).bind fun v => some (v.1, ())
def C127 : T127 := F127 C162
theorem ok127 : FO 127 (E127 C127) := zq1 Li13 Lo10 K127 F127 C162 (kc ok162 kn) Tryz.func127
abbrev T90_c0 := Int × Bool × Unit → Option (Int × Bool × Unit)
def E90_c0 (f : T90_c0) : LEnt := ⟨Li212, Lo213, f⟩
abbrev T90_c1 := Int × Bool × Unit → Option (Int × Bool × Unit)
def E90_c1 (f : T90_c1) : LEnt := ⟨Li212, Lo213, f⟩
abbrev T90 := Int × Unit → Option (Bool × Unit)
def E90 (f : T90) : FEnt := ⟨Li23, Lo29, f⟩
def K90 (f127 : T127) := lk [(127, E127 f127)]
theorem kok90 : KOk Tryz.prog (K90 C127) := (kc ok127 kn)
def F90_c0 (f127 : T127) : T90_c0 := fun (x0, x1, _) =>
 bif x1 then some (x0, true, ())
 else
 bif decide (x0 ≥ 48) then
 bif decide (x0 ≤ 57) then some (x0, true, ()) else some (x0, decide (x0 ≥ 128), ())
 else some (x0, decide (x0 ≥ 128), ())
def C90_c0 : T90_c0 := F90_c0 C127
theorem k90_c0 : CdOk 0 (subc (code Tryz.f90) [1, 0, 0, 0, 1, 1, 1]) (E90_c0 C90_c0) := zc1 Li212 Lo213 K90 F90_c0 C127 kok90
def N90_c1 (f90_c0 : T90_c0) : Ann := (.cond .nil (.cut .nil (E90_c0 f90_c0)))
def F90_c1 (f127 : T127) (f90_c0 : T90_c0) : T90_c1 := fun (x0, x1, _) =>
 bif x1 then some (x0, true, ())
 else
 bif decide (x0 ≥ 65) then (f90_c0 (x0, decide (x0 ≤ 90), ())).bind fun v => some (v.1, v.2.1, ())
 else (f90_c0 (x0, false, ())).bind fun v => some (v.1, v.2.1, ())
theorem h90_c1 (f127 : T127) (f90_c0 : T90_c0) : AqC (K90 f127) 0 (subc (code Tryz.f90) [1, 0, 0, 0, 1]) (N90_c1 f90_c0) Li212 Lo213 (F90_c1 f127 f90_c0) := fun v => by kernel_rfl
def C90_c1 : T90_c1 := F90_c1 C127 C90_c0
theorem k90_c1 : CdOk 0 (subc (code Tryz.f90) [1, 0, 0, 0, 1]) (E90_c1 C90_c1) :=
 frd kok90 (And.intro k90_c0 trivial) (h90_c1 C127 C90_c0)
def N90 (f90_c1 : T90_c1) : Ann := (.seq .nil (.seq (.blk (.seq (.cut .nil (E90_c1 f90_c1)) .nil)) .nil))
def F90 (f127 : T127) (f90_c1 : T90_c1) : T90 := fun (x0, _) =>
 bif decide (x0 ≥ 97) then
 (f90_c1 (x0, decide (x0 ≤ 122), ())).bind fun v =>
 bif v.2.1 then some (true, ())
 else
 (f127
 ([33, 35, 36, 37, 38, 39, 42, 43, 45, 47, 61, 63, 94, 95, 96, 123, 124, 125, 126], v.1,
 ())).bind
 fun v => some (decide (v.1 ≥ 0), ())
 else
 (f90_c1 (x0, false, ())).bind fun v =>
 bif v.2.1 then some (true, ())
 else
 (f127
 ([33, 35, 36, 37, 38, 39, 42, 43, 45, 47, 61, 63, 94, 95, 96, 123, 124, 125, 126], v.1,
 ())).bind
 fun v => some (decide (v.1 ≥ 0), ())
def C90 : T90 := F90 C127 C90_c1
theorem ok90 : FO 90 (E90 C90) := zq1_1 Li23 Lo29 K90 N90 F90 C127 C90_c1 kok90 Tryz.func90 (And.intro k90_c1 trivial)
abbrev T136_c0 := Int × LqS × Int × Int × Int × Unit → Option (Int × LqS × Int × Int × Int × Unit)
def E136_c0 (f : T136_c0) : LEnt := ⟨Li216, Lo217, f⟩
abbrev T136_l0 := Int × LqS × Int × Int × Int × Unit → Option (Int × LqS × Int × Int × Int × Unit)
def E136_l0 (f : T136_l0) : LEnt := ⟨Li216, Lo218, f⟩
abbrev T136 := LqS × Int × Int × Int × Unit → Option (LqS × LqS × Int × Int × Int × Unit)
def E136 (f : T136) : FEnt := ⟨Li214, Lo215, f⟩
def K136 (f90 : T90) := lk [(90, E90 f90)]
theorem kok136 : KOk Tryz.prog (K136 C90) := (kc ok90 kn)
def F136_c0 (f90 : T90) : T136_c0 := fun (x0, x1, x2, x3, x4, _) =>
 some (x0, x1, IntKind.i64.wrap (x2 + 1), x3, x4, ())
def C136_c0 : T136_c0 := F136_c0 C90
theorem k136_c0 : CdOk 1 (subc (code Tryz.f136) [1, 1, 0, 0, 0, 1]) (E136_c0 C136_c0) := zc1 Li216 Lo217 K136 F136_c0 C90 kok136
def N136_l0 (f136_c0 : T136_c0) : Ann := (.cut .nil (E136_c0 f136_c0))
def F136_l0 (f90 : T90) (f136_c0 : T136_c0) : LpF (Int × LqS × Int × Int × Int × Unit) (Int × LqS × Int × Int × Int × Unit) := fun (x0, x1, x2, x3, x4, _) =>
 bif decide (x2 < (↑x1.length : Int)) then
 bif decide (0 ≤ x2) && decide (x2 < (↑x1.length : Int)) then
 (f90 ((↑(x1.getD x2.toNat 0).toNat : Int), ())).bind fun v =>
 bif v.1 then
 (f136_c0 (x0, x1, x2, x3, x4, ())).bind fun v =>
 some
 (Sum.inl (v.1, v.2.1, v.2.2.1, v.2.2.2.1, v.2.2.2.2.1, ()))
 else some (Sum.inr (x0, x1, x2, x3, x4, ()))
 else none
 else some (Sum.inr (x0, x1, x2, x3, x4, ()))
theorem h136_l0 (f90 : T90) (f136_c0 : T136_c0) : AqL (K136 f90) 1 (subc (code Tryz.f136) [1, 1, 0, 0, 0]) (N136_l0 f136_c0) Li216 Lo218 (F136_l0 f90 f136_c0) := fun v => by kernel_rfl
def C136_l0 : T136_l0 := loopN (F136_l0 C90 C136_c0) big
theorem k136_l0 : LpOk 1 (subc (code Tryz.f136) [1, 1, 0, 0, 0]) (E136_l0 C136_l0) :=
 frm kok136 (And.intro k136_c0 trivial) (h136_l0 C90 C136_c0)
def N136 (f136_l0 : T136_l0) : Ann := (.seq .nil (.seq .nil (.seq (.blk (.loop (E136_l0 f136_l0))) .nil)))
def F136 (f90 : T90) (f136_l0 : T136_l0) : T136 := fun (x0, x1, x2, x3, _) =>
 (f136_l0 (x1, x0, x1, x2, x3, ())).bind fun v =>
 bif decide (0 ≤ v.2.2.1) && decide (v.2.2.1 ≤ (↑(List.length v.2.1) : Int)) then
 bif decide (0 ≤ v.1) && decide (v.1 ≤ v.2.2.1) then
 some
 (List.drop (Int.toNat v.1) (List.take (Int.toNat v.2.2.1) v.2.1), v.2.1,
 v.2.2.1, v.2.2.2.1, v.2.2.2.2.1, ())
 else none
 else none
theorem h136 (f90 : T90) (f136_l0 : T136_l0) : AqF (K136 f90) 1 Tryz.f136 (N136 f136_l0) Li214 Lo215 (F136 f90 f136_l0) := fun v => by kernel_rfl
def C136 : T136 := F136 C90 C136_l0
theorem ok136 : FO 136 (E136 C136) :=
 qo kok136 Tryz.func136 (And.intro k136_l0 trivial) (h136 C90 C136_l0)
abbrev T174 := Int × Unit → Option (Bool × Unit)
def E174 (f : T174) : FEnt := ⟨Li23, Lo29, f⟩
def K174 (f127 : T127) := lk [(127, E127 f127)]
def F174 (f127 : T127) : T174 := fun (x0, _) =>
 (f127 ([32, 9], x0, ())).bind fun v => some (decide (v.1 ≥ 0), ())
def C174 : T174 := F174 C127
theorem ok174 : FO 174 (E174 C174) := zq1 Li23 Lo29 K174 F174 C127 (kc ok127 kn) Tryz.func174
abbrev T173 := Int × Unit → Option (Bool × Unit)
def E173 (f : T173) : FEnt := ⟨Li23, Lo29, f⟩
def K173 (f174 : T174) := lk [(174, E174 f174)]
def F173 (f174 : T174) : T173 := fun (x0, _) =>
 (f174 (x0, ())).bind fun v =>
 bif v.1 then some (true, ())
 else bif decide (x0 > 32) then some (bif x0 == 127 then false else true, ()) else some (false, ())
def C173 : T173 := F173 C174
theorem ok173 : FO 173 (E173 C173) := zq1 Li23 Lo29 K173 F173 C174 (kc ok174 kn) Tryz.func173
abbrev T141 := Int × Int × LqS × Int × Int × Int × Unit → Option (LqS × Int × Int × Int × Unit)
def E141 (f : T141) : FEnt := ⟨Li219, Lo220, f⟩
def F141 : T141 := fun (x0, x1, x2, x3, x4, x5, _) =>
 some (x2, x3, x0, x1, ())
theorem h141 : AqF KqZ 1 Tryz.f141 .nil Li219 Lo220 (F141) := fun v => by kernel_rfl
def C141 : T141 := F141
theorem ok141 : FO 141 (E141 C141) :=
 q0 kn Tryz.func141 (h141)
abbrev T137_c0 := Int × LqS × Int × Int × Int × LqS × Unit → Option ((LqS × LqS × Int × Int × Int × Unit) ⊕ (Int × LqS × Int × Int × Int × LqS × Unit))
def E137_c0 (f : T137_c0) : LEnt := ⟨Li221, Lo222, f⟩
abbrev T137_l0 := Int × LqS × Int × Int × Int × LqS × Unit → Option ((LqS × Int × Int × Int × Unit) ⊕ (LqS × LqS × Int × Int × Int × Unit))
def E137_l0 (f : T137_l0) : LEnt := ⟨Li221, Lo223, f⟩
abbrev T137 := LqS × Int × Int × Int × Unit → Option (LqS × LqS × Int × Int × Int × Unit)
def E137 (f : T137) : FEnt := ⟨Li214, Lo215, f⟩
def K137 (f141 : T141) (f173 : T173) := lk [(141, E141 f141), (173, E173 f173)]
theorem kok137 : KOk Tryz.prog (K137 C141 C173) := (kc ok141 (kc ok173 kn))
def F137_c0 (f141 : T141) (f173 : T173) : T137_c0 := fun (x0, x1, x2, x3, x4, x5, _) =>
 bif decide (0 ≤ x0) && decide (x0 < (↑x1.length : Int)) then
 (f173 ((↑(x1.getD x0.toNat 0).toNat : Int), ())).bind fun v =>
 bif !v.1 then
 (f141 (x0, 4, x1, x2, x3, x4, ())).bind fun v =>
 some (Sum.inl ([], v.1, v.2.1, v.2.2.1, v.2.2.2.1, ()))
 else
 bif decide (0 ≤ x0) && decide (x0 < (↑x1.length : Int)) then
 bif
 decide
 (x5.length + [UInt8.ofNat (↑(x1.getD x0.toNat 0).toNat : Int).toNat].length ≤ 140737488355328 / 1) then
 some (Sum.inr (x0, x1, x2, x3, x4, x5 ++ [UInt8.ofNat (↑(x1.getD x0.toNat 0).toNat : Int).toNat], ()))
 else none
 else none
 else none
def C137_c0 : T137_c0 := F137_c0 C141 C173
theorem k137_c0 : CdOk 1 (subc (code Tryz.f137) [1, 1, 0, 1, 0, 0, 1, 0, 0, 1, 1, 1]) (E137_c0 C137_c0) := zc2 Li221 Lo222 K137 F137_c0 C141 C173 kok137
def N137_l0 (f137_c0 : T137_c0) : Ann := (.seq .nil (.seq (.blk (.seq .nil (.seq .nil (.cut .nil (E137_c0 f137_c0))))) .nil))
def F137_l0 (f141 : T141) (f173 : T173) (f137_c0 : T137_c0) : LpF (Int × LqS × Int × Int × Int × LqS × Unit) ((LqS × Int × Int × Int × Unit) ⊕ (LqS × LqS × Int × Int × Int × Unit)) := fun (x0, x1, x2, x3, x4, x5, _) =>
 bif decide (x0 < (↑x1.length : Int)) then
 bif decide (0 ≤ x0) && decide (x0 < (↑x1.length : Int)) then
 bif (↑(x1.getD x0.toNat 0).toNat : Int) == 34 then
 some (Sum.inr (Sum.inr (x5, x1, IntKind.i64.wrap (x0 + 1), x3, x4, ())))
 else
 bif (↑(x1.getD x0.toNat 0).toNat : Int) == 92 then
 bif IntKind.i64.wrap (x0 + 1) == (↑x1.length : Int) then some (Sum.inr (Sum.inl (x1, x2, x3, x4, ())))
 else
 (f137_c0 (IntKind.i64.wrap (x0 + 1), x1, x2, x3, x4, x5, ())).bind fun v =>
 Sum.elim
 (fun v =>
 some
 (Sum.inr
 (Sum.inr
 (v.1, v.2.1, v.2.2.1, v.2.2.2.1, v.2.2.2.2.1,
 ()))))
 (fun v =>
 some
 (Sum.inl
 (IntKind.i64.wrap (v.1 + 1), v.2.1, v.2.2.1, v.2.2.2.1,
 v.2.2.2.2.1, v.2.2.2.2.2.1, ())))
 v
 else
 (f137_c0 (x0, x1, x2, x3, x4, x5, ())).bind fun v =>
 Sum.elim
 (fun v =>
 some
 (Sum.inr
 (Sum.inr
 (v.1, v.2.1, v.2.2.1, v.2.2.2.1, v.2.2.2.2.1, ()))))
 (fun v =>
 some
 (Sum.inl
 (IntKind.i64.wrap (v.1 + 1), v.2.1, v.2.2.1, v.2.2.2.1,
 v.2.2.2.2.1, v.2.2.2.2.2.1, ())))
 v
 else none
 else some (Sum.inr (Sum.inl (x1, x2, x3, x4, ())))
def C137_l0 : T137_l0 := loopN (F137_l0 C141 C173 C137_c0) big
theorem k137_l0 : LpOk 1 (subc (code Tryz.f137) [1, 1, 0, 1, 0, 0]) (E137_l0 C137_l0) := zl2_1 Li221 Lo223 K137 N137_l0 F137_l0 C141 C173 C137_c0 kok137 (And.intro k137_c0 trivial)
def N137 (f137_l0 : T137_l0) : Ann := (.seq .nil (.seq .nil (.seq (.seq .nil (.blk (.loop (E137_l0 f137_l0)))) .nil)))
def F137 (f141 : T141) (f173 : T173) (f137_l0 : T137_l0) : T137 := fun (x0, x1, x2, x3, _) =>
 (f137_l0 (IntKind.i64.wrap (x1 + 1), x0, x1, x2, x3, [], ())).bind fun v =>
 Sum.elim
 (fun v =>
 (f141 (v.2.1, 4, v.1, v.2.1, v.2.2.1, v.2.2.2.1, ())).bind fun v =>
 some ([], v.1, v.2.1, v.2.2.1, v.2.2.2.1, ()))
 (fun v => some (v.1, v.2.1, v.2.2.1, v.2.2.2.1, v.2.2.2.2.1, ()))
 v
theorem h137 (f141 : T141) (f173 : T173) (f137_l0 : T137_l0) : AqF (K137 f141 f173) 1 Tryz.f137 (N137 f137_l0) Li214 Lo215 (F137 f141 f173 f137_l0) := fun v => by kernel_rfl
def C137 : T137 := F137 C141 C173 C137_l0
theorem ok137 : FO 137 (E137 C137) :=
 qo kok137 Tryz.func137 (And.intro k137_l0 trivial) (h137 C141 C173 C137_l0)
abbrev T138_c0 := Int × LqS × LqS × Int × Int × Int × Unit → Option (LqS × LqS × Int × Int × Int × Unit)
def E138_c0 (f : T138_c0) : LEnt := ⟨Li224, Lo225, f⟩
abbrev T138_l0 := Int × LqS × Int × Int × Int × Unit → Option ((LqS × Int × Int × Int × Unit) ⊕ (LqS × LqS × Int × Int × Int × Unit))
def E138_l0 (f : T138_l0) : LEnt := ⟨Li226, Lo227, f⟩
abbrev T138 := LqS × Int × Int × Int × Unit → Option (LqS × LqS × Int × Int × Int × Unit)
def E138 (f : T138) : FEnt := ⟨Li214, Lo215, f⟩
def K138 (f141 : T141) (f173 : T173) (f174 : T174) := lk [(141, E141 f141), (173, E173 f173), (174, E174 f174)]
theorem kok138 : KOk Tryz.prog (K138 C141 C173 C174) := (kc ok141 (kc ok173 (kc ok174 kn)))
def F138_c0 (f141 : T141) (f173 : T173) (f174 : T174) : T138_c0 := fun (x0, x1, x2, x3, x4, x5, _) =>
 some (x1, x2, IntKind.i64.wrap (x0 + 1), x4, x5, ())
theorem h138_c0 (f141 : T141) (f173 : T173) (f174 : T174) : AqC (K138 f141 f173 f174) 1 (subc (code Tryz.f138) [1, 0, 1, 0, 0, 1, 0, 0, 1, 0, 1, 0, 1]) .nil Li224 Lo225 (F138_c0 f141 f173 f174) := fun v => by kernel_rfl
def C138_c0 : T138_c0 := F138_c0 C141 C173 C174
theorem k138_c0 : CdOk 1 (subc (code Tryz.f138) [1, 0, 1, 0, 0, 1, 0, 0, 1, 0, 1, 0, 1]) (E138_c0 C138_c0) :=
 frc kok138 (h138_c0 C141 C173 C174)
def N138_l0 (f138_c0 : T138_c0) : Ann := (.seq .nil (.seq (.blk (.seq .nil (.blk (.seq .nil (.cond (.cut .nil (E138_c0 f138_c0)) .nil))))) .nil))
def F138_l0 (f141 : T141) (f173 : T173) (f174 : T174) (f138_c0 : T138_c0) : LpF (Int × LqS × Int × Int × Int × Unit) ((LqS × Int × Int × Int × Unit) ⊕ (LqS × LqS × Int × Int × Int × Unit)) := fun (x0, x1, x2, x3, x4, _) =>
 bif decide (x0 < (↑x1.length : Int)) then
 bif decide (0 ≤ x0) && decide (x0 < (↑x1.length : Int)) then
 bif (↑(x1.getD x0.toNat 0).toNat : Int) == 93 then
 bif decide (0 ≤ x0) && decide (x0 ≤ (↑x1.length : Int)) then
 bif decide (0 ≤ IntKind.i64.wrap (x2 + 1)) && decide (IntKind.i64.wrap (x2 + 1) ≤ x0) then
 (f138_c0 (x0, List.drop (IntKind.i64.wrap (x2 + 1)).toNat (List.take x0.toNat x1), x1, x2, x3, x4, ())).bind
 fun v =>
 some
 (Sum.inr
 (Sum.inr
 (v.1, v.2.1, v.2.2.1, v.2.2.2.1, v.2.2.2.2.1, ())))
 else none
 else none
 else
 bif (↑(x1.getD x0.toNat 0).toNat : Int) == 91 then
 (f141 (x0, 4, x1, x2, x3, x4, ())).bind fun v =>
 some (Sum.inr (Sum.inr ([], v.1, v.2.1, v.2.2.1, v.2.2.2.1, ())))
 else
 bif (↑(x1.getD x0.toNat 0).toNat : Int) == 92 then
 (f141 (x0, 4, x1, x2, x3, x4, ())).bind fun v =>
 some
 (Sum.inr (Sum.inr ([], v.1, v.2.1, v.2.2.1, v.2.2.2.1, ())))
 else
 (f174 ((↑(x1.getD x0.toNat 0).toNat : Int), ())).bind fun v =>
 bif v.1 then
 (f141 (x0, 4, x1, x2, x3, x4, ())).bind fun v =>
 some
 (Sum.inr
 (Sum.inr ([], v.1, v.2.1, v.2.2.1, v.2.2.2.1, ())))
 else
 (f173 ((↑(x1.getD x0.toNat 0).toNat : Int), ())).bind fun v =>
 bif !v.1 then
 (f141 (x0, 4, x1, x2, x3, x4, ())).bind fun v =>
 some
 (Sum.inr
 (Sum.inr ([], v.1, v.2.1, v.2.2.1, v.2.2.2.1, ())))
 else some (Sum.inl (IntKind.i64.wrap (x0 + 1), x1, x2, x3, x4, ()))
 else none
 else some (Sum.inr (Sum.inl (x1, x2, x3, x4, ())))
theorem h138_l0 (f141 : T141) (f173 : T173) (f174 : T174) (f138_c0 : T138_c0) : AqL (K138 f141 f173 f174) 1 (subc (code Tryz.f138) [1, 0, 1, 0, 0]) (N138_l0 f138_c0) Li226 Lo227 (F138_l0 f141 f173 f174 f138_c0) := fun v => by kernel_rfl
def C138_l0 : T138_l0 := loopN (F138_l0 C141 C173 C174 C138_c0) big
theorem k138_l0 : LpOk 1 (subc (code Tryz.f138) [1, 0, 1, 0, 0]) (E138_l0 C138_l0) :=
 frm kok138 (And.intro k138_c0 trivial) (h138_l0 C141 C173 C174 C138_c0)
def N138 (f138_l0 : T138_l0) : Ann := (.seq .nil (.seq (.seq .nil (.blk (.loop (E138_l0 f138_l0)))) .nil))
def F138 (f141 : T141) (f173 : T173) (f174 : T174) (f138_l0 : T138_l0) : T138 := fun (x0, x1, x2, x3, _) =>
 (f138_l0 (IntKind.i64.wrap (x1 + 1), x0, x1, x2, x3, ())).bind fun v =>
 Sum.elim
 (fun v =>
 (f141 (v.2.1, 4, v.1, v.2.1, v.2.2.1, v.2.2.2.1, ())).bind fun v =>
 some ([], v.1, v.2.1, v.2.2.1, v.2.2.2.1, ()))
 (fun v => some (v.1, v.2.1, v.2.2.1, v.2.2.2.1, v.2.2.2.2.1, ()))
 v
theorem h138 (f141 : T141) (f173 : T173) (f174 : T174) (f138_l0 : T138_l0) : AqF (K138 f141 f173 f174) 1 Tryz.f138 (N138 f138_l0) Li214 Lo215 (F138 f141 f173 f174 f138_l0) := fun v => by kernel_rfl
def C138 : T138 := F138 C141 C173 C174 C138_l0
theorem ok138 : FO 138 (E138 C138) :=
 qo kok138 Tryz.func138 (And.intro k138_l0 trivial) (h138 C141 C173 C174 C138_l0)
abbrev T139_l0 := Int × Int × Int × Int × LqS × Int × Int × Int × Unit → Option ((Int × Int × LqS × Int × Int × Int × Unit) ⊕ (Int × Int × LqS × Int × Int × Int × Unit) ⊕ (LqS × LqS × Int × Int × Int × Unit))
def E139_l0 (f : T139_l0) : LEnt := ⟨Li228, Lo229, f⟩
abbrev T139_g0 := Int × Int × LqS × Int × Int × Int × Unit → Option (LqS × LqS × Int × Int × Int × Unit)
def E139_g0 (f : T139_g0) : LEnt := ⟨Li230, Lo231, f⟩
abbrev T139 := LqS × Int × Int × Int × Unit → Option (LqS × LqS × Int × Int × Int × Unit)
def E139 (f : T139) : FEnt := ⟨Li214, Lo215, f⟩
def K139 (f141 : T141) (f173 : T173) := lk [(141, E141 f141), (173, E173 f173)]
theorem kok139 : KOk Tryz.prog (K139 C141 C173) := (kc ok141 (kc ok173 kn))
def F139_l0 (f141 : T141) (f173 : T173) : LpF (Int × Int × Int × Int × LqS × Int × Int × Int × Unit) ((Int × Int × LqS × Int × Int × Int × Unit) ⊕ (Int × Int × LqS × Int × Int × Int × Unit) ⊕ (LqS × LqS × Int × Int × Int × Unit)) := fun (x0, x1, x2, x3, x4, x5, x6, x7, _) =>
 bif decide (x3 < (↑x4.length : Int)) then
 bif decide (0 ≤ x3) && decide (x3 < (↑x4.length : Int)) then
 bif (↑(x4.getD x3.toNat 0).toNat : Int) == 40 then
 bif decide (IntKind.i64.wrap (x1 + 1) > 32) then
 some (Sum.inr (Sum.inr (Sum.inl (6, x3, x4, x5, x6, x7, ()))))
 else some (Sum.inl (x0, IntKind.i64.wrap (x1 + 1), x2, IntKind.i64.wrap (x3 + 1), x4, x5, x6, x7, ()))
 else
 bif (↑(x4.getD x3.toNat 0).toNat : Int) == 41 then
 bif IntKind.i64.wrap (x1 - 1) == 0 then
 bif decide (0 ≤ x3) && decide (x3 ≤ (↑x4.length : Int)) then
 bif decide (0 ≤ IntKind.i64.wrap (x0 + 1)) && decide (IntKind.i64.wrap (x0 + 1) ≤ x3) then
 some
 (Sum.inr
 (Sum.inr
 (Sum.inr
 (List.drop (IntKind.i64.wrap (x0 + 1)).toNat (List.take x3.toNat x4), x4,
 IntKind.i64.wrap (x3 + 1), x6, x7, ()))))
 else none
 else none
 else some (Sum.inl (x0, IntKind.i64.wrap (x1 - 1), x2, IntKind.i64.wrap (x3 + 1), x4, x5, x6, x7, ()))
 else
 bif (↑(x4.getD x3.toNat 0).toNat : Int) == 92 then
 bif IntKind.i64.wrap (x3 + 1) == (↑x4.length : Int) then
 some (Sum.inl (x0, x1, x2, IntKind.i64.wrap (IntKind.i64.wrap (x3 + 1) + 1), x4, x5, x6, x7, ()))
 else
 bif decide (0 ≤ IntKind.i64.wrap (x3 + 1)) && decide (IntKind.i64.wrap (x3 + 1) < (↑x4.length : Int)) then
 (f173 ((↑(x4.getD (IntKind.i64.wrap (x3 + 1)).toNat 0).toNat : Int), ())).bind fun v =>
 bif !v.1 then
 some (Sum.inr (Sum.inr (Sum.inl (x2, IntKind.i64.wrap (x3 + 1), x4, x5, x6, x7, ()))))
 else
 some
 (Sum.inl (x0, x1, x2, IntKind.i64.wrap (IntKind.i64.wrap (x3 + 1) + 1), x4, x5, x6, x7, ()))
 else none
 else
 (f173 ((↑(x4.getD x3.toNat 0).toNat : Int), ())).bind fun v =>
 bif !v.1 then some (Sum.inr (Sum.inr (Sum.inl (x2, x3, x4, x5, x6, x7, ()))))
 else some (Sum.inl (x0, x1, x2, IntKind.i64.wrap (x3 + 1), x4, x5, x6, x7, ()))
 else none
 else some (Sum.inr (Sum.inl (x0, x2, x4, x5, x6, x7, ())))
def C139_l0 : T139_l0 := loopN (F139_l0 C141 C173) big
theorem k139_l0 : LpOk 1 (subc (code Tryz.f139) [1, 0, 1, 1, 0, 1, 0, 0]) (E139_l0 C139_l0) := zl2 Li228 Lo229 K139 F139_l0 C141 C173 kok139
def F139_g0 (f141 : T141) (f173 : T173) : LpF (Int × Int × LqS × Int × Int × Int × Unit) (LqS × LqS × Int × Int × Int × Unit) := fun (x0, x1, x2, x3, x4, x5, _) =>
 (f141 (x1, x0, x2, x3, x4, x5, ())).bind fun v =>
 some (Sum.inr ([], v.1, v.2.1, v.2.2.1, v.2.2.2.1, ()))
theorem h139_g0 (f141 : T141) (f173 : T173) (v : HS Li230) : aev Γ (K139 f141 f173) 1 ((findLabel (subc (code Tryz.f139) [1, 0]) 0).getD .skip) .nil (stof Li230 v) (aroundL 1 0 [] Li230 Lo231) = F139_g0 f141 f173 v := by kernel_rfl
def C139_g0 : T139_g0 := loopN (F139_g0 C141 C173) big
theorem k139_g0 : FragOk Tryz.prog 1 (ScopeFrom Tryz.prog (subc (code Tryz.f139) [1, 0]) 0) (E139_g0 C139_g0) :=
 frag_big (ins := Li230) (os := Lo231) (C := C139_g0) (frag_label (ins := Li230) (os := Lo231) (n := .nil) (ls := []) (F := F139_g0 C141 C173) (rest := ((findLabel (subc (code Tryz.f139) [1, 0]) 0).getD .skip)) hm hΓ kok139 (fun _ => big) (by kernel_rfl) (ann_nil _) find_nil (h139_g0 C141 C173)) rfl
def N139 (f139_g0 : T139_g0) (f139_l0 : T139_l0) : Ann := (.seq .nil (.scope (.seq .nil (.seq .nil (.seq (.seq .nil (.blk (.loop (E139_l0 f139_l0)))) .nil))) [(0, (E139_g0 f139_g0))]))
def F139 (f141 : T141) (f173 : T173) (f139_g0 : T139_g0) (f139_l0 : T139_l0) : T139 := fun (x0, x1, x2, x3, _) =>
 (f139_l0 (x1, 0, 4, x1, x0, x1, x2, x3, ())).bind fun v =>
 Sum.elim
 (fun v =>
 (f141
 (v.1, v.2.1, v.2.2.1, v.2.2.2.1, v.2.2.2.2.1,
 v.2.2.2.2.2.1, ())).bind
 fun v => some ([], v.1, v.2.1, v.2.2.1, v.2.2.2.1, ()))
 (fun v =>
 Sum.elim
 (fun v =>
 (f139_g0
 (v.1, v.2.1, v.2.2.1, v.2.2.2.1, v.2.2.2.2.1,
 v.2.2.2.2.2.1, ())).bind
 fun v =>
 some (v.1, v.2.1, v.2.2.1, v.2.2.2.1, v.2.2.2.2.1, ()))
 (fun v =>
 some (v.1, v.2.1, v.2.2.1, v.2.2.2.1, v.2.2.2.2.1, ()))
 v)
 v
theorem h139 (f141 : T141) (f173 : T173) (f139_g0 : T139_g0) (f139_l0 : T139_l0) : AqF (K139 f141 f173) 1 Tryz.f139 (N139 f139_g0 f139_l0) Li214 Lo215 (F139 f141 f173 f139_g0 f139_l0) := fun v => by kernel_rfl
def C139 : T139 := F139 C141 C173 C139_g0 C139_l0
theorem ok139 : FO 139 (E139 C139) :=
 qo kok139 Tryz.func139 (And.intro k139_l0 (And.intro k139_g0 trivial)) (h139 C141 C173 C139_g0 C139_l0)
abbrev T140_c0 := Int × Bool × LqS × Int × Int × Int × Unit → Option ((Int × LqS × Int × Int × Int × Unit) ⊕ (LqS × LqS × Int × Int × Int × Unit))
def E140_c0 (f : T140_c0) : LEnt := ⟨Li232, Lo233, f⟩
abbrev T140_l0 := Int × LqS × Int × Int × Int × Unit → Option ((Int × LqS × Int × Int × Int × Unit) ⊕ (LqS × LqS × Int × Int × Int × Unit))
def E140_l0 (f : T140_l0) : LEnt := ⟨Li234, Lo235, f⟩
abbrev T140 := LqS × Int × Int × Int × Unit → Option (LqS × LqS × Int × Int × Int × Unit)
def E140 (f : T140) : FEnt := ⟨Li214, Lo215, f⟩
def K140 (f174 : T174) := lk [(174, E174 f174)]
theorem kok140 : KOk Tryz.prog (K140 C174) := (kc ok174 kn)
def F140_c0 (f174 : T174) : T140_c0 := fun (x0, x1, x2, x3, x4, x5, _) =>
 bif x1 then some (Sum.inl (x0, x2, IntKind.i64.wrap (x3 + 3), x4, x5, ()))
 else
 bif decide (0 ≤ x3) && decide (x3 ≤ (↑x2.length : Int)) then
 bif decide (0 ≤ x0) && decide (x0 ≤ x3) then
 some (Sum.inr (List.drop x0.toNat (List.take x3.toNat x2), x2, x3, x4, x5, ()))
 else none
 else none
def C140_c0 : T140_c0 := F140_c0 C174
theorem k140_c0 : CdOk 1 (subc (code Tryz.f140) [1, 1, 0, 0, 0, 1, 0, 1, 0, 1, 1, 1]) (E140_c0 C140_c0) := zc1 Li232 Lo233 K140 F140_c0 C174 kok140
def N140_l0 (f140_c0 : T140_c0) : Ann := (.seq .nil (.blk (.seq .nil (.blk (.seq .nil (.cond .nil (.cut .nil (E140_c0 f140_c0))))))))
def F140_l0 (f174 : T174) (f140_c0 : T140_c0) : LpF (Int × LqS × Int × Int × Int × Unit) ((Int × LqS × Int × Int × Int × Unit) ⊕ (LqS × LqS × Int × Int × Int × Unit)) := fun (x0, x1, x2, x3, x4, _) =>
 bif decide (x2 < (↑x1.length : Int)) then
 bif decide (0 ≤ x2) && decide (x2 ≤ (↑x1.length : Int)) then
 bif decide (0 < (↑(List.drop x2.toNat x1).length : Int)) then
 (f174 ((↑((List.drop x2.toNat x1).getD 0 0).toNat : Int), ())).bind fun v =>
 bif v.1 then some (Sum.inl (x0, x1, IntKind.i64.wrap (x2 + 1), x3, x4, ()))
 else
 bif decide ((↑(List.drop x2.toNat x1).length : Int) > 2) then
 bif decide (2 ≤ (↑(List.drop x2.toNat x1).length : Int)) then
 bif List.take 2 (List.drop x2.toNat x1) == [13, 10] then
 bif decide (2 < (↑(List.drop x2.toNat x1).length : Int)) then
 (f174 ((↑((List.drop x2.toNat x1).getD 2 0).toNat : Int), ())).bind fun v =>
 (f140_c0 (x0, v.1, x1, x2, x3, x4, ())).bind fun v =>
 Sum.elim
 (fun v =>
 some
 (Sum.inl
 (v.1, v.2.1, v.2.2.1, v.2.2.2.1, v.2.2.2.2.1,
 ())))
 (fun v =>
 some
 (Sum.inr
 (Sum.inr
 (v.1, v.2.1, v.2.2.1, v.2.2.2.1, v.2.2.2.2.1,
 ()))))
 v
 else none
 else
 (f140_c0 (x0, false, x1, x2, x3, x4, ())).bind fun v =>
 Sum.elim
 (fun v =>
 some
 (Sum.inl
 (v.1, v.2.1, v.2.2.1, v.2.2.2.1, v.2.2.2.2.1,
 ())))
 (fun v =>
 some
 (Sum.inr
 (Sum.inr
 (v.1, v.2.1, v.2.2.1, v.2.2.2.1, v.2.2.2.2.1,
 ()))))
 v
 else none
 else
 (f140_c0 (x0, false, x1, x2, x3, x4, ())).bind fun v =>
 Sum.elim
 (fun v =>
 some
 (Sum.inl
 (v.1, v.2.1, v.2.2.1, v.2.2.2.1, v.2.2.2.2.1,
 ())))
 (fun v =>
 some
 (Sum.inr
 (Sum.inr
 (v.1, v.2.1, v.2.2.1, v.2.2.2.1, v.2.2.2.2.1,
 ()))))
 v
 else none
 else none
 else some (Sum.inr (Sum.inl (x0, x1, x2, x3, x4, ())))
theorem h140_l0 (f174 : T174) (f140_c0 : T140_c0) : AqL (K140 f174) 1 (subc (code Tryz.f140) [1, 1, 0, 0, 0]) (N140_l0 f140_c0) Li234 Lo235 (F140_l0 f174 f140_c0) := fun v => by kernel_rfl
def C140_l0 : T140_l0 := loopN (F140_l0 C174 C140_c0) big
theorem k140_l0 : LpOk 1 (subc (code Tryz.f140) [1, 1, 0, 0, 0]) (E140_l0 C140_l0) :=
 frm kok140 (And.intro k140_c0 trivial) (h140_l0 C174 C140_c0)
def N140 (f140_l0 : T140_l0) : Ann := (.seq .nil (.seq .nil (.seq (.blk (.loop (E140_l0 f140_l0))) .nil)))
def F140 (f174 : T174) (f140_l0 : T140_l0) : T140 := fun (x0, x1, x2, x3, _) =>
 (f140_l0 (x1, x0, x1, x2, x3, ())).bind fun v =>
 Sum.elim
 (fun v =>
 bif decide (0 ≤ v.2.2.1) && decide (v.2.2.1 ≤ (↑(List.length v.2.1) : Int)) then
 bif decide (0 ≤ v.1) && decide (v.1 ≤ v.2.2.1) then
 some
 (List.drop (Int.toNat v.1) (List.take (Int.toNat v.2.2.1) v.2.1), v.2.1,
 v.2.2.1, v.2.2.2.1, v.2.2.2.2.1, ())
 else none
 else none)
 (fun v => some (v.1, v.2.1, v.2.2.1, v.2.2.2.1, v.2.2.2.2.1, ()))
 v
theorem h140 (f174 : T174) (f140_l0 : T140_l0) : AqF (K140 f174) 1 Tryz.f140 (N140 f140_l0) Li214 Lo215 (F140 f174 f140_l0) := fun v => by kernel_rfl
def C140 : T140 := F140 C174 C140_l0
theorem ok140 : FO 140 (E140 C140) :=
 qo kok140 Tryz.func140 (And.intro k140_l0 trivial) (h140 C174 C140_l0)
abbrev T105_c0 := Int × Int × LqS × Int × Int × Int × Int × LqS × Int × Unit → Option (LqS × Int × Int × Int × Int × LqS × Int × Unit)
def E105_c0 (f : T105_c0) : LEnt := ⟨Li237, Lo238, f⟩
abbrev T105 := LqS × Int × Int × Int × Unit → Option (Int × LqS × Int × LqS × Int × Int × Int × Unit)
def E105 (f : T105) : FEnt := ⟨Li214, Lo236, f⟩
def K105 (f127 : T127) (f136 : T136) (f137 : T137) (f138 : T138) (f139 : T139) (f140 : T140) (f141 : T141) (f90 : T90) := lk [(127, E127 f127), (136, E136 f136), (137, E137 f137), (138, E138 f138), (139, E139 f139), (140, E140 f140), (141, E141 f141), (90, E90 f90)]
theorem kok105 : KOk Tryz.prog (K105 C127 C136 C137 C138 C139 C140 C141 C90) := (kc ok127 (kc ok136 (kc ok137 (kc ok138 (kc ok139 (kc ok140 (kc ok141 (kc ok90 kn))))))))
def F105_c0 (f127 : T127) (f136 : T136) (f137 : T137) (f138 : T138) (f139 : T139) (f140 : T140) (f141 : T141) (f90 : T90) : T105_c0 := fun (x0, x1, x2, x3, x4, x5, x6, x7, x8, _) =>
 (f90 (x1, ())).bind fun v =>
 bif v.1 then
 (f136 (x2, x3, x4, x5, ())).bind fun v =>
 some (v.2.1, v.2.2.1, v.2.2.2.1, v.2.2.2.2.1, 0, v.1, x0, ())
 else
 (f127 ([60, 62, 58, 59, 64, 44, 46], x1, ())).bind fun v =>
 bif decide (v.1 ≥ 0) then
 bif decide (0 ≤ IntKind.i64.wrap (x3 + 1)) && decide (IntKind.i64.wrap (x3 + 1) ≤ (↑x2.length : Int)) then
 bif decide (0 ≤ x0) && decide (x0 ≤ IntKind.i64.wrap (x3 + 1)) then
 some
 (x2, IntKind.i64.wrap (x3 + 1), x4, x5, 2,
 List.drop x0.toNat (List.take (IntKind.i64.wrap (x3 + 1)).toNat x2), x0, ())
 else none
 else none
 else
 bif x1 == 34 then
 (f137 (x2, x3, x4, x5, ())).bind fun v =>
 some
 (v.2.1, v.2.2.1, v.2.2.2.1, v.2.2.2.2.1, 1, v.1, x0, ())
 else
 bif x1 == 91 then
 (f138 (x2, x3, x4, x5, ())).bind fun v =>
 some
 (v.2.1, v.2.2.1, v.2.2.2.1, v.2.2.2.2.1, 5, v.1, x0, ())
 else
 bif x1 == 40 then
 (f139 (x2, x3, x4, x5, ())).bind fun v =>
 some
 (v.2.1, v.2.2.1, v.2.2.2.1, v.2.2.2.2.1, 3, v.1, x0,
 ())
 else
 (f140 (x2, x3, x4, x5, ())).bind fun v =>
 bif v.1 == [] then
 (f141 (x0, 4, v.2.1, v.2.2.1, v.2.2.2.1, v.2.2.2.2.1, ())).bind
 fun v1 =>
 some
 (v1.1, v1.2.1, v1.2.2.1, v1.2.2.2.1, 4, v.1, x0, ())
 else
 some
 (v.2.1, v.2.2.1, v.2.2.2.1, v.2.2.2.2.1, 4, v.1, x0,
 ())
theorem h105_c0 (f127 : T127) (f136 : T136) (f137 : T137) (f138 : T138) (f139 : T139) (f140 : T140) (f141 : T141) (f90 : T90) : AqC (K105 f127 f136 f137 f138 f139 f140 f141 f90) 1 (subc (code Tryz.f105) [1, 1]) .nil Li237 Lo238 (F105_c0 f127 f136 f137 f138 f139 f140 f141 f90) := fun v => by kernel_rfl
def C105_c0 : T105_c0 := F105_c0 C127 C136 C137 C138 C139 C140 C141 C90
theorem k105_c0 : CdOk 1 (subc (code Tryz.f105) [1, 1]) (E105_c0 C105_c0) :=
 frc kok105 (h105_c0 C127 C136 C137 C138 C139 C140 C141 C90)
def N105 (f105_c0 : T105_c0) : Ann := (.seq .nil (.cut .nil (E105_c0 f105_c0)))
def F105 (f127 : T127) (f136 : T136) (f137 : T137) (f138 : T138) (f139 : T139) (f140 : T140) (f141 : T141) (f90 : T90) (f105_c0 : T105_c0) : T105 := fun (x0, x1, x2, x3, _) =>
 bif decide (0 ≤ x1) && decide (x1 < (↑x0.length : Int)) then
 (f105_c0 (x1, (↑(x0.getD x1.toNat 0).toNat : Int), x0, x1, x2, x3, 0, [], 0, ())).bind fun v =>
 some
 (v.2.2.2.2.1, v.2.2.2.2.2.1, v.2.2.2.2.2.2.1, v.1, v.2.1,
 v.2.2.1, v.2.2.2.1, ())
 else none
theorem h105 (f127 : T127) (f136 : T136) (f137 : T137) (f138 : T138) (f139 : T139) (f140 : T140) (f141 : T141) (f90 : T90) (f105_c0 : T105_c0) : AqF (K105 f127 f136 f137 f138 f139 f140 f141 f90) 1 Tryz.f105 (N105 f105_c0) Li214 Lo236 (F105 f127 f136 f137 f138 f139 f140 f141 f90 f105_c0) := fun v => by kernel_rfl
def C105 : T105 := F105 C127 C136 C137 C138 C139 C140 C141 C90 C105_c0
theorem ok105 : FO 105 (E105 C105) :=
 qo kok105 Tryz.func105 (And.intro k105_c0 trivial) (h105 C127 C136 C137 C138 C139 C140 C141 C90 C105_c0)
abbrev T67_l0 := LqS × LqD × LqS × Int × Int × Int × Unit → Option ((LqD × Unit) ⊕ (Int × Int × Unit))
def E67_l0 (f : T67_l0) : LEnt := ⟨Li240, Lo241, f⟩
abbrev T67 := LqS × Unit → Option (LqD × Int × Int × Unit)
def E67 (f : T67) : FEnt := ⟨Li30, Lo239, f⟩
def K67 (f105 : T105) (f83 : T83) := lk [(105, E105 f105), (83, E83 f83)]
theorem kok67 : KOk Tryz.prog (K67 C105 C83) := (kc ok105 (kc ok83 kn))
def F67_l0 (f105 : T105) (f83 : T83) : LpF (LqS × LqD × LqS × Int × Int × Int × Unit) ((LqD × Unit) ⊕ (Int × Int × Unit)) := fun (x0, x1, x2, x3, x4, x5, _) =>
 bif decide (x3 < (↑x0.length : Int)) then
 (f105 (x2, x3, x4, x5, ())).bind fun v =>
 bif decide (x1.length + [(v.1, v.2.1, v.2.2.1)].length ≤ 140737488355328 / 32) then
 bif v.2.2.2.2.2.2.1 != 0 then
 some (Sum.inr (Sum.inr (v.2.2.2.2.2.1, v.2.2.2.2.2.2.1, ())))
 else
 some
 (Sum.inl
 (x0, x1 ++ [(v.1, v.2.1, v.2.2.1)], v.2.2.2.1, v.2.2.2.2.1,
 v.2.2.2.2.2.1, v.2.2.2.2.2.2.1, ()))
 else none
 else some (Sum.inr (Sum.inl (x1, ())))
def C67_l0 : T67_l0 := loopN (F67_l0 C105 C83) big
theorem k67_l0 : LpOk 0 (subc (code Tryz.f67) [1, 1, 1, 1, 1, 0, 0, 0]) (E67_l0 C67_l0) := zl2 Li240 Lo241 K67 F67_l0 C105 C83 kok67
def N67 (f67_l0 : T67_l0) : Ann := (.seq .nil (.seq .nil (.seq .nil (.seq .nil (.seq .nil (.seq (.blk (.loop (E67_l0 f67_l0))) .nil))))))
def F67 (f105 : T105) (f83 : T83) (f67_l0 : T67_l0) : T67 := fun (x0, _) =>
 bif decide ((↑x0.length : Int) > 2000) then some ([], 0, 5, ())
 else
 (f83 (x0, ())).bind fun v =>
 bif decide (v.2.1 ≥ 0) then some ([], v.2.1, 7, ())
 else
 (f67_l0 (x0, [], x0, 0, 0, 0, ())).bind fun v =>
 Sum.elim (fun v => some (v.1, 0, 0, ())) (fun v => some ([], v.1, v.2.1, ()))
 v
def C67 : T67 := F67 C105 C83 C67_l0
theorem ok67 : FO 67 (E67 C67) := zq2_1 Li30 Lo239 K67 N67 F67 C105 C83 C67_l0 kok67 Tryz.func67 (And.intro k67_l0 trivial)
abbrev T126_l0 := LqS × Int × Int × LqS × Unit → Option (LqS × Unit)
def E126_l0 (f : T126_l0) : LEnt := ⟨Li242, Lo243, f⟩
abbrev T126 := LqS × Unit → Option (LqS × Unit)
def E126 (f : T126) : FEnt := ⟨Li30, Lo16, f⟩
def F126_l0 : LpF (LqS × Int × Int × LqS × Unit) (LqS × Unit) := fun (x0, x1, x2, x3, _) =>
 bif decide (x2 < x1) then
 bif decide (0 ≤ x2) && decide (x2 < (↑x0.length : Int)) then
 bif (↑(x0.getD x2.toNat 0).toNat : Int) == 34 then
 bif decide (x3.length + [92].length ≤ 140737488355328 / 1) then
 bif decide (0 ≤ x2) && decide (x2 < (↑x0.length : Int)) then
 bif
 decide
 ((x3 ++ [92]).length +
 [UInt8.ofNat (↑(x0.getD x2.toNat 0).toNat : Int).toNat].length ≤
 140737488355328 / 1) then
 some
 (Sum.inl
 (x0, x1, IntKind.i64.wrap (x2 + 1),
 x3 ++ [92] ++ [UInt8.ofNat (↑(x0.getD x2.toNat 0).toNat : Int).toNat],
 ()))
 else none
 else none
 else none
 else
 bif decide (0 ≤ x2) && decide (x2 < (↑x0.length : Int)) then
 bif (↑(x0.getD x2.toNat 0).toNat : Int) == 92 then
 bif decide (x3.length + [92].length ≤ 140737488355328 / 1) then
 bif decide (0 ≤ x2) && decide (x2 < (↑x0.length : Int)) then
 bif
 decide
 ((x3 ++ [92]).length +
 [UInt8.ofNat (↑(x0.getD x2.toNat 0).toNat : Int).toNat].length ≤
 140737488355328 / 1) then
 some
 (Sum.inl
 (x0, x1, IntKind.i64.wrap (x2 + 1),
 x3 ++ [92] ++ [UInt8.ofNat (↑(x0.getD x2.toNat 0).toNat : Int).toNat],
 ()))
 else none
 else none
 else none
 else
 bif decide (0 ≤ x2) && decide (x2 < (↑x0.length : Int)) then
 bif
 decide
 (x3.length + [UInt8.ofNat (↑(x0.getD x2.toNat 0).toNat : Int).toNat].length ≤
 140737488355328 / 1) then
 some
 (Sum.inl
 (x0, x1, IntKind.i64.wrap (x2 + 1), x3 ++ [UInt8.ofNat (↑(x0.getD x2.toNat 0).toNat : Int).toNat],
 ()))
 else none
 else none
 else none
 else none
 else some (Sum.inr (x3, ()))
def C126_l0 : T126_l0 := loopN (F126_l0) big
theorem k126_l0 : LpOk 0 (subc (code Tryz.f126) [1, 1, 0, 1, 0, 0]) (E126_l0 C126_l0) := zl0 Li242 Lo243 KqZ F126_l0 kn
def N126 (f126_l0 : T126_l0) : Ann := (.seq .nil (.seq .nil (.seq (.seq .nil (.blk (.loop (E126_l0 f126_l0)))) .nil)))
def F126 (f126_l0 : T126_l0) : T126 := fun (x0, _) =>
 (f126_l0 (x0, (↑x0.length : Int), 0, [], ())).bind fun v => some (v.1, ())
def C126 : T126 := F126 C126_l0
theorem ok126 : FO 126 (E126 C126) := zq0_1 Li30 Lo16 KqZ N126 F126 C126_l0 kn Tryz.func126 (And.intro k126_l0 trivial)
abbrev T89 := Int × LqS × Int × Unit → Option (LqS × Unit)
def E89 (f : T89) : FEnt := ⟨Li244, Lo16, f⟩
def K89 (f126 : T126) := lk [(126, E126 f126)]
def F89 (f126 : T126) : T89 := fun (x0, x1, x2, _) =>
 bif x0 == 1 then
 (f126 (x1, ())).bind fun v =>
 bif decide ([34].length + List.length v.1 ≤ 9223372036854775807) then
 bif decide (([34] ++ v.1).length + [34].length ≤ 9223372036854775807) then
 some ([34] ++ v.1 ++ [34], ())
 else none
 else none
 else
 bif x0 == 3 then
 bif decide ([40].length + x1.length ≤ 9223372036854775807) then
 bif decide (([40] ++ x1).length + [41].length ≤ 9223372036854775807) then
 some ([40] ++ x1 ++ [41], ())
 else none
 else none
 else
 bif x0 == 5 then
 bif decide ([91].length + x1.length ≤ 9223372036854775807) then
 bif decide (([91] ++ x1).length + [93].length ≤ 9223372036854775807) then
 some ([91] ++ x1 ++ [93], ())
 else none
 else none
 else some (x1, ())
def C89 : T89 := F89 C126
theorem ok89 : FO 89 (E89 C89) := zq1 Li244 Lo16 K89 F89 C126 (kc ok126 kn) Tryz.func89
abbrev T85 := Int × Unit → Option (Bool × Unit)
def E85 (f : T85) : FEnt := ⟨Li28, Lo29, f⟩
def F85 : T85 := fun (x0, _) =>
 bif x0 != 9 then bif decide (x0 < 32) then some (true, ()) else some (x0 == 127, ())
 else some (false, ())
def C85 : T85 := F85
theorem ok85 : FO 85 (E85 C85) := zq0 Li28 Lo29 KqZ F85 kn Tryz.func85
abbrev T156v1_l0 := Bool × (LqS × Int) × Unit → Option ((Int × Unit) ⊕ Unit)
def E156v1_l0 (f : T156v1_l0) : LEnt := ⟨Li246, Lo189, f⟩
abbrev T156v1 := LqS × Bool × Unit → Option (Int × Unit)
def E156v1 (f : T156v1) : FEnt := ⟨Li245, Lo10, f⟩
def K156v1 (f85 : T85) := lk [(85, E85 f85)]
theorem kok156v1 : KOk Tryz.prog (K156v1 C85) := (kc ok85 kn)
def F156v1_l0 (f85 : T85) : LpF (Bool × (LqS × Int) × Unit) ((Int × Unit) ⊕ Unit) := fun (x0, x1, _) =>
 bif decide (Int.toNat x1.2 < List.length x1.1) then
 (f85 ((↑(decR x1.1 (Int.toNat x1.2)).1 : Int), ())).bind fun v =>
 bif v.1 == x0 then some (Sum.inr (Sum.inl ((↑(Int.toNat x1.2) : Int), ())))
 else some (Sum.inl (x0, (x1.1, (↑(Int.toNat x1.2 + (decR x1.1 (Int.toNat x1.2)).2) : Int)), ()))
 else some (Sum.inr (Sum.inr ()))
def C156v1_l0 : T156v1_l0 := loopN (F156v1_l0 C85) big
theorem k156v1_l0 : LpOk 0 (subc (code Tryz.f156) [1, 0, 1, 0, 0]) (E156v1_l0 C156v1_l0) := zl1 Li246 Lo189 K156v1 F156v1_l0 C85 kok156v1
def N156v1 (f156v1_l0 : T156v1_l0) : Ann := (.seq .nil (.seq (.seq .nil (.blk (.loop (E156v1_l0 f156v1_l0)))) .nil))
def F156v1 (f85 : T85) (f156v1_l0 : T156v1_l0) : T156v1 := fun (x0, x1, _) =>
 (f156v1_l0 (x1, (x0, (↑0 : Int)), ())).bind fun v =>
 Sum.elim (fun v => some (v.1, ())) (fun v => some (-1, ())) v
def C156v1 : T156v1 := F156v1 C85 C156v1_l0
theorem ok156v1 : FO 156 (E156v1 C156v1) := zq1_1 Li245 Lo10 K156v1 N156v1 F156v1 C85 C156v1_l0 kok156v1 Tryz.func156 (And.intro k156v1_l0 trivial)
abbrev T123v1 := LqS × Unit → Option (Int × Unit)
def E123v1 (f : T123v1) : FEnt := ⟨Li247, Lo10, f⟩
def K123v1 (f156v1 : T156v1) := lk [(156, E156v1 f156v1)]
def F123v1 (f156v1 : T156v1) : T123v1 := fun (x0, _) =>
 (f156v1 (x0, true, ())).bind fun v => some (v.1, ())
def C123v1 : T123v1 := F123v1 C156v1
theorem ok123v1 : FO 123 (E123v1 C123v1) := zq1 Li247 Lo10 K123v1 F123v1 C156v1 (kc ok156v1 kn) Tryz.func123
abbrev T84v1 := LqS × Unit → Option (Bool × Unit)
def E84v1 (f : T84v1) : FEnt := ⟨Li247, Lo29, f⟩
def K84v1 (f123v1 : T123v1) := lk [(123, E123v1 f123v1)]
def F84v1 (f123v1 : T123v1) : T84v1 := fun (x0, _) =>
 (f123v1 (x0, ())).bind fun v => some (decide (v.1 ≥ 0), ())
def C84v1 : T84v1 := F84v1 C123v1
theorem ok84v1 : FO 84 (E84v1 C84v1) := zq1 Li247 Lo29 K84v1 F84v1 C123v1 (kc ok123v1 kn) Tryz.func84
abbrev T86 := LqS × Unit → Option (Bool × Unit)
def E86 (f : T86) : FEnt := ⟨Li30, Lo29, f⟩
def K86 (f96 : T96) := lk [(96, E96 f96)]
def F86 (f96 : T96) : T86 := fun (x0, _) =>
 (f96 (x0, [91], ())).bind fun v => some (v.1, ())
def C86 : T86 := F86 C96
theorem ok86 : FO 86 (E86 C86) := zq1 Li30 Lo29 K86 F86 C96 (kc ok96 kn) Tryz.func86
abbrev T87 := LqA × LqB × LqC × LqS × Unit → Option (LqS × Int × Unit)
def E87 (f : T87) : FEnt := ⟨Li17, Lo208, f⟩
def K87 (f124 : T124) := lk [(124, E124 f124)]
def F87 (f124 : T124) : T87 := fun (x0, x1, x2, x3, _) =>
 (f124 (x0, x1, x2, x3, ())).bind fun v => some (v.1, v.2.2.1, ())
def C87 : T87 := F87 C124
theorem ok87 : FO 87 (E87 C87) := zq1 Li17 Lo208 K87 F87 C124 (kc ok124 kn) Tryz.func87
abbrev T44 := LqA × LqB × LqC × LqS × LqS × Unit → Option (Int × Unit)
def E44 (f : T44) : FEnt := ⟨Li248, Lo10, f⟩
def K44 (f67 : T67) (f83 : T83) (f84v1 : T84v1) (f86 : T86) (f87 : T87) := lk [(67, E67 f67), (83, E83 f83), (84, E84v1 f84v1), (86, E86 f86), (87, E87 f87)]
def F44 (f67 : T67) (f83 : T83) (f84v1 : T84v1) (f86 : T86) (f87 : T87) : T44 := fun (x0, x1, x2, x3, x4, _) =>
 (f83 (x3, ())).bind fun v =>
 bif x3 == [] then some (13, ())
 else
 bif decide ((↑x3.length : Int) > 64) then some (5, ())
 else
 bif decide (v.2.1 ≥ 0) then some (7, ())
 else
 (f84v1 (x3, ())).bind fun v =>
 bif v.1 then some (8, ())
 else
 (f86 (x4, ())).bind fun v =>
 bif v.1 then
 (f67 (x4, ())).bind fun v =>
 bif v.2.2.1 != 0 then some (4, ())
 else
 bif (↑(List.length v.1) : Int) != 1 then some (4, ())
 else
 bif decide (0 < (↑(List.length v.1) : Int)) then
 bif
 (List.getD v.1 0
 (0, ([], 0))).1 !=
 5 then
 some (4, ())
 else some (0, ())
 else none
 else (f87 (x0, x1, x2, x4, ())).bind fun v => some (v.2.1, ())
theorem h44 (f67 : T67) (f83 : T83) (f84v1 : T84v1) (f86 : T86) (f87 : T87) : AqF (K44 f67 f83 f84v1 f86 f87) 0 Tryz.f44 .nil Li248 Lo10 (F44 f67 f83 f84v1 f86 f87) := fun v => by kernel_rfl
def C44 : T44 := F44 C67 C83 C84v1 C86 C87
theorem ok44 : FO 44 (E44 C44) :=
 q0 (kc ok67 (kc ok83 (kc ok84v1 (kc ok86 (kc ok87 kn))))) Tryz.func44 (h44 C67 C83 C84v1 C86 C87)
abbrev T227_l0 := Int × (LqS × Int) × Unit → Option (Int × Unit)
def E227_l0 (f : T227_l0) : LEnt := ⟨Li249, Lo250, f⟩
abbrev T227 := LqS × Unit → Option (Int × Unit)
def E227 (f : T227) : FEnt := ⟨Li30, Lo10, f⟩
def F227_l0 : LpF (Int × (LqS × Int) × Unit) (Int × Unit) := fun (x0, x1, _) =>
 bif decide (Int.toNat x1.2 < List.length x1.1) then
 some
 (Sum.inl
 (IntKind.i64.wrap (x0 + 1), (x1.1, (↑(Int.toNat x1.2 + (decR x1.1 (Int.toNat x1.2)).2) : Int)),
 ()))
 else some (Sum.inr (x0, ()))
def C227_l0 : T227_l0 := loopN (F227_l0) big
theorem k227_l0 : LpOk 0 (subc (code Tryz.f227) [1, 0, 1, 0, 0]) (E227_l0 C227_l0) := zl0 Li249 Lo250 KqZ F227_l0 kn
def N227 (f227_l0 : T227_l0) : Ann := (.seq .nil (.seq (.seq .nil (.blk (.loop (E227_l0 f227_l0)))) .nil))
def F227 (f227_l0 : T227_l0) : T227 := fun (x0, _) =>
 (f227_l0 (0, (x0, (↑0 : Int)), ())).bind fun v => some (v.1, ())
def C227 : T227 := F227 C227_l0
theorem ok227 : FO 227 (E227 C227) := zq0_1 Li30 Lo10 KqZ N227 F227 C227_l0 kn Tryz.func227 (And.intro k227_l0 trivial)
abbrev T273 := LqS × Unit → Option (Int × Int × Unit)
def E273 (f : T273) : FEnt := ⟨Li30, Lo251, f⟩
def F273 : T273 := fun (x0, _) =>
 bif decide ((↑x0.length : Int) < 1) then some (65533, 0, ())
 else bif decide (0 < (↑x0.length : Int)) then none else none
def C273 : T273 := F273
theorem ok273 : FO 273 (E273 C273) := zq0 Li30 Lo251 KqZ F273 kn Tryz.func273
abbrev T228_c0 := LqS × Bool × Unit → Option ((Int × Int × Unit) ⊕ (Int × Int × Unit))
def E228_c0 (f : T228_c0) : LEnt := ⟨Li252, Lo253, f⟩
abbrev T228 := LqS × Unit → Option (Int × Int × Unit)
def E228 (f : T228) : FEnt := ⟨Li30, Lo251, f⟩
def K228 (f273 : T273) := lk [(273, E273 f273)]
theorem kok228 : KOk Tryz.prog (K228 C273) := (kc ok273 kn)
def F228_c0 (f273 : T273) : T228_c0 := fun (x0, x1, _) =>
 bif x1 then
 bif decide (0 < (↑x0.length : Int)) then
 some (Sum.inl (IntKind.i32.wrap (↑(x0.getD 0 0).toNat : Int), 1, ()))
 else none
 else (f273 (x0, ())).bind fun v => some (Sum.inr (v.1, v.2.1, ()))
def C228_c0 : T228_c0 := F228_c0 C273
theorem k228_c0 : CdOk 0 (subc (code Tryz.f228) [1, 0, 1]) (E228_c0 C228_c0) := zc1 Li252 Lo253 K228 F228_c0 C273 kok228
def N228 (f228_c0 : T228_c0) : Ann := (.seq .nil (.seq (.cut .nil (E228_c0 f228_c0)) .nil))
def F228 (f273 : T273) (f228_c0 : T228_c0) : T228 := fun (x0, _) =>
 bif !x0 == [] then
 bif decide (0 < (↑x0.length : Int)) then
 (f228_c0 (x0, decide ((↑(x0.getD 0 0).toNat : Int) < 128), ())).bind fun v =>
 Sum.elim (fun v => some (v.1, v.2.1, ())) (fun v => some (v.1, v.2.1, ()))
 v
 else none
 else
 (f228_c0 (x0, false, ())).bind fun v =>
 Sum.elim (fun v => some (v.1, v.2.1, ())) (fun v => some (v.1, v.2.1, ()))
 v
def C228 : T228 := F228 C273 C228_c0
theorem ok228 : FO 228 (E228 C228) := zq1_1 Li30 Lo251 K228 N228 F228 C273 C228_c0 kok228 Tryz.func228 (And.intro k228_c0 trivial)
abbrev T193_l0 := LqS × Int × Int × List (LqS) × Unit → Option (LqS × Int × List (LqS) × Unit)
def E193_l0 (f : T193_l0) : LEnt := ⟨Li255, Lo256, f⟩
abbrev T193_c0 := LqS × Int × Unit → Option (List (LqS) × Unit)
def E193_c0 (f : T193_c0) : LEnt := ⟨Li257, Lo258, f⟩
abbrev T193 := LqS × Int × Unit → Option (List (LqS) × Unit)
def E193 (f : T193) : FEnt := ⟨Li197, Lo254, f⟩
def K193 (f227 : T227) (f228 : T228) := lk [(227, E227 f227), (228, E228 f228)]
theorem kok193 : KOk Tryz.prog (K193 C227 C228) := (kc ok227 (kc ok228 kn))
def F193_l0 (f227 : T227) (f228 : T228) : LpF (LqS × Int × Int × List (LqS) × Unit) (LqS × Int × List (LqS) × Unit) := fun (x0, x1, x2, x3, _) =>
 bif decide (x2 < IntKind.i64.wrap (x1 - 1)) then
 (f228 (x0, ())).bind fun v =>
 bif decide (0 ≤ v.2.1) && decide (v.2.1 ≤ (↑x0.length : Int)) then
 bif decide (0 ≤ x2) && decide (x2 < (↑x3.length : Int)) then
 bif decide (0 ≤ v.2.1) && decide (v.2.1 ≤ (↑x0.length : Int)) then
 some
 (Sum.inl
 (List.drop (Int.toNat v.2.1) x0, x1, IntKind.i64.wrap (x2 + 1),
 x3.set x2.toNat (List.take (Int.toNat v.2.1) x0), ()))
 else none
 else none
 else none
 else some (Sum.inr (x0, x1, x3, ()))
def C193_l0 : T193_l0 := loopN (F193_l0 C227 C228) big
theorem k193_l0 : LpOk 0 (subc (code Tryz.f193) [1, 1, 1, 1, 0, 1, 0, 0]) (E193_l0 C193_l0) := zl2 Li255 Lo256 K193 F193_l0 C227 C228 kok193
def N193_c0 (f193_l0 : T193_l0) : Ann := (.seq .nil (.seq (.seq .nil (.blk (.loop (E193_l0 f193_l0)))) .nil))
def F193_c0 (f227 : T227) (f228 : T228) (f193_l0 : T193_l0) : T193_c0 := fun (x0, x1, _) =>
 bif
 decide (0 ≤ x1) &&
 (decide (x1 = x1) && (decide ((↑16 : Int) * x1 ≤ 281474976710656) && decide (x1 ≤ 140737488355328))) then
 (f193_l0 (x0, x1, 0, List.replicate x1.toNat [], ())).bind fun v =>
 bif decide (v.2.1 > 0) then
 bif
 decide (0 ≤ IntKind.i64.wrap (v.2.1 - 1)) &&
 decide (IntKind.i64.wrap (v.2.1 - 1) < (↑(List.length v.2.2.1) : Int)) then
 some (List.set v.2.2.1 (IntKind.i64.wrap (v.2.1 - 1)).toNat v.1, ())
 else none
 else some (v.2.2.1, ())
 else none
def C193_c0 : T193_c0 := F193_c0 C227 C228 C193_l0
theorem k193_c0 : CdOk 0 (subc (code Tryz.f193) [1, 1, 1]) (E193_c0 C193_c0) := zc2_1 Li257 Lo258 K193 N193_c0 F193_c0 C227 C228 C193_l0 kok193 (And.intro k193_l0 trivial)
def N193 (f193_c0 : T193_c0) : Ann := (.seq .nil (.seq .nil (.cut .nil (E193_c0 f193_c0))))
def F193 (f227 : T227) (f228 : T228) (f193_c0 : T193_c0) : T193 := fun (x0, x1, _) =>
 (f227 (x0, ())).bind fun v =>
 bif decide (x1 < 0) then (f193_c0 (x0, v.1, ())).bind fun v => some (v.1, ())
 else
 bif decide (x1 > v.1) then (f193_c0 (x0, v.1, ())).bind fun v => some (v.1, ())
 else (f193_c0 (x0, x1, ())).bind fun v => some (v.1, ())
def C193 : T193 := F193 C227 C228 C193_c0
theorem ok193 : FO 193 (E193 C193) := zq2_1 Li197 Lo254 K193 N193 F193 C227 C228 C193_c0 kok193 Tryz.func193 (And.intro k193_c0 trivial)
abbrev T195 := LqS × LqS × Unit → Option (Int × Unit)
def E195 (f : T195) : FEnt := ⟨Li114, Lo10, f⟩
def K195 (f197 : T197) := lk [(197, E197 f197)]
def F195 (f197 : T197) : T195 := fun (x0, x1, _) =>
 (f197 (x0, x1, ())).bind fun v => some (v.1, ())
def C195 : T195 := F195 C197
theorem ok195 : FO 195 (E195 C195) := zq1 Li114 Lo10 K195 F195 C197 (kc ok197 kn) Tryz.func195
end Go.Proofs.YtiacnhhmkdkpmaaGreatDoorA.W
