/- The texts of the proof, one behind the other: WK, PB, PCommandLong, PGlob. -/
import Derived.Test.YtiacnhhmkdkpmaaGreatDoorCMc5
import Derived.Test.YtiacnhhmkdkpmaaGreatDoorCMc2
import Derived.Test.YtiacnhhmkdkpmaaGreatDoorRows
import Derived.Test.YtiacnhhmkdkpmaaGreatDoorProg
import Derived.MakeChecks
set_option maxRecDepth 100000
set_option linter.unusedVariables false
namespace Go.Proofs.YtiacnhhmkdkpmaaGreatDoorC.W
open Go Go.Ae
def f97_ins : List Sh := [.str, .str]
def f97_outs : Outs := [(.ret, [.tuple 2, .str, .bool])]
def f61_ins : List Sh := [.str]
def f61_outs : Outs := [(.ret, [.int .i64])]
def f61_l0_ins : List Sh := (List.cons (.str) (tp 6 (List.cons (.agg 8) (List.cons (.str) (List.cons (.str) (List.cons (.str) (List.cons (.str) (List.cons (.str) (List.cons (.str) (List.cons (.str) (List.cons (.str) (List.cons (.int .i64) (tp 20 [])))))))))))))
def f61_l0_outs : Outs := [((.exit 0), (tp 29 [])), (.ret, (List.cons (.top) (List.cons (.top) (List.cons (.int .i64) (tp 26 [])))))]
def f62_ins : List Sh := []
def f62_outs : Outs := [(.ret, [.agg 8, .func (.func 98) 0 0, .func (.func 98) 0 0, .func (.func 99) 0 0, .func (.func 100) 0 0, .func (.func 101) 0 0, .func (.func 101) 0 0, .func (.func 102) 0 0, .func (.func 101) 0 0])]
def f104_ins : List Sh := [.int .i32]
def f104_outs : Outs := [(.ret, [.bool])]
def f156v3_ins : List Sh := [.str, .func (.func 104) 0 0, .bool]
def f156v3_outs : Outs := [(.ret, [.int .i64])]
def f156v3_l0_ins : List Sh := (List.cons (.top) (List.cons (.func (.func 104) 0 0) (List.cons (.bool) (tp 7 (List.cons (.ptr 0 0) (tp 10 (List.cons (.oiter) [])))))))
def f156v3_l0_outs : Outs := [(.ret, (tp 6 (List.cons (.int .i64) (tp 14 [])))), ((.exit 0), (tp 21 []))]
def f123v3_ins : List Sh := [.str, .func (.func 104) 0 0]
def f123v3_outs : Outs := [(.ret, [.int .i64])]
def f84v3_ins : List Sh := [.str, .func (.func 104) 0 0]
def f84v3_outs : Outs := [(.ret, [.bool])]
def f66_ins : List Sh := [.str]
def f66_outs : Outs := [(.ret, [.bool])]
def f98_ins : List Sh := [.agg 5, .lst YqA, .lst YqB, .lst YqC, .opq 0, .opq 1, .ptr 0 0, .str, .obox 8, .int .i64, .str, .bool, .str, .str, .int .i64, .bool, .bool]
def f98_outs : Outs := [(.ret, [.int .i64, .obox 8, .int .i64, .str, .bool, .str, .str, .int .i64, .bool, .bool])]
def f167_ins : List Sh := [.str]
def f167_outs : Outs := [(.ret, [.int .i64])]
def f167_c0_ins : List Sh := (List.cons (.str) (List.cons (.top) (List.cons (.top) (List.cons (.bool) (List.cons (.bool) (List.cons (.int .i64) (List.cons (.int .u8) (tp 18 (List.cons (.bool) (tp 17 []))))))))))
def f167_c0_outs : Outs := [(.normal, (List.cons (.str) (List.cons (.top) (List.cons (.top) (List.cons (.bool) (List.cons (.bool) (List.cons (.int .i64) (tp 37 [])))))))), (.ret, (List.cons (.top) (List.cons (.top) (List.cons (.int .i64) (tp 40 [])))))]
def f167_l0_ins : List Sh := (List.cons (.str) (List.cons (.top) (List.cons (.top) (List.cons (.bool) (List.cons (.bool) (List.cons (.int .i64) (tp 37 [])))))))
def f167_l0_outs : Outs := [((.exit 0), (tp 43 [])), (.ret, (List.cons (.top) (List.cons (.top) (List.cons (.int .i64) (tp 40 [])))))]
def f133_ins : List Sh := [.agg 5, .lst YqA, .lst YqB, .lst YqC, .opq 0, .opq 1, .ptr 0 0, .str, .str, .obox 8, .int .i64, .str, .bool, .str, .str, .int .i64, .bool, .bool]
def f133_outs : Outs := [(.ret, [.tuple 3, .str, .str, .int .i64, .obox 8, .int .i64, .str, .bool, .str, .str, .int .i64, .bool, .bool])]
def f204_ins : List Sh := [.str]
def f204_outs : Outs := [(.ret, [.tuple 2, .int .i64, .int .i64])]
def f204_l0_ins : List Sh := (List.cons (.str) (tp 3 (List.cons (.int .i64) (tp 3 (List.cons (.ptr 0 0) (tp 27 (List.cons (.oiter) [])))))))
def f204_l0_outs : Outs := [(.ret, (List.cons (.top) (List.cons (.top) (List.cons (.int .i64) (List.cons (.int .i64) (tp 32 [])))))), ((.exit 0), (List.cons (.str) (tp 3 (List.cons (.int .i64) (tp 31 [])))))]
def f168_ins : List Sh := [.ptr 0 0, .str, .obox 8, .int .i64, .str, .bool, .str, .str, .int .i64, .bool, .bool]
def f168_outs : Outs := [(.ret, [.tuple 2, .str, .int .i64, .obox 8, .int .i64, .str, .bool, .str, .str, .int .i64, .bool, .bool])]
def f168_c0_ins : List Sh := (List.cons (.ptr 0 0) (List.cons (.str) (List.cons (.top) (List.cons (.top) (List.cons (.str) (List.cons (.top) (List.cons (.str) (tp 21 (List.cons (.bool) (tp 32 (List.cons (.obox 8) (List.cons (.int .i64) (List.cons (.str) (List.cons (.bool) (List.cons (.str) (List.cons (.str) (List.cons (.int .i64) (List.cons (.bool) (List.cons (.bool) [])))))))))))))))))))
def f168_c0_outs : Outs := [(.ret, (tp 4 (List.cons (.str) (List.cons (.int .i64) (tp 55 (List.cons (.obox 8) (List.cons (.int .i64) (List.cons (.str) (List.cons (.bool) (List.cons (.str) (List.cons (.str) (List.cons (.int .i64) (List.cons (.bool) (List.cons (.bool) [])))))))))))))), (.normal, (tp 4 (List.cons (.str) (tp 56 (List.cons (.obox 8) (List.cons (.int .i64) (List.cons (.str) (List.cons (.bool) (List.cons (.str) (List.cons (.str) (List.cons (.int .i64) (List.cons (.bool) (List.cons (.bool) [])))))))))))))]
def f168_c1_ins : List Sh := (List.cons (.ptr 0 0) (List.cons (.str) (List.cons (.top) (List.cons (.top) (List.cons (.str) (List.cons (.top) (List.cons (.str) (List.cons (.bool) (tp 8 (List.cons (.bool) (tp 44 (List.cons (.obox 8) (List.cons (.int .i64) (List.cons (.str) (List.cons (.bool) (List.cons (.str) (List.cons (.str) (List.cons (.int .i64) (List.cons (.bool) (List.cons (.bool) []))))))))))))))))))))
def f168_c1_outs : Outs := [(.ret, (tp 4 (List.cons (.str) (List.cons (.int .i64) (tp 55 (List.cons (.obox 8) (List.cons (.int .i64) (List.cons (.str) (List.cons (.bool) (List.cons (.str) (List.cons (.str) (List.cons (.int .i64) (List.cons (.bool) (List.cons (.bool) [])))))))))))))), (.normal, (tp 4 (List.cons (.str) (tp 56 (List.cons (.obox 8) (List.cons (.int .i64) (List.cons (.str) (List.cons (.bool) (List.cons (.str) (List.cons (.str) (List.cons (.int .i64) (List.cons (.bool) (List.cons (.bool) [])))))))))))))]
def f94_ins : List Sh := [.lst .str, .str]
def f94_outs : Outs := [(.ret, [.int .i64])]
def f94_l0_ins : List Sh := (List.cons (.lst .str) (List.cons (.str) (tp 5 (List.cons (.int .i64) (List.cons (.int .i64) (tp 10 []))))))
def f94_l0_outs : Outs := [((.exit 0), (tp 19 [])), (.ret, (tp 4 (List.cons (.int .i64) (tp 14 []))))]
def f93_ins : List Sh := [.lst .str, .str]
def f93_outs : Outs := [(.ret, [.bool])]
def f134_ins : List Sh := [.ptr 0 0, .str, .obox 8, .int .i64, .str, .bool, .str, .str, .int .i64, .bool, .bool]
def f134_outs : Outs := [(.ret, [.int .i64, .obox 8, .int .i64, .str, .bool, .str, .str, .int .i64, .bool, .bool])]
def f134_l0_ins : List Sh := (List.cons (.ptr 0 0) (tp 6 (List.cons (.row 1) (tp 13 (List.cons (.lst .str) (List.cons (.int .i64) (List.cons (.int .i64) (tp 27 (List.cons (.obox 8) (List.cons (.int .i64) (List.cons (.str) (List.cons (.bool) (List.cons (.str) (List.cons (.str) (List.cons (.int .i64) (List.cons (.bool) (List.cons (.bool) (List.cons (.orow 9 .str) []))))))))))))))))))
def f134_l0_outs : Outs := [((.exit 0), (tp 51 (List.cons (.obox 8) (List.cons (.int .i64) (List.cons (.str) (List.cons (.bool) (List.cons (.str) (List.cons (.str) (List.cons (.int .i64) (List.cons (.bool) (List.cons (.bool) []))))))))))), (.ret, (tp 4 (List.cons (.int .i64) (tp 46 (List.cons (.obox 8) (List.cons (.int .i64) (List.cons (.str) (List.cons (.bool) (List.cons (.str) (List.cons (.str) (List.cons (.int .i64) (List.cons (.bool) (List.cons (.bool) [])))))))))))))]
def f99_ins : List Sh := [.agg 5, .lst YqA, .lst YqB, .lst YqC, .opq 0, .opq 1, .ptr 0 0, .str, .obox 8, .int .i64, .str, .bool, .str, .str, .int .i64, .bool, .bool]
def f99_outs : Outs := [(.ret, [.int .i64, .obox 8, .int .i64, .str, .bool, .str, .str, .int .i64, .bool, .bool])]
def f99_c0_ins : List Sh := (List.cons (.top) (List.cons (.ptr 0 0) (tp 5 (List.cons (.str) (List.cons (.top) (List.cons (.int .i64) (tp 32 (List.cons (.obox 8) (List.cons (.int .i64) (List.cons (.str) (List.cons (.bool) (List.cons (.str) (List.cons (.str) (List.cons (.int .i64) (List.cons (.bool) (List.cons (.bool) []))))))))))))))))
def f99_c0_outs : Outs := [(.ret, (tp 6 (List.cons (.int .i64) (tp 35 (List.cons (.obox 8) (List.cons (.int .i64) (List.cons (.str) (List.cons (.bool) (List.cons (.str) (List.cons (.str) (List.cons (.int .i64) (List.cons (.bool) (List.cons (.bool) [])))))))))))))]
def f100_ins : List Sh := [.agg 5, .lst YqA, .lst YqB, .lst YqC, .opq 0, .opq 1, .ptr 0 0, .str, .obox 8, .int .i64, .str, .bool, .str, .str, .int .i64, .bool, .bool]
def f100_outs : Outs := [(.ret, [.int .i64, .obox 8, .int .i64, .str, .bool, .str, .str, .int .i64, .bool, .bool])]
def f101_ins : List Sh := [.agg 5, .lst YqA, .lst YqB, .lst YqC, .opq 0, .opq 1, .ptr 0 0, .str, .obox 8, .int .i64, .str, .bool, .str, .str, .int .i64, .bool, .bool]
def f101_outs : Outs := [(.ret, [.int .i64, .obox 8, .int .i64, .str, .bool, .str, .str, .int .i64, .bool, .bool])]
def f102_ins : List Sh := [.agg 5, .lst YqA, .lst YqB, .lst YqC, .opq 0, .opq 1, .ptr 0 0, .str, .obox 8, .int .i64, .str, .bool, .str, .str, .int .i64, .bool, .bool]
def f102_outs : Outs := [(.ret, [.int .i64, .obox 8, .int .i64, .str, .bool, .str, .str, .int .i64, .bool, .bool])]
def f24_ins : List Sh := [.agg 5, .lst YqA, .lst YqB, .lst YqC, .opq 0, .opq 1, .str]
def f24_outs : Outs := [(.ret, [.tuple 2, .agg 8, .int .i64, .str, .bool, .str, .str, .int .i64, .bool, .bool, .int .i64])]
def f60_ins : List Sh := [.int .i64]
def f60_outs : Outs := [(.ret, [.str])]
def f27_ins : List Sh := [.agg 8, .int .i64, .str, .bool, .str, .str, .int .i64, .bool, .bool]
def f27_outs : Outs := [(.ret, [.str])]
def f27_c0_ins : List Sh := (List.cons (.top) (List.cons (.ptr 0 0) (List.cons (.top) (List.cons (.str) (tp 47 (List.cons (.obox 8) (List.cons (.int .i64) (List.cons (.str) (List.cons (.bool) (List.cons (.str) (List.cons (.str) (List.cons (.int .i64) (List.cons (.bool) (List.cons (.bool) []))))))))))))))
def f27_c0_outs : Outs := [(.normal, (tp 3 (List.cons (.str) (tp 47 []))))]
def f27_c1_ins : List Sh := (List.cons (.top) (List.cons (.ptr 0 0) (List.cons (.top) (List.cons (.str) (tp 4 (List.cons (.int .i64) (List.cons (.bool) (tp 41 (List.cons (.obox 8) (List.cons (.int .i64) (List.cons (.str) (List.cons (.bool) (List.cons (.str) (List.cons (.str) (List.cons (.int .i64) (List.cons (.bool) (List.cons (.bool) [])))))))))))))))))
def f27_c1_outs : Outs := [(.ret, (List.cons (.top) (List.cons (.top) (List.cons (.str) (tp 48 []))))), (.normal, (tp 3 (List.cons (.str) (tp 47 []))))]
def f28_ins : List Sh := [.agg 5, .lst YqA, .lst YqB, .lst YqC, .opq 0, .opq 1, .agg 8, .int .i64, .str, .bool, .str, .str, .int .i64, .bool, .bool]
def f28_outs : Outs := [(.ret, [.bool])]
def f28_c0_ins : List Sh := (List.cons (.top) (List.cons (.top) (List.cons (.ptr 0 0) (List.cons (.ptr 1 0) (List.cons (.top) (List.cons (.bool) (tp 6 (List.cons (.int .i64) (List.cons (.bool) (tp 64 (List.cons (.obox 5) (List.cons (.lst YqA) (List.cons (.lst YqB) (List.cons (.lst YqC) (List.cons (.opq 0) (List.cons (.opq 1) (List.cons (.obox 8) (List.cons (.int .i64) (List.cons (.str) (List.cons (.bool) (List.cons (.str) (List.cons (.str) (List.cons (.int .i64) (List.cons (.bool) (List.cons (.bool) [])))))))))))))))))))))))))
def f28_c0_outs : Outs := [(.ret, (tp 4 (List.cons (.bool) (tp 73 [])))), (.normal, (tp 78 []))]
def f23_ins : List Sh := []
def f23_outs : Outs := [(.ret, [.bool])]
def f5_ins : List Sh := [.str, .int .i64]
def f5_outs : Outs := [(.ret, [.bool])]
abbrev T97 := LqS × LqS × Unit → Option (LqS × Bool × Unit)
def E97 (f : T97) : FEnt := ⟨f97_ins, f97_outs, f⟩
def K97 (f25 : T25) : Calls' := fun f => Ae.lookA f [(25, E25 f25)]
theorem kok97 : KOk Tryz.prog (K97 C25) := (kok_cons ok25 (kok_nil _))
def F97 (f25 : T25) : T97 := fun (x0, x1, _) =>
 bif decide ((↑x0.length : Int) < (↑x1.length : Int)) then some ([], false, ())
 else
 bif decide (0 ≤ (↑x1.length : Int)) && decide ((↑x1.length : Int) ≤ (↑x0.length : Int)) then
 (f25 (List.take (↑x1.length : Int).toNat x0, ())).bind fun v =>
 (f25 (x1, ())).bind fun v1 =>
 bif !v.1 == v1.1 then some ([], false, ())
 else
 bif decide (0 ≤ (↑x1.length : Int)) && decide ((↑x1.length : Int) ≤ (↑x0.length : Int)) then
 some (List.drop (↑x1.length : Int).toNat x0, true, ())
 else none
 else none
theorem h97 (f25 : T25) : AqF (K97 f25) 0 Tryz.f97 .nil f97_ins f97_outs (F97 f25) := fun v => by kernel_rfl
def C97 : T97 := F97 C25
theorem ok97 : FnOk Tryz.prog 97 (E97 C97) :=
 fnx (n := .nil) kok97 Tryz.func97 (by kernel_rfl) (by kernel_rfl) (ann_nil _) (fun v => by kernel_rfl) (h97 C25)
abbrev T61_l0 := LqS × LqS × LqS × LqS × LqS × LqS × LqS × LqS × LqS × Int × Unit → Option (Unit ⊕ (Int × Unit))
def E61_l0 (f : T61_l0) : LEnt := ⟨f61_l0_ins, f61_l0_outs, f⟩
abbrev T61 := LqS × Unit → Option (Int × Unit)
def E61 (f : T61) : FEnt := ⟨f61_ins, f61_outs, f⟩
def K61 (f96 : T96) (f97 : T97) : Calls' := fun f => Ae.lookA f [(96, E96 f96), (97, E97 f97)]
theorem kok61 : KOk Tryz.prog (K61 C96 C97) := (kok_cons ok96 (kok_cons ok97 (kok_nil _)))
def F61_l0 (f96 : T96) (f97 : T97) : LpF (LqS × LqS × LqS × LqS × LqS × LqS × LqS × LqS × LqS × Int × Unit) (Unit ⊕ (Int × Unit)) := fun (x0, x1, x2, x3, x4, x5, x6, x7, x8, x9, _) =>
 bif decide (x9 < 8) then
 bif decide (x9 = (↑0 : Int)) then
 (f97 (x0, x1, ())).bind fun v =>
 bif v.2.1 then
 bif v.1 == [] then some (Sum.inr (Sum.inr (x9, ())))
 else
 (f96 (v.1, [32], ())).bind fun v =>
 bif v.1 then some (Sum.inr (Sum.inr (x9, ())))
 else some (Sum.inl (x0, x1, x2, x3, x4, x5, x6, x7, x8, IntKind.i64.wrap (x9 + 1), ()))
 else some (Sum.inl (x0, x1, x2, x3, x4, x5, x6, x7, x8, IntKind.i64.wrap (x9 + 1), ()))
 else
 bif decide (x9 = (↑1 : Int)) then
 (f97 (x0, x2, ())).bind fun v =>
 bif v.2.1 then
 bif v.1 == [] then some (Sum.inr (Sum.inr (x9, ())))
 else
 (f96 (v.1, [32], ())).bind fun v =>
 bif v.1 then some (Sum.inr (Sum.inr (x9, ())))
 else some (Sum.inl (x0, x1, x2, x3, x4, x5, x6, x7, x8, IntKind.i64.wrap (x9 + 1), ()))
 else some (Sum.inl (x0, x1, x2, x3, x4, x5, x6, x7, x8, IntKind.i64.wrap (x9 + 1), ()))
 else
 bif decide (x9 = (↑2 : Int)) then
 (f97 (x0, x3, ())).bind fun v =>
 bif v.2.1 then
 bif v.1 == [] then some (Sum.inr (Sum.inr (x9, ())))
 else
 (f96 (v.1, [32], ())).bind fun v =>
 bif v.1 then some (Sum.inr (Sum.inr (x9, ())))
 else some (Sum.inl (x0, x1, x2, x3, x4, x5, x6, x7, x8, IntKind.i64.wrap (x9 + 1), ()))
 else some (Sum.inl (x0, x1, x2, x3, x4, x5, x6, x7, x8, IntKind.i64.wrap (x9 + 1), ()))
 else
 bif decide (x9 = (↑3 : Int)) then
 (f97 (x0, x4, ())).bind fun v =>
 bif v.2.1 then
 bif v.1 == [] then some (Sum.inr (Sum.inr (x9, ())))
 else
 (f96 (v.1, [32], ())).bind fun v =>
 bif v.1 then some (Sum.inr (Sum.inr (x9, ())))
 else some (Sum.inl (x0, x1, x2, x3, x4, x5, x6, x7, x8, IntKind.i64.wrap (x9 + 1), ()))
 else some (Sum.inl (x0, x1, x2, x3, x4, x5, x6, x7, x8, IntKind.i64.wrap (x9 + 1), ()))
 else
 bif decide (x9 = (↑4 : Int)) then
 (f97 (x0, x5, ())).bind fun v =>
 bif v.2.1 then
 bif v.1 == [] then some (Sum.inr (Sum.inr (x9, ())))
 else
 (f96 (v.1, [32], ())).bind fun v =>
 bif v.1 then some (Sum.inr (Sum.inr (x9, ())))
 else some (Sum.inl (x0, x1, x2, x3, x4, x5, x6, x7, x8, IntKind.i64.wrap (x9 + 1), ()))
 else some (Sum.inl (x0, x1, x2, x3, x4, x5, x6, x7, x8, IntKind.i64.wrap (x9 + 1), ()))
 else
 bif decide (x9 = (↑5 : Int)) then
 (f97 (x0, x6, ())).bind fun v =>
 bif v.2.1 then
 bif v.1 == [] then some (Sum.inr (Sum.inr (x9, ())))
 else
 (f96 (v.1, [32], ())).bind fun v =>
 bif v.1 then some (Sum.inr (Sum.inr (x9, ())))
 else some (Sum.inl (x0, x1, x2, x3, x4, x5, x6, x7, x8, IntKind.i64.wrap (x9 + 1), ()))
 else some (Sum.inl (x0, x1, x2, x3, x4, x5, x6, x7, x8, IntKind.i64.wrap (x9 + 1), ()))
 else
 bif decide (x9 = (↑6 : Int)) then
 (f97 (x0, x7, ())).bind fun v =>
 bif v.2.1 then
 bif v.1 == [] then some (Sum.inr (Sum.inr (x9, ())))
 else
 (f96 (v.1, [32], ())).bind fun v =>
 bif v.1 then some (Sum.inr (Sum.inr (x9, ())))
 else some (Sum.inl (x0, x1, x2, x3, x4, x5, x6, x7, x8, IntKind.i64.wrap (x9 + 1), ()))
 else some (Sum.inl (x0, x1, x2, x3, x4, x5, x6, x7, x8, IntKind.i64.wrap (x9 + 1), ()))
 else
 bif decide (x9 = (↑7 : Int)) then
 (f97 (x0, x8, ())).bind fun v =>
 bif v.2.1 then
 bif v.1 == [] then some (Sum.inr (Sum.inr (x9, ())))
 else
 (f96 (v.1, [32], ())).bind fun v =>
 bif v.1 then some (Sum.inr (Sum.inr (x9, ())))
 else
 some (Sum.inl (x0, x1, x2, x3, x4, x5, x6, x7, x8, IntKind.i64.wrap (x9 + 1), ()))
 else some (Sum.inl (x0, x1, x2, x3, x4, x5, x6, x7, x8, IntKind.i64.wrap (x9 + 1), ()))
 else none
 else some (Sum.inr (Sum.inl ()))
theorem h61_l0 (f96 : T96) (f97 : T97) : AqL (K61 f96 f97) 0 (subc (code Tryz.f61) [1, 0, 1, 0, 0]) .nil f61_l0_ins f61_l0_outs (F61_l0 f96 f97) := fun v => by kernel_rfl
def C61_l0 : T61_l0 := loopN (F61_l0 C96 C97) big
theorem k61_l0 : FragOk Tryz.prog 0 (fun Q a w => (Code.loop (subc (code Tryz.f61) [1, 0, 1, 0, 0])).wp Tryz.prog Q a w) (E61_l0 C61_l0) :=
 frag_big (ins := f61_l0_ins) (os := f61_l0_outs) (C := C61_l0) (frag_loop (ins := f61_l0_ins) (os := f61_l0_outs) (n := .nil) (F := F61_l0 C96 C97) hm hΓ kok61 (fun _ => big) (ann_nil _) (h61_l0 C96 C97)) rfl
def N61 (f61_l0 : T61_l0) : Ann := (.seq .nil (.seq (.seq .nil (.blk (.loop (E61_l0 f61_l0)))) .nil))
def F61 (f96 : T96) (f97 : T97) (f61_l0 : T61_l0) : T61 := fun (x0, _) =>
 (f61_l0
 (x0, wordsV.1, wordsV.2.1, wordsV.2.2.1, wordsV.2.2.2.1, wordsV.2.2.2.2.1,
 wordsV.2.2.2.2.2.1, wordsV.2.2.2.2.2.2.1, wordsV.2.2.2.2.2.2.2, 0,
 ())).bind
 fun v => Sum.elim (fun v => some (-1, ())) (fun v => some (v.1, ())) v
theorem h61 (f96 : T96) (f97 : T97) (f61_l0 : T61_l0) : AqF (K61 f96 f97) 0 Tryz.f61 (N61 f61_l0) f61_ins f61_outs (F61 f96 f97 f61_l0) := fun v => by kernel_rfl
def C61 : T61 := F61 C96 C97 C61_l0
theorem ok61 : FnOk Tryz.prog 61 (E61 C61) :=
 fnx (n := (N61 C61_l0)) kok61 Tryz.func61 (by kernel_rfl) (by kernel_rfl) (ann_obs (And.intro k61_l0 trivial) (by kernel_rfl)) (fun v => by kernel_rfl) (h61 C96 C97 C61_l0)
abbrev T62 := Unit → Option (Unit)
def E62 (f : T62) : FEnt := ⟨f62_ins, f62_outs, f⟩
def K62 : Calls' := fun f => Ae.lookA f []
theorem kok62 : KOk Tryz.prog (K62) := (kok_nil _)
def F62 : T62 := fun (_) =>
 some ()
theorem h62 : AqF (K62) 0 Tryz.f62 .nil f62_ins f62_outs (F62) := fun v => by kernel_rfl
def C62 : T62 := F62
theorem ok62 : FnOk Tryz.prog 62 (E62 C62) :=
 fnx (n := .nil) kok62 Tryz.func62 (by kernel_rfl) (by kernel_rfl) (ann_nil _) (fun v => by kernel_rfl) (h62)
abbrev T104 := Int × Unit → Option (Bool × Unit)
def E104 (f : T104) : FEnt := ⟨f104_ins, f104_outs, f⟩
def K104 : Calls' := fun f => Ae.lookA f []
theorem kok104 : KOk Tryz.prog (K104) := (kok_nil _)
def F104 : T104 := fun (x0, _) =>
 bif decide (x0 ≤ 32) then some (true, ()) else some (decide (x0 > 126), ())
theorem h104 : AqF (K104) 0 Tryz.f104 .nil f104_ins f104_outs (F104) := fun v => by kernel_rfl
def C104 : T104 := F104
theorem ok104 : FnOk Tryz.prog 104 (E104 C104) :=
 fnx (n := .nil) kok104 Tryz.func104 (by kernel_rfl) (by kernel_rfl) (ann_nil _) (fun v => by kernel_rfl) (h104)
abbrev T156v3_l0 := Bool × (LqS × Int) × Unit → Option ((Int × Unit) ⊕ Unit)
def E156v3_l0 (f : T156v3_l0) : LEnt := ⟨f156v3_l0_ins, f156v3_l0_outs, f⟩
abbrev T156v3 := LqS × Bool × Unit → Option (Int × Unit)
def E156v3 (f : T156v3) : FEnt := ⟨f156v3_ins, f156v3_outs, f⟩
def K156v3 (f104 : T104) : Calls' := fun f => Ae.lookA f [(104, E104 f104)]
theorem kok156v3 : KOk Tryz.prog (K156v3 C104) := (kok_cons ok104 (kok_nil _))
def F156v3_l0 (f104 : T104) : LpF (Bool × (LqS × Int) × Unit) ((Int × Unit) ⊕ Unit) := fun (x0, x1, _) =>
 bif decide (Int.toNat x1.2 < List.length x1.1) then
 (f104 ((↑(decR x1.1 (Int.toNat x1.2)).1 : Int), ())).bind fun v =>
 bif v.1 == x0 then some (Sum.inr (Sum.inl ((↑(Int.toNat x1.2) : Int), ())))
 else some (Sum.inl (x0, (x1.1, (↑(Int.toNat x1.2 + (decR x1.1 (Int.toNat x1.2)).2) : Int)), ()))
 else some (Sum.inr (Sum.inr ()))
theorem h156v3_l0 (f104 : T104) : AqL (K156v3 f104) 0 (subc (code Tryz.f156) [1, 0, 1, 0, 0]) .nil f156v3_l0_ins f156v3_l0_outs (F156v3_l0 f104) := fun v => by kernel_rfl
def C156v3_l0 : T156v3_l0 := loopN (F156v3_l0 C104) big
theorem k156v3_l0 : FragOk Tryz.prog 0 (fun Q a w => (Code.loop (subc (code Tryz.f156) [1, 0, 1, 0, 0])).wp Tryz.prog Q a w) (E156v3_l0 C156v3_l0) :=
 frag_big (ins := f156v3_l0_ins) (os := f156v3_l0_outs) (C := C156v3_l0) (frag_loop (ins := f156v3_l0_ins) (os := f156v3_l0_outs) (n := .nil) (F := F156v3_l0 C104) hm hΓ kok156v3 (fun _ => big) (ann_nil _) (h156v3_l0 C104)) rfl
def N156v3 (f156v3_l0 : T156v3_l0) : Ann := (.seq .nil (.seq (.seq .nil (.blk (.loop (E156v3_l0 f156v3_l0)))) .nil))
def F156v3 (f104 : T104) (f156v3_l0 : T156v3_l0) : T156v3 := fun (x0, x1, _) =>
 (f156v3_l0 (x1, (x0, (↑0 : Int)), ())).bind fun v =>
 Sum.elim (fun v => some (v.1, ())) (fun v => some (-1, ())) v
theorem h156v3 (f104 : T104) (f156v3_l0 : T156v3_l0) : AqF (K156v3 f104) 0 Tryz.f156 (N156v3 f156v3_l0) f156v3_ins f156v3_outs (F156v3 f104 f156v3_l0) := fun v => by kernel_rfl
def C156v3 : T156v3 := F156v3 C104 C156v3_l0
theorem ok156v3 : FnOk Tryz.prog 156 (E156v3 C156v3) :=
 fnx (n := (N156v3 C156v3_l0)) kok156v3 Tryz.func156 (by kernel_rfl) (by kernel_rfl) (ann_obs (And.intro k156v3_l0 trivial) (by kernel_rfl)) (fun v => by kernel_rfl) (h156v3 C104 C156v3_l0)
abbrev T123v3 := LqS × Unit → Option (Int × Unit)
def E123v3 (f : T123v3) : FEnt := ⟨f123v3_ins, f123v3_outs, f⟩
def K123v3 (f156v3 : T156v3) : Calls' := fun f => Ae.lookA f [(156, E156v3 f156v3)]
theorem kok123v3 : KOk Tryz.prog (K123v3 C156v3) := (kok_cons ok156v3 (kok_nil _))
def F123v3 (f156v3 : T156v3) : T123v3 := fun (x0, _) =>
 (f156v3 (x0, true, ())).bind fun v => some (v.1, ())
theorem h123v3 (f156v3 : T156v3) : AqF (K123v3 f156v3) 0 Tryz.f123 .nil f123v3_ins f123v3_outs (F123v3 f156v3) := fun v => by kernel_rfl
def C123v3 : T123v3 := F123v3 C156v3
theorem ok123v3 : FnOk Tryz.prog 123 (E123v3 C123v3) :=
 fnx (n := .nil) kok123v3 Tryz.func123 (by kernel_rfl) (by kernel_rfl) (ann_nil _) (fun v => by kernel_rfl) (h123v3 C156v3)
abbrev T84v3 := LqS × Unit → Option (Bool × Unit)
def E84v3 (f : T84v3) : FEnt := ⟨f84v3_ins, f84v3_outs, f⟩
def K84v3 (f123v3 : T123v3) : Calls' := fun f => Ae.lookA f [(123, E123v3 f123v3)]
theorem kok84v3 : KOk Tryz.prog (K84v3 C123v3) := (kok_cons ok123v3 (kok_nil _))
def F84v3 (f123v3 : T123v3) : T84v3 := fun (x0, _) =>
 (f123v3 (x0, ())).bind fun v => some (decide (v.1 ≥ 0), ())
theorem h84v3 (f123v3 : T123v3) : AqF (K84v3 f123v3) 0 Tryz.f84 .nil f84v3_ins f84v3_outs (F84v3 f123v3) := fun v => by kernel_rfl
def C84v3 : T84v3 := F84v3 C123v3
theorem ok84v3 : FnOk Tryz.prog 84 (E84v3 C84v3) :=
 fnx (n := .nil) kok84v3 Tryz.func84 (by kernel_rfl) (by kernel_rfl) (ann_nil _) (fun v => by kernel_rfl) (h84v3 C123v3)
abbrev T66 := LqS × Unit → Option (Bool × Unit)
def E66 (f : T66) : FEnt := ⟨f66_ins, f66_outs, f⟩
def K66 (f84v3 : T84v3) : Calls' := fun f => Ae.lookA f [(84, E84v3 f84v3)]
theorem kok66 : KOk Tryz.prog (K66 C84v3) := (kok_cons ok84v3 (kok_nil _))
def F66 (f84v3 : T84v3) : T66 := fun (x0, _) =>
 bif !x0 == [] then
 bif decide ((↑x0.length : Int) ≤ 255) then
 (f84v3 (x0, ())).bind fun v => some (bif v.1 then false else true, ())
 else some (false, ())
 else some (false, ())
theorem h66 (f84v3 : T84v3) : AqF (K66 f84v3) 0 Tryz.f66 .nil f66_ins f66_outs (F66 f84v3) := fun v => by kernel_rfl
def C66 : T66 := F66 C84v3
theorem ok66 : FnOk Tryz.prog 66 (E66 C66) :=
 fnx (n := .nil) kok66 Tryz.func66 (by kernel_rfl) (by kernel_rfl) (ann_nil _) (fun v => by kernel_rfl) (h66 C84v3)
abbrev T98 := LqA × LqB × LqC × LqS × Int × LqS × Bool × LqS × LqS × Int × Bool × Bool × Unit → Option (Int × Int × LqS × Bool × LqS × LqS × Int × Bool × Bool × Unit)
def E98 (f : T98) : FEnt := ⟨f98_ins, f98_outs, f⟩
def K98 (f132 : T132) (f66 : T66) : Calls' := fun f => Ae.lookA f [(132, E132 f132), (66, E66 f66)]
theorem kok98 : KOk Tryz.prog (K98 C132 C66) := (kok_cons ok132 (kok_cons ok66 (kok_nil _)))
def F98 (f132 : T132) (f66 : T66) : T98 := fun (x0, x1, x2, x3, x4, x5, x6, x7, x8, x9, x10, x11, _) =>
 (f132 (x3, [32], ())).bind fun v =>
 bif !v.2.1 then some (501, x4, x5, x6, x7, x8, x9, x10, x11, ())
 else
 (f66 (v.1, ())).bind fun v1 =>
 bif !v1.1 then some (501, x4, x5, x6, x7, x8, x9, x10, x11, ())
 else some (0, x4, v.1, x6, x7, x8, x9, x10, x11, ())
theorem h98 (f132 : T132) (f66 : T66) : AqF (K98 f132 f66) 1 Tryz.f98 .nil f98_ins f98_outs (F98 f132 f66) := fun v => by kernel_rfl
def C98 : T98 := F98 C132 C66
theorem ok98 : FnOk Tryz.prog 98 (E98 C98) :=
 fnx (n := .nil) kok98 Tryz.func98 (by kernel_rfl) (by kernel_rfl) (ann_nil _) (fun v => by kernel_rfl) (h98 C132 C66)
abbrev T167_c0 := LqS × Bool × Bool × Int × Int × Bool × Unit → Option ((LqS × Bool × Bool × Int × Unit) ⊕ (Int × Unit))
def E167_c0 (f : T167_c0) : LEnt := ⟨f167_c0_ins, f167_c0_outs, f⟩
abbrev T167_l0 := LqS × Bool × Bool × Int × Unit → Option (Unit ⊕ (Int × Unit))
def E167_l0 (f : T167_l0) : LEnt := ⟨f167_l0_ins, f167_l0_outs, f⟩
abbrev T167 := LqS × Unit → Option (Int × Unit)
def E167 (f : T167) : FEnt := ⟨f167_ins, f167_outs, f⟩
def K167 : Calls' := fun f => Ae.lookA f []
theorem kok167 : KOk Tryz.prog (K167) := (kok_nil _)
def F167_c0 : T167_c0 := fun (x0, x1, x2, x3, x4, x5, _) =>
 bif x5 then some (Sum.inl (x0, x1, x2, IntKind.i64.wrap (x3 + 1), ()))
 else
 bif x1 then some (Sum.inl (x0, x1, x2, x3, ()))
 else
 bif x4 == 91 then some (Sum.inl (x0, x1, true, x3, ()))
 else
 bif x4 == 62 then some (Sum.inr (IntKind.i64.wrap (x3 + 1), ()))
 else some (Sum.inl (x0, x1, x2, x3, ()))
theorem h167_c0 : AqC (K167) 0 (subc (code Tryz.f167) [1, 1, 0, 1, 0, 0, 1, 0, 0, 1, 0, 1, 1, 1, 1, 1]) .nil f167_c0_ins f167_c0_outs (F167_c0) := fun v => by kernel_rfl
def C167_c0 : T167_c0 := F167_c0
theorem k167_c0 : FragOk Tryz.prog 0 (fun Q a w => (subc (code Tryz.f167) [1, 1, 0, 1, 0, 0, 1, 0, 0, 1, 0, 1, 1, 1, 1, 1]).wp Tryz.prog Q a w) (E167_c0 C167_c0) :=
 frag_code (ins := f167_c0_ins) (os := f167_c0_outs) (n := .nil) (F := C167_c0) hm hΓ kok167 (ann_nil _) (h167_c0)
def N167_l0 (f167_c0 : T167_c0) : Ann := (.seq .nil (.seq (.blk (.seq .nil (.blk (.seq .nil (.cond .nil (.seq .nil (.cond .nil (.cut .nil (E167_c0 f167_c0))))))))) .nil))
def F167_l0 (f167_c0 : T167_c0) : LpF (LqS × Bool × Bool × Int × Unit) (Unit ⊕ (Int × Unit)) := fun (x0, x1, x2, x3, _) =>
 bif decide (x3 < (↑x0.length : Int)) then
 bif decide (0 ≤ x3) && decide (x3 < (↑x0.length : Int)) then
 bif x2 then
 some
 (Sum.inl
 (x0, x1, bif (↑(x0.getD x3.toNat 0).toNat : Int) == 93 then false else true, IntKind.i64.wrap (x3 + 1),
 ()))
 else
 bif (↑(x0.getD x3.toNat 0).toNat : Int) == 34 then
 some (Sum.inl (x0, bif x1 then false else true, x2, IntKind.i64.wrap (x3 + 1), ()))
 else
 bif x1 then
 (f167_c0
 (x0, x1, x2, x3, (↑(x0.getD x3.toNat 0).toNat : Int), (↑(x0.getD x3.toNat 0).toNat : Int) == 92,
 ())).bind
 fun v =>
 Sum.elim
 (fun v =>
 some
 (Sum.inl
 (v.1, v.2.1, v.2.2.1, IntKind.i64.wrap (v.2.2.2.1 + 1), ())))
 (fun v => some (Sum.inr (Sum.inr (v.1, ())))) v
 else
 (f167_c0 (x0, x1, x2, x3, (↑(x0.getD x3.toNat 0).toNat : Int), false, ())).bind fun v =>
 Sum.elim
 (fun v =>
 some
 (Sum.inl
 (v.1, v.2.1, v.2.2.1, IntKind.i64.wrap (v.2.2.2.1 + 1), ())))
 (fun v => some (Sum.inr (Sum.inr (v.1, ())))) v
 else none
 else some (Sum.inr (Sum.inl ()))
theorem h167_l0 (f167_c0 : T167_c0) : AqL (K167) 0 (subc (code Tryz.f167) [1, 1, 0, 1, 0, 0]) (N167_l0 f167_c0) f167_l0_ins f167_l0_outs (F167_l0 f167_c0) := fun v => by kernel_rfl
def C167_l0 : T167_l0 := loopN (F167_l0 C167_c0) big
theorem k167_l0 : FragOk Tryz.prog 0 (fun Q a w => (Code.loop (subc (code Tryz.f167) [1, 1, 0, 1, 0, 0])).wp Tryz.prog Q a w) (E167_l0 C167_l0) :=
 frag_big (ins := f167_l0_ins) (os := f167_l0_outs) (C := C167_l0) (frag_loop (ins := f167_l0_ins) (os := f167_l0_outs) (n := (N167_l0 C167_c0)) (F := F167_l0 C167_c0) hm hΓ kok167 (fun _ => big) (ann_obs (And.intro k167_c0 trivial) (by kernel_rfl)) (h167_l0 C167_c0)) rfl
def N167 (f167_l0 : T167_l0) : Ann := (.seq .nil (.seq .nil (.seq (.seq .nil (.blk (.loop (E167_l0 f167_l0)))) .nil)))
def F167 (f167_l0 : T167_l0) : T167 := fun (x0, _) =>
 (f167_l0 (x0, false, false, 0, ())).bind fun v =>
 Sum.elim (fun v => some (0, ())) (fun v => some (v.1, ())) v
theorem h167 (f167_l0 : T167_l0) : AqF (K167) 0 Tryz.f167 (N167 f167_l0) f167_ins f167_outs (F167 f167_l0) := fun v => by kernel_rfl
def C167 : T167 := F167 C167_l0
theorem ok167 : FnOk Tryz.prog 167 (E167 C167) :=
 fnx (n := (N167 C167_l0)) kok167 Tryz.func167 (by kernel_rfl) (by kernel_rfl) (ann_obs (And.intro k167_l0 trivial) (by kernel_rfl)) (fun v => by kernel_rfl) (h167 C167_l0)
abbrev T133 := LqA × LqB × LqC × LqS × LqS × Int × LqS × Bool × LqS × LqS × Int × Bool × Bool × Unit → Option (LqS × LqS × Int × Int × LqS × Bool × LqS × LqS × Int × Bool × Bool × Unit)
def E133 (f : T133) : FEnt := ⟨f133_ins, f133_outs, f⟩
def K133 (f167 : T167) (f40 : T40) (f97 : T97) : Calls' := fun f => Ae.lookA f [(167, E167 f167), (40, E40 f40), (97, E97 f97)]
theorem kok133 : KOk Tryz.prog (K133 C167 C40 C97) := (kok_cons ok167 (kok_cons ok40 (kok_cons ok97 (kok_nil _))))
def F133 (f167 : T167) (f40 : T40) (f97 : T97) : T133 := fun (x0, x1, x2, x3, x4, x5, x6, x7, x8, x9, x10, x11, x12, _) =>
 (f97 (x3, x4, ())).bind fun v =>
 (f167 (v.1, ())).bind fun v1 =>
 bif !v.2.1 then some ([], [], 501, x5, x6, x7, x8, x9, x10, x11, x12, ())
 else
 bif v1.1 == 0 then some ([], [], 501, x5, x6, x7, x8, x9, x10, x11, x12, ())
 else
 bif decide (0 ≤ v1.1) && decide (v1.1 ≤ (↑(List.length v.1) : Int)) then
 (f40 (x0, x1, x2, List.take (Int.toNat v1.1) v.1, ())).bind fun v2 =>
 bif v2.2.2.2.1 != 0 then
 some ([], [], 553, x5, x6, x7, x8, x9, x10, x11, x12, ())
 else
 bif v2.1 then
 bif x5 == 3 then some ([], [], 553, x5, x6, x7, x8, x9, x10, x11, x12, ())
 else
 bif decide (0 ≤ v1.1) && decide (v1.1 ≤ (↑(List.length v.1) : Int)) then
 bif decide (0 ≤ v1.1) && decide (v1.1 ≤ (↑(List.length v.1) : Int)) then
 some
 (List.take (Int.toNat v1.1) v.1, List.drop (Int.toNat v1.1) v.1, 0, x5, x6,
 v2.1, v2.2.1, v2.2.2.1, x10, x11, x12, ())
 else none
 else none
 else
 bif decide (0 ≤ v1.1) && decide (v1.1 ≤ (↑(List.length v.1) : Int)) then
 bif decide (0 ≤ v1.1) && decide (v1.1 ≤ (↑(List.length v.1) : Int)) then
 some
 (List.take (Int.toNat v1.1) v.1, List.drop (Int.toNat v1.1) v.1, 0, x5, x6,
 v2.1, v2.2.1, v2.2.2.1, x10, x11, x12, ())
 else none
 else none
 else none
theorem h133 (f167 : T167) (f40 : T40) (f97 : T97) : AqF (K133 f167 f40 f97) 1 Tryz.f133 .nil f133_ins f133_outs (F133 f167 f40 f97) := fun v => by kernel_rfl
def C133 : T133 := F133 C167 C40 C97
theorem ok133 : FnOk Tryz.prog 133 (E133 C133) :=
 fnx (n := .nil) kok133 Tryz.func133 (by kernel_rfl) (by kernel_rfl) (ann_nil _) (fun v => by kernel_rfl) (h133 C167 C40 C97)
abbrev T204_l0 := LqS × Int × (LqS × Int) × Unit → Option ((Int × Int × Unit) ⊕ (LqS × Int × Unit))
def E204_l0 (f : T204_l0) : LEnt := ⟨f204_l0_ins, f204_l0_outs, f⟩
abbrev T204 := LqS × Unit → Option (Int × Int × Unit)
def E204 (f : T204) : FEnt := ⟨f204_ins, f204_outs, f⟩
def K204 : Calls' := fun f => Ae.lookA f []
theorem kok204 : KOk Tryz.prog (K204) := (kok_nil _)
def F204_l0 : LpF (LqS × Int × (LqS × Int) × Unit) ((Int × Int × Unit) ⊕ (LqS × Int × Unit)) := fun (x0, x1, x2, _) =>
 bif decide (Int.toNat x2.2 < List.length x2.1) then
 bif decide ((↑(decR x2.1 (Int.toNat x2.2)).1 : Int) < 48) then some (Sum.inr (Sum.inl (0, 501, ())))
 else
 bif decide ((↑(decR x2.1 (Int.toNat x2.2)).1 : Int) > 57) then some (Sum.inr (Sum.inl (0, 501, ())))
 else
 some
 (Sum.inl
 (x0,
 IntKind.i64.wrap
 (IntKind.i64.wrap (10 * x1) +
 IntKind.i64.wrap (IntKind.i32.wrap ((↑(decR x2.1 (Int.toNat x2.2)).1 : Int) - 48))),
 (x2.1, (↑(Int.toNat x2.2 + (decR x2.1 (Int.toNat x2.2)).2) : Int)), ()))
 else some (Sum.inr (Sum.inr (x0, x1, ())))
theorem h204_l0 : AqL (K204) 0 (subc (code Tryz.f204) [1, 1, 0, 1, 0, 0]) .nil f204_l0_ins f204_l0_outs (F204_l0) := fun v => by kernel_rfl
def C204_l0 : T204_l0 := loopN (F204_l0) big
theorem k204_l0 : FragOk Tryz.prog 0 (fun Q a w => (Code.loop (subc (code Tryz.f204) [1, 1, 0, 1, 0, 0])).wp Tryz.prog Q a w) (E204_l0 C204_l0) :=
 frag_big (ins := f204_l0_ins) (os := f204_l0_outs) (C := C204_l0) (frag_loop (ins := f204_l0_ins) (os := f204_l0_outs) (n := .nil) (F := F204_l0) hm hΓ kok204 (fun _ => big) (ann_nil _) (h204_l0)) rfl
def N204 (f204_l0 : T204_l0) : Ann := (.seq .nil (.seq .nil (.seq (.seq .nil (.blk (.loop (E204_l0 f204_l0)))) .nil)))
def F204 (f204_l0 : T204_l0) : T204 := fun (x0, _) =>
 (f204_l0 (x0, 0, (x0, (↑0 : Int)), ())).bind fun v =>
 Sum.elim (fun v => some (v.1, v.2.1, ()))
 (fun v =>
 bif v.1 == [] then some (0, 501, ())
 else
 bif decide ((↑(List.length v.1) : Int) > 8) then some (0, 501, ())
 else bif decide (v.2.1 > 16777216) then some (0, 552, ()) else some (v.2.1, 0, ()))
 v
theorem h204 (f204_l0 : T204_l0) : AqF (K204) 0 Tryz.f204 (N204 f204_l0) f204_ins f204_outs (F204 f204_l0) := fun v => by kernel_rfl
def C204 : T204 := F204 C204_l0
theorem ok204 : FnOk Tryz.prog 204 (E204 C204) :=
 fnx (n := (N204 C204_l0)) kok204 Tryz.func204 (by kernel_rfl) (by kernel_rfl) (ann_obs (And.intro k204_l0 trivial) (by kernel_rfl)) (fun v => by kernel_rfl) (h204 C204_l0)
abbrev T168_c0 := LqS × LqS × LqS × Bool × Int × LqS × Bool × LqS × LqS × Int × Bool × Bool × Unit → Option ((LqS × Int × Int × LqS × Bool × LqS × LqS × Int × Bool × Bool × Unit) ⊕ (LqS × Int × LqS × Bool × LqS × LqS × Int × Bool × Bool × Unit))
def E168_c0 (f : T168_c0) : LEnt := ⟨f168_c0_ins, f168_c0_outs, f⟩
abbrev T168_c1 := LqS × LqS × LqS × Bool × Bool × Int × LqS × Bool × LqS × LqS × Int × Bool × Bool × Unit → Option ((LqS × Int × Int × LqS × Bool × LqS × LqS × Int × Bool × Bool × Unit) ⊕ (LqS × Int × LqS × Bool × LqS × LqS × Int × Bool × Bool × Unit))
def E168_c1 (f : T168_c1) : LEnt := ⟨f168_c1_ins, f168_c1_outs, f⟩
abbrev T168 := LqS × Int × LqS × Bool × LqS × LqS × Int × Bool × Bool × Unit → Option (LqS × Int × Int × LqS × Bool × LqS × LqS × Int × Bool × Bool × Unit)
def E168 (f : T168) : FEnt := ⟨f168_ins, f168_outs, f⟩
def K168 (f129 : T129) (f204 : T204) (f25 : T25) : Calls' := fun f => Ae.lookA f [(129, E129 f129), (204, E204 f204), (25, E25 f25)]
theorem kok168 : KOk Tryz.prog (K168 C129 C204 C25) := (kok_cons ok129 (kok_cons ok204 (kok_cons ok25 (kok_nil _))))
def F168_c0 (f129 : T129) (f204 : T204) (f25 : T25) : T168_c0 := fun (x0, x1, x2, x3, x4, x5, x6, x7, x8, x9, x10, x11, _) =>
 bif x3 then
 (f204 (x2, ())).bind fun v => some (Sum.inl (x1, v.2.1, x4, x5, x6, x7, x8, v.1, x10, x11, ()))
 else
 bif x0 == [98, 111, 100, 121, 61, 56, 98, 105, 116, 109, 105, 109, 101] then
 some (Sum.inr (x1, x4, x5, x6, x7, x8, x9, true, x11, ()))
 else
 bif x0 == [115, 109, 116, 112, 117, 116, 102, 56] then
 some (Sum.inr (x1, x4, x5, x6, x7, x8, x9, x10, true, ()))
 else
 bif !x0 == [98, 111, 100, 121, 61, 55, 98, 105, 116] then
 some (Sum.inl (x1, 501, x4, x5, x6, x7, x8, x9, x10, x11, ()))
 else some (Sum.inr (x1, x4, x5, x6, x7, x8, x9, x10, x11, ()))
theorem h168_c0 (f129 : T129) (f204 : T204) (f25 : T25) : AqC (K168 f129 f204 f25) 1 (subc (code Tryz.f168) [1, 1, 1, 0, 0, 1, 1, 1]) .nil f168_c0_ins f168_c0_outs (F168_c0 f129 f204 f25) := fun v => by kernel_rfl
def C168_c0 : T168_c0 := F168_c0 C129 C204 C25
theorem k168_c0 : FragOk Tryz.prog 1 (fun Q a w => (subc (code Tryz.f168) [1, 1, 1, 0, 0, 1, 1, 1]).wp Tryz.prog Q a w) (E168_c0 C168_c0) :=
 frag_code (ins := f168_c0_ins) (os := f168_c0_outs) (n := .nil) (F := C168_c0) hm hΓ kok168 (ann_nil _) (h168_c0 C129 C204 C25)
def N168_c1 (f168_c0 : T168_c0) : Ann := (.cond .nil (.cut .nil (E168_c0 f168_c0)))
def F168_c1 (f129 : T129) (f204 : T204) (f25 : T25) (f168_c0 : T168_c0) : T168_c1 := fun (x0, x1, x2, x3, x4, x5, x6, x7, x8, x9, x10, x11, x12, _) =>
 bif x4 then some (Sum.inl (x1, 555, x5, x6, x7, x8, x9, x10, x11, x12, ()))
 else
 bif x1 == [115, 105, 122, 101] then
 (f168_c0 (x0, x1, x2, x3, x5, x6, x7, x8, x9, x10, x11, x12, ())).bind fun v =>
 Sum.elim
 (fun v =>
 some
 (Sum.inl
 (v.1, v.2.1, v.2.2.1, v.2.2.2.1, v.2.2.2.2.1,
 v.2.2.2.2.2.1, v.2.2.2.2.2.2.1, v.2.2.2.2.2.2.2.1,
 v.2.2.2.2.2.2.2.2.1, v.2.2.2.2.2.2.2.2.2.1, ())))
 (fun v =>
 some
 (Sum.inr
 (v.1, v.2.1, v.2.2.1, v.2.2.2.1, v.2.2.2.2.1,
 v.2.2.2.2.2.1, v.2.2.2.2.2.2.1, v.2.2.2.2.2.2.2.1,
 v.2.2.2.2.2.2.2.2.1, ())))
 v
 else
 (f168_c0 (x0, x1, x2, false, x5, x6, x7, x8, x9, x10, x11, x12, ())).bind fun v =>
 Sum.elim
 (fun v =>
 some
 (Sum.inl
 (v.1, v.2.1, v.2.2.1, v.2.2.2.1, v.2.2.2.2.1,
 v.2.2.2.2.2.1, v.2.2.2.2.2.2.1, v.2.2.2.2.2.2.2.1,
 v.2.2.2.2.2.2.2.2.1, v.2.2.2.2.2.2.2.2.2.1, ())))
 (fun v =>
 some
 (Sum.inr
 (v.1, v.2.1, v.2.2.1, v.2.2.2.1, v.2.2.2.2.1,
 v.2.2.2.2.2.1, v.2.2.2.2.2.2.1, v.2.2.2.2.2.2.2.1,
 v.2.2.2.2.2.2.2.2.1, ())))
 v
theorem h168_c1 (f129 : T129) (f204 : T204) (f25 : T25) (f168_c0 : T168_c0) : AqC (K168 f129 f204 f25) 1 (subc (code Tryz.f168) [1, 1, 1, 0, 0, 1]) (N168_c1 f168_c0) f168_c1_ins f168_c1_outs (F168_c1 f129 f204 f25 f168_c0) := fun v => by kernel_rfl
def C168_c1 : T168_c1 := F168_c1 C129 C204 C25 C168_c0
theorem k168_c1 : FragOk Tryz.prog 1 (fun Q a w => (subc (code Tryz.f168) [1, 1, 1, 0, 0, 1]).wp Tryz.prog Q a w) (E168_c1 C168_c1) :=
 frag_code (ins := f168_c1_ins) (os := f168_c1_outs) (n := (N168_c1 C168_c0)) (F := C168_c1) hm hΓ kok168 (ann_obs (And.intro k168_c0 trivial) (by kernel_rfl)) (h168_c1 C129 C204 C25 C168_c0)
def N168 (f168_c1 : T168_c1) : Ann := (.seq .nil (.seq .nil (.seq .nil (.seq (.blk (.cut .nil (E168_c1 f168_c1))) .nil))))
def F168 (f129 : T129) (f204 : T204) (f25 : T25) (f168_c1 : T168_c1) : T168 := fun (x0, x1, x2, x3, x4, x5, x6, x7, x8, _) =>
 (f25 (x0, ())).bind fun v =>
 (f129 (v.1, [61], ())).bind fun v1 =>
 bif !v1.1 == [115, 105, 122, 101] then
 bif !v1.1 == [98, 111, 100, 121] then
 (f168_c1
 (v.1, v1.1, v1.2.1, v1.2.2.1,
 !v1.1 == [115, 109, 116, 112, 117, 116, 102, 56], x1, x2, x3, x4, x5, x6, x7, x8, ())).bind
 fun v =>
 Sum.elim
 (fun v =>
 some
 (v.1, v.2.1, v.2.2.1, v.2.2.2.1, v.2.2.2.2.1,
 v.2.2.2.2.2.1, v.2.2.2.2.2.2.1, v.2.2.2.2.2.2.2.1,
 v.2.2.2.2.2.2.2.2.1, v.2.2.2.2.2.2.2.2.2.1, ()))
 (fun v =>
 some
 (v.1, 0, v.2.1, v.2.2.1, v.2.2.2.1, v.2.2.2.2.1,
 v.2.2.2.2.2.1, v.2.2.2.2.2.2.1, v.2.2.2.2.2.2.2.1,
 v.2.2.2.2.2.2.2.2.1, ()))
 v
 else
 (f168_c1 (v.1, v1.1, v1.2.1, v1.2.2.1, false, x1, x2, x3, x4, x5, x6, x7, x8, ())).bind
 fun v =>
 Sum.elim
 (fun v =>
 some
 (v.1, v.2.1, v.2.2.1, v.2.2.2.1, v.2.2.2.2.1,
 v.2.2.2.2.2.1, v.2.2.2.2.2.2.1, v.2.2.2.2.2.2.2.1,
 v.2.2.2.2.2.2.2.2.1, v.2.2.2.2.2.2.2.2.2.1, ()))
 (fun v =>
 some
 (v.1, 0, v.2.1, v.2.2.1, v.2.2.2.1, v.2.2.2.2.1,
 v.2.2.2.2.2.1, v.2.2.2.2.2.2.1, v.2.2.2.2.2.2.2.1,
 v.2.2.2.2.2.2.2.2.1, ()))
 v
 else
 (f168_c1 (v.1, v1.1, v1.2.1, v1.2.2.1, false, x1, x2, x3, x4, x5, x6, x7, x8, ())).bind
 fun v =>
 Sum.elim
 (fun v =>
 some
 (v.1, v.2.1, v.2.2.1, v.2.2.2.1, v.2.2.2.2.1,
 v.2.2.2.2.2.1, v.2.2.2.2.2.2.1, v.2.2.2.2.2.2.2.1,
 v.2.2.2.2.2.2.2.2.1, v.2.2.2.2.2.2.2.2.2.1, ()))
 (fun v =>
 some
 (v.1, 0, v.2.1, v.2.2.1, v.2.2.2.1, v.2.2.2.2.1,
 v.2.2.2.2.2.1, v.2.2.2.2.2.2.1, v.2.2.2.2.2.2.2.1,
 v.2.2.2.2.2.2.2.2.1, ()))
 v
theorem h168 (f129 : T129) (f204 : T204) (f25 : T25) (f168_c1 : T168_c1) : AqF (K168 f129 f204 f25) 1 Tryz.f168 (N168 f168_c1) f168_ins f168_outs (F168 f129 f204 f25 f168_c1) := fun v => by kernel_rfl
def C168 : T168 := F168 C129 C204 C25 C168_c1
theorem ok168 : FnOk Tryz.prog 168 (E168 C168) :=
 fnx (n := (N168 C168_c1)) kok168 Tryz.func168 (by kernel_rfl) (by kernel_rfl) (ann_obs (And.intro k168_c1 trivial) (by kernel_rfl)) (fun v => by kernel_rfl) (h168 C129 C204 C25 C168_c1)
abbrev T94_l0 := List (LqS) × LqS × Int × Int × Unit → Option (Unit ⊕ (Int × Unit))
def E94_l0 (f : T94_l0) : LEnt := ⟨f94_l0_ins, f94_l0_outs, f⟩
abbrev T94 := List (LqS) × LqS × Unit → Option (Int × Unit)
def E94 (f : T94) : FEnt := ⟨f94_ins, f94_outs, f⟩
def K94 : Calls' := fun f => Ae.lookA f []
theorem kok94 : KOk Tryz.prog (K94) := (kok_nil _)
def F94_l0 : LpF (List (LqS) × LqS × Int × Int × Unit) (Unit ⊕ (Int × Unit)) := fun (x0, x1, x2, x3, _) =>
 bif decide (x3 < x2) then
 bif decide (0 ≤ x3) && decide (x3 < (↑x0.length : Int)) then
 bif x1 == x0.getD x3.toNat [] then some (Sum.inr (Sum.inr (x3, ())))
 else some (Sum.inl (x0, x1, x2, IntKind.i64.wrap (x3 + 1), ()))
 else none
 else some (Sum.inr (Sum.inl ()))
theorem h94_l0 : AqL (K94) 0 (subc (code Tryz.f94) [1, 0, 1, 0, 0]) .nil f94_l0_ins f94_l0_outs (F94_l0) := fun v => by kernel_rfl
def C94_l0 : T94_l0 := loopN (F94_l0) big
theorem k94_l0 : FragOk Tryz.prog 0 (fun Q a w => (Code.loop (subc (code Tryz.f94) [1, 0, 1, 0, 0])).wp Tryz.prog Q a w) (E94_l0 C94_l0) :=
 frag_big (ins := f94_l0_ins) (os := f94_l0_outs) (C := C94_l0) (frag_loop (ins := f94_l0_ins) (os := f94_l0_outs) (n := .nil) (F := F94_l0) hm hΓ kok94 (fun _ => big) (ann_nil _) (h94_l0)) rfl
def N94 (f94_l0 : T94_l0) : Ann := (.seq .nil (.seq (.seq .nil (.blk (.loop (E94_l0 f94_l0)))) .nil))
def F94 (f94_l0 : T94_l0) : T94 := fun (x0, x1, _) =>
 (f94_l0 (x0, x1, (↑x0.length : Int), 0, ())).bind fun v =>
 Sum.elim (fun v => some (-1, ())) (fun v => some (v.1, ())) v
theorem h94 (f94_l0 : T94_l0) : AqF (K94) 0 Tryz.f94 (N94 f94_l0) f94_ins f94_outs (F94 f94_l0) := fun v => by kernel_rfl
def C94 : T94 := F94 C94_l0
theorem ok94 : FnOk Tryz.prog 94 (E94 C94) :=
 fnx (n := (N94 C94_l0)) kok94 Tryz.func94 (by kernel_rfl) (by kernel_rfl) (ann_obs (And.intro k94_l0 trivial) (by kernel_rfl)) (fun v => by kernel_rfl) (h94 C94_l0)
abbrev T93 := List (LqS) × LqS × Unit → Option (Bool × Unit)
def E93 (f : T93) : FEnt := ⟨f93_ins, f93_outs, f⟩
def K93 (f94 : T94) : Calls' := fun f => Ae.lookA f [(94, E94 f94)]
theorem kok93 : KOk Tryz.prog (K93 C94) := (kok_cons ok94 (kok_nil _))
def F93 (f94 : T94) : T93 := fun (x0, x1, _) =>
 (f94 (x0, x1, ())).bind fun v => some (decide (v.1 ≥ 0), ())
theorem h93 (f94 : T94) : AqF (K93 f94) 0 Tryz.f93 .nil f93_ins f93_outs (F93 f94) := fun v => by kernel_rfl
def C93 : T93 := F93 C94
theorem ok93 : FnOk Tryz.prog 93 (E93 C93) :=
 fnx (n := .nil) kok93 Tryz.func93 (by kernel_rfl) (by kernel_rfl) (ann_nil _) (fun v => by kernel_rfl) (h93 C94)
abbrev T134_l0 := List (LqS) × Int × Int × Int × LqS × Bool × LqS × LqS × Int × Bool × Bool × List (LqS) × Unit → Option ((Int × LqS × Bool × LqS × LqS × Int × Bool × Bool × Unit) ⊕ (Int × Int × LqS × Bool × LqS × LqS × Int × Bool × Bool × Unit))
def E134_l0 (f : T134_l0) : LEnt := ⟨f134_l0_ins, f134_l0_outs, f⟩
abbrev T134 := LqS × Int × LqS × Bool × LqS × LqS × Int × Bool × Bool × Unit → Option (Int × Int × LqS × Bool × LqS × LqS × Int × Bool × Bool × Unit)
def E134 (f : T134) : FEnt := ⟨f134_ins, f134_outs, f⟩
def K134 (f125 : T125) (f132 : T132) (f168 : T168) (f93 : T93) : Calls' := fun f => Ae.lookA f [(125, E125 f125), (132, E132 f132), (168, E168 f168), (93, E93 f93)]
theorem kok134 : KOk Tryz.prog (K134 C125 C132 C168 C93) := (kok_cons ok125 (kok_cons ok132 (kok_cons ok168 (kok_cons ok93 (kok_nil _)))))
def F134_l0 (f125 : T125) (f132 : T132) (f168 : T168) (f93 : T93) : LpF (List (LqS) × Int × Int × Int × LqS × Bool × LqS × LqS × Int × Bool × Bool × List (LqS) × Unit) ((Int × LqS × Bool × LqS × LqS × Int × Bool × Bool × Unit) ⊕ (Int × Int × LqS × Bool × LqS × LqS × Int × Bool × Bool × Unit)) := fun (x0, x1, x2, x3, x4, x5, x6, x7, x8, x9, x10, x11, _) =>
 bif decide (x2 < x1) then
 bif decide (0 ≤ x2) && decide (x2 < (↑x0.length : Int)) then
 (f168 (x0.getD x2.toNat [], x3, x4, x5, x6, x7, x8, x9, x10, ())).bind fun v =>
 (f93 (x11, v.1, ())).bind fun v1 =>
 bif v1.1 then some (Sum.inr (Sum.inr (501, x3, x4, x5, x6, x7, x8, x9, x10, ())))
 else
 bif v.2.1 != 0 then some (Sum.inr (Sum.inr (v.2.1, x3, x4, x5, x6, x7, x8, x9, x10, ())))
 else
 bif decide (x11.length + [v.1].length ≤ 140737488355328 / 16) then
 some
 (Sum.inl
 (x0, x1, IntKind.i64.wrap (x2 + 1), v.2.2.1, v.2.2.2.1, v.2.2.2.2.1,
 v.2.2.2.2.2.1, v.2.2.2.2.2.2.1, v.2.2.2.2.2.2.2.1,
 v.2.2.2.2.2.2.2.2.1, v.2.2.2.2.2.2.2.2.2.1,
 x11 ++ [v.1], ()))
 else none
 else none
 else some (Sum.inr (Sum.inl (x3, x4, x5, x6, x7, x8, x9, x10, ())))
theorem h134_l0 (f125 : T125) (f132 : T132) (f168 : T168) (f93 : T93) : AqL (K134 f125 f132 f168 f93) 1 (subc (code Tryz.f134) [1, 1, 1, 1, 0, 1, 0, 0]) .nil f134_l0_ins f134_l0_outs (F134_l0 f125 f132 f168 f93) := fun v => by kernel_rfl
def C134_l0 : T134_l0 := loopN (F134_l0 C125 C132 C168 C93) big
theorem k134_l0 : FragOk Tryz.prog 1 (fun Q a w => (Code.loop (subc (code Tryz.f134) [1, 1, 1, 1, 0, 1, 0, 0])).wp Tryz.prog Q a w) (E134_l0 C134_l0) :=
 frag_big (ins := f134_l0_ins) (os := f134_l0_outs) (C := C134_l0) (frag_loop (ins := f134_l0_ins) (os := f134_l0_outs) (n := .nil) (F := F134_l0 C125 C132 C168 C93) hm hΓ kok134 (fun _ => big) (ann_nil _) (h134_l0 C125 C132 C168 C93)) rfl
def N134 (f134_l0 : T134_l0) : Ann := (.seq .nil (.seq .nil (.seq .nil (.seq .nil (.seq (.seq .nil (.blk (.loop (E134_l0 f134_l0)))) .nil)))))
def F134 (f125 : T125) (f132 : T132) (f168 : T168) (f93 : T93) (f134_l0 : T134_l0) : T134 := fun (x0, x1, x2, x3, x4, x5, x6, x7, x8, _) =>
 (f132 (x0, [32], ())).bind fun v =>
 bif !v.2.1 then some (501, x1, x2, x3, x4, x5, x6, x7, x8, ())
 else
 (f125 (v.1, [32], ())).bind fun v =>
 (f134_l0 (v.1, (↑(List.length v.1) : Int), 0, x1, x2, x3, x4, x5, x6, x7, x8, [], ())).bind fun v =>
 Sum.elim
 (fun v =>
 some
 (0, v.1, v.2.1, v.2.2.1, v.2.2.2.1, v.2.2.2.2.1,
 v.2.2.2.2.2.1, v.2.2.2.2.2.2.1, v.2.2.2.2.2.2.2.1,
 ()))
 (fun v =>
 some
 (v.1, v.2.1, v.2.2.1, v.2.2.2.1, v.2.2.2.2.1,
 v.2.2.2.2.2.1, v.2.2.2.2.2.2.1, v.2.2.2.2.2.2.2.1,
 v.2.2.2.2.2.2.2.2.1, ()))
 v
theorem h134 (f125 : T125) (f132 : T132) (f168 : T168) (f93 : T93) (f134_l0 : T134_l0) : AqF (K134 f125 f132 f168 f93) 1 Tryz.f134 (N134 f134_l0) f134_ins f134_outs (F134 f125 f132 f168 f93 f134_l0) := fun v => by kernel_rfl
def C134 : T134 := F134 C125 C132 C168 C93 C134_l0
theorem ok134 : FnOk Tryz.prog 134 (E134 C134) :=
 fnx (n := (N134 C134_l0)) kok134 Tryz.func134 (by kernel_rfl) (by kernel_rfl) (ann_obs (And.intro k134_l0 trivial) (by kernel_rfl)) (fun v => by kernel_rfl) (h134 C125 C132 C168 C93 C134_l0)
abbrev T99_c0 := LqS × Int × Int × LqS × Bool × LqS × LqS × Int × Bool × Bool × Unit → Option (Int × Int × LqS × Bool × LqS × LqS × Int × Bool × Bool × Unit)
def E99_c0 (f : T99_c0) : LEnt := ⟨f99_c0_ins, f99_c0_outs, f⟩
abbrev T99 := LqA × LqB × LqC × LqS × Int × LqS × Bool × LqS × LqS × Int × Bool × Bool × Unit → Option (Int × Int × LqS × Bool × LqS × LqS × Int × Bool × Bool × Unit)
def E99 (f : T99) : FEnt := ⟨f99_ins, f99_outs, f⟩
def K99 (f133 : T133) (f134 : T134) (f21 : T21) : Calls' := fun f => Ae.lookA f [(133, E133 f133), (134, E134 f134), (21, E21 f21)]
theorem kok99 : KOk Tryz.prog (K99 C133 C134 C21) := (kok_cons ok133 (kok_cons ok134 (kok_cons ok21 (kok_nil _))))
def F99_c0 (f133 : T133) (f134 : T134) (f21 : T21) : T99_c0 := fun (x0, x1, x2, x3, x4, x5, x6, x7, x8, x9, _) =>
 bif x1 == 0 then
 bif !x9 then
 (f21 (x0, ())).bind fun v =>
 bif decide (v.1 ≥ 0) then some (553, x2, x3, x4, x5, x6, x7, x8, x9, ())
 else some (x1, x2, x3, x4, x5, x6, x7, x8, x9, ())
 else some (x1, x2, x3, x4, x5, x6, x7, x8, x9, ())
 else some (x1, x2, x3, x4, x5, x6, x7, x8, x9, ())
theorem h99_c0 (f133 : T133) (f134 : T134) (f21 : T21) : AqC (K99 f133 f134 f21) 1 (subc (code Tryz.f99) [1, 1, 1]) .nil f99_c0_ins f99_c0_outs (F99_c0 f133 f134 f21) := fun v => by kernel_rfl
def C99_c0 : T99_c0 := F99_c0 C133 C134 C21
theorem k99_c0 : FragOk Tryz.prog 1 (fun Q a w => (subc (code Tryz.f99) [1, 1, 1]).wp Tryz.prog Q a w) (E99_c0 C99_c0) :=
 frag_code (ins := f99_c0_ins) (os := f99_c0_outs) (n := .nil) (F := C99_c0) hm hΓ kok99 (ann_nil _) (h99_c0 C133 C134 C21)
def N99 (f99_c0 : T99_c0) : Ann := (.seq .nil (.seq .nil (.cut .nil (E99_c0 f99_c0))))
def F99 (f133 : T133) (f134 : T134) (f21 : T21) (f99_c0 : T99_c0) : T99 := fun (x0, x1, x2, x3, x4, x5, x6, x7, x8, x9, x10, x11, _) =>
 (f133 (x0, x1, x2, x3, [32, 70, 82, 79, 77, 58], x4, x5, x6, x7, x8, x9, x10, x11, ())).bind fun v =>
 bif v.2.2.1 == 0 then
 bif !v.2.1 == [] then
 (f134
 (v.2.1, v.2.2.2.1, v.2.2.2.2.1, v.2.2.2.2.2.1,
 v.2.2.2.2.2.2.1, v.2.2.2.2.2.2.2.1,
 v.2.2.2.2.2.2.2.2.1, v.2.2.2.2.2.2.2.2.2.1,
 v.2.2.2.2.2.2.2.2.2.2.1, ())).bind
 fun v1 =>
 (f99_c0
 (v.1, v1.1, v1.2.1, v1.2.2.1, v1.2.2.2.1, v1.2.2.2.2.1,
 v1.2.2.2.2.2.1, v1.2.2.2.2.2.2.1, v1.2.2.2.2.2.2.2.1,
 v1.2.2.2.2.2.2.2.2.1, ())).bind
 fun v =>
 some
 (v.1, v.2.1, v.2.2.1, v.2.2.2.1, v.2.2.2.2.1,
 v.2.2.2.2.2.1, v.2.2.2.2.2.2.1, v.2.2.2.2.2.2.2.1,
 v.2.2.2.2.2.2.2.2.1, ())
 else
 (f99_c0
 (v.1, v.2.2.1, v.2.2.2.1, v.2.2.2.2.1, v.2.2.2.2.2.1,
 v.2.2.2.2.2.2.1, v.2.2.2.2.2.2.2.1,
 v.2.2.2.2.2.2.2.2.1, v.2.2.2.2.2.2.2.2.2.1,
 v.2.2.2.2.2.2.2.2.2.2.1, ())).bind
 fun v =>
 some
 (v.1, v.2.1, v.2.2.1, v.2.2.2.1, v.2.2.2.2.1,
 v.2.2.2.2.2.1, v.2.2.2.2.2.2.1, v.2.2.2.2.2.2.2.1,
 v.2.2.2.2.2.2.2.2.1, ())
 else
 (f99_c0
 (v.1, v.2.2.1, v.2.2.2.1, v.2.2.2.2.1, v.2.2.2.2.2.1,
 v.2.2.2.2.2.2.1, v.2.2.2.2.2.2.2.1,
 v.2.2.2.2.2.2.2.2.1, v.2.2.2.2.2.2.2.2.2.1,
 v.2.2.2.2.2.2.2.2.2.2.1, ())).bind
 fun v =>
 some
 (v.1, v.2.1, v.2.2.1, v.2.2.2.1, v.2.2.2.2.1,
 v.2.2.2.2.2.1, v.2.2.2.2.2.2.1, v.2.2.2.2.2.2.2.1,
 v.2.2.2.2.2.2.2.2.1, ())
theorem h99 (f133 : T133) (f134 : T134) (f21 : T21) (f99_c0 : T99_c0) : AqF (K99 f133 f134 f21) 1 Tryz.f99 (N99 f99_c0) f99_ins f99_outs (F99 f133 f134 f21 f99_c0) := fun v => by kernel_rfl
def C99 : T99 := F99 C133 C134 C21 C99_c0
theorem ok99 : FnOk Tryz.prog 99 (E99 C99) :=
 fnx (n := (N99 C99_c0)) kok99 Tryz.func99 (by kernel_rfl) (by kernel_rfl) (ann_obs (And.intro k99_c0 trivial) (by kernel_rfl)) (fun v => by kernel_rfl) (h99 C133 C134 C21 C99_c0)
abbrev T100 := LqA × LqB × LqC × LqS × Int × LqS × Bool × LqS × LqS × Int × Bool × Bool × Unit → Option (Int × Int × LqS × Bool × LqS × LqS × Int × Bool × Bool × Unit)
def E100 (f : T100) : FEnt := ⟨f100_ins, f100_outs, f⟩
def K100 (f133 : T133) : Calls' := fun f => Ae.lookA f [(133, E133 f133)]
theorem kok100 : KOk Tryz.prog (K100 C133) := (kok_cons ok133 (kok_nil _))
def F100 (f133 : T133) : T100 := fun (x0, x1, x2, x3, x4, x5, x6, x7, x8, x9, x10, x11, _) =>
 (f133 (x0, x1, x2, x3, [32, 84, 79, 58], x4, x5, x6, x7, x8, x9, x10, x11, ())).bind fun v =>
 bif v.2.2.1 == 0 then
 bif !v.2.1 == [] then
 some
 (555, v.2.2.2.1, v.2.2.2.2.1, v.2.2.2.2.2.1,
 v.2.2.2.2.2.2.1, v.2.2.2.2.2.2.2.1, v.2.2.2.2.2.2.2.2.1,
 v.2.2.2.2.2.2.2.2.2.1, v.2.2.2.2.2.2.2.2.2.2.1, ())
 else
 some
 (v.2.2.1, v.2.2.2.1, v.2.2.2.2.1, v.2.2.2.2.2.1,
 v.2.2.2.2.2.2.1, v.2.2.2.2.2.2.2.1, v.2.2.2.2.2.2.2.2.1,
 v.2.2.2.2.2.2.2.2.2.1, v.2.2.2.2.2.2.2.2.2.2.1, ())
 else
 some
 (v.2.2.1, v.2.2.2.1, v.2.2.2.2.1, v.2.2.2.2.2.1,
 v.2.2.2.2.2.2.1, v.2.2.2.2.2.2.2.1, v.2.2.2.2.2.2.2.2.1,
 v.2.2.2.2.2.2.2.2.2.1, v.2.2.2.2.2.2.2.2.2.2.1, ())
theorem h100 (f133 : T133) : AqF (K100 f133) 1 Tryz.f100 .nil f100_ins f100_outs (F100 f133) := fun v => by kernel_rfl
def C100 : T100 := F100 C133
theorem ok100 : FnOk Tryz.prog 100 (E100 C100) :=
 fnx (n := .nil) kok100 Tryz.func100 (by kernel_rfl) (by kernel_rfl) (ann_nil _) (fun v => by kernel_rfl) (h100 C133)
abbrev T101 := LqA × LqB × LqC × LqS × Int × LqS × Bool × LqS × LqS × Int × Bool × Bool × Unit → Option (Int × Int × LqS × Bool × LqS × LqS × Int × Bool × Bool × Unit)
def E101 (f : T101) : FEnt := ⟨f101_ins, f101_outs, f⟩
def K101 : Calls' := fun f => Ae.lookA f []
theorem kok101 : KOk Tryz.prog (K101) := (kok_nil _)
def F101 : T101 := fun (x0, x1, x2, x3, x4, x5, x6, x7, x8, x9, x10, x11, _) =>
 bif !x3 == [] then some (501, x4, x5, x6, x7, x8, x9, x10, x11, ())
 else some (0, x4, x5, x6, x7, x8, x9, x10, x11, ())
theorem h101 : AqF (K101) 1 Tryz.f101 .nil f101_ins f101_outs (F101) := fun v => by kernel_rfl
def C101 : T101 := F101
theorem ok101 : FnOk Tryz.prog 101 (E101 C101) :=
 fnx (n := .nil) kok101 Tryz.func101 (by kernel_rfl) (by kernel_rfl) (ann_nil _) (fun v => by kernel_rfl) (h101)
abbrev T102 := LqA × LqB × LqC × LqS × Int × LqS × Bool × LqS × LqS × Int × Bool × Bool × Unit → Option (Int × Int × LqS × Bool × LqS × LqS × Int × Bool × Bool × Unit)
def E102 (f : T102) : FEnt := ⟨f102_ins, f102_outs, f⟩
def K102 : Calls' := fun f => Ae.lookA f []
theorem kok102 : KOk Tryz.prog (K102) := (kok_nil _)
def F102 : T102 := fun (x0, x1, x2, x3, x4, x5, x6, x7, x8, x9, x10, x11, _) =>
 some (0, x4, x5, x6, x7, x8, x9, x10, x11, ())
theorem h102 : AqF (K102) 1 Tryz.f102 .nil f102_ins f102_outs (F102) := fun v => by kernel_rfl
def C102 : T102 := F102
theorem ok102 : FnOk Tryz.prog 102 (E102 C102) :=
 fnx (n := .nil) kok102 Tryz.func102 (by kernel_rfl) (by kernel_rfl) (ann_nil _) (fun v => by kernel_rfl) (h102)
abbrev T24 := LqA × LqB × LqC × LqS × Unit → Option (Int × LqS × Bool × LqS × LqS × Int × Bool × Bool × Int × Unit)
def E24 (f : T24) : FEnt := ⟨f24_ins, f24_outs, f⟩
def K24 (f100 : T100) (f101 : T101) (f102 : T102) (f61 : T61) (f62 : T62) (f98 : T98) (f99 : T99) : Calls' := fun f => Ae.lookA f [(100, E100 f100), (101, E101 f101), (102, E102 f102), (61, E61 f61), (62, E62 f62), (98, E98 f98), (99, E99 f99)]
theorem kok24 : KOk Tryz.prog (K24 C100 C101 C102 C61 C62 C98 C99) := (kok_cons ok100 (kok_cons ok101 (kok_cons ok102 (kok_cons ok61 (kok_cons ok62 (kok_cons ok98 (kok_cons ok99 (kok_nil _))))))))
def F24 (f100 : T100) (f101 : T101) (f102 : T102) (f61 : T61) (f62 : T62) (f98 : T98) (f99 : T99) : T24 := fun (x0, x1, x2, x3, _) =>
 (f61 (x3, ())).bind fun v =>
 bif decide ((↑x3.length : Int) > 510) then some (0, [], false, [], [], -1, false, false, 500, ())
 else
 bif decide (v.1 < 0) then some (0, [], false, [], [], -1, false, false, 500, ())
 else
 (f62 ()).bind fun v1 =>
 bif decide (v.1 = (↑0 : Int)) then
 bif decide (4 ≤ (↑x3.length : Int)) then
 (f98 (x0, x1, x2, List.drop 4 x3, v.1, [], false, [], [], -1, false, false, ())).bind
 fun v =>
 bif v.1 != 0 then some (0, [], false, [], [], -1, false, false, v.1, ())
 else
 some
 (v.2.1, v.2.2.1, v.2.2.2.1, v.2.2.2.2.1,
 v.2.2.2.2.2.1, v.2.2.2.2.2.2.1, v.2.2.2.2.2.2.2.1,
 v.2.2.2.2.2.2.2.2.1, 0, ())
 else none
 else
 bif decide (v.1 = (↑1 : Int)) then
 bif decide (4 ≤ (↑x3.length : Int)) then
 (f98 (x0, x1, x2, List.drop 4 x3, v.1, [], false, [], [], -1, false, false, ())).bind
 fun v =>
 bif v.1 != 0 then some (0, [], false, [], [], -1, false, false, v.1, ())
 else
 some
 (v.2.1, v.2.2.1, v.2.2.2.1, v.2.2.2.2.1,
 v.2.2.2.2.2.1, v.2.2.2.2.2.2.1, v.2.2.2.2.2.2.2.1,
 v.2.2.2.2.2.2.2.2.1, 0, ())
 else none
 else
 bif decide (v.1 = (↑2 : Int)) then
 bif decide (4 ≤ (↑x3.length : Int)) then
 (f99 (x0, x1, x2, List.drop 4 x3, v.1, [], false, [], [], -1, false, false, ())).bind
 fun v =>
 bif v.1 != 0 then some (0, [], false, [], [], -1, false, false, v.1, ())
 else
 some
 (v.2.1, v.2.2.1, v.2.2.2.1, v.2.2.2.2.1,
 v.2.2.2.2.2.1, v.2.2.2.2.2.2.1,
 v.2.2.2.2.2.2.2.1, v.2.2.2.2.2.2.2.2.1, 0, ())
 else none
 else
 bif decide (v.1 = (↑3 : Int)) then
 bif decide (4 ≤ (↑x3.length : Int)) then
 (f100 (x0, x1, x2, List.drop 4 x3, v.1, [], false, [], [], -1, false, false, ())).bind
 fun v =>
 bif v.1 != 0 then some (0, [], false, [], [], -1, false, false, v.1, ())
 else
 some
 (v.2.1, v.2.2.1, v.2.2.2.1, v.2.2.2.2.1,
 v.2.2.2.2.2.1, v.2.2.2.2.2.2.1,
 v.2.2.2.2.2.2.2.1, v.2.2.2.2.2.2.2.2.1, 0, ())
 else none
 else
 bif decide (v.1 = (↑4 : Int)) then
 bif decide (4 ≤ (↑x3.length : Int)) then
 (f101
 (x0, x1, x2, List.drop 4 x3, v.1, [], false, [], [], -1, false, false,
 ())).bind
 fun v =>
 bif v.1 != 0 then some (0, [], false, [], [], -1, false, false, v.1, ())
 else
 some
 (v.2.1, v.2.2.1, v.2.2.2.1, v.2.2.2.2.1,
 v.2.2.2.2.2.1, v.2.2.2.2.2.2.1,
 v.2.2.2.2.2.2.2.1, v.2.2.2.2.2.2.2.2.1, 0, ())
 else none
 else
 bif decide (v.1 = (↑5 : Int)) then
 bif decide (4 ≤ (↑x3.length : Int)) then
 (f101
 (x0, x1, x2, List.drop 4 x3, v.1, [], false, [], [], -1, false, false,
 ())).bind
 fun v =>
 bif v.1 != 0 then some (0, [], false, [], [], -1, false, false, v.1, ())
 else
 some
 (v.2.1, v.2.2.1, v.2.2.2.1, v.2.2.2.2.1,
 v.2.2.2.2.2.1, v.2.2.2.2.2.2.1,
 v.2.2.2.2.2.2.2.1, v.2.2.2.2.2.2.2.2.1, 0,
 ())
 else none
 else
 bif decide (v.1 = (↑6 : Int)) then
 bif decide (4 ≤ (↑x3.length : Int)) then
 (f102
 (x0, x1, x2, List.drop 4 x3, v.1, [], false, [], [], -1, false, false,
 ())).bind
 fun v =>
 bif v.1 != 0 then some (0, [], false, [], [], -1, false, false, v.1, ())
 else
 some
 (v.2.1, v.2.2.1, v.2.2.2.1, v.2.2.2.2.1,
 v.2.2.2.2.2.1, v.2.2.2.2.2.2.1,
 v.2.2.2.2.2.2.2.1, v.2.2.2.2.2.2.2.2.1, 0,
 ())
 else none
 else
 bif decide (v.1 = (↑7 : Int)) then
 bif decide (4 ≤ (↑x3.length : Int)) then
 (f101
 (x0, x1, x2, List.drop 4 x3, v.1, [], false, [], [], -1, false, false,
 ())).bind
 fun v =>
 bif v.1 != 0 then some (0, [], false, [], [], -1, false, false, v.1, ())
 else
 some
 (v.2.1, v.2.2.1, v.2.2.2.1, v.2.2.2.2.1,
 v.2.2.2.2.2.1, v.2.2.2.2.2.2.1,
 v.2.2.2.2.2.2.2.1, v.2.2.2.2.2.2.2.2.1, 0,
 ())
 else none
 else none
theorem h24 (f100 : T100) (f101 : T101) (f102 : T102) (f61 : T61) (f62 : T62) (f98 : T98) (f99 : T99) : AqF (K24 f100 f101 f102 f61 f62 f98 f99) 0 Tryz.f24 .nil f24_ins f24_outs (F24 f100 f101 f102 f61 f62 f98 f99) := fun v => by kernel_rfl
def C24 : T24 := F24 C100 C101 C102 C61 C62 C98 C99
theorem ok24 : FnOk Tryz.prog 24 (E24 C24) :=
 fnx (n := .nil) kok24 Tryz.func24 (by kernel_rfl) (by kernel_rfl) (ann_nil _) (fun v => by kernel_rfl) (h24 C100 C101 C102 C61 C62 C98 C99)
abbrev T60 := Int × Unit → Option (LqS × Unit)
def E60 (f : T60) : FEnt := ⟨f60_ins, f60_outs, f⟩
def K60 : Calls' := fun f => Ae.lookA f []
theorem kok60 : KOk Tryz.prog (K60) := (kok_nil _)
def F60 : T60 := fun (x0, _) =>
 bif decide (x0 < 0) then some ([], ())
 else
 bif decide (x0 ≥ 8) then some ([], ())
 else
 bif decide (x0 = (↑0 : Int)) then some (wordsV.1, ())
 else
 bif decide (x0 = (↑1 : Int)) then some (wordsV.2.1, ())
 else
 bif decide (x0 = (↑2 : Int)) then some (wordsV.2.2.1, ())
 else
 bif decide (x0 = (↑3 : Int)) then some (wordsV.2.2.2.1, ())
 else
 bif decide (x0 = (↑4 : Int)) then some (wordsV.2.2.2.2.1, ())
 else
 bif decide (x0 = (↑5 : Int)) then some (wordsV.2.2.2.2.2.1, ())
 else
 bif decide (x0 = (↑6 : Int)) then some (wordsV.2.2.2.2.2.2.1, ())
 else bif decide (x0 = (↑7 : Int)) then some (wordsV.2.2.2.2.2.2.2, ()) else none
theorem h60 : AqF (K60) 0 Tryz.f60 .nil f60_ins f60_outs (F60) := fun v => by kernel_rfl
def C60 : T60 := F60
theorem ok60 : FnOk Tryz.prog 60 (E60 C60) :=
 fnx (n := .nil) kok60 Tryz.func60 (by kernel_rfl) (by kernel_rfl) (ann_nil _) (fun v => by kernel_rfl) (h60)
abbrev T27_c0 := LqS × Int × LqS × Bool × LqS × LqS × Int × Bool × Bool × Unit → Option (LqS × Unit)
def E27_c0 (f : T27_c0) : LEnt := ⟨f27_c0_ins, f27_c0_outs, f⟩
abbrev T27_c1 := LqS × Int × Bool × Int × LqS × Bool × LqS × LqS × Int × Bool × Bool × Unit → Option ((LqS × Unit) ⊕ (LqS × Unit))
def E27_c1 (f : T27_c1) : LEnt := ⟨f27_c1_ins, f27_c1_outs, f⟩
abbrev T27 := Int × LqS × Bool × LqS × LqS × Int × Bool × Bool × Unit → Option (LqS × Unit)
def E27 (f : T27) : FEnt := ⟨f27_ins, f27_outs, f⟩
def K27 (f22 : T22) (f60 : T60) (f65 : T65) : Calls' := fun f => Ae.lookA f [(22, E22 f22), (60, E60 f60), (65, E65 f65)]
theorem kok27 : KOk Tryz.prog (K27 C22 C60 C65) := (kok_cons ok22 (kok_cons ok60 (kok_cons ok65 (kok_nil _))))
def F27_c0 (f22 : T22) (f60 : T60) (f65 : T65) : T27_c0 := fun (x0, x1, x2, x3, x4, x5, x6, x7, x8, _) =>
 bif x7 then
 bif
 decide
 (x0.length + [32, 66, 79, 68, 89, 61, 56, 66, 73, 84, 77, 73, 77, 69].length ≤ 9223372036854775807) then
 bif x8 then
 bif
 decide
 ((x0 ++ [32, 66, 79, 68, 89, 61, 56, 66, 73, 84, 77, 73, 77, 69]).length +
 [32, 83, 77, 84, 80, 85, 84, 70, 56].length ≤
 9223372036854775807) then
 some
 (x0 ++ [32, 66, 79, 68, 89, 61, 56, 66, 73, 84, 77, 73, 77, 69] ++
 [32, 83, 77, 84, 80, 85, 84, 70, 56],
 ())
 else none
 else some (x0 ++ [32, 66, 79, 68, 89, 61, 56, 66, 73, 84, 77, 73, 77, 69], ())
 else none
 else
 bif x8 then
 bif decide (x0.length + [32, 83, 77, 84, 80, 85, 84, 70, 56].length ≤ 9223372036854775807) then
 some (x0 ++ [32, 83, 77, 84, 80, 85, 84, 70, 56], ())
 else none
 else some (x0, ())
theorem h27_c0 (f22 : T22) (f60 : T60) (f65 : T65) : AqC (K27 f22 f60 f65) 0 (subc (code Tryz.f27) [1, 1, 0, 1, 0, 1, 1, 1, 1, 1, 0, 1, 1]) .nil f27_c0_ins f27_c0_outs (F27_c0 f22 f60 f65) := fun v => by kernel_rfl
def C27_c0 : T27_c0 := F27_c0 C22 C60 C65
theorem k27_c0 : FragOk Tryz.prog 0 (fun Q a w => (subc (code Tryz.f27) [1, 1, 0, 1, 0, 1, 1, 1, 1, 1, 0, 1, 1]).wp Tryz.prog Q a w) (E27_c0 C27_c0) :=
 frag_code (ins := f27_c0_ins) (os := f27_c0_outs) (n := .nil) (F := C27_c0) hm hΓ kok27 (ann_nil _) (h27_c0 C22 C60 C65)
def N27_c1 (f27_c0 : T27_c0) : Ann := (.cond .nil (.seq .nil (.cond .nil (.seq .nil (.cond (.seq .nil (.cut .nil (E27_c0 f27_c0))) .nil)))))
def F27_c1 (f22 : T22) (f60 : T60) (f65 : T65) (f27_c0 : T27_c0) : T27_c1 := fun (x0, x1, x2, x3, x4, x5, x6, x7, x8, x9, x10, _) =>
 bif x2 then
 bif decide (x0.length + [32].length ≤ 9223372036854775807) then
 bif decide ((x0 ++ [32]).length + x4.length ≤ 9223372036854775807) then
 some (Sum.inl (x0 ++ [32] ++ x4, ()))
 else none
 else none
 else
 bif x1 == 3 then
 bif decide (x0.length + [32, 84, 79, 58].length ≤ 9223372036854775807) then
 (f22 (x5, x6, x7, ())).bind fun v =>
 bif decide ((x0 ++ [32, 84, 79, 58]).length + List.length v.1 ≤ 9223372036854775807) then
 some (Sum.inl (x0 ++ [32, 84, 79, 58] ++ v.1, ()))
 else none
 else none
 else
 bif x1 == 2 then
 (f22 (x5, x6, x7, ())).bind fun v =>
 bif decide ([32, 70, 82, 79, 77, 58].length + List.length v.1 ≤ 9223372036854775807) then
 bif decide (x0.length + ([32, 70, 82, 79, 77, 58] ++ v.1).length ≤ 9223372036854775807) then
 bif decide (x8 ≥ 0) then
 (f65 (x8, ())).bind fun v1 =>
 bif decide ([32, 83, 73, 90, 69, 61].length + List.length v1.1 ≤ 9223372036854775807) then
 bif
 decide
 ((x0 ++ ([32, 70, 82, 79, 77, 58] ++ v.1)).length +
 ([32, 83, 73, 90, 69, 61] ++ v1.1).length ≤
 9223372036854775807) then
 (f27_c0
 (x0 ++ ([32, 70, 82, 79, 77, 58] ++ v.1) ++
 ([32, 83, 73, 90, 69, 61] ++ v1.1),
 x3, x4, x5, x6, x7, x8, x9, x10, ())).bind
 fun v => some (Sum.inr (v.1, ()))
 else none
 else none
 else
 (f27_c0 (x0 ++ ([32, 70, 82, 79, 77, 58] ++ v.1), x3, x4, x5, x6, x7, x8, x9, x10, ())).bind
 fun v => some (Sum.inr (v.1, ()))
 else none
 else none
 else some (Sum.inr (x0, ()))
theorem h27_c1 (f22 : T22) (f60 : T60) (f65 : T65) (f27_c0 : T27_c0) : AqC (K27 f22 f60 f65) 0 (subc (code Tryz.f27) [1, 1, 0, 1, 0, 1]) (N27_c1 f27_c0) f27_c1_ins f27_c1_outs (F27_c1 f22 f60 f65 f27_c0) := fun v => by kernel_rfl
def C27_c1 : T27_c1 := F27_c1 C22 C60 C65 C27_c0
theorem k27_c1 : FragOk Tryz.prog 0 (fun Q a w => (subc (code Tryz.f27) [1, 1, 0, 1, 0, 1]).wp Tryz.prog Q a w) (E27_c1 C27_c1) :=
 frag_code (ins := f27_c1_ins) (os := f27_c1_outs) (n := (N27_c1 C27_c0)) (F := C27_c1) hm hΓ kok27 (ann_obs (And.intro k27_c0 trivial) (by kernel_rfl)) (h27_c1 C22 C60 C65 C27_c0)
def N27 (f27_c1 : T27_c1) : Ann := (.seq .nil (.seq .nil (.seq (.seq .nil (.blk (.cut .nil (E27_c1 f27_c1)))) .nil)))
def F27 (f22 : T22) (f60 : T60) (f65 : T65) (f27_c1 : T27_c1) : T27 := fun (x0, x1, x2, x3, x4, x5, x6, x7, _) =>
 (f60 (x0, ())).bind fun v =>
 bif x0 == 0 then
 (f27_c1 (v.1, x0, true, x0, x1, x2, x3, x4, x5, x6, x7, ())).bind fun v =>
 Sum.elim (fun v => some (v.1, ())) (fun v => some (v.1, ())) v
 else
 (f27_c1 (v.1, x0, x0 == 1, x0, x1, x2, x3, x4, x5, x6, x7, ())).bind fun v =>
 Sum.elim (fun v => some (v.1, ())) (fun v => some (v.1, ())) v
theorem h27 (f22 : T22) (f60 : T60) (f65 : T65) (f27_c1 : T27_c1) : AqF (K27 f22 f60 f65) 0 Tryz.f27 (N27 f27_c1) f27_ins f27_outs (F27 f22 f60 f65 f27_c1) := fun v => by kernel_rfl
def C27 : T27 := F27 C22 C60 C65 C27_c1
theorem ok27 : FnOk Tryz.prog 27 (E27 C27) :=
 fnx (n := (N27 C27_c1)) kok27 Tryz.func27 (by kernel_rfl) (by kernel_rfl) (ann_obs (And.intro k27_c1 trivial) (by kernel_rfl)) (fun v => by kernel_rfl) (h27 C22 C60 C65 C27_c1)
abbrev T28_c0 := Bool × Int × Bool × LqA × LqB × LqC × Int × LqS × Bool × LqS × LqS × Int × Bool × Bool × Unit → Option ((Bool × Unit) ⊕ Unit)
def E28_c0 (f : T28_c0) : LEnt := ⟨f28_c0_ins, f28_c0_outs, f⟩
abbrev T28 := LqA × LqB × LqC × Int × LqS × Bool × LqS × LqS × Int × Bool × Bool × Unit → Option (Bool × Unit)
def E28 (f : T28) : FEnt := ⟨f28_ins, f28_outs, f⟩
def K28 (f20 : T20) (f66 : T66) : Calls' := fun f => Ae.lookA f [(20, E20 f20), (66, E66 f66)]
theorem kok28 : KOk Tryz.prog (K28 C20 C66) := (kok_cons ok20 (kok_cons ok66 (kok_nil _)))
def F28_c0 (f20 : T20) (f66 : T66) : T28_c0 := fun (x0, x1, x2, x3, x4, x5, x6, x7, x8, x9, x10, x11, x12, x13, _) =>
 bif x2 then
 (f66 (x7, ())).bind fun v =>
 bif v.1 then
 some
 (Sum.inl
 (bif x6 == x6 then
 bif x7 == x7 then
 bif x8 == false && (x9 == [] && (x10 == [] && true) && true) then
 bif x11 == -1 then bif x12 == false then bif x13 == false then true else false else false else false
 else false
 else false
 else false,
 ()))
 else some (Sum.inl (false, ()))
 else
 bif x1 == 2 then
 bif x7 == [] then
 bif decide (x11 ≥ -1) then
 bif decide (x11 ≤ 16777216) then
 (f20 (x3, x4, x5, x8, x9, x10, ())).bind fun v => some (Sum.inl (v.1 == 0, ()))
 else some (Sum.inl (false, ()))
 else some (Sum.inl (false, ()))
 else some (Sum.inl (false, ()))
 else
 bif x1 == 3 then
 bif
 x6 == x6 &&
 (x7 == [] &&
 (x8 == x8 && (x9 == x9 && (x10 == x10 && true) && true) &&
 (x11 == -1 && (x12 == false && (x13 == false && true))))) then
 bif !x8 then (f20 (x3, x4, x5, x8, x9, x10, ())).bind fun v => some (Sum.inl (v.1 == 0, ()))
 else some (Sum.inl (false, ()))
 else some (Sum.inl (false, ()))
 else
 bif x1 == 4 then some (Sum.inl (x0, ()))
 else
 bif x1 == 5 then some (Sum.inl (x0, ()))
 else
 bif x1 == 6 then some (Sum.inl (x0, ()))
 else bif x1 == 7 then some (Sum.inl (x0, ())) else some (Sum.inr ())
theorem h28_c0 (f20 : T20) (f66 : T66) : AqC (K28 f20 f66) 0 (subc (code Tryz.f28) [1, 1, 0, 1, 0, 1]) .nil f28_c0_ins f28_c0_outs (F28_c0 f20 f66) := fun v => by kernel_rfl
def C28_c0 : T28_c0 := F28_c0 C20 C66
theorem k28_c0 : FragOk Tryz.prog 0 (fun Q a w => (subc (code Tryz.f28) [1, 1, 0, 1, 0, 1]).wp Tryz.prog Q a w) (E28_c0 C28_c0) :=
 frag_code (ins := f28_c0_ins) (os := f28_c0_outs) (n := .nil) (F := C28_c0) hm hΓ kok28 (ann_nil _) (h28_c0 C20 C66)
def N28 (f28_c0 : T28_c0) : Ann := (.seq .nil (.seq .nil (.seq (.seq .nil (.blk (.cut .nil (E28_c0 f28_c0)))) .nil)))
def F28 (f20 : T20) (f66 : T66) (f28_c0 : T28_c0) : T28 := fun (x0, x1, x2, x3, x4, x5, x6, x7, x8, x9, x10, _) =>
 bif x3 == 0 then
 (f28_c0
 (x3 == x3 &&
 (x4 == [] &&
 (x5 == false && (x6 == [] && (x7 == [] && true) && true) &&
 (x8 == -1 && (x9 == false && (x10 == false && true))))),
 x3, true, x0, x1, x2, x3, x4, x5, x6, x7, x8, x9, x10, ())).bind
 fun v => Sum.elim (fun v => some (v.1, ())) (fun v => some (false, ())) v
 else
 (f28_c0
 (x3 == x3 &&
 (x4 == [] &&
 (x5 == false && (x6 == [] && (x7 == [] && true) && true) &&
 (x8 == -1 && (x9 == false && (x10 == false && true))))),
 x3, x3 == 1, x0, x1, x2, x3, x4, x5, x6, x7, x8, x9, x10, ())).bind
 fun v => Sum.elim (fun v => some (v.1, ())) (fun v => some (false, ())) v
theorem h28 (f20 : T20) (f66 : T66) (f28_c0 : T28_c0) : AqF (K28 f20 f66) 0 Tryz.f28 (N28 f28_c0) f28_ins f28_outs (F28 f20 f66 f28_c0) := fun v => by kernel_rfl
def C28 : T28 := F28 C20 C66 C28_c0
theorem ok28 : FnOk Tryz.prog 28 (E28 C28) :=
 fnx (n := (N28 C28_c0)) kok28 Tryz.func28 (by kernel_rfl) (by kernel_rfl) (ann_obs (And.intro k28_c0 trivial) (by kernel_rfl)) (fun v => by kernel_rfl) (h28 C20 C66 C28_c0)
abbrev T23 := Unit → Option (Bool × Unit)
def E23 (f : T23) : FEnt := ⟨f23_ins, f23_outs, f⟩
def K23 (f18 : T18) (f24 : T24) (f27 : T27) (f28 : T28) (f60 : T60) : Calls' := fun f => Ae.lookA f [(18, E18 f18), (24, E24 f24), (27, E27 f27), (28, E28 f28), (60, E60 f60)]
theorem kok23 : KOk Tryz.prog (K23 C18 C24 C27 C28 C60) := (kok_cons ok18 (kok_cons ok24 (kok_cons ok27 (kok_cons ok28 (kok_cons ok60 (kok_nil _))))))
def C23 : T23 := fun _ => some (true, ())
theorem h23 : afun Γ (K23 C18 C24 C27 C28 C60) 0 Tryz.f23.ntmps Tryz.f23.results.toList (code Tryz.f23) .nil (em id f23_ins ()).1 (em id f23_ins ()).2 (ofin 0 f23_outs) = some (true, ()) := by kernel_rfl
theorem ok23 : FnOk Tryz.prog 23 (E23 C23) :=
 fnx (n := .nil) kok23 Tryz.func23 (by kernel_rfl) (by kernel_rfl) (ann_nil _) (fun v => by kernel_rfl) (fun v => h23)
abbrev T5 := LqS × Int × Unit → Option (Bool × Unit)
def E5 (f : T5) : FEnt := ⟨f5_ins, f5_outs, f⟩
def K5 (f18 : T18) (f23 : T23) (f24 : T24) : Calls' := fun f => Ae.lookA f [(18, E18 f18), (23, E23 f23), (24, E24 f24)]
theorem kok5 : KOk Tryz.prog (K5 C18 C23 C24) := (kok_cons ok18 (kok_cons ok23 (kok_cons ok24 (kok_nil _))))
def F5 (f18 : T18) (f23 : T23) (f24 : T24) : T5 := fun (x0, x1, _) =>
 (f23 ()).bind fun v =>
 bif decide ((↑x0.length : Int) > 300) then some (v.1, ())
 else
 bif decide (x1 < 0) then some (v.1, ())
 else
 bif decide (x1 > 600) then some (v.1, ())
 else
 (f18 ()).bind fun v1 =>
 bif
 decide (0 ≤ x1) &&
 (decide (x1 = x1) && (decide ((↑1 : Int) * x1 ≤ 281474976710656) && decide (x1 ≤ 140737488355328))) then
 bif
 decide
 ([78, 79, 79, 80, 32].length + (List.replicate x1.toNat (0 : UInt8)).length ≤
 9223372036854775807) then
 bif
 decide
 (([78, 79, 79, 80, 32] ++ List.replicate x1.toNat (0 : UInt8)).length +
 x0.length ≤
 9223372036854775807) then
 (f24
 (v1.1, v1.2.1, v1.2.2.1,
 [78, 79, 79, 80, 32] ++ List.replicate x1.toNat (0 : UInt8) ++ x0,
 ())).bind
 fun v2 =>
 bif decide ([88].length + x0.length ≤ 9223372036854775807) then
 (f24 (v1.1, v1.2.1, v1.2.2.1, [88] ++ x0, ())).bind fun v3 =>
 bif v.1 then
 bif
 (v2.2.2.2.2.2.2.2.2.1 == 500) ==
 decide
 ((↑([78, 79, 79, 80, 32] ++
 List.replicate x1.toNat (0 : UInt8) ++
 x0).length :
 Int) >
 510) then
 bif
 (v2.2.2.2.2.2.2.2.2.1 == 0) ==
 decide
 ((↑([78, 79, 79, 80, 32] ++
 List.replicate x1.toNat (0 : UInt8) ++
 x0).length :
 Int) ≤
 510) then
 some (v3.2.2.2.2.2.2.2.2.1 == 500, ())
 else some (false, ())
 else some (false, ())
 else some (false, ())
 else none
 else none
 else none
 else none
theorem h5 (f18 : T18) (f23 : T23) (f24 : T24) : AqF (K5 f18 f23 f24) 0 Tryz.f5 .nil f5_ins f5_outs (F5 f18 f23 f24) := fun v => by kernel_rfl
def C5 : T5 := F5 C18 C23 C24
theorem ok5 : FnOk Tryz.prog 5 (E5 C5) :=
 fnx (n := .nil) kok5 Tryz.func5 (by kernel_rfl) (by kernel_rfl) (ann_nil _) (fun v => by kernel_rfl) (h5 C18 C23 C24)
end Go.Proofs.YtiacnhhmkdkpmaaGreatDoorC.W
set_option linter.unusedVariables false
set_option linter.unusedSimpArgs false
namespace Go.Proofs.YtiacnhhmkdkpmaaGreatDoorC.W
open Go Go.Ae
theorem wr {n : Int} (h1 : -9223372036854775808 ≤ n) (h2 : n ≤ 9223372036854775807) : IntKind.i64.wrap n = n := by rw [IntKind.wrap_i64]; omega
theorem wrN (n : Nat) (h : n ≤ 9223372036854775806) : IntKind.i64.wrap ((n : Int) + 1) = ((n + 1 : Nat) : Int) := by rw [wr] <;> omega
theorem of_to (b : UInt8) : UInt8.ofNat b.toNat = b := by simp
theorem byte_back (b : UInt8) : UInt8.ofNat ((b.toNat : Int)).toNat = b := by simp
theorem getD_lt {α : Type} {l : List α} {i : Nat} {d : α} (h : i < l.length) : l.getD i d = l[i] := by simp [List.getD_eq_getElem?_getD, List.getElem?_eq_getElem h]
def esc1 (c : UInt8) : List UInt8 := if c.toNat = 34 ∨ c.toNat = 92 then [92, c] else [c]
def esc (s : List UInt8) : List UInt8 := s.flatMap esc1
theorem esc1_len (c : UInt8) : (esc1 c).length ≤ 2 := by unfold esc1; split <;> simp
theorem esc_len : ∀ s : List UInt8, (esc s).length ≤ 2 * s.length
  | [] => by simp [esc]
  | c :: s => by have := esc_len s; have := esc1_len c; simp [esc] at *; omega
theorem esc_append (s t : List UInt8) : esc (s ++ t) = esc s ++ esc t := by simp [esc]
theorem take_succ_get {α : Type} {s : List α} {k : Nat} (h : k < s.length) : s.take (k + 1) = s.take k ++ [s[k]] := by
  rw [List.take_add_one, List.getElem?_eq_getElem h]; rfl
theorem esc_take {s : List UInt8} {k : Nat} (h : k < s.length) : esc (s.take (k + 1)) = esc (s.take k) ++ esc1 s[k] := by
  rw [take_succ_get h, esc_append]; simp [esc]
theorem ibT {a b : Int} (h : a = b) : (a == b) = true := by simp [h]
theorem ibF {a b : Int} (h : a ≠ b) : (a == b) = false := by simp [h]
theorem esc1_q {c : UInt8} (h : c.toNat = 34) : esc1 c = [92] ++ [c] := by simp [esc1, h]
theorem esc1_b {c : UInt8} (h : c.toNat = 92) : esc1 c = [92] ++ [c] := by simp [esc1, h]
theorem esc1_n {c : UInt8} (h : ¬ c.toNat = 34) (h2 : ¬ c.toNat = 92) : esc1 c = [c] := by simp [esc1, h, h2]
theorem r14 (s : List UInt8) (k : Nat) (acc : List UInt8) (h : k < s.length) (hb : s.length ≤ 9223372036854775806) (ha : acc.length + 2 ≤ 140737488355328) :
    F126_l0 (s, (s.length : Int), (k : Int), acc, ()) = some (.inl (s, (s.length : Int), ((k + 1 : Nat) : Int), acc ++ esc1 s[k], ())) := by
  by_cases e1 : s[k].toNat = 34
  · simp (disch := omega) only [F126_l0, decide_eq_true, cond_true, Bool.and_self, List.length_append, List.length_cons, List.length_nil, getD_lt, byte_back, wrN, Int.toNat_natCast, ibT, esc1_q, List.append_assoc, of_to]
  · by_cases e2 : s[k].toNat = 92
    · simp (disch := omega) only [F126_l0, decide_eq_true, cond_true, cond_false, Bool.and_self, List.length_append, List.length_cons, List.length_nil, getD_lt, byte_back, wrN, Int.toNat_natCast, ibT, ibF, esc1_b, List.append_assoc, of_to]
    · simp (disch := omega) only [F126_l0, decide_eq_true, cond_true, cond_false, Bool.and_self, List.length_append, List.length_cons, List.length_nil, getD_lt, byte_back, wrN, Int.toNat_natCast, ibT, ibF, esc1_n, List.append_assoc, of_to]
theorem c14 (s : List UInt8) (hb : s.length ≤ 70368744177663) : C126 (s, ()) = some (esc s, ()) := by
  have key : ∀ (k : Nat) (n : Nat), k ≤ s.length → s.length - k < n → loopN F126_l0 n (s, (s.length : Int), (k : Int), esc (s.take k), ()) = some (esc s, ()) := by
    intro k n
    induction n generalizing k with
    | zero => intro _ h; omega
    | succ n ih =>
      intro hk hn
      by_cases h : k < s.length
      · have hl := esc_len (s.take k)
        rw [loopN_inl (r14 s k _ h (by omega) (by simp only [List.length_take] at hl; omega)), ← esc_take h]
        exact ih (k + 1) (by omega) (by omega)
      · have : k = s.length := by omega
        subst this
        refine loopN_inr ?_
        simp [F126_l0]
  have := key 0 big (by omega) (by unfold big; omega)
  simp only [List.take_zero] at this
  show F126 C126_l0 (s, ()) = _
  simp only [F126, C126_l0]
  rw [show loopN F126_l0 big (s, (s.length : Int), 0, [], ()) = some (esc s, ()) from this]
  rfl
def src (k : Int) (s : List UInt8) : List UInt8 := if k = 1 then [34] ++ esc s ++ [34] else if k = 3 then [40] ++ s ++ [41] else if k = 5 then [91] ++ s ++ [93] else s
theorem c9 (k : Int) (s : List UInt8) (a : Int) (hb : s.length ≤ 3000) : C89 (k, s, a, ()) = some (src k s, ()) := by
  have hl := esc_len s
  show F89 C126 (k, s, a, ()) = _
  by_cases e1 : k = 1
  · simp (disch := omega) only [F89, c14, ibT, cond_true, decide_eq_true, List.length_append, List.length_cons, List.length_nil, Option.bind_some, src, if_pos]
  · by_cases e3 : k = 3
    · simp (disch := omega) only [F89, ibT, ibF, cond_true, cond_false, decide_eq_true, List.length_append, List.length_cons, List.length_nil, Option.bind_some, src, if_pos, if_neg]
    · by_cases e5 : k = 5
      · simp (disch := omega) only [F89, ibT, ibF, cond_true, cond_false, decide_eq_true, List.length_append, List.length_cons, List.length_nil, Option.bind_some, src, if_pos, if_neg]
      · simp (disch := omega) only [F89, ibT, ibF, cond_true, cond_false, src, if_neg]
end Go.Proofs.YtiacnhhmkdkpmaaGreatDoorC.W
set_option linter.unusedVariables false
set_option linter.unusedSimpArgs false
set_option maxRecDepth 100000
namespace Go.Proofs.YtiacnhhmkdkpmaaGreatDoorC.W
open Go Go.Ae
def lowb (b : UInt8) : UInt8 := UInt8.ofNat (((C64 ((b.toNat : Int), ())).getD (0, ())).1.toNat)
theorem low_k : ((List.range 256).all fun n => (C64 (((UInt8.ofNat n).toNat : Int), ())).isSome) = true := by kernel_rfl
theorem c64 (b : UInt8) : ∃ v : Int, C64 ((b.toNat : Int), ()) = some (v, ()) ∧ UInt8.ofNat v.toNat = lowb b := by
  have h := List.all_eq_true.1 low_k b.toNat (by simp only [List.mem_range]; exact b.toNat_lt)
  simp only [UInt8.ofNat_toNat] at h
  obtain ⟨⟨v, u⟩, hv⟩ := Option.isSome_iff_exists.1 h
  exact ⟨v, hv, by unfold lowb; rw [hv]; rfl⟩
theorem l63 : ∀ (r pre : List UInt8) (p n : Nat) (acc : List UInt8), pre.length = p → acc.length = p → r.length < n → p + r.length ≤ 1000000 →
    loopN (F63_l0 C64) n (pre ++ r, ((p + r.length : Nat) : Int), (p : Int), acc, ()) = some (acc ++ r.map lowb, ())
  | [], pre, p, n + 1, acc, hp, ha, hn, hb => by
    refine loopN_inr ?_
    simp only [F63_l0, List.length_nil, Nat.add_zero]
    rw [decide_eq_false (by omega)]
    simp only [cond_false, List.map_nil, List.append_nil]
  | c :: r, pre, p, n + 1, acc, hp, ha, hn, hb => by
    simp only [List.length_cons] at hn hb
    obtain ⟨v, hv, hl⟩ := c64 c
    have hlen : (pre ++ c :: r).length = p + r.length + 1 := by simp [hp]; omega
    rw [loopN_inl (v' := (pre ++ c :: r, ((p + (r.length + 1) : Nat) : Int), ((p + 1 : Nat) : Int), acc ++ [lowb c], ())) ?_]
    · have ih := l63 r (pre ++ [c]) (p + 1) n (acc ++ [lowb c]) (by simp [hp]) (by simp [ha]) (by omega) (by omega)
      rw [show p + (r.length + 1) = p + 1 + r.length by omega, show pre ++ c :: r = (pre ++ [c]) ++ r by simp, ih]
      simp
    · simp only [F63_l0, List.length_cons]
      rw [decide_eq_true (by omega), decide_eq_true (by omega), decide_eq_true (by omega)]
      simp only [Bool.and_self, cond_true, Int.toNat_natCast]
      rw [show (pre ++ c :: r).getD p 0 = c by subst hp; simp]
      simp only [hv, Option.bind_some, hl, wrN p (by omega)]
      rw [decide_eq_true (by simp only [List.length_cons, List.length_nil]; omega)]
      rfl
theorem c25 (l : List UInt8) (h : l.length ≤ 1000000) : C25 (l, ()) = some (l.map lowb, ()) := by
  have hl : C63_l0 (l, (l.length : Int), 0, [], ()) = some (l.map lowb, ()) := by
    have h := l63 l [] 0 big [] rfl rfl (by unfold big; omega) (by omega)
    rw [Nat.zero_add] at h
    exact h
  have h63 : C63 (l, ()) = some (l.map lowb, ()) := by
    show F63 C64 C63_l0 _ = _
    simp only [F63, hl, Option.bind_some]
  show F25 C63 _ = _
  simp only [F25, h63, Option.bind_some]
  rw [decide_eq_true (by omega)]
  rfl
theorem c97n (x : List UInt8) (a b c d e f : UInt8) (t : List UInt8) (hx : x.length ≤ 200000) (h : (a :: x).map lowb ≠ [] ∧ lowb a ≠ lowb b) : C97 (a :: x, [b, c, d, e], ()) = some ([], false, ()) := by
  show F97 C25 _ = _
  simp only [F97]
  by_cases hs : ((a :: x).length : Int) < (([b, c, d, e] : List UInt8).length : Int)
  · rw [decide_eq_true hs]; rfl
  · rw [decide_eq_false hs]
    simp only [List.length_cons, List.length_nil] at hs ⊢
    rw [decide_eq_true (by omega), decide_eq_true (by omega)]
    simp only [cond_false, Bool.and_self, cond_true]
    rw [c25 _ (by simp only [List.length_take, List.length_cons]; omega), c25 _ (by simp)]
    have ht : List.take ((((0 + 1 + 1 + 1 + 1 : Nat) : Int)).toNat) (a :: x) = a :: x.take 3 := rfl
    rw [ht]
    simp only [Option.bind_some, List.map_cons, List.map_nil]
    have hn : (lowb a :: (x.take 3).map lowb == [lowb b, lowb c, lowb d, lowb e]) = false := by
      rw [beq_eq_false_iff_ne]
      intro he
      injection he with he _
      exact h.2 he
    rw [hn]
    rfl
theorem c61x (s : List UInt8) (hs : s.length ≤ 100000) : C61 (88 :: s, ()) = some (-1, ()) := by
  have q : ∀ b c d e : UInt8, lowb 88 ≠ lowb b → C97 (88 :: s, [b, c, d, e], ()) = some ([], false, ()) := fun b c d e h => c97n s 88 b c d e 0 [] (by omega) ⟨by simp, h⟩
  have hl : C61_l0 (88 :: s, [69, 72, 76, 79], [72, 69, 76, 79], [77, 65, 73, 76], [82, 67, 80, 84], [68, 65, 84, 65], [82, 83, 69, 84], [78, 79, 79, 80], [81, 85, 73, 84], 0, ()) = some (.inl ()) := by
    obtain ⟨n, hn⟩ : ∃ n, big = n + 9 := ⟨big - 9, by unfold big; omega⟩
    show loopN (F61_l0 C96 C97) big _ = _
    rw [hn]
    rw [loopN_inl (v' := (88 :: s, [69, 72, 76, 79], [72, 69, 76, 79], [77, 65, 73, 76], [82, 67, 80, 84], [68, 65, 84, 65], [82, 83, 69, 84], [78, 79, 79, 80], [81, 85, 73, 84], 1, ())) (by simp only [F61_l0, q 69 72 76 79 (by decide +kernel), Option.bind_some]; rfl),
      loopN_inl (v' := (88 :: s, [69, 72, 76, 79], [72, 69, 76, 79], [77, 65, 73, 76], [82, 67, 80, 84], [68, 65, 84, 65], [82, 83, 69, 84], [78, 79, 79, 80], [81, 85, 73, 84], 2, ())) (by simp only [F61_l0, q 72 69 76 79 (by decide +kernel), Option.bind_some]; rfl),
      loopN_inl (v' := (88 :: s, [69, 72, 76, 79], [72, 69, 76, 79], [77, 65, 73, 76], [82, 67, 80, 84], [68, 65, 84, 65], [82, 83, 69, 84], [78, 79, 79, 80], [81, 85, 73, 84], 3, ())) (by simp only [F61_l0, q 77 65 73 76 (by decide +kernel), Option.bind_some]; rfl),
      loopN_inl (v' := (88 :: s, [69, 72, 76, 79], [72, 69, 76, 79], [77, 65, 73, 76], [82, 67, 80, 84], [68, 65, 84, 65], [82, 83, 69, 84], [78, 79, 79, 80], [81, 85, 73, 84], 4, ())) (by simp only [F61_l0, q 82 67 80 84 (by decide +kernel), Option.bind_some]; rfl),
      loopN_inl (v' := (88 :: s, [69, 72, 76, 79], [72, 69, 76, 79], [77, 65, 73, 76], [82, 67, 80, 84], [68, 65, 84, 65], [82, 83, 69, 84], [78, 79, 79, 80], [81, 85, 73, 84], 5, ())) (by simp only [F61_l0, q 68 65 84 65 (by decide +kernel), Option.bind_some]; rfl),
      loopN_inl (v' := (88 :: s, [69, 72, 76, 79], [72, 69, 76, 79], [77, 65, 73, 76], [82, 67, 80, 84], [68, 65, 84, 65], [82, 83, 69, 84], [78, 79, 79, 80], [81, 85, 73, 84], 6, ())) (by simp only [F61_l0, q 82 83 69 84 (by decide +kernel), Option.bind_some]; rfl),
      loopN_inl (v' := (88 :: s, [69, 72, 76, 79], [72, 69, 76, 79], [77, 65, 73, 76], [82, 67, 80, 84], [68, 65, 84, 65], [82, 83, 69, 84], [78, 79, 79, 80], [81, 85, 73, 84], 7, ())) (by simp only [F61_l0, q 78 79 79 80 (by decide +kernel), Option.bind_some]; rfl),
      loopN_inl (v' := (88 :: s, [69, 72, 76, 79], [72, 69, 76, 79], [77, 65, 73, 76], [82, 67, 80, 84], [68, 65, 84, 65], [82, 83, 69, 84], [78, 79, 79, 80], [81, 85, 73, 84], 8, ())) (by simp only [F61_l0, q 81 85 73 84 (by decide +kernel), Option.bind_some]; rfl)]
    exact loopN_inr rfl
  show F61 C96 C97 C61_l0 _ = _
  simp only [F61, wordsV, hl, Option.bind_some, Sum.elim_inl]
theorem c24x (T A B) (s : List UInt8) (hs : s.length ≤ 100000) : C24 (T, A, B, 88 :: s, ()) = some (0, [], false, [], [], -1, false, false, 500, ()) := by
  have h := c61x s hs
  show F24 C100 C101 C102 C61 C62 C98 C99 _ = _
  simp only [F24, h, Option.bind_some]
  by_cases hl : ((88 :: s : List UInt8).length : Int) > 510
  · rw [decide_eq_true hl]; rfl
  · rw [decide_eq_false hl]; rfl
theorem c97y (b c d e : UInt8) (r : List UInt8) (hr : r.length ≤ 100000) (h : lowb 78 ≠ lowb b) : C97 (78 :: 79 :: 79 :: 80 :: 32 :: r, [b, c, d, e], ()) = some ([], false, ()) :=
  c97n _ 78 b c d e 0 [] (by simp; omega) ⟨by simp, h⟩
theorem c97z (r : List UInt8) (hr : r.length ≤ 100000) : C97 (78 :: 79 :: 79 :: 80 :: 32 :: r, [78, 79, 79, 80], ()) = some (32 :: r, true, ()) := by
  show F97 C25 _ = _
  simp only [F97]
  rw [decide_eq_false (by simp; omega)]
  simp only [List.length_cons, List.length_nil]
  rw [decide_eq_true (by omega), decide_eq_true (by omega)]
  simp only [cond_false, Bool.and_self, cond_true]
  rw [c25 _ (by simp only [List.length_take, List.length_cons]; omega), c25 _ (by simp)]
  have ht : List.take ((((0 + 1 + 1 + 1 + 1 : Nat) : Int)).toNat) (78 :: 79 :: 79 :: 80 :: 32 :: r) = [78, 79, 79, 80] := rfl
  have hd : List.drop ((((0 + 1 + 1 + 1 + 1 : Nat) : Int)).toNat) (78 :: 79 :: 79 :: 80 :: 32 :: r) = 32 :: r := rfl
  rw [ht, hd]
  simp only [Option.bind_some, beq_self_eq_true, Bool.not_true, cond_false]
theorem c96z (r : List UInt8) (hr : r.length ≤ 100000) : C96 (32 :: r, [32], ()) = some (true, ()) := by
  have h : C131 (32 :: r, [32], ()) = some (true, ()) := by
    show F131 _ = _
    simp only [F131, List.length_cons, List.length_nil]
    rw [decide_eq_true (by omega)]
    rfl
  show F96 C131 _ = _
  simp only [F96, h, Option.bind_some]
theorem c61y (r : List UInt8) (hr : r.length ≤ 100000) : C61 (78 :: 79 :: 79 :: 80 :: 32 :: r, ()) = some (6, ()) := by
  have q := fun b c d e (h : lowb 78 ≠ lowb b) => c97y b c d e r hr h
  have z := c97z r hr
  have y := c96z r hr
  generalize hx : (78 :: 79 :: 79 :: 80 :: 32 :: r : List UInt8) = x at q z ⊢
  have hl : C61_l0 (x, [69, 72, 76, 79], [72, 69, 76, 79], [77, 65, 73, 76], [82, 67, 80, 84], [68, 65, 84, 65], [82, 83, 69, 84], [78, 79, 79, 80], [81, 85, 73, 84], 0, ()) = some (.inr (6, ())) := by
    obtain ⟨n, hn⟩ : ∃ n, big = n + 9 := ⟨big - 9, by unfold big; omega⟩
    show loopN (F61_l0 C96 C97) big _ = _
    rw [hn]
    rw [loopN_inl (v' := (x, [69, 72, 76, 79], [72, 69, 76, 79], [77, 65, 73, 76], [82, 67, 80, 84], [68, 65, 84, 65], [82, 83, 69, 84], [78, 79, 79, 80], [81, 85, 73, 84], 1, ())) (by simp only [F61_l0, q 69 72 76 79 (by decide +kernel), Option.bind_some]; rfl),
      loopN_inl (v' := (x, [69, 72, 76, 79], [72, 69, 76, 79], [77, 65, 73, 76], [82, 67, 80, 84], [68, 65, 84, 65], [82, 83, 69, 84], [78, 79, 79, 80], [81, 85, 73, 84], 2, ())) (by simp only [F61_l0, q 72 69 76 79 (by decide +kernel), Option.bind_some]; rfl),
      loopN_inl (v' := (x, [69, 72, 76, 79], [72, 69, 76, 79], [77, 65, 73, 76], [82, 67, 80, 84], [68, 65, 84, 65], [82, 83, 69, 84], [78, 79, 79, 80], [81, 85, 73, 84], 3, ())) (by simp only [F61_l0, q 77 65 73 76 (by decide +kernel), Option.bind_some]; rfl),
      loopN_inl (v' := (x, [69, 72, 76, 79], [72, 69, 76, 79], [77, 65, 73, 76], [82, 67, 80, 84], [68, 65, 84, 65], [82, 83, 69, 84], [78, 79, 79, 80], [81, 85, 73, 84], 4, ())) (by simp only [F61_l0, q 82 67 80 84 (by decide +kernel), Option.bind_some]; rfl),
      loopN_inl (v' := (x, [69, 72, 76, 79], [72, 69, 76, 79], [77, 65, 73, 76], [82, 67, 80, 84], [68, 65, 84, 65], [82, 83, 69, 84], [78, 79, 79, 80], [81, 85, 73, 84], 5, ())) (by simp only [F61_l0, q 68 65 84 65 (by decide +kernel), Option.bind_some]; rfl),
      loopN_inl (v' := (x, [69, 72, 76, 79], [72, 69, 76, 79], [77, 65, 73, 76], [82, 67, 80, 84], [68, 65, 84, 65], [82, 83, 69, 84], [78, 79, 79, 80], [81, 85, 73, 84], 6, ())) (by simp only [F61_l0, q 82 83 69 84 (by decide +kernel), Option.bind_some]; rfl)]
    exact loopN_inr (by simp only [F61_l0, z, Option.bind_some, y]; rfl)
  show F61 C96 C97 C61_l0 _ = _
  simp only [F61, wordsV, hl, Option.bind_some, Sum.elim_inr]
theorem c24y (T A B) (r : List UInt8) (hr : r.length ≤ 100000) : ∃ a b c d e f g h, C24 (T, A, B, 78 :: 79 :: 79 :: 80 :: 32 :: r, ()) = some (a, b, c, d, e, f, g, h, (if r.length + 5 > 510 then 500 else 0), ()) := by
  have h := c61y r hr
  have hlen : ((78 :: 79 :: 79 :: 80 :: 32 :: r : List UInt8).length : Int) = ((r.length + 5 : Nat) : Int) := rfl
  suffices hs : ∃ a b c d e f g h, F24 C100 C101 C102 C61 C62 C98 C99 (T, A, B, 78 :: 79 :: 79 :: 80 :: 32 :: r, ()) = some (a, b, c, d, e, f, g, h, (if r.length + 5 > 510 then 500 else 0), ()) from hs
  by_cases hl : r.length + 5 > 510
  · rw [if_pos hl]
    refine ⟨0, [], false, [], [], -1, false, false, ?_⟩
    simp only [F24, h, Option.bind_some, hlen]
    rw [decide_eq_true (by omega)]; rfl
  · rw [if_neg hl]
    refine ⟨6, [], false, [], [], -1, false, false, ?_⟩
    simp only [F24, h, Option.bind_some, hlen]
    rw [decide_eq_false (show ¬ ((r.length + 5 : Nat) : Int) > 510 by omega), decide_eq_true (show (4 : Int) ≤ ((r.length + 5 : Nat) : Int) by omega)]
    rfl
theorem bif_b {α : Type} {b : Bool} {x y : α} (h : b = true) : (bif b then x else y) = x := by rw [h]; rfl
theorem bif_t {α : Type} {p : Prop} [Decidable p] {x y : α} (h : p) : (bif decide p then x else y) = x := bif_b (decide_eq_true h)
theorem tab18k : (C18 ()).isSome = true := by kernel_rfl
theorem c23 : C23 () = some (true, ()) := by kernel_rfl
theorem c5 (s : List UInt8) (n : Int) : C5 (s, n, ()) = some (true, ()) := by
  show F5 C18 C23 C24 _ = _
  obtain ⟨⟨T, A, B, u⟩, h18⟩ := Option.isSome_iff_exists.1 tab18k
  simp only [F5, c23, Option.bind_some]
  by_cases h1 : (s.length : Int) > 300
  · rw [decide_eq_true h1]; rfl
  rw [decide_eq_false h1]
  by_cases h2 : n < 0
  · rw [decide_eq_true h2]; rfl
  rw [decide_eq_false h2]
  by_cases h3 : n > 600
  · rw [decide_eq_true h3]; rfl
  rw [decide_eq_false h3]
  simp only [cond_false, h18, Option.bind_some]
  obtain ⟨m, rfl⟩ : ∃ m : Nat, n = (m : Int) := ⟨n.toNat, by omega⟩
  have e4 : (List.replicate m (0 : UInt8) ++ s).length = m + s.length := by simp
  obtain ⟨a, b, c, d, e, f, g, h, h24⟩ := c24y T A B (List.replicate m 0 ++ s) (by omega)
  have hx := c24x T A B s (by omega)
  have e1 : ([78, 79, 79, 80, 32] ++ List.replicate ((m : Int)).toNat (0 : UInt8) ++ s : List UInt8) = 78 :: 79 :: 79 :: 80 :: 32 :: (List.replicate m 0 ++ s) := rfl
  have e2 : ([88] ++ s : List UInt8) = 88 :: s := rfl
  have e3 : ((78 :: 79 :: 79 :: 80 :: 32 :: (List.replicate m 0 ++ s) : List UInt8).length : Int) = ((m + s.length + 5 : Nat) : Int) := by simp; omega
  have q : (decide (0 ≤ (m : Int)) && (decide True && (decide ((1 : Int) * (m : Int) ≤ 281474976710656) && decide ((m : Int) ≤ 140737488355328)))) = true := by
    simp only [Bool.and_eq_true, decide_eq_true_eq]
    exact ⟨by omega, trivial, by omega, by omega⟩
  refine (bif_b q).trans ?_
  refine (bif_t (by simp only [List.length_cons, List.length_nil, List.length_replicate, Int.toNat_natCast]; omega)).trans ?_
  refine (bif_t (by simp only [List.length_cons, List.length_nil, List.length_append, List.length_replicate, Int.toNat_natCast]; omega)).trans ?_
  simp only [e1, h24, Option.bind_some, e4]
  refine (bif_t (by simp only [List.length_cons, List.length_nil]; omega)).trans ?_
  simp only [e2, hx, Option.bind_some, e3]
  by_cases hl : m + s.length + 5 > 510
  · rw [if_pos hl, decide_eq_true (by omega), decide_eq_false (by omega)]; rfl
  · rw [if_neg hl, decide_eq_false (by omega), decide_eq_true (by omega)]; rfl
end Go.Proofs.YtiacnhhmkdkpmaaGreatDoorC.W
namespace Go.Proofs.YtiacnhhmkdkpmaaGreatDoorC.PCommandLong
open Go Go.Ae Go.Proofs.YtiacnhhmkdkpmaaGreatDoorC.W
theorem pure (x0 : Ty.str.den) (b0 : Bd Ty.str x0) (x1 : (Ty.int .i64).den) (b1 : Bd (Ty.int .i64) x1) : C5 (x0, x1, ()) = some (true, ()) := c5 x0 x1
end Go.Proofs.YtiacnhhmkdkpmaaGreatDoorC.PCommandLong
set_option linter.unusedVariables false
set_option maxRecDepth 100000
namespace Go.Proofs.YtiacnhhmkdkpmaaGreatDoor
open Go Go.Ae Go.RowKit Go.ChangeShapes
theorem cells_of_strs {H : Type} {enc : TypeId × Value → H} {P : Program} {w : World} {base : Nat} {sp : Nat → Bool} {held : Bool} {fuel : Nat} {t e : TypeId} {n : Nat} {cs : List Value} {zs : List (List UInt8)} {p : List MemPlace}
    (ht : P.underlying t = some (.array n e)) (he : P.underlying e = some .string) (hce : P.cellsOf e = 1) (hct : P.cellsOf t = n)
    (h : DataW.trod enc P w base sp held fuel t cs = some (.agg (zs.map fun z => .lit (.string z)), p)) : cs = zs.map fun z => Value.string ⟨⟨z⟩⟩ := by
  cases fuel with
  | zero => simp [DataW.trod] at h
  | succ fuel =>
    simp only [DataW.trod, ht, hce, hct, Nat.mul_one] at h
    split at h
    · rename_i hl
      obtain ⟨xs, hm, hx⟩ := Option.map_eq_some_iff.1 h
      have hxs : xs.map (·.1) = zs.map fun z => (DataW.lit (.string z) : DataW H) := by
        have := congrArg Prod.fst hx
        simpa using this
      have hxl : xs.length = n := by simpa using Lib.mapM_length hm
      have hzl : zs.length = n := by
        have := congrArg List.length hxs
        simp at this
        omega
      apply List.ext_getElem?
      intro i
      by_cases hi : i < n
      · obtain ⟨b, hb, hf⟩ := Lib.mapM_at hm i i (by simp [hi])
        obtain ⟨z, hc, rfl, _⟩ := DataW.trod_string he hf
        have h1 : cs[i]? = some (.string z) := by
          have := congrArg (·[0]?) hc
          simpa [List.getElem?_take, List.getElem?_drop] using this
        have h2 : (xs.map (·.1))[i]? = some (DataW.lit (.string z.data.toList) : DataW H) := by simp [hb]
        rw [hxs] at h2
        simp only [List.getElem?_map, Option.map_eq_some_iff, DataW.lit.injEq, Lit.string.injEq] at h2
        obtain ⟨z', hz', rfl⟩ := h2
        simp [h1, hz']
      · rw [List.getElem?_eq_none (by omega), List.getElem?_eq_none (by simp; omega)]
    · cases h
theorem strs_of_head {P : Program} {W : World} {name : String} {zs : List (List UInt8)} {rest : List (String × DataW Unit)} {g : Nat} {t e : TypeId} {n : Nat}
    (hg : P.globalNamed name = some g) (hty : (P.globals[g]?).map (·.type) = some t) (ht : P.underlying t = some (.array n e)) (he : P.underlying e = some .string) (hce : P.cellsOf e = 1) (hct : P.cellsOf t = n)
    (h : laidMet P ((name, .agg (zs.map fun z => .lit (.string z))) :: rest) W) : W.var? P name = some (zs.map fun z => Value.string ⟨⟨z⟩⟩).toArray := by
  obtain ⟨ps, ⟨g', t', cs, fuel, p, q, hg', ht', hvar, hd, _, _⟩, _⟩ := h
  obtain rfl := Option.some.inj (hg.symm.trans hg')
  obtain rfl := Option.some.inj (hty.symm.trans ht')
  rw [hvar, ← cells_of_strs ht he hce hct hd]
theorem glob {W : World} (hL : laidMetH Tryz.prog Rows.commandLongRow.laid W) (hsh : W.ShapedOpen Tryz.prog) : GI W m0 := by
  rw [MakeChecks.laidMetH_plain _ _ _ (by kernel_rfl)] at hL
  obtain ⟨m, hm⟩ := Go.Proofs.cell_of_shapedOpen_int (g := 2) (k := .i64) (t := 3) (zero := #[.int .i64 0]) hsh (of_decide_eq_true (by kernel_rfl)) (by kernel_rfl) (by kernel_rfl) (by kernel_rfl) (by kernel_rfl) (by kernel_rfl)
  have g1 : Tryz.prog.globalNamed "internal/strconv.uint64pow10" = some 1 := by kernel_rfl
  have g0 : Tryz.prog.globalNamed "pillarbox/command.words" = some 0 := by kernel_rfl
  have h1 : Lib.TabIs Tryz.prog W "internal/strconv.uint64pow10" .u64 tens := Lib.tabIs_of_head (zs := tens) (t := 245) (e := 189) (n := 20) g1 (by kernel_rfl) (by kernel_rfl) (by kernel_rfl) (by kernel_rfl) (by kernel_rfl) hL.tail.tail
  have h0 : W.var? Tryz.prog "pillarbox/command.words" = some (wordsL.map fun z => Value.string ⟨⟨z⟩⟩).toArray := strs_of_head (zs := wordsL) (t := 153) (e := 9) (n := 8) g0 (by kernel_rfl) (by kernel_rfl) (by kernel_rfl) (by kernel_rfl) (by kernel_rfl) hL.tail.tail.tail.tail
  obtain ⟨ty1, fz1, k1⟩ := var_heap g1 h1
  obtain ⟨ty0, fz0, k0⟩ := var_heap g0 h0
  refine ⟨⟨⟨m, hm⟩, ⟨ty1, fz1, k1⟩, ⟨ty0, fz0, k0⟩⟩, fun b hb => ⟨?_, fun h => h⟩⟩
  simp only [GlobB, List.mem_cons, List.not_mem_nil, or_false] at hb
  rcases hb with rfl | rfl | rfl
  · exact lt_of_heap k0
  · exact lt_of_heap k1
  · exact lt_of_cell hm
end Go.Proofs.YtiacnhhmkdkpmaaGreatDoor
