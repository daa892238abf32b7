/- The types and the shapes of the functions of this seat. Written by a program. -/
import Derived.Test.YtaoaagbfjekecaaDoorAe26
import Derived.Test.YtaoaagbfjekecaaDoorProg
set_option maxRecDepth 100000
set_option linter.unusedVariables false
namespace Go.Proofs.YtaoaagbfjekecaaDoor.W
open Go Go.Ae
def Γl : List (Nat × TI) := [
  (1, ⟨.func, 1, 8, none, [.nilf], false⟩),
  (2, ⟨.int .i64, 1, 8, some (.int .i64), [.int .i64 0], false⟩),
  (3, ⟨.int .i64, 1, 8, some (.int .i64), [.int .i64 0], false⟩),
  (4, ⟨.bool, 1, 1, some (.bool), [.bool false], false⟩),
  (5, ⟨.int .u8, 1, 1, some (.byte), [.int .u8 0], false⟩),
  (6, ⟨.int .u8, 1, 1, some (.byte), [.int .u8 0], false⟩),
  (7, ⟨.struct [(0, 2), (1, 3), (2, 4), (3, 6)], 4, 24, some (.pair (.int .i64) (.pair (.int .i64) (.pair .bool .byte))), [.int .i64 0, .int .i64 0, .bool false, .int .u8 0], false⟩),
  (8, ⟨.struct [(0, 2), (1, 3), (2, 4), (3, 6)], 4, 24, some (.pair (.int .i64) (.pair (.int .i64) (.pair .bool .byte))), [.int .i64 0, .int .i64 0, .bool false, .int .u8 0], false⟩),
  (9, ⟨.str, 1, 16, some (.str), [.str []], false⟩),
  (10, ⟨.str, 1, 16, some (.str), [.str []], false⟩),
  (11, ⟨.str, 1, 16, some (.str), [.str []], false⟩),
  (12, ⟨.int .u64, 1, 8, some (.int .u64), [.int .u64 0], false⟩),
  (13, ⟨.struct [(0, 9), (1, 12)], 2, 24, some (.pair .str (.int .u64)), [.str [], .int .u64 0], false⟩),
  (14, ⟨.struct [(0, 9), (1, 12)], 2, 24, some (.pair .str (.int .u64)), [.str [], .int .u64 0], false⟩),
  (15, ⟨.ptr 86, 1, 8, none, [.nilp], false⟩),
  (16, ⟨.ptr 89, 1, 8, none, [.nilp], false⟩),
  (17, ⟨.ptr 98, 1, 8, none, [.nilp], false⟩),
  (18, ⟨.struct [(0, 17)], 1, 8, none, [.nilp], false⟩),
  (19, ⟨.struct [(0, 17)], 1, 8, none, [.nilp], false⟩),
  (20, ⟨.iface, 1, 16, none, [.nili], false⟩),
  (21, ⟨.int .i32, 1, 4, some (.int .i32), [.int .i32 0], false⟩),
  (22, ⟨.slice 9, 1, 24, some (.lst .str), [.nils], false⟩),
  (23, ⟨.func, 1, 8, none, [.nilf], false⟩),
  (24, ⟨.func, 1, 8, none, [.nilf], false⟩),
  (25, ⟨.func, 1, 8, none, [.nilf], false⟩),
  (26, ⟨.struct [(0, 4), (1, 4), (2, 4), (3, 3), (4, 3)], 5, 24, some (.pair .bool (.pair .bool (.pair .bool (.pair (.int .i64) (.int .i64))))), [.bool false, .bool false, .bool false, .int .i64 0, .int .i64 0], false⟩),
  (27, ⟨.struct [(0, 4), (1, 4), (2, 4), (3, 3), (4, 3)], 5, 24, some (.pair .bool (.pair .bool (.pair .bool (.pair (.int .i64) (.int .i64))))), [.bool false, .bool false, .bool false, .int .i64 0, .int .i64 0], true⟩),
  (28, ⟨.func, 1, 8, none, [.nilf], false⟩),
  (29, ⟨.func, 1, 8, none, [.nilf], false⟩),
  (30, ⟨.slice 34, 1, 24, some (.lst (.pair .str .str)), [.nils], false⟩),
  (31, ⟨.func, 1, 8, none, [.nilf], false⟩),
  (32, ⟨.func, 1, 8, none, [.nilf], false⟩),
  (33, ⟨.struct [(0, 9), (1, 9)], 2, 32, some (.pair .str .str), [.str [], .str []], false⟩),
  (34, ⟨.struct [(0, 9), (1, 9)], 2, 32, some (.pair .str .str), [.str [], .str []], true⟩),
  (35, ⟨.func, 1, 8, none, [.nilf], false⟩),
  (37, ⟨.func, 1, 8, none, [.nilf], false⟩),
  (38, ⟨.func, 1, 8, none, [.nilf], false⟩),
  (39, ⟨.func, 1, 8, none, [.nilf], false⟩),
  (40, ⟨.func, 1, 8, none, [.nilf], false⟩),
  (41, ⟨.func, 1, 8, none, [.nilf], false⟩),
  (42, ⟨.func, 1, 8, none, [.nilf], false⟩),
  (43, ⟨.func, 1, 8, none, [.nilf], false⟩),
  (45, ⟨.func, 1, 8, none, [.nilf], false⟩),
  (46, ⟨.func, 1, 8, none, [.nilf], false⟩),
  (47, ⟨.slice 5, 1, 24, some (.lst .byte), [.nils], false⟩),
  (48, ⟨.func, 1, 8, none, [.nilf], false⟩),
  (49, ⟨.func, 1, 8, none, [.nilf], false⟩),
  (50, ⟨.func, 1, 8, none, [.nilf], false⟩),
  (51, ⟨.slice 21, 1, 24, some (.lst (.int .i32)), [.nils], false⟩),
  (53, ⟨.func, 1, 8, none, [.nilf], false⟩),
  (54, ⟨.func, 1, 8, none, [.nilf], false⟩),
  (55, ⟨.func, 1, 8, none, [.nilf], false⟩),
  (56, ⟨.func, 1, 8, none, [.nilf], false⟩),
  (57, ⟨.func, 1, 8, none, [.nilf], false⟩),
  (61, ⟨.func, 1, 8, none, [.nilf], false⟩),
  (62, ⟨.func, 1, 8, none, [.nilf], false⟩),
  (63, ⟨.ptr 59, 1, 8, none, [.nilp], false⟩),
  (65, ⟨.func, 1, 8, none, [.nilf], false⟩),
  (66, ⟨.int .u64, 1, 8, some (.int .u64), [.int .u64 0], false⟩),
  (67, ⟨.func, 1, 8, none, [.nilf], false⟩),
  (68, ⟨.func, 1, 8, none, [.nilf], false⟩),
  (69, ⟨.func, 1, 8, none, [.nilf], false⟩),
  (71, ⟨.func, 1, 8, none, [.nilf], false⟩),
  (72, ⟨.func, 1, 8, none, [.nilf], false⟩),
  (73, ⟨.func, 1, 8, none, [.nilf], false⟩),
  (74, ⟨.func, 1, 8, none, [.nilf], false⟩),
  (75, ⟨.func, 1, 8, none, [.nilf], false⟩),
  (76, ⟨.func, 1, 8, none, [.nilf], false⟩),
  (78, ⟨.struct [(0, 5), (1, 5)], 2, 2, some (.pair .byte .byte), [.int .u8 0, .int .u8 0], false⟩),
  (79, ⟨.struct [(0, 5), (1, 5)], 2, 2, some (.pair .byte .byte), [.int .u8 0, .int .u8 0], false⟩),
  (81, ⟨.int .u32, 1, 4, some (.int .u32), [.int .u32 0], false⟩),
  (83, ⟨.func, 1, 8, none, [.nilf], false⟩),
  (84, ⟨.func, 1, 8, none, [.nilf], false⟩),
  (85, ⟨.struct [(0, 17), (1, 17), (2, 17), (3, 9)], 4, 40, none, [.nilp, .nilp, .nilp, .str []], false⟩),
  (86, ⟨.struct [(0, 17), (1, 17), (2, 17), (3, 9)], 4, 40, none, [.nilp, .nilp, .nilp, .str []], false⟩),
  (88, ⟨.struct [(0, 87)], 0, 0, none, [], false⟩),
  (89, ⟨.struct [(0, 87)], 0, 0, none, [], false⟩),
  (90, ⟨.func, 1, 8, none, [.nilf], false⟩),
  (91, ⟨.int .u8, 1, 1, some (.byte), [.int .u8 0], false⟩),
  (92, ⟨.int .u8, 1, 1, some (.byte), [.int .u8 0], false⟩),
  (93, ⟨.func, 1, 8, none, [.nilf], false⟩),
  (94, ⟨.ptr 5, 1, 8, none, [.nilp], false⟩),
  (95, ⟨.int .i32, 1, 4, some (.int .i32), [.int .i32 0], false⟩),
  (96, ⟨.int .i32, 1, 4, some (.int .i32), [.int .i32 0], false⟩),
  (97, ⟨.struct [(0, 12), (1, 12), (2, 81), (3, 91), (4, 5), (5, 5), (6, 92), (7, 93), (8, 94), (9, 95), (10, 96)], 11, 48, none, [.int .u64 0, .int .u64 0, .int .u32 0, .int .u8 0, .int .u8 0, .int .u8 0, .int .u8 0, .nilf, .nilp, .int .i32 0, .int .i32 0], false⟩),
  (98, ⟨.struct [(0, 12), (1, 12), (2, 81), (3, 91), (4, 5), (5, 5), (6, 92), (7, 93), (8, 94), (9, 95), (10, 96)], 11, 48, none, [.int .u64 0, .int .u64 0, .int .u32 0, .int .u8 0, .int .u8 0, .int .u8 0, .int .u8 0, .nilf, .nilp, .int .i32 0, .int .i32 0], false⟩)]
def Γ : Tys := fun t => Ae.look t Γl
theorem hΓ : GOk Tryd.prog Γ := gok_of (by kernel_rfl)
theorem hm : Tryd.prog.follows .mixedOrders = true := by kernel_rfl
def f39_ins : List Sh := [.str, .int .u8]
def f39_outs : Outs := [(.ret, [.int .i64])]
def f21_ins : List Sh := [.str, .str]
def f21_outs : Outs := [(.ret, [.str])]
def f9_ins : List Sh := [.lst .str]
def f9_outs : Outs := [(.ret, [.int .i64])]
def f9_g0_ins : List Sh := (List.cons (.lst .str) (List.cons (.top) (List.cons (.top) (List.cons (.int .i64) (tp 14 [])))))
def f9_g0_outs : Outs := [(.ret, (List.cons (.top) (List.cons (.top) (List.cons (.int .i64) (tp 15 [])))))]
def f26_ins : List Sh := [.str, .int .u8]
def f26_outs : Outs := [(.ret, [.int .i64])]
def f19_ins : List Sh := [.str, .int .u8]
def f19_outs : Outs := [(.ret, [.int .i64])]
def f47_ins : List Sh := [.str, .str]
def f47_outs : Outs := [(.ret, [.int .i64])]
def f47_c0_ins : List Sh := (List.cons (.str) (List.cons (.str) (tp 3 (List.cons (.int .i64) (tp 10 (List.cons (.bool) (tp 126 [])))))))
def f47_c0_outs : Outs := [(.ret, (tp 4 (List.cons (.int .i64) (tp 138 []))))]
def f40_ins : List Sh := [.str, .str]
def f40_outs : Outs := [(.ret, [.tuple 3, .str, .str, .bool])]
def f27_ins : List Sh := [.str, .str]
def f27_outs : Outs := [(.ret, [.tuple 3, .str, .str, .bool])]
def f23_ins : List Sh := [.int .u8]
def f23_outs : Outs := [(.ret, [.int .u8])]
def f22_ins : List Sh := [.lst .byte, .func (.func 23) 0 0]
def f22_outs : Outs := [(.ret, [.lst .byte])]
def f22_l0_ins : List Sh := (List.cons (.top) (List.cons (.func (.func 23) 0 0) (tp 3 (List.cons (.row 0) (List.cons (.top) (List.cons (.top) (List.cons (.lst .byte) (List.cons (.int .i64) (List.cons (.int .i64) (tp 11 (List.cons (.orow 5 .byte) [])))))))))))
def f22_l0_outs : Outs := [((.exit 0), (tp 5 (List.cons (.row 0) (tp 16 (List.cons (.orow 5 .byte) [])))))]
def f13_ins : List Sh := [.str]
def f13_outs : Outs := [(.ret, [.str])]
def f28_ins : List Sh := [.int .i32]
def f28_outs : Outs := [(.ret, [.bool])]
def f48_ins : List Sh := [.str, .func (.func 28) 0 0, .bool]
def f48_outs : Outs := [(.ret, [.int .i64])]
def f48_l0_ins : List Sh := (List.cons (.top) (List.cons (.func (.func 28) 0 0) (List.cons (.bool) (tp 7 (List.cons (.ptr 0 0) (tp 10 (List.cons (.oiter) [])))))))
def f48_l0_outs : Outs := [(.ret, (tp 6 (List.cons (.int .i64) (tp 14 [])))), ((.exit 0), (tp 21 []))]
def f41_ins : List Sh := [.str, .func (.func 28) 0 0]
def f41_outs : Outs := [(.ret, [.int .i64])]
def f29_ins : List Sh := [.str, .func (.func 28) 0 0]
def f29_outs : Outs := [(.ret, [.bool])]
def f20_ins : List Sh := [.str]
def f20_outs : Outs := [(.ret, [.tuple 3, .str, .str, .bool])]
def f12_ins : List Sh := [.lst .str]
def f12_outs : Outs := [(.ret, [.lst (.pair .str .str)])]
def f12_l0_ins : List Sh := (tp 3 (List.cons (.row 0) (List.cons (.bool) (tp 9 (List.cons (.lst .str) (List.cons (.int .i64) (List.cons (.int .i64) (tp 51 (List.cons (.orow 34 (.pair .str .str)) [])))))))))
def f12_l0_outs : Outs := [((.exit 0), (tp 3 (List.cons (.row 0) (tp 64 (List.cons (.orow 34 (.pair .str .str)) [])))))]
def f12_l1_ins : List Sh := (tp 3 (List.cons (.row 0) (tp 48 (List.cons (.int .i64) (List.cons (.int .i64) (tp 14 (List.cons (.orow 34 (.pair .str .str)) [])))))))
def f12_l1_outs : Outs := [((.exit 2), (tp 3 (List.cons (.row 0) (tp 64 (List.cons (.orow 34 (.pair .str .str)) [])))))]
def f14_ins : List Sh := [.lst .str, .str]
def f14_outs : Outs := [(.ret, [.tuple 2, .str, .bool])]
def f14_l0_ins : List Sh := (List.cons (.top) (List.cons (.str) (tp 9 (List.cons (.lst (.pair .str .str)) (List.cons (.int .i64) (List.cons (.int .i64) (tp 10 [])))))))
def f14_l0_outs : Outs := [((.exit 0), (tp 24 [])), (.ret, (tp 4 (List.cons (.str) (List.cons (.bool) (tp 18 [])))))]
def f15_ins : List Sh := [.str]
def f15_outs : Outs := [(.ret, [.int .i64])]
def f15_l0_ins : List Sh := (List.cons (.str) (tp 4 (List.cons (.int .i64) (List.cons (.int .i64) (tp 8 [])))))
def f15_l0_outs : Outs := [((.exit 0), (tp 15 [])), (.ret, (List.cons (.top) (List.cons (.top) (List.cons (.int .i64) (tp 12 [])))))]
def f17_ins : List Sh := [.str]
def f17_outs : Outs := [(.ret, [.bool])]
def f24_ins : List Sh := [.lst .str, .func (.func 17) 0 0]
def f24_outs : Outs := [(.ret, [.int .i64])]
def f24_l0_ins : List Sh := (List.cons (.lst .str) (List.cons (.func (.func 17) 0 0) (tp 5 (List.cons (.int .i64) (List.cons (.int .i64) (tp 10 []))))))
def f24_l0_outs : Outs := [((.exit 0), (tp 19 [])), (.ret, (tp 4 (List.cons (.int .i64) (tp 14 []))))]
def f16_ins : List Sh := [.lst .str, .func (.func 17) 0 0]
def f16_outs : Outs := [(.ret, [.bool])]
def f37_ins : List Sh := [.int .u8]
def f37_outs : Outs := [(.ret, [.tuple 2, .int .i64, .int .i32])]
def f37_c0_ins : List Sh := (List.cons (.int .u8) (tp 18 (List.cons (.bool) (tp 19 []))))
def f37_c0_outs : Outs := [(.ret, (List.cons (.top) (List.cons (.top) (List.cons (.int .i64) (List.cons (.int .i32) (tp 35 [])))))), (.normal, (tp 39 []))]
def f37_c1_ins : List Sh := (List.cons (.int .u8) (tp 8 (List.cons (.bool) (tp 29 []))))
def f37_c1_outs : Outs := [(.ret, (List.cons (.top) (List.cons (.top) (List.cons (.int .i64) (List.cons (.int .i32) (tp 35 [])))))), (.normal, (tp 39 []))]
def f46_ins : List Sh := [.int .i32]
def f46_outs : Outs := [(.ret, [.bool])]
def f38_ins : List Sh := [.int .i32]
def f38_outs : Outs := [(.ret, [.int .i64])]
def f25_ins : List Sh := [.str]
def f25_outs : Outs := [(.ret, [.tuple 2, .lst (.int .i32), .int .i64])]
def f25_l0_ins : List Sh := (List.cons (.str) (tp 3 (List.cons (.row 0) (List.cons (.int .i64) (List.cons (.int .i32) (List.cons (.int .i64) (List.cons (.int .i64) (tp 59 (List.cons (.orow 21 (.int .i32)) [])))))))))
def f25_l0_outs : Outs := [((.exit 2), (List.cons (.str) (tp 3 (List.cons (.row 0) (List.cons (.int .i64) (List.cons (.int .i32) (List.cons (.int .i64) (tp 60 (List.cons (.orow 21 (.int .i32)) []))))))))), ((.goto 0), (tp 4 (List.cons (.row 0) (List.cons (.top) (List.cons (.top) (List.cons (.int .i64) (tp 60 (List.cons (.orow 21 (.int .i32)) []))))))))]
def f25_l1_ins : List Sh := (List.cons (.str) (tp 3 (List.cons (.row 0) (List.cons (.top) (List.cons (.top) (List.cons (.int .i64) (tp 60 (List.cons (.orow 21 (.int .i32)) []))))))))
def f25_l1_outs : Outs := [((.exit 0), (tp 4 (List.cons (.row 0) (tp 63 (List.cons (.orow 21 (.int .i32)) []))))), ((.goto 0), (tp 4 (List.cons (.row 0) (List.cons (.top) (List.cons (.top) (List.cons (.int .i64) (tp 60 (List.cons (.orow 21 (.int .i32)) []))))))))]
def f25_g0_ins : List Sh := (tp 4 (List.cons (.row 0) (List.cons (.top) (List.cons (.top) (List.cons (.int .i64) (tp 60 (List.cons (.orow 21 (.int .i32)) [])))))))
def f25_g0_outs : Outs := [(.ret, (List.cons (.top) (List.cons (.top) (List.cons (.row 0) (List.cons (.int .i64) (tp 64 (List.cons (.orow 21 (.int .i32)) [])))))))]
def f18_ins : List Sh := [.str]
def f18_outs : Outs := [(.ret, [.bool])]
def f24v1_ins : List Sh := [.lst .str, .func (.func 18) 0 0]
def f24v1_outs : Outs := [(.ret, [.int .i64])]
def f24v1_l0_ins : List Sh := (List.cons (.lst .str) (List.cons (.func (.func 18) 0 0) (tp 5 (List.cons (.int .i64) (List.cons (.int .i64) (tp 10 []))))))
def f24v1_l0_outs : Outs := [((.exit 0), (tp 19 [])), (.ret, (tp 4 (List.cons (.int .i64) (tp 14 []))))]
def f16v1_ins : List Sh := [.lst .str, .func (.func 18) 0 0]
def f16v1_outs : Outs := [(.ret, [.bool])]
def f10_ins : List Sh := [.lst .str]
def f10_outs : Outs := [(.ret, [.agg 5, .bool, .bool, .bool, .int .i64, .int .i64])]
def f10_l0_ins : List Sh := (List.cons (.top) (List.cons (.top) (List.cons (.ptr 0 0) (tp 3 (List.cons (.ptr 1 0) (tp 19 (List.cons (.lst (.pair .str .str)) (List.cons (.int .i64) (List.cons (.int .i64) (tp 12 (List.cons (.obox 5) (List.cons (.bool) (List.cons (.bool) (List.cons (.bool) (List.cons (.int .i64) (List.cons (.int .i64) (List.cons (.obox 5) (List.cons (.bool) (List.cons (.bool) (List.cons (.bool) (List.cons (.int .i64) (List.cons (.int .i64) []))))))))))))))))))))))
def f10_l0_outs : Outs := [((.exit 0), (List.cons (.top) (List.cons (.top) (List.cons (.ptr 0 0) (tp 3 (List.cons (.ptr 1 0) (tp 34 (List.cons (.obox 5) (List.cons (.bool) (List.cons (.bool) (List.cons (.bool) (List.cons (.int .i64) (List.cons (.int .i64) (List.cons (.obox 5) (List.cons (.bool) (List.cons (.bool) (List.cons (.bool) (List.cons (.int .i64) (List.cons (.int .i64) [])))))))))))))))))))]
def f7_ins : List Sh := []
def f7_outs : Outs := [(.ret, [.bool])]
def f8_ins : List Sh := [.lst .str]
def f8_outs : Outs := [(.ret, [.bool])]
def f8_l0_ins : List Sh := (List.cons (.lst .str) (List.cons (.top) (List.cons (.top) (List.cons (.int .i64) (tp 15 [])))))
def f8_l0_outs : Outs := [((.exit 0), (List.cons (.lst .str) (tp 18 []))), (.ret, (List.cons (.top) (List.cons (.top) (List.cons (.bool) (tp 16 [])))))]
def f11_ins : List Sh := [.lst (.pair .str .str), .lst (.pair .str .str)]
def f11_outs : Outs := [(.ret, [.bool])]
def f11_l0_ins : List Sh := (List.cons (.lst (.pair .str .str)) (List.cons (.lst (.pair .str .str)) (tp 3 (List.cons (.int .i64) (tp 20 [])))))
def f11_l0_outs : Outs := [((.exit 0), (tp 26 [])), (.ret, (tp 4 (List.cons (.bool) (tp 21 []))))]
def f3_ins : List Sh := [.lst .str, .lst .str, .lst .str]
def f3_outs : Outs := [(.ret, [.bool])]
def f4_ins : List Sh := [.lst .str, .str, .str]
def f4_outs : Outs := [(.ret, [.bool])]
def f4_l0_ins : List Sh := (List.cons (.lst .str) (List.cons (.str) (List.cons (.str) (tp 4 (List.cons (.bool) (List.cons (.top) (List.cons (.int .i64) (tp 136 []))))))))
def f4_l0_outs : Outs := [((.exit 0), (List.cons (.lst .str) (List.cons (.str) (List.cons (.str) (tp 4 (List.cons (.bool) (tp 138 []))))))), (.ret, (tp 6 (List.cons (.bool) (tp 139 []))))]
def f5_ins : List Sh := [.lst .str]
def f5_outs : Outs := [(.ret, [.bool])]
def f5_l0_ins : List Sh := (List.cons (.lst .str) (List.cons (.top) (List.cons (.top) (List.cons (.bool) (List.cons (.top) (List.cons (.bool) (List.cons (.int .i64) (tp 58 []))))))))
def f5_l0_outs : Outs := [((.exit 0), (List.cons (.lst .str) (List.cons (.top) (List.cons (.top) (List.cons (.bool) (List.cons (.top) (List.cons (.bool) (tp 59 []))))))))]
def f6_ins : List Sh := [.str, .str, .int .i64]
def f6_outs : Outs := [(.ret, [.bool])]
end Go.Proofs.YtaoaagbfjekecaaDoor.W
