/- The types and the shapes of the functions of this seat. Written by a program. -/
import Derived.Test.YtkmojkibclbmjaaDoorAe26
import Derived.Test.YtkmojkibclbmjaaDoorProg
set_option maxRecDepth 100000
set_option linter.unusedVariables false
namespace Go.Proofs.YtkmojkibclbmjaaDoor.W
open Go Go.Ae
def Γl : List (Nat × TI) := [
  (1, ⟨.func, 1, 8, none, [.nilf], false⟩),
  (2, ⟨.int .i64, 1, 8, some (.int .i64), [.int .i64 0], false⟩),
  (3, ⟨.int .i64, 1, 8, some (.int .i64), [.int .i64 0], false⟩),
  (4, ⟨.bool, 1, 1, some (.bool), [.bool false], false⟩),
  (5, ⟨.int .u8, 1, 1, some (.byte), [.int .u8 0], false⟩),
  (6, ⟨.int .u8, 1, 1, some (.byte), [.int .u8 0], false⟩),
  (7, ⟨.struct [(0, 2), (1, 3), (2, 4), (3, 6)], 4, 24, some (.pair (.int .i64) (.pair (.int .i64) (.pair .bool .byte))), [.int .i64 0, .int .i64 0, .bool false, .int .u8 0], false⟩),
  (8, ⟨.struct [(0, 2), (1, 3), (2, 4), (3, 6)], 4, 24, some (.pair (.int .i64) (.pair (.int .i64) (.pair .bool .byte))), [.int .i64 0, .int .i64 0, .bool false, .int .u8 0], false⟩),
  (9, ⟨.str, 1, 16, some (.str), [.str []], false⟩),
  (10, ⟨.str, 1, 16, some (.str), [.str []], false⟩),
  (11, ⟨.str, 1, 16, some (.str), [.str []], false⟩),
  (12, ⟨.int .u64, 1, 8, some (.int .u64), [.int .u64 0], false⟩),
  (13, ⟨.struct [(0, 9), (1, 12)], 2, 24, some (.pair .str (.int .u64)), [.str [], .int .u64 0], false⟩),
  (14, ⟨.struct [(0, 9), (1, 12)], 2, 24, some (.pair .str (.int .u64)), [.str [], .int .u64 0], false⟩),
  (15, ⟨.ptr 68, 1, 8, none, [.nilp], false⟩),
  (16, ⟨.ptr 71, 1, 8, none, [.nilp], false⟩),
  (17, ⟨.ptr 80, 1, 8, none, [.nilp], false⟩),
  (18, ⟨.struct [(0, 17)], 1, 8, none, [.nilp], false⟩),
  (19, ⟨.struct [(0, 17)], 1, 8, none, [.nilp], false⟩),
  (20, ⟨.iface, 1, 16, none, [.nili], false⟩),
  (21, ⟨.int .i32, 1, 4, some (.int .i32), [.int .i32 0], false⟩),
  (22, ⟨.struct [(0, 3), (1, 9), (2, 3)], 3, 32, some (.pair (.int .i64) (.pair .str (.int .i64))), [.int .i64 0, .str [], .int .i64 0], false⟩),
  (23, ⟨.struct [(0, 3), (1, 9), (2, 3)], 3, 32, some (.pair (.int .i64) (.pair .str (.int .i64))), [.int .i64 0, .str [], .int .i64 0], true⟩),
  (24, ⟨.func, 1, 8, none, [.nilf], false⟩),
  (25, ⟨.func, 1, 8, none, [.nilf], false⟩),
  (26, ⟨.func, 1, 8, none, [.nilf], false⟩),
  (27, ⟨.slice 23, 1, 24, some (.lst (.pair (.int .i64) (.pair .str (.int .i64)))), [.nils], false⟩),
  (28, ⟨.int .i64, 1, 8, some (.int .i64), [.int .i64 0], false⟩),
  (30, ⟨.func, 1, 8, none, [.nilf], false⟩),
  (31, ⟨.func, 1, 8, none, [.nilf], false⟩),
  (32, ⟨.func, 1, 8, none, [.nilf], false⟩),
  (33, ⟨.func, 1, 8, none, [.nilf], false⟩),
  (34, ⟨.slice 5, 1, 24, some (.lst .byte), [.nils], false⟩),
  (35, ⟨.slice 21, 1, 24, some (.lst (.int .i32)), [.nils], false⟩),
  (37, ⟨.func, 1, 8, none, [.nilf], false⟩),
  (38, ⟨.ptr 40, 1, 8, none, [.nilp], false⟩),
  (39, ⟨.struct [(0, 9), (1, 3), (2, 3), (3, 28)], 4, 40, some (.pair .str (.pair (.int .i64) (.pair (.int .i64) (.int .i64)))), [.str [], .int .i64 0, .int .i64 0, .int .i64 0], false⟩),
  (40, ⟨.struct [(0, 9), (1, 3), (2, 3), (3, 28)], 4, 40, some (.pair .str (.pair (.int .i64) (.pair (.int .i64) (.int .i64)))), [.str [], .int .i64 0, .int .i64 0, .int .i64 0], false⟩),
  (41, ⟨.func, 1, 8, none, [.nilf], false⟩),
  (42, ⟨.func, 1, 8, none, [.nilf], false⟩),
  (43, ⟨.slice 9, 1, 24, some (.lst .str), [.nils], false⟩),
  (44, ⟨.func, 1, 8, none, [.nilf], false⟩),
  (46, ⟨.func, 1, 8, none, [.nilf], false⟩),
  (47, ⟨.int .u64, 1, 8, some (.int .u64), [.int .u64 0], false⟩),
  (48, ⟨.func, 1, 8, none, [.nilf], false⟩),
  (49, ⟨.func, 1, 8, none, [.nilf], false⟩),
  (50, ⟨.func, 1, 8, none, [.nilf], false⟩),
  (51, ⟨.func, 1, 8, none, [.nilf], false⟩),
  (52, ⟨.func, 1, 8, none, [.nilf], false⟩),
  (53, ⟨.func, 1, 8, none, [.nilf], false⟩),
  (54, ⟨.func, 1, 8, none, [.nilf], false⟩),
  (55, ⟨.func, 1, 8, none, [.nilf], false⟩),
  (56, ⟨.func, 1, 8, none, [.nilf], false⟩),
  (58, ⟨.func, 1, 8, none, [.nilf], false⟩),
  (59, ⟨.func, 1, 8, none, [.nilf], false⟩),
  (61, ⟨.struct [(0, 5), (1, 5)], 2, 2, some (.pair .byte .byte), [.int .u8 0, .int .u8 0], false⟩),
  (62, ⟨.struct [(0, 5), (1, 5)], 2, 2, some (.pair .byte .byte), [.int .u8 0, .int .u8 0], false⟩),
  (64, ⟨.int .u32, 1, 4, some (.int .u32), [.int .u32 0], false⟩),
  (66, ⟨.func, 1, 8, none, [.nilf], false⟩),
  (67, ⟨.struct [(0, 17), (1, 17), (2, 17), (3, 9)], 4, 40, none, [.nilp, .nilp, .nilp, .str []], false⟩),
  (68, ⟨.struct [(0, 17), (1, 17), (2, 17), (3, 9)], 4, 40, none, [.nilp, .nilp, .nilp, .str []], false⟩),
  (70, ⟨.struct [(0, 69)], 0, 0, none, [], false⟩),
  (71, ⟨.struct [(0, 69)], 0, 0, none, [], false⟩),
  (72, ⟨.func, 1, 8, none, [.nilf], false⟩),
  (73, ⟨.int .u8, 1, 1, some (.byte), [.int .u8 0], false⟩),
  (74, ⟨.int .u8, 1, 1, some (.byte), [.int .u8 0], false⟩),
  (75, ⟨.func, 1, 8, none, [.nilf], false⟩),
  (76, ⟨.ptr 5, 1, 8, none, [.nilp], false⟩),
  (77, ⟨.int .i32, 1, 4, some (.int .i32), [.int .i32 0], false⟩),
  (78, ⟨.int .i32, 1, 4, some (.int .i32), [.int .i32 0], false⟩),
  (79, ⟨.struct [(0, 12), (1, 12), (2, 64), (3, 73), (4, 5), (5, 5), (6, 74), (7, 75), (8, 76), (9, 77), (10, 78)], 11, 48, none, [.int .u64 0, .int .u64 0, .int .u32 0, .int .u8 0, .int .u8 0, .int .u8 0, .int .u8 0, .nilf, .nilp, .int .i32 0, .int .i32 0], false⟩),
  (80, ⟨.struct [(0, 12), (1, 12), (2, 64), (3, 73), (4, 5), (5, 5), (6, 74), (7, 75), (8, 76), (9, 77), (10, 78)], 11, 48, none, [.int .u64 0, .int .u64 0, .int .u32 0, .int .u8 0, .int .u8 0, .int .u8 0, .int .u8 0, .nilf, .nilp, .int .i32 0, .int .i32 0], false⟩)]
def Γ : Tys := fun t => Ae.look t Γl
theorem hΓ : GOk Tryd.prog Γ := gok_of (by kernel_rfl)
theorem hm : Tryd.prog.follows .mixedOrders = true := by kernel_rfl
def f36_ins : List Sh := [.str, .int .u8]
def f36_outs : Outs := [(.ret, [.int .i64])]
def f39_ins : List Sh := [.str, .int .u8]
def f39_outs : Outs := [(.ret, [.int .i64])]
def f19_ins : List Sh := [.int .u8]
def f19_outs : Outs := [(.ret, [.tuple 2, .int .i64, .int .i32])]
def f19_c0_ins : List Sh := (List.cons (.int .u8) (tp 18 (List.cons (.bool) (tp 19 []))))
def f19_c0_outs : Outs := [(.ret, (List.cons (.top) (List.cons (.top) (List.cons (.int .i64) (List.cons (.int .i32) (tp 35 [])))))), (.normal, (tp 39 []))]
def f19_c1_ins : List Sh := (List.cons (.int .u8) (tp 8 (List.cons (.bool) (tp 29 []))))
def f19_c1_outs : Outs := [(.ret, (List.cons (.top) (List.cons (.top) (List.cons (.int .i64) (List.cons (.int .i32) (tp 35 [])))))), (.normal, (tp 39 []))]
def f29_ins : List Sh := [.int .i32]
def f29_outs : Outs := [(.ret, [.bool])]
def f20_ins : List Sh := [.int .i32]
def f20_outs : Outs := [(.ret, [.int .i64])]
def f15_ins : List Sh := [.str]
def f15_outs : Outs := [(.ret, [.tuple 2, .lst (.int .i32), .int .i64])]
def f15_l0_ins : List Sh := (List.cons (.str) (tp 3 (List.cons (.row 0) (List.cons (.int .i64) (List.cons (.int .i32) (List.cons (.int .i64) (List.cons (.int .i64) (tp 59 (List.cons (.orow 21 (.int .i32)) [])))))))))
def f15_l0_outs : Outs := [((.exit 2), (List.cons (.str) (tp 3 (List.cons (.row 0) (List.cons (.int .i64) (List.cons (.int .i32) (List.cons (.int .i64) (tp 60 (List.cons (.orow 21 (.int .i32)) []))))))))), ((.goto 0), (tp 4 (List.cons (.row 0) (List.cons (.top) (List.cons (.top) (List.cons (.int .i64) (tp 60 (List.cons (.orow 21 (.int .i32)) []))))))))]
def f15_l1_ins : List Sh := (List.cons (.str) (tp 3 (List.cons (.row 0) (List.cons (.top) (List.cons (.top) (List.cons (.int .i64) (tp 60 (List.cons (.orow 21 (.int .i32)) []))))))))
def f15_l1_outs : Outs := [((.exit 0), (tp 4 (List.cons (.row 0) (tp 63 (List.cons (.orow 21 (.int .i32)) []))))), ((.goto 0), (tp 4 (List.cons (.row 0) (List.cons (.top) (List.cons (.top) (List.cons (.int .i64) (tp 60 (List.cons (.orow 21 (.int .i32)) []))))))))]
def f15_g0_ins : List Sh := (tp 4 (List.cons (.row 0) (List.cons (.top) (List.cons (.top) (List.cons (.int .i64) (tp 60 (List.cons (.orow 21 (.int .i32)) [])))))))
def f15_g0_outs : Outs := [(.ret, (List.cons (.top) (List.cons (.top) (List.cons (.row 0) (List.cons (.int .i64) (tp 64 (List.cons (.orow 21 (.int .i32)) [])))))))]
def f30_ins : List Sh := [.str, .int .u8]
def f30_outs : Outs := [(.ret, [.int .i64])]
def f22_ins : List Sh := [.str, .int .u8]
def f22_outs : Outs := [(.ret, [.int .i64])]
def f17_ins : List Sh := [.int .u8]
def f17_outs : Outs := [(.ret, [.bool])]
def f17_c0_ins : List Sh := (List.cons (.int .u8) (List.cons (.top) (List.cons (.top) (List.cons (.bool) (tp 23 [])))))
def f17_c0_outs : Outs := [(.normal, (List.cons (.int .u8) (List.cons (.top) (List.cons (.top) (List.cons (.bool) (tp 23 []))))))]
def f17_c1_ins : List Sh := (List.cons (.int .u8) (List.cons (.top) (List.cons (.top) (List.cons (.bool) (tp 23 [])))))
def f17_c1_outs : Outs := [(.normal, (List.cons (.int .u8) (List.cons (.top) (List.cons (.top) (List.cons (.bool) (tp 23 []))))))]
def f21_ins : List Sh := [.ptr 0 0, .obox 4, .str, .int .i64, .int .i64, .int .i64]
def f21_outs : Outs := [(.ret, [.str, .obox 4, .str, .int .i64, .int .i64, .int .i64])]
def f21_l0_ins : List Sh := (List.cons (.ptr 0 0) (List.cons (.top) (List.cons (.top) (List.cons (.int .i64) (tp 43 (List.cons (.obox 4) (List.cons (.str) (List.cons (.int .i64) (List.cons (.int .i64) (List.cons (.int .i64) []))))))))))
def f21_l0_outs : Outs := [((.exit 0), (List.cons (.ptr 0 0) (List.cons (.top) (List.cons (.top) (List.cons (.int .i64) (tp 43 (List.cons (.obox 4) (List.cons (.str) (List.cons (.int .i64) (List.cons (.int .i64) (List.cons (.int .i64) [])))))))))))]
def f32_ins : List Sh := [.int .u8]
def f32_outs : Outs := [(.ret, [.bool])]
def f31_ins : List Sh := [.int .u8]
def f31_outs : Outs := [(.ret, [.bool])]
def f27_ins : List Sh := [.ptr 0 0, .int .i64, .int .i64, .obox 4, .str, .int .i64, .int .i64, .int .i64]
def f27_outs : Outs := [(.ret, [.tuple 0, .obox 4, .str, .int .i64, .int .i64, .int .i64])]
def f23_ins : List Sh := [.ptr 0 0, .obox 4, .str, .int .i64, .int .i64, .int .i64]
def f23_outs : Outs := [(.ret, [.str, .obox 4, .str, .int .i64, .int .i64, .int .i64])]
def f23_c0_ins : List Sh := (List.cons (.ptr 0 0) (List.cons (.top) (List.cons (.top) (List.cons (.row 1) (List.cons (.int .i64) (tp 67 (List.cons (.obox 4) (List.cons (.str) (List.cons (.int .i64) (List.cons (.int .i64) (List.cons (.int .i64) (List.cons (.orow 5 .byte) []))))))))))))
def f23_c0_outs : Outs := [(.ret, (List.cons (.top) (List.cons (.top) (List.cons (.str) (tp 69 (List.cons (.obox 4) (List.cons (.str) (List.cons (.int .i64) (List.cons (.int .i64) (List.cons (.int .i64) [])))))))))), (.normal, (List.cons (.ptr 0 0) (List.cons (.top) (List.cons (.top) (List.cons (.row 1) (List.cons (.int .i64) (tp 67 (List.cons (.obox 4) (List.cons (.str) (List.cons (.int .i64) (List.cons (.int .i64) (List.cons (.int .i64) (List.cons (.orow 5 .byte) [])))))))))))))]
def f23_l0_ins : List Sh := (List.cons (.ptr 0 0) (List.cons (.top) (List.cons (.top) (List.cons (.row 1) (List.cons (.int .i64) (tp 67 (List.cons (.obox 4) (List.cons (.str) (List.cons (.int .i64) (List.cons (.int .i64) (List.cons (.int .i64) (List.cons (.orow 5 .byte) []))))))))))))
def f23_l0_outs : Outs := [((.exit 0), (List.cons (.ptr 0 0) (tp 71 (List.cons (.obox 4) (List.cons (.str) (List.cons (.int .i64) (List.cons (.int .i64) (List.cons (.int .i64) [])))))))), (.ret, (List.cons (.top) (List.cons (.top) (List.cons (.str) (tp 69 (List.cons (.obox 4) (List.cons (.str) (List.cons (.int .i64) (List.cons (.int .i64) (List.cons (.int .i64) []))))))))))]
def f24_ins : List Sh := [.ptr 0 0, .obox 4, .str, .int .i64, .int .i64, .int .i64]
def f24_outs : Outs := [(.ret, [.str, .obox 4, .str, .int .i64, .int .i64, .int .i64])]
def f24_l0_ins : List Sh := (List.cons (.ptr 0 0) (List.cons (.top) (List.cons (.top) (List.cons (.int .i64) (tp 67 (List.cons (.obox 4) (List.cons (.str) (List.cons (.int .i64) (List.cons (.int .i64) (List.cons (.int .i64) []))))))))))
def f24_l0_outs : Outs := [((.exit 0), (List.cons (.ptr 0 0) (tp 70 (List.cons (.obox 4) (List.cons (.str) (List.cons (.int .i64) (List.cons (.int .i64) (List.cons (.int .i64) [])))))))), (.ret, (List.cons (.top) (List.cons (.top) (List.cons (.str) (tp 68 (List.cons (.obox 4) (List.cons (.str) (List.cons (.int .i64) (List.cons (.int .i64) (List.cons (.int .i64) []))))))))))]
def f25_ins : List Sh := [.ptr 0 0, .obox 4, .str, .int .i64, .int .i64, .int .i64]
def f25_outs : Outs := [(.ret, [.str, .obox 4, .str, .int .i64, .int .i64, .int .i64])]
def f25_l0_ins : List Sh := (List.cons (.ptr 0 0) (List.cons (.top) (List.cons (.top) (List.cons (.int .i64) (List.cons (.int .i64) (List.cons (.int .i64) (List.cons (.int .i64) (tp 72 (List.cons (.obox 4) (List.cons (.str) (List.cons (.int .i64) (List.cons (.int .i64) (List.cons (.int .i64) [])))))))))))))
def f25_l0_outs : Outs := [((.exit 0), (List.cons (.ptr 0 0) (List.cons (.top) (List.cons (.top) (List.cons (.int .i64) (List.cons (.top) (List.cons (.int .i64) (tp 73 (List.cons (.obox 4) (List.cons (.str) (List.cons (.int .i64) (List.cons (.int .i64) (List.cons (.int .i64) []))))))))))))), ((.goto 0), (List.cons (.ptr 0 0) (tp 4 (List.cons (.int .i64) (List.cons (.int .i64) (tp 72 (List.cons (.obox 4) (List.cons (.str) (List.cons (.int .i64) (List.cons (.int .i64) (List.cons (.int .i64) []))))))))))), (.ret, (List.cons (.top) (List.cons (.top) (List.cons (.str) (tp 76 (List.cons (.obox 4) (List.cons (.str) (List.cons (.int .i64) (List.cons (.int .i64) (List.cons (.int .i64) []))))))))))]
def f25_g0_ins : List Sh := (List.cons (.ptr 0 0) (tp 4 (List.cons (.int .i64) (List.cons (.int .i64) (tp 72 (List.cons (.obox 4) (List.cons (.str) (List.cons (.int .i64) (List.cons (.int .i64) (List.cons (.int .i64) []))))))))))
def f25_g0_outs : Outs := [(.ret, (List.cons (.top) (List.cons (.top) (List.cons (.str) (tp 76 (List.cons (.obox 4) (List.cons (.str) (List.cons (.int .i64) (List.cons (.int .i64) (List.cons (.int .i64) []))))))))))]
def f26_ins : List Sh := [.ptr 0 0, .obox 4, .str, .int .i64, .int .i64, .int .i64]
def f26_outs : Outs := [(.ret, [.str, .obox 4, .str, .int .i64, .int .i64, .int .i64])]
def f26_c0_ins : List Sh := (List.cons (.ptr 0 0) (List.cons (.top) (List.cons (.top) (List.cons (.int .i64) (tp 45 (List.cons (.bool) (tp 30 (List.cons (.obox 4) (List.cons (.str) (List.cons (.int .i64) (List.cons (.int .i64) (List.cons (.int .i64) []))))))))))))
def f26_c0_outs : Outs := [(.normal, (List.cons (.ptr 0 0) (List.cons (.top) (List.cons (.top) (List.cons (.int .i64) (tp 76 (List.cons (.obox 4) (List.cons (.str) (List.cons (.int .i64) (List.cons (.int .i64) (List.cons (.int .i64) []))))))))))), (.ret, (List.cons (.top) (List.cons (.top) (List.cons (.str) (tp 77 (List.cons (.obox 4) (List.cons (.str) (List.cons (.int .i64) (List.cons (.int .i64) (List.cons (.int .i64) []))))))))))]
def f26_l0_ins : List Sh := (List.cons (.ptr 0 0) (List.cons (.top) (List.cons (.top) (List.cons (.int .i64) (tp 76 (List.cons (.obox 4) (List.cons (.str) (List.cons (.int .i64) (List.cons (.int .i64) (List.cons (.int .i64) []))))))))))
def f26_l0_outs : Outs := [((.exit 0), (List.cons (.ptr 0 0) (List.cons (.top) (List.cons (.top) (List.cons (.int .i64) (tp 76 (List.cons (.obox 4) (List.cons (.str) (List.cons (.int .i64) (List.cons (.int .i64) (List.cons (.int .i64) []))))))))))), (.ret, (List.cons (.top) (List.cons (.top) (List.cons (.str) (tp 77 (List.cons (.obox 4) (List.cons (.str) (List.cons (.int .i64) (List.cons (.int .i64) (List.cons (.int .i64) []))))))))))]
def f16_ins : List Sh := [.ptr 0 0, .obox 4, .str, .int .i64, .int .i64, .int .i64]
def f16_outs : Outs := [(.ret, [.agg 3, .int .i64, .str, .int .i64, .obox 4, .str, .int .i64, .int .i64, .int .i64])]
def f11_ins : List Sh := [.str]
def f11_outs : Outs := [(.ret, [.tuple 3, .lst (.pair (.int .i64) (.pair .str (.int .i64))), .int .i64, .int .i64])]
def f11_l0_ins : List Sh := (List.cons (.str) (tp 6 (List.cons (.row 0) (List.cons (.ptr 1 0) (tp 40 (List.cons (.orow 23 (.pair (.int .i64) (.pair .str (.int .i64)))) (List.cons (.obox 4) (List.cons (.str) (List.cons (.int .i64) (List.cons (.int .i64) (List.cons (.int .i64) [])))))))))))
def f11_l0_outs : Outs := [((.exit 0), (tp 7 (List.cons (.row 0) (tp 41 (List.cons (.orow 23 (.pair (.int .i64) (.pair .str (.int .i64)))) []))))), (.ret, (List.cons (.top) (List.cons (.top) (List.cons (.nils) (List.cons (.int .i64) (List.cons (.int .i64) (tp 44 [])))))))]
def f14_ins : List Sh := [.str]
def f14_outs : Outs := [(.ret, [.str])]
def f14_l0_ins : List Sh := (List.cons (.str) (List.cons (.top) (List.cons (.top) (List.cons (.row 0) (List.cons (.top) (List.cons (.top) (List.cons (.int .i64) (List.cons (.int .i64) (tp 24 (List.cons (.orow 5 .byte) []))))))))))
def f14_l0_outs : Outs := [((.exit 0), (tp 3 (List.cons (.row 0) (tp 28 (List.cons (.orow 5 .byte) [])))))]
def f9_ins : List Sh := [.agg 3, .int .i64, .str, .int .i64]
def f9_outs : Outs := [(.ret, [.str])]
def f40_ins : List Sh := [.str, .str]
def f40_outs : Outs := [(.ret, [.int .i64])]
def f40_c0_ins : List Sh := (List.cons (.str) (List.cons (.str) (tp 3 (List.cons (.int .i64) (tp 10 (List.cons (.bool) (tp 126 [])))))))
def f40_c0_outs : Outs := [(.ret, (tp 4 (List.cons (.int .i64) (tp 138 []))))]
def f35_ins : List Sh := [.str, .str]
def f35_outs : Outs := [(.ret, [.int .i64])]
def f34_ins : List Sh := [.str, .str]
def f34_outs : Outs := [(.ret, [.int .i64])]
def f34_l0_ins : List Sh := (List.cons (.str) (List.cons (.str) (tp 3 (List.cons (.int .i64) (tp 28 [])))))
def f34_l0_outs : Outs := [(.ret, (tp 4 (List.cons (.int .i64) (tp 29 []))))]
def f28_ins : List Sh := [.str, .str, .int .i64, .int .i64]
def f28_outs : Outs := [(.ret, [.lst .str])]
def f28_l0_ins : List Sh := (List.cons (.str) (List.cons (.str) (List.cons (.int .i64) (List.cons (.int .i64) (tp 5 (List.cons (.row 0) (List.cons (.int .i64) (tp 55 (List.cons (.orow 9 .str) [])))))))))
def f28_l0_outs : Outs := [((.exit 0), (List.cons (.str) (tp 8 (List.cons (.row 0) (List.cons (.int .i64) (tp 55 (List.cons (.orow 9 .str) [])))))))]
def f28_c0_ins : List Sh := (List.cons (.str) (List.cons (.str) (List.cons (.int .i64) (List.cons (.int .i64) (tp 62 [])))))
def f28_c0_outs : Outs := [(.ret, (tp 8 (List.cons (.lst .str) (tp 57 []))))]
def f18_ins : List Sh := [.str, .str]
def f18_outs : Outs := [(.ret, [.lst .str])]
def f12_ins : List Sh := [.str]
def f12_outs : Outs := [(.ret, [.bool])]
def f12_l0_ins : List Sh := (List.cons (.str) (tp 4 (List.cons (.int .i64) (List.cons (.int .i64) (tp 10 [])))))
def f12_l0_outs : Outs := [((.exit 0), (List.cons (.str) (tp 16 []))), (.ret, (List.cons (.top) (List.cons (.top) (List.cons (.bool) (tp 14 [])))))]
def f13_ins : List Sh := [.str]
def f13_outs : Outs := [(.ret, [.bool])]
def f13_l0_ins : List Sh := (tp 6 (List.cons (.lst .str) (List.cons (.int .i64) (List.cons (.int .i64) (tp 7 [])))))
def f13_l0_outs : Outs := [((.exit 0), (tp 16 [])), (.ret, (List.cons (.top) (List.cons (.top) (List.cons (.bool) (tp 13 [])))))]
def f8_ins : List Sh := []
def f8_outs : Outs := [(.ret, [.bool])]
def f10_ins : List Sh := [.agg 3, .int .i64, .str, .int .i64]
def f10_outs : Outs := [(.ret, [.str])]
def f10_c0_ins : List Sh := (List.cons (.top) (List.cons (.ptr 0 0) (List.cons (.top) (List.cons (.row 1) (List.cons (.int .i64) (tp 52 (List.cons (.obox 3) (List.cons (.int .i64) (List.cons (.str) (List.cons (.int .i64) (List.cons (.orow 5 .byte) [])))))))))))
def f10_c0_outs : Outs := [(.normal, (List.cons (.top) (List.cons (.ptr 0 0) (List.cons (.top) (List.cons (.row 1) (List.cons (.int .i64) (tp 52 (List.cons (.obox 3) (List.cons (.int .i64) (List.cons (.str) (List.cons (.int .i64) (List.cons (.orow 5 .byte) []))))))))))))]
def f10_l0_ins : List Sh := (List.cons (.top) (List.cons (.ptr 0 0) (List.cons (.top) (List.cons (.row 1) (List.cons (.int .i64) (tp 52 (List.cons (.obox 3) (List.cons (.int .i64) (List.cons (.str) (List.cons (.int .i64) (List.cons (.orow 5 .byte) [])))))))))))
def f10_l0_outs : Outs := [((.exit 1), (tp 3 (List.cons (.row 0) (tp 53 (List.cons (.orow 5 .byte) [])))))]
def f3_ins : List Sh := [.agg 3, .int .i64, .str, .int .i64]
def f3_outs : Outs := [(.ret, [.bool])]
def f4_ins : List Sh := [.str]
def f4_outs : Outs := [(.ret, [.bool])]
def f4_l0_ins : List Sh := (List.cons (.str) (List.cons (.top) (List.cons (.top) (List.cons (.bool) (List.cons (.lst (.pair (.int .i64) (.pair .str (.int .i64)))) (List.cons (.top) (List.cons (.top) (List.cons (.str) (List.cons (.bool) (List.cons (.int .i64) (tp 100 [])))))))))))
def f4_l0_outs : Outs := [((.exit 0), (List.cons (.str) (List.cons (.top) (List.cons (.top) (List.cons (.bool) (List.cons (.lst (.pair (.int .i64) (.pair .str (.int .i64)))) (List.cons (.top) (List.cons (.top) (List.cons (.str) (List.cons (.bool) (tp 101 [])))))))))))]
def f4_l1_ins : List Sh := (tp 3 (List.cons (.bool) (List.cons (.lst (.pair (.int .i64) (.pair .str (.int .i64)))) (tp 5 (List.cons (.lst (.pair (.int .i64) (.pair .str (.int .i64)))) (List.cons (.top) (List.cons (.top) (List.cons (.int .i64) (tp 96 [])))))))))
def f4_l1_outs : Outs := [((.exit 2), (tp 3 (List.cons (.bool) (tp 106 [])))), (.ret, (List.cons (.top) (List.cons (.top) (List.cons (.bool) (tp 107 [])))))]
def f5_ins : List Sh := [.str]
def f5_outs : Outs := [(.ret, [.bool])]
def f5_c0_ins : List Sh := (List.cons (.str) (List.cons (.top) (List.cons (.top) (List.cons (.bool) (List.cons (.lst (.pair (.int .i64) (.pair .str (.int .i64)))) (List.cons (.top) (List.cons (.top) (List.cons (.int .i64) (List.cons (.int .i64) (tp 132 []))))))))))
def f5_c0_outs : Outs := [(.ret, (List.cons (.top) (List.cons (.top) (List.cons (.bool) (tp 138 []))))), (.normal, (List.cons (.str) (List.cons (.top) (List.cons (.top) (List.cons (.bool) (List.cons (.lst (.pair (.int .i64) (.pair .str (.int .i64)))) (List.cons (.top) (List.cons (.top) (List.cons (.int .i64) (tp 133 []))))))))))]
def f5_l0_ins : List Sh := (List.cons (.str) (List.cons (.top) (List.cons (.top) (List.cons (.bool) (List.cons (.lst (.pair (.int .i64) (.pair .str (.int .i64)))) (List.cons (.top) (List.cons (.top) (List.cons (.int .i64) (tp 133 [])))))))))
def f5_l0_outs : Outs := [((.exit 0), (tp 3 (List.cons (.bool) (tp 137 [])))), (.ret, (List.cons (.top) (List.cons (.top) (List.cons (.bool) (tp 138 [])))))]
def f6_ins : List Sh := [.int .i64, .str]
def f6_outs : Outs := [(.ret, [.bool])]
def f6_l0_ins : List Sh := (List.cons (.int .i64) (List.cons (.str) (tp 3 (List.cons (.bool) (List.cons (.str) (List.cons (.int .i64) (tp 93 [])))))))
def f6_l0_outs : Outs := [((.exit 0), (List.cons (.int .i64) (List.cons (.str) (tp 3 (List.cons (.bool) (List.cons (.str) (tp 94 [])))))))]
def f6_l1_ins : List Sh := (List.cons (.int .i64) (List.cons (.str) (tp 3 (List.cons (.bool) (List.cons (.str) (List.cons (.top) (List.cons (.lst (.pair (.int .i64) (.pair .str (.int .i64)))) (List.cons (.int .i64) (List.cons (.int .i64) (List.cons (.int .i64) (tp 89 [])))))))))))
def f6_l1_outs : Outs := [((.exit 2), (List.cons (.int .i64) (List.cons (.str) (tp 3 (List.cons (.bool) (List.cons (.str) (List.cons (.top) (List.cons (.lst (.pair (.int .i64) (.pair .str (.int .i64)))) (List.cons (.int .i64) (List.cons (.int .i64) (List.cons (.int .i64) (tp 89 []))))))))))))]
def f7_ins : List Sh := [.str]
def f7_outs : Outs := [(.ret, [.bool])]
def f7_l0_ins : List Sh := (List.cons (.str) (List.cons (.top) (List.cons (.top) (List.cons (.bool) (List.cons (.bool) (List.cons (.int .i64) (tp 80 [])))))))
def f7_l0_outs : Outs := [((.exit 0), (List.cons (.str) (List.cons (.top) (List.cons (.top) (List.cons (.bool) (List.cons (.bool) (tp 81 [])))))))]
end Go.Proofs.YtkmojkibclbmjaaDoor.W
