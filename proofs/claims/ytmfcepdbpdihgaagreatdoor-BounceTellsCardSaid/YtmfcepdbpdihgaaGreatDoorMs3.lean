/- The texts of the proof, one behind the other: W0, Ae31, Ae32, Low, Laid, X, W1, W2. -/
import Derived.Test.YtmfcepdbpdihgaaGreatDoorMs2
import Derived.Test.YtmfcepdbpdihgaaGreatDoorProg
import Derived.Shelf.Strings.Builder1
import Derived.Lib.ConvBytes
import Derived.Shelf.LaysM
import Derived.Shelf.LaysC
import Derived.Shelf.Strings.SlTrimAscii
import Derived.Shelf.Strings.OnBuilder
import Derived.Shelf.Strings.Replace
import Derived.Shelf.Strconv.Itoa3
import Derived.Shelf.Strconv.AtoiAll
set_option maxRecDepth 100000
set_option linter.unusedVariables false
namespace Go.Proofs.YtmfcepdbpdihgaaGreatDoor.W
open Go Go.Ae
def Γl : List (Nat × TI) := [
 (1, ⟨.func, 1, 8, none, [.nilf], false⟩),
 (2, ⟨.int .i64, 1, 8, some (.int .i64), [.int .i64 0], false⟩),
 (3, ⟨.int .i64, 1, 8, some (.int .i64), [.int .i64 0], false⟩),
 (4, ⟨.bool, 1, 1, some (.bool), [.bool false], false⟩),
 (5, ⟨.int .u8, 1, 1, some (.byte), [.int .u8 0], false⟩),
 (6, ⟨.int .u8, 1, 1, some (.byte), [.int .u8 0], false⟩),
 (7, ⟨.struct [(0, 2), (1, 3), (2, 4), (3, 6)], 4, 24, some (.pair (.int .i64) (.pair (.int .i64) (.pair .bool .byte))), [.int .i64 0, .int .i64 0, .bool false, .int .u8 0], false⟩),
 (8, ⟨.struct [(0, 2), (1, 3), (2, 4), (3, 6)], 4, 24, some (.pair (.int .i64) (.pair (.int .i64) (.pair .bool .byte))), [.int .i64 0, .int .i64 0, .bool false, .int .u8 0], false⟩),
 (9, ⟨.str, 1, 16, some (.str), [.str []], true⟩),
 (10, ⟨.str, 1, 16, some (.str), [.str []], false⟩),
 (11, ⟨.str, 1, 16, some (.str), [.str []], false⟩),
 (12, ⟨.int .u64, 1, 8, some (.int .u64), [.int .u64 0], false⟩),
 (13, ⟨.struct [(0, 9), (1, 12)], 2, 24, some (.pair .str (.int .u64)), [.str [], .int .u64 0], false⟩),
 (14, ⟨.struct [(0, 9), (1, 12)], 2, 24, some (.pair .str (.int .u64)), [.str [], .int .u64 0], false⟩),
 (15, ⟨.ptr 188, 1, 8, none, [.nilp], false⟩),
 (16, ⟨.ptr 191, 1, 8, none, [.nilp], false⟩),
 (17, ⟨.ptr 198, 1, 8, none, [.nilp], false⟩),
 (18, ⟨.struct [(0, 17)], 1, 8, none, [.nilp], false⟩),
 (19, ⟨.struct [(0, 17)], 1, 8, none, [.nilp], false⟩),
 (20, ⟨.iface, 1, 16, none, [.nili], false⟩),
 (21, ⟨.int .i32, 1, 4, some (.int .i32), [.int .i32 0], false⟩),
 (22, ⟨.func, 1, 8, none, [.nilf], false⟩),
 (24, ⟨.func, 1, 8, none, [.nilf], false⟩),
 (25, ⟨.func, 1, 8, none, [.nilf], false⟩),
 (26, ⟨.func, 1, 8, none, [.nilf], false⟩),
 (27, ⟨.func, 1, 8, none, [.nilf], false⟩),
 (28, ⟨.struct [(0, 9), (1, 9)], 2, 32, some (.pair .str .str), [.str [], .str []], false⟩),
 (29, ⟨.struct [(0, 9), (1, 9)], 2, 32, some (.pair .str .str), [.str [], .str []], true⟩),
 (30, ⟨.struct [(0, 4), (1, 29)], 3, 40, some (.pair .bool (.pair .str .str)), [.bool false, .str [], .str []], false⟩),
 (31, ⟨.struct [(0, 4), (1, 29)], 3, 40, some (.pair .bool (.pair .str .str)), [.bool false, .str [], .str []], true⟩),
 (32, ⟨.slice 53, 1, 24, some (.lst (.pair (.pair .bool (.pair .str .str)) (.pair (.int .i64) (.pair (.int .i64) (.pair (.int .i64) (.int .i64)))))), [.nils], false⟩),
 (33, ⟨.slice 9, 1, 24, some (.lst .str), [.nils], false⟩),
 (34, ⟨.struct [(0, 4), (1, 4), (2, 4), (3, 3), (4, 3)], 5, 24, some (.pair .bool (.pair .bool (.pair .bool (.pair (.int .i64) (.int .i64))))), [.bool false, .bool false, .bool false, .int .i64 0, .int .i64 0], false⟩),
 (35, ⟨.struct [(0, 4), (1, 4), (2, 4), (3, 3), (4, 3)], 5, 24, some (.pair .bool (.pair .bool (.pair .bool (.pair (.int .i64) (.int .i64))))), [.bool false, .bool false, .bool false, .int .i64 0, .int .i64 0], true⟩),
 (36, ⟨.struct [(0, 3), (1, 31), (4, 32), (5, 33), (6, 35), (11, 3)], 12, 128, some (.pair (.int .i64) (.pair (.pair .bool (.pair .str .str)) (.pair (.lst (.pair (.pair .bool (.pair .str .str)) (.pair (.int .i64) (.pair (.int .i64) (.pair (.int .i64) (.int .i64)))))) (.pair (.lst .str) (.pair (.pair .bool (.pair .bool (.pair .bool (.pair (.int .i64) (.int .i64))))) (.int .i64)))))), [.int .i64 0, .bool false, .str [], .str [], .nils, .nils, .bool false, .bool false, .bool false, .int .i64 0, .int .i64 0, .int .i64 0], false⟩),
 (37, ⟨.struct [(0, 3), (1, 31), (4, 32), (5, 33), (6, 35), (11, 3)], 12, 128, some (.pair (.int .i64) (.pair (.pair .bool (.pair .str .str)) (.pair (.lst (.pair (.pair .bool (.pair .str .str)) (.pair (.int .i64) (.pair (.int .i64) (.pair (.int .i64) (.int .i64)))))) (.pair (.lst .str) (.pair (.pair .bool (.pair .bool (.pair .bool (.pair (.int .i64) (.int .i64))))) (.int .i64)))))), [.int .i64 0, .bool false, .str [], .str [], .nils, .nils, .bool false, .bool false, .bool false, .int .i64 0, .int .i64 0, .int .i64 0], false⟩),
 (38, ⟨.func, 1, 8, none, [.nilf], false⟩),
 (39, ⟨.slice 31, 1, 24, some (.lst (.pair .bool (.pair .str .str))), [.nils], false⟩),
 (40, ⟨.struct [(0, 31), (3, 39), (4, 33), (5, 35), (10, 3)], 11, 120, some (.pair (.pair .bool (.pair .str .str)) (.pair (.lst (.pair .bool (.pair .str .str))) (.pair (.lst .str) (.pair (.pair .bool (.pair .bool (.pair .bool (.pair (.int .i64) (.int .i64))))) (.int .i64))))), [.bool false, .str [], .str [], .nils, .nils, .bool false, .bool false, .bool false, .int .i64 0, .int .i64 0, .int .i64 0], false⟩),
 (41, ⟨.struct [(0, 31), (3, 39), (4, 33), (5, 35), (10, 3)], 11, 120, some (.pair (.pair .bool (.pair .str .str)) (.pair (.lst (.pair .bool (.pair .str .str))) (.pair (.lst .str) (.pair (.pair .bool (.pair .bool (.pair .bool (.pair (.int .i64) (.int .i64))))) (.int .i64))))), [.bool false, .str [], .str [], .nils, .nils, .bool false, .bool false, .bool false, .int .i64 0, .int .i64 0, .int .i64 0], false⟩),
 (43, ⟨.func, 1, 8, none, [.nilf], false⟩),
 (44, ⟨.func, 1, 8, none, [.nilf], false⟩),
 (46, ⟨.func, 1, 8, none, [.nilf], false⟩),
 (47, ⟨.func, 1, 8, none, [.nilf], false⟩),
 (48, ⟨.slice 21, 1, 24, some (.lst (.int .i32)), [.nils], false⟩),
 (50, ⟨.func, 1, 8, none, [.nilf], false⟩),
 (51, ⟨.func, 1, 8, none, [.nilf], false⟩),
 (52, ⟨.struct [(0, 31), (3, 3), (4, 3), (5, 3), (6, 3)], 7, 72, some (.pair (.pair .bool (.pair .str .str)) (.pair (.int .i64) (.pair (.int .i64) (.pair (.int .i64) (.int .i64))))), [.bool false, .str [], .str [], .int .i64 0, .int .i64 0, .int .i64 0, .int .i64 0], false⟩),
 (53, ⟨.struct [(0, 31), (3, 3), (4, 3), (5, 3), (6, 3)], 7, 72, some (.pair (.pair .bool (.pair .str .str)) (.pair (.int .i64) (.pair (.int .i64) (.pair (.int .i64) (.int .i64))))), [.bool false, .str [], .str [], .int .i64 0, .int .i64 0, .int .i64 0, .int .i64 0], false⟩),
 (54, ⟨.func, 1, 8, none, [.nilf], false⟩),
 (55, ⟨.func, 1, 8, none, [.nilf], false⟩),
 (56, ⟨.func, 1, 8, none, [.nilf], false⟩),
 (57, ⟨.func, 1, 8, none, [.nilf], false⟩),
 (58, ⟨.func, 1, 8, none, [.nilf], false⟩),
 (59, ⟨.func, 1, 8, none, [.nilf], false⟩),
 (61, ⟨.func, 1, 8, none, [.nilf], false⟩),
 (62, ⟨.func, 1, 8, none, [.nilf], false⟩),
 (63, ⟨.func, 1, 8, none, [.nilf], false⟩),
 (64, ⟨.ptr 67, 1, 8, none, [.nilp], false⟩),
 (65, ⟨.slice 5, 1, 24, some (.lst .byte), [.nils], false⟩),
 (66, ⟨.struct [(0, 64), (1, 65)], 2, 32, none, [.nilp, .nils], false⟩),
 (67, ⟨.struct [(0, 64), (1, 65)], 2, 32, none, [.nilp, .nils], false⟩),
 (68, ⟨.iface, 1, 16, none, [.nili], false⟩),
 (69, ⟨.iface, 1, 16, none, [.nili], false⟩),
 (70, ⟨.func, 1, 8, none, [.nilf], false⟩),
 (72, ⟨.func, 1, 8, none, [.nilf], false⟩),
 (73, ⟨.func, 1, 8, none, [.nilf], false⟩),
 (74, ⟨.func, 1, 8, none, [.nilf], false⟩),
 (75, ⟨.func, 1, 8, none, [.nilf], false⟩),
 (76, ⟨.int .u64, 1, 8, some (.int .u64), [.int .u64 0], false⟩),
 (77, ⟨.func, 1, 8, none, [.nilf], false⟩),
 (78, ⟨.func, 1, 8, none, [.nilf], false⟩),
 (79, ⟨.func, 1, 8, none, [.nilf], false⟩),
 (80, ⟨.func, 1, 8, none, [.nilf], false⟩),
 (82, ⟨.func, 1, 8, none, [.nilf], false⟩),
 (83, ⟨.func, 1, 8, none, [.nilf], false⟩),
 (84, ⟨.func, 1, 8, none, [.nilf], false⟩),
 (85, ⟨.func, 1, 8, none, [.nilf], false⟩),
 (87, ⟨.func, 1, 8, none, [.nilf], false⟩),
 (88, ⟨.func, 1, 8, none, [.nilf], false⟩),
 (89, ⟨.func, 1, 8, none, [.nilf], false⟩),
 (90, ⟨.ptr 5, 1, 8, none, [.nilp], false⟩),
 (92, ⟨.func, 1, 8, none, [.nilf], false⟩),
 (93, ⟨.func, 1, 8, none, [.nilf], false⟩),
 (94, ⟨.func, 1, 8, none, [.nilf], false⟩),
 (95, ⟨.func, 1, 8, none, [.nilf], false⟩),
 (96, ⟨.slice 99, 1, 24, some (.lst (.pair .str .str)), [.nils], false⟩),
 (97, ⟨.func, 1, 8, none, [.nilf], false⟩),
 (98, ⟨.struct [(0, 9), (1, 9)], 2, 32, some (.pair .str .str), [.str [], .str []], false⟩),
 (99, ⟨.struct [(0, 9), (1, 9)], 2, 32, some (.pair .str .str), [.str [], .str []], false⟩),
 (100, ⟨.func, 1, 8, none, [.nilf], false⟩),
 (101, ⟨.struct [(0, 3), (1, 33)], 2, 32, some (.pair (.int .i64) (.lst .str)), [.int .i64 0, .nils], false⟩),
 (102, ⟨.struct [(0, 3), (1, 33)], 2, 32, some (.pair (.int .i64) (.lst .str)), [.int .i64 0, .nils], false⟩),
 (103, ⟨.slice 22, 1, 24, none, [.nils], false⟩),
 (104, ⟨.func, 1, 8, none, [.nilf], false⟩),
 (105, ⟨.func, 1, 8, none, [.nilf], false⟩),
 (106, ⟨.struct [(0, 3), (1, 9), (2, 3)], 3, 32, some (.pair (.int .i64) (.pair .str (.int .i64))), [.int .i64 0, .str [], .int .i64 0], false⟩),
 (107, ⟨.struct [(0, 3), (1, 9), (2, 3)], 3, 32, some (.pair (.int .i64) (.pair .str (.int .i64))), [.int .i64 0, .str [], .int .i64 0], false⟩),
 (108, ⟨.func, 1, 8, none, [.nilf], false⟩),
 (109, ⟨.func, 1, 8, none, [.nilf], false⟩),
 (111, ⟨.func, 1, 8, none, [.nilf], false⟩),
 (112, ⟨.func, 1, 8, none, [.nilf], false⟩),
 (113, ⟨.func, 1, 8, none, [.nilf], false⟩),
 (114, ⟨.func, 1, 8, none, [.nilf], false⟩),
 (115, ⟨.func, 1, 8, none, [.nilf], false⟩),
 (116, ⟨.func, 1, 8, none, [.nilf], false⟩),
 (117, ⟨.func, 1, 8, none, [.nilf], false⟩),
 (118, ⟨.func, 1, 8, none, [.nilf], false⟩),
 (119, ⟨.func, 1, 8, none, [.nilf], false⟩),
 (120, ⟨.func, 1, 8, none, [.nilf], false⟩),
 (121, ⟨.func, 1, 8, none, [.nilf], false⟩),
 (122, ⟨.func, 1, 8, none, [.nilf], false⟩),
 (123, ⟨.func, 1, 8, none, [.nilf], false⟩),
 (124, ⟨.func, 1, 8, none, [.nilf], false⟩),
 (125, ⟨.int .i64, 1, 8, some (.int .i64), [.int .i64 0], true⟩),
 (126, ⟨.int .u64, 1, 8, some (.int .u64), [.int .u64 0], false⟩),
 (128, ⟨.func, 1, 8, none, [.nilf], false⟩),
 (129, ⟨.ptr 153, 1, 8, none, [.nilp], false⟩),
 (130, ⟨.func, 1, 8, none, [.nilf], false⟩),
 (131, ⟨.func, 1, 8, none, [.nilf], false⟩),
 (132, ⟨.func, 1, 8, none, [.nilf], false⟩),
 (133, ⟨.func, 1, 8, none, [.nilf], false⟩),
 (134, ⟨.func, 1, 8, none, [.nilf], false⟩),
 (135, ⟨.array 24 5, 24, 24, none, [.int .u8 0, .int .u8 0, .int .u8 0, .int .u8 0, .int .u8 0, .int .u8 0, .int .u8 0, .int .u8 0, .int .u8 0, .int .u8 0, .int .u8 0, .int .u8 0, .int .u8 0, .int .u8 0, .int .u8 0, .int .u8 0, .int .u8 0, .int .u8 0, .int .u8 0, .int .u8 0, .int .u8 0, .int .u8 0, .int .u8 0, .int .u8 0], false⟩),
 (136, ⟨.func, 1, 8, none, [.nilf], false⟩),
 (137, ⟨.func, 1, 8, none, [.nilf], false⟩),
 (139, ⟨.func, 1, 8, none, [.nilf], false⟩),
 (140, ⟨.func, 1, 8, none, [.nilf], false⟩),
 (141, ⟨.func, 1, 8, none, [.nilf], false⟩),
 (145, ⟨.func, 1, 8, none, [.nilf], false⟩),
 (146, ⟨.func, 1, 8, none, [.nilf], false⟩),
 (147, ⟨.ptr 143, 1, 8, none, [.nilp], false⟩),
 (148, ⟨.func, 1, 8, none, [.nilf], false⟩),
 (149, ⟨.int .u32, 1, 4, some (.int .u32), [.int .u32 0], false⟩),
 (151, ⟨.func, 1, 8, none, [.nilf], false⟩),
 (152, ⟨.struct [(0, 9), (1, 9), (2, 69)], 3, 48, none, [.str [], .str [], .nili], false⟩),
 (153, ⟨.struct [(0, 9), (1, 9), (2, 69)], 3, 48, none, [.str [], .str [], .nili], false⟩),
 (154, ⟨.func, 1, 8, none, [.nilf], false⟩),
 (155, ⟨.func, 1, 8, none, [.nilf], false⟩),
 (156, ⟨.func, 1, 8, none, [.nilf], false⟩),
 (158, ⟨.func, 1, 8, none, [.nilf], false⟩),
 (159, ⟨.slice 184, 1, 24, none, [.nils], false⟩),
 (160, ⟨.func, 1, 8, none, [.nilf], false⟩),
 (161, ⟨.array 20 126, 20, 160, none, [.int .u64 0, .int .u64 0, .int .u64 0, .int .u64 0, .int .u64 0, .int .u64 0, .int .u64 0, .int .u64 0, .int .u64 0, .int .u64 0, .int .u64 0, .int .u64 0, .int .u64 0, .int .u64 0, .int .u64 0, .int .u64 0, .int .u64 0, .int .u64 0, .int .u64 0, .int .u64 0], false⟩),
 (162, ⟨.array 65 5, 65, 65, none, [.int .u8 0, .int .u8 0, .int .u8 0, .int .u8 0, .int .u8 0, .int .u8 0, .int .u8 0, .int .u8 0, .int .u8 0, .int .u8 0, .int .u8 0, .int .u8 0, .int .u8 0, .int .u8 0, .int .u8 0, .int .u8 0, .int .u8 0, .int .u8 0, .int .u8 0, .int .u8 0, .int .u8 0, .int .u8 0, .int .u8 0, .int .u8 0, .int .u8 0, .int .u8 0, .int .u8 0, .int .u8 0, .int .u8 0, .int .u8 0, .int .u8 0, .int .u8 0, .int .u8 0, .int .u8 0, .int .u8 0, .int .u8 0, .int .u8 0, .int .u8 0, .int .u8 0, .int .u8 0, .int .u8 0, .int .u8 0, .int .u8 0, .int .u8 0, .int .u8 0, .int .u8 0, .int .u8 0, .int .u8 0, .int .u8 0, .int .u8 0, .int .u8 0, .int .u8 0, .int .u8 0, .int .u8 0, .int .u8 0, .int .u8 0, .int .u8 0, .int .u8 0, .int .u8 0, .int .u8 0, .int .u8 0, .int .u8 0, .int .u8 0, .int .u8 0, .int .u8 0], false⟩),
 (163, ⟨.func, 1, 8, none, [.nilf], false⟩),
 (164, ⟨.func, 1, 8, none, [.nilf], false⟩),
 (165, ⟨.func, 1, 8, none, [.nilf], false⟩),
 (166, ⟨.func, 1, 8, none, [.nilf], false⟩),
 (167, ⟨.func, 1, 8, none, [.nilf], false⟩),
 (168, ⟨.ptr 170, 1, 8, none, [.nilp], false⟩),
 (169, ⟨.struct [(0, 9)], 1, 16, some (.str), [.str []], false⟩),
 (170, ⟨.struct [(0, 9)], 1, 16, some (.str), [.str []], false⟩),
 (172, ⟨.struct [(0, 5), (1, 5)], 2, 2, some (.pair .byte .byte), [.int .u8 0, .int .u8 0], false⟩),
 (173, ⟨.struct [(0, 5), (1, 5)], 2, 2, some (.pair .byte .byte), [.int .u8 0, .int .u8 0], false⟩),
 (174, ⟨.array 16 173, 32, 32, none, [.int .u8 0, .int .u8 0, .int .u8 0, .int .u8 0, .int .u8 0, .int .u8 0, .int .u8 0, .int .u8 0, .int .u8 0, .int .u8 0, .int .u8 0, .int .u8 0, .int .u8 0, .int .u8 0, .int .u8 0, .int .u8 0, .int .u8 0, .int .u8 0, .int .u8 0, .int .u8 0, .int .u8 0, .int .u8 0, .int .u8 0, .int .u8 0, .int .u8 0, .int .u8 0, .int .u8 0, .int .u8 0, .int .u8 0, .int .u8 0, .int .u8 0, .int .u8 0], false⟩),
 (175, ⟨.ptr 184, 1, 8, none, [.nilp], false⟩),
 (176, ⟨.func, 1, 8, none, [.nilf], false⟩),
 (177, ⟨.func, 1, 8, none, [.nilf], false⟩),
 (178, ⟨.func, 1, 8, none, [.nilf], false⟩),
 (179, ⟨.func, 1, 8, none, [.nilf], false⟩),
 (180, ⟨.func, 1, 8, none, [.nilf], false⟩),
 (181, ⟨.array 3 21, 3, 12, none, [.int .i32 0, .int .i32 0, .int .i32 0], false⟩),
 (182, ⟨.array 3 21, 3, 12, none, [.int .i32 0, .int .i32 0, .int .i32 0], false⟩),
 (183, ⟨.struct [(0, 149), (1, 149), (2, 182)], 5, 20, none, [.int .u32 0, .int .u32 0, .int .i32 0, .int .i32 0, .int .i32 0], false⟩),
 (184, ⟨.struct [(0, 149), (1, 149), (2, 182)], 5, 20, none, [.int .u32 0, .int .u32 0, .int .i32 0, .int .i32 0, .int .i32 0], false⟩),
 (185, ⟨.array 32 5, 32, 32, none, [.int .u8 0, .int .u8 0, .int .u8 0, .int .u8 0, .int .u8 0, .int .u8 0, .int .u8 0, .int .u8 0, .int .u8 0, .int .u8 0, .int .u8 0, .int .u8 0, .int .u8 0, .int .u8 0, .int .u8 0, .int .u8 0, .int .u8 0, .int .u8 0, .int .u8 0, .int .u8 0, .int .u8 0, .int .u8 0, .int .u8 0, .int .u8 0, .int .u8 0, .int .u8 0, .int .u8 0, .int .u8 0, .int .u8 0, .int .u8 0, .int .u8 0, .int .u8 0], false⟩),
 (186, ⟨.array 64 5, 64, 64, none, [.int .u8 0, .int .u8 0, .int .u8 0, .int .u8 0, .int .u8 0, .int .u8 0, .int .u8 0, .int .u8 0, .int .u8 0, .int .u8 0, .int .u8 0, .int .u8 0, .int .u8 0, .int .u8 0, .int .u8 0, .int .u8 0, .int .u8 0, .int .u8 0, .int .u8 0, .int .u8 0, .int .u8 0, .int .u8 0, .int .u8 0, .int .u8 0, .int .u8 0, .int .u8 0, .int .u8 0, .int .u8 0, .int .u8 0, .int .u8 0, .int .u8 0, .int .u8 0, .int .u8 0, .int .u8 0, .int .u8 0, .int .u8 0, .int .u8 0, .int .u8 0, .int .u8 0, .int .u8 0, .int .u8 0, .int .u8 0, .int .u8 0, .int .u8 0, .int .u8 0, .int .u8 0, .int .u8 0, .int .u8 0, .int .u8 0, .int .u8 0, .int .u8 0, .int .u8 0, .int .u8 0, .int .u8 0, .int .u8 0, .int .u8 0, .int .u8 0, .int .u8 0, .int .u8 0, .int .u8 0, .int .u8 0, .int .u8 0, .int .u8 0, .int .u8 0], false⟩),
 (187, ⟨.struct [(0, 17), (1, 17), (2, 17), (3, 9)], 4, 40, none, [.nilp, .nilp, .nilp, .str []], false⟩),
 (188, ⟨.struct [(0, 17), (1, 17), (2, 17), (3, 9)], 4, 40, none, [.nilp, .nilp, .nilp, .str []], false⟩),
 (189, ⟨.array 0 16, 0, 0, none, [], false⟩),
 (190, ⟨.struct [(0, 189)], 0, 0, none, [], false⟩),
 (191, ⟨.struct [(0, 189)], 0, 0, none, [], false⟩),
 (192, ⟨.int .u8, 1, 1, some (.byte), [.int .u8 0], false⟩),
 (193, ⟨.int .u8, 1, 1, some (.byte), [.int .u8 0], false⟩),
 (194, ⟨.func, 1, 8, none, [.nilf], false⟩),
 (195, ⟨.int .i32, 1, 4, some (.int .i32), [.int .i32 0], false⟩),
 (196, ⟨.int .i32, 1, 4, some (.int .i32), [.int .i32 0], false⟩),
 (197, ⟨.struct [(0, 12), (1, 12), (2, 149), (3, 192), (4, 5), (5, 5), (6, 193), (7, 194), (8, 90), (9, 195), (10, 196)], 11, 48, none, [.int .u64 0, .int .u64 0, .int .u32 0, .int .u8 0, .int .u8 0, .int .u8 0, .int .u8 0, .nilf, .nilp, .int .i32 0, .int .i32 0], false⟩),
 (198, ⟨.struct [(0, 12), (1, 12), (2, 149), (3, 192), (4, 5), (5, 5), (6, 193), (7, 194), (8, 90), (9, 195), (10, 196)], 11, 48, none, [.int .u64 0, .int .u64 0, .int .u32 0, .int .u8 0, .int .u8 0, .int .u8 0, .int .u8 0, .nilf, .nilp, .int .i32 0, .int .i32 0], false⟩)]
def Γ : Tys := fun t => Ae.look t Γl
theorem hΓ : GOk Tryz.prog Γ := gok_of (by kernel_rfl)
theorem hm : Tryz.prog.follows .mixedOrders = true := by kernel_rfl
def f148_ins : List Sh := [.str, .int .u8]
def f148_outs : Outs := [(.ret, [.int .i64])]
def f91_ins : List Sh := [.str, .str, .int .i64, .int .i64, .iface 125, .int .i64]
def f91_outs : Outs := [(.ret, [.iface 129, .top])]
def f162_ins : List Sh := [.int .u64]
def f162_outs : Outs := [(.ret, [.int .i64])]
def f67_ins : List Sh := [.str]
def f67_outs : Outs := [(.ret, [.str])]
def f66_ins : List Sh := [.ptr 0 0, .obld 67 1, .orow 5 .byte]
def f66_outs : Outs := [(.ret, [.tuple 0, .obld 67 1, .orow 5 .byte])]
def f35_ins : List Sh := [.ptr 0 0, .obld 67 1, .orow 5 .byte]
def f35_outs : Outs := [(.ret, [.str, .odead, .odead])]
def f38_ins : List Sh := [.int .i64]
def f38_outs : Outs := [(.ret, [.str])]
def f169_ins : List Sh := [.str, .int .u8]
def f169_outs : Outs := [(.ret, [.int .i64])]
def f101_ins : List Sh := [.str, .str]
def f101_outs : Outs := [(.ret, [.str])]
def f84_ins : List Sh := [.str, .str, .str]
def f84_outs : Outs := [(.ret, [.str])]
def f83_ins : List Sh := [.str]
def f83_outs : Outs := [(.ret, [.tuple 2, .int .i64, .nili]), (.ret, [.tuple 2, .int .i64, .iface 129, .top])]
def f24_ins : List Sh := [.int .i32]
def f24_outs : Outs := [(.ret, [.bool])]
def f82_ins : List Sh := [.str, .str]
def f82_outs : Outs := [(.ret, [.bool])]
def f61_ins : List Sh := [.str, .str]
def f61_outs : Outs := [(.ret, [.tuple 2, .str, .bool])]
def f25_ins : List Sh := [.str, .str]
def f25_outs : Outs := [(.ret, [.tuple 2, .str, .bool])]
def f115_ins : List Sh := [.str, .int .u8]
def f115_outs : Outs := [(.ret, [.int .i64])]
def f89_ins : List Sh := [.str, .str]
def f89_outs : Outs := [(.ret, [.int .i64])]
def f89_c0_ins : List Sh := (List.cons (.str) (List.cons (.str) (tp 3 (List.cons (.int .i64) (tp 10 (List.cons (.bool) (tp 126 [])))))))
def f89_c0_outs : Outs := [(.ret, (tp 4 (List.cons (.int .i64) (tp 138 []))))]
def f62_ins : List Sh := [.str, .str]
def f62_outs : Outs := [(.ret, [.tuple 3, .str, .str, .bool])]
def f26_ins : List Sh := [.str, .str]
def f26_outs : Outs := [(.ret, [.tuple 3, .str, .str, .bool])]
def f150_ins : List Sh := [.int .u8]
def f150_outs : Outs := [(.ret, [.int .u8])]
def f151_ins : List Sh := [.str]
def f151_outs : Outs := [(.ret, [.bool])]
def f151_l0_ins : List Sh := (List.cons (.str) (List.cons (.top) (List.cons (.top) (List.cons (.int .i32) (List.cons (.int .i64) (List.cons (.bool) (tp 88 [])))))))
def f151_l0_outs : Outs := [((.exit 0), (tp 3 (List.cons (.int .i32) (tp 90 [])))), (.ret, (List.cons (.top) (List.cons (.top) (List.cons (.bool) (tp 91 [])))))]
def f151_c0_ins : List Sh := (List.cons (.str) (List.cons (.top) (List.cons (.top) (List.cons (.int .i32) (List.cons (.int .i64) (List.cons (.bool) (tp 88 [])))))))
def f151_c0_outs : Outs := [(.ret, (List.cons (.top) (List.cons (.top) (List.cons (.bool) (tp 91 [])))))]
def f151_c1_ins : List Sh := (List.cons (.str) (List.cons (.top) (List.cons (.top) (List.cons (.int .i32) (List.cons (.int .i64) (tp 89 []))))))
def f151_c1_outs : Outs := [(.ret, (List.cons (.top) (List.cons (.top) (List.cons (.bool) (tp 91 [])))))]
def f119_ins : List Sh := [.str, .int .i64, .int .i64]
def f119_outs : Outs := [(.ret, [.tuple 2, .int .u64, .iface 125, .int .i64]), (.ret, [.tuple 2, .int .u64, .nili])]
def f119_c0_ins : List Sh := (List.cons (.str) (List.cons (.top) (List.cons (.int .i64) (tp 5 (List.cons (.bool) (List.cons (.str) (tp 54 (List.cons (.bool) (tp 107 [])))))))))
def f119_c0_outs : Outs := [(.normal, (List.cons (.str) (List.cons (.int .i64) (List.cons (.int .i64) (tp 5 (List.cons (.bool) (List.cons (.str) (tp 162 []))))))))]
def f119_c1_ins : List Sh := (List.cons (.str) (List.cons (.top) (List.cons (.int .i64) (tp 5 (List.cons (.bool) (List.cons (.str) (tp 42 (List.cons (.bool) (tp 119 [])))))))))
def f119_c1_outs : Outs := [(.normal, (List.cons (.str) (List.cons (.int .i64) (List.cons (.int .i64) (tp 5 (List.cons (.bool) (List.cons (.str) (tp 162 []))))))))]
def f119_c2_ins : List Sh := (List.cons (.str) (List.cons (.top) (List.cons (.int .i64) (tp 5 (List.cons (.bool) (List.cons (.str) (tp 30 (List.cons (.bool) (tp 131 [])))))))))
def f119_c2_outs : Outs := [(.normal, (List.cons (.str) (List.cons (.int .i64) (List.cons (.int .i64) (tp 5 (List.cons (.bool) (List.cons (.str) (tp 162 []))))))))]
def f119_c3_ins : List Sh := (List.cons (.str) (List.cons (.int .i64) (List.cons (.int .i64) (tp 5 (List.cons (.bool) (List.cons (.str) (tp 15 (List.cons (.bool) (tp 146 [])))))))))
def f119_c3_outs : Outs := [(.normal, (List.cons (.str) (List.cons (.int .i64) (List.cons (.int .i64) (tp 5 (List.cons (.bool) (List.cons (.str) (tp 162 [])))))))), (.ret, (tp 6 (List.cons (.int .u64) (List.cons (.iface 125) (List.cons (.int .i64) (tp 164 []))))))]
def f119_c4_ins : List Sh := (List.cons (.top) (List.cons (.int .i64) (tp 6 (List.cons (.bool) (List.cons (.str) (List.cons (.int .u64) (List.cons (.int .u64) (List.cons (.bool) (List.cons (.int .u64) (List.cons (.top) (List.cons (.int .u8) (tp 83 (List.cons (.lst .byte) (List.cons (.int .i64) (List.cons (.int .i64) (tp 19 (List.cons (.bool) (tp 50 []))))))))))))))))))
def f119_c4_outs : Outs := [(.normal, (List.cons (.top) (List.cons (.int .i64) (tp 6 (List.cons (.bool) (List.cons (.str) (List.cons (.int .u64) (List.cons (.int .u64) (List.cons (.bool) (List.cons (.int .u64) (List.cons (.top) (List.cons (.top) (List.cons (.int .u8) (tp 82 (List.cons (.lst .byte) (List.cons (.int .i64) (List.cons (.int .i64) (tp 70 [])))))))))))))))))), (.ret, (tp 6 (List.cons (.int .u64) (List.cons (.iface 125) (List.cons (.int .i64) (tp 164 []))))))]
def f119_c5_ins : List Sh := (List.cons (.top) (List.cons (.int .i64) (tp 6 (List.cons (.bool) (List.cons (.str) (List.cons (.int .u64) (List.cons (.int .u64) (List.cons (.bool) (List.cons (.int .u64) (List.cons (.top) (List.cons (.int .u8) (tp 83 (List.cons (.lst .byte) (List.cons (.int .i64) (List.cons (.int .i64) (tp 10 (List.cons (.bool) (tp 59 []))))))))))))))))))
def f119_c5_outs : Outs := [(.normal, (List.cons (.top) (List.cons (.int .i64) (tp 6 (List.cons (.bool) (List.cons (.str) (List.cons (.int .u64) (List.cons (.int .u64) (List.cons (.bool) (List.cons (.int .u64) (List.cons (.top) (List.cons (.top) (List.cons (.int .u8) (tp 82 (List.cons (.lst .byte) (List.cons (.int .i64) (List.cons (.int .i64) (tp 70 [])))))))))))))))))), (.ret, (tp 6 (List.cons (.int .u64) (List.cons (.iface 125) (List.cons (.int .i64) (tp 164 []))))))]
def f119_c6_ins : List Sh := (List.cons (.top) (List.cons (.int .i64) (tp 6 (List.cons (.bool) (List.cons (.str) (List.cons (.int .u64) (List.cons (.int .u64) (List.cons (.bool) (List.cons (.int .u64) (List.cons (.top) (List.cons (.int .u8) (tp 83 (List.cons (.lst .byte) (List.cons (.int .i64) (List.cons (.int .i64) (tp 4 (List.cons (.bool) (tp 65 []))))))))))))))))))
def f119_c6_outs : Outs := [((.exit 4), (List.cons (.top) (List.cons (.int .i64) (tp 6 (List.cons (.bool) (List.cons (.str) (List.cons (.int .u64) (List.cons (.int .u64) (List.cons (.bool) (List.cons (.int .u64) (tp 85 (List.cons (.lst .byte) (List.cons (.int .i64) (List.cons (.int .i64) (tp 70 []))))))))))))))), (.normal, (List.cons (.top) (List.cons (.int .i64) (tp 6 (List.cons (.bool) (List.cons (.str) (List.cons (.int .u64) (List.cons (.int .u64) (List.cons (.bool) (List.cons (.int .u64) (List.cons (.top) (List.cons (.top) (List.cons (.int .u8) (tp 82 (List.cons (.lst .byte) (List.cons (.int .i64) (List.cons (.int .i64) (tp 70 [])))))))))))))))))), (.ret, (tp 6 (List.cons (.int .u64) (List.cons (.iface 125) (List.cons (.int .i64) (tp 164 []))))))]
def f119_l0_ins : List Sh := (List.cons (.top) (List.cons (.int .i64) (tp 6 (List.cons (.bool) (List.cons (.str) (List.cons (.int .u64) (List.cons (.int .u64) (List.cons (.bool) (List.cons (.int .u64) (tp 85 (List.cons (.lst .byte) (List.cons (.int .i64) (List.cons (.int .i64) (tp 70 []))))))))))))))
def f119_l0_outs : Outs := [((.exit 3), (tp 9 (List.cons (.str) (List.cons (.top) (List.cons (.top) (List.cons (.bool) (List.cons (.int .u64) (tp 158 [])))))))), (.ret, (tp 6 (List.cons (.int .u64) (List.cons (.iface 125) (List.cons (.int .i64) (tp 164 []))))))]
def f119_c7_ins : List Sh := (List.cons (.str) (List.cons (.int .i64) (List.cons (.int .i64) (tp 5 (List.cons (.bool) (List.cons (.str) (List.cons (.int .u64) (tp 161 []))))))))
def f119_c7_outs : Outs := [(.ret, (tp 6 (List.cons (.int .u64) (List.cons (.iface 125) (List.cons (.int .i64) (tp 164 [])))))), (.ret, (tp 6 (List.cons (.int .u64) (List.cons (.nili) (tp 164 [])))))]
def f119_c8_ins : List Sh := (List.cons (.str) (List.cons (.int .i64) (List.cons (.int .i64) (tp 5 (List.cons (.bool) (List.cons (.str) (tp 162 [])))))))
def f119_c8_outs : Outs := [(.ret, (tp 6 (List.cons (.int .u64) (List.cons (.iface 125) (List.cons (.int .i64) (tp 164 [])))))), (.ret, (tp 6 (List.cons (.int .u64) (List.cons (.nili) (tp 164 [])))))]
def f90_ins : List Sh := [.str, .int .i64, .int .i64]
def f90_outs : Outs := [(.ret, [.tuple 2, .int .i64, .iface 125, .int .i64]), (.ret, [.tuple 2, .int .i64, .nili])]
def f90_c0_ins : List Sh := (List.cons (.top) (List.cons (.top) (List.cons (.int .i64) (tp 5 (List.cons (.bool) (List.cons (.int .u64) (tp 63 [])))))))
def f90_c0_outs : Outs := [(.ret, (tp 6 (List.cons (.int .i64) (List.cons (.iface 125) (List.cons (.int .i64) (tp 65 [])))))), (.ret, (tp 6 (List.cons (.int .i64) (List.cons (.nili) (tp 65 [])))))]
def f90_c1_ins : List Sh := (List.cons (.str) (List.cons (.int .i64) (List.cons (.int .i64) (tp 5 (List.cons (.bool) (tp 64 []))))))
def f90_c1_outs : Outs := [(.ret, (tp 6 (List.cons (.int .i64) (List.cons (.iface 125) (List.cons (.int .i64) (tp 65 [])))))), (.ret, (tp 6 (List.cons (.int .i64) (List.cons (.nili) (tp 65 [])))))]
def f63_ins : List Sh := [.str, .int .i64, .int .i64]
def f63_outs : Outs := [(.ret, [.tuple 2, .int .i64, .iface 129, .top]), (.ret, [.tuple 2, .int .i64, .nili])]
def f130_ins : List Sh := [.int .i64]
def f130_outs : Outs := [(.ret, [.str])]
def f161_ins : List Sh := [.int .i64]
def f161_outs : Outs := [(.ret, [.bool])]
def f133_ins : List Sh := [.lst .byte, .int .u64, .int .i64, .bool, .bool]
def f133_outs : Outs := [(.ret, [.tuple 2, .lst .byte, .str])]
def f133_l0_ins : List Sh := (List.cons (.lst .byte) (List.cons (.int .u64) (List.cons (.top) (List.cons (.bool) (List.cons (.bool) (tp 5 (List.cons (.nils) (List.cons (.str) (List.cons (.ptr 0 0) (List.cons (.int .i64) (List.cons (.int .u64) (List.cons (.int .u64) (List.cons (.int .u64) (tp 85 (List.cons (.oarr 5 .byte) [])))))))))))))))
def f133_l0_outs : Outs := [((.exit 0), (List.cons (.lst .byte) (List.cons (.int .u64) (List.cons (.top) (List.cons (.bool) (List.cons (.bool) (tp 5 (List.cons (.nils) (List.cons (.str) (List.cons (.ptr 0 0) (List.cons (.int .i64) (tp 88 (List.cons (.oarr 5 .byte) [])))))))))))))]
def f133_l1_ins : List Sh := (List.cons (.lst .byte) (List.cons (.int .u64) (List.cons (.top) (List.cons (.bool) (List.cons (.bool) (tp 5 (List.cons (.nils) (List.cons (.str) (List.cons (.ptr 0 0) (List.cons (.int .i64) (tp 3 (List.cons (.int .u64) (tp 84 (List.cons (.oarr 5 .byte) []))))))))))))))
def f133_l1_outs : Outs := [((.exit 2), (List.cons (.lst .byte) (List.cons (.int .u64) (List.cons (.top) (List.cons (.bool) (List.cons (.bool) (tp 5 (List.cons (.nils) (List.cons (.str) (List.cons (.ptr 0 0) (List.cons (.int .i64) (tp 88 (List.cons (.oarr 5 .byte) [])))))))))))))]
def f133_c0_ins : List Sh := (List.cons (.lst .byte) (tp 3 (List.cons (.bool) (tp 5 (List.cons (.nils) (List.cons (.str) (List.cons (.ptr 0 0) (List.cons (.int .i64) (tp 88 (List.cons (.oarr 5 .byte) []))))))))))
def f133_c0_outs : Outs := [(.ret, (tp 10 (List.cons (.nils) (List.cons (.str) (tp 90 [])))))]
def f133_c1_ins : List Sh := (List.cons (.lst .byte) (List.cons (.top) (List.cons (.top) (List.cons (.bool) (List.cons (.bool) (tp 5 (List.cons (.nils) (List.cons (.str) (List.cons (.ptr 0 0) (List.cons (.int .i64) (tp 88 (List.cons (.oarr 5 .byte) []))))))))))))
def f133_c1_outs : Outs := [(.ret, (tp 10 (List.cons (.nils) (List.cons (.str) (tp 90 [])))))]
def f133_c2_ins : List Sh := (List.cons (.lst .byte) (List.cons (.int .u64) (List.cons (.int .i64) (List.cons (.bool) (List.cons (.bool) (tp 5 (List.cons (.nils) (List.cons (.str) (List.cons (.ptr 0 0) (List.cons (.int .i64) (tp 88 (List.cons (.oarr 5 .byte) []))))))))))))
def f133_c2_outs : Outs := [(.ret, (tp 10 (List.cons (.nils) (List.cons (.str) (tp 90 [])))))]
def f97_ins : List Sh := [.int .i64, .int .i64]
def f97_outs : Outs := [(.ret, [.str])]
def f97_c0_ins : List Sh := (List.cons (.int .i64) (tp 4 (List.cons (.ptr 0 0) (List.cons (.int .u64) (tp 47 (List.cons (.oarr 5 .byte) []))))))
def f97_c0_outs : Outs := []
def f68_ins : List Sh := [.int .i64, .int .i64]
def f68_outs : Outs := [(.ret, [.str])]
def f34_ins : List Sh := [.int .i64]
def f34_outs : Outs := [(.ret, [.str])]
def f27_ins : List Sh := [.str]
def f27_outs : Outs := [(.ret, [.int .i32])]
def f85_ins : List Sh := [.int .i32]
def f85_outs : Outs := [(.ret, [.bool])]
def f58_ins : List Sh := [.int .i32]
def f58_outs : Outs := [(.ret, [.int .i64])]
def f28_ins : List Sh := [.lst (.int .i32)]
def f28_outs : Outs := [(.ret, [.tuple 2, .str, .bool])]
def f28_l0_ins : List Sh := (tp 4 (List.cons (.row 0) (List.cons (.top) (List.cons (.top) (List.cons (.lst (.int .i32)) (List.cons (.int .i64) (List.cons (.int .i64) (tp 71 (List.cons (.orow 5 .byte) [])))))))))
def f28_l0_outs : Outs := [((.exit 0), (tp 4 (List.cons (.row 0) (tp 76 (List.cons (.orow 5 .byte) []))))), (.ret, (List.cons (.top) (List.cons (.top) (List.cons (.str) (List.cons (.bool) (tp 77 []))))))]
def f9_ins : List Sh := [.str]
def f9_outs : Outs := [(.ret, [.tuple 2, .str, .bool])]
def f9_l0_ins : List Sh := (List.cons (.str) (tp 3 (List.cons (.row 0) (tp 52 (List.cons (.orow 21 (.int .i32)) [])))))
def f9_l0_outs : Outs := [((.exit 0), (tp 4 (List.cons (.row 0) (tp 52 (List.cons (.orow 21 (.int .i32)) []))))), (.ret, (List.cons (.top) (List.cons (.top) (List.cons (.str) (List.cons (.bool) (tp 53 []))))))]
def f57_ins : List Sh := [.int .u8]
def f57_outs : Outs := [(.ret, [.tuple 2, .int .i64, .int .i32])]
def f57_c0_ins : List Sh := (List.cons (.int .u8) (tp 18 (List.cons (.bool) (tp 19 []))))
def f57_c0_outs : Outs := [(.ret, (List.cons (.top) (List.cons (.top) (List.cons (.int .i64) (List.cons (.int .i32) (tp 35 [])))))), (.normal, (tp 39 []))]
def f57_c1_ins : List Sh := (List.cons (.int .u8) (tp 8 (List.cons (.bool) (tp 29 []))))
def f57_c1_outs : Outs := [(.ret, (List.cons (.top) (List.cons (.top) (List.cons (.int .i64) (List.cons (.int .i32) (tp 35 [])))))), (.normal, (tp 39 []))]
def f21_ins : List Sh := [.str]
def f21_outs : Outs := [(.ret, [.tuple 2, .lst (.int .i32), .int .i64])]
def f21_l0_ins : List Sh := (List.cons (.str) (tp 3 (List.cons (.row 0) (List.cons (.int .i64) (List.cons (.int .i32) (List.cons (.int .i64) (List.cons (.int .i64) (tp 59 (List.cons (.orow 21 (.int .i32)) [])))))))))
def f21_l0_outs : Outs := [((.exit 2), (List.cons (.str) (tp 3 (List.cons (.row 0) (List.cons (.int .i64) (List.cons (.int .i32) (List.cons (.int .i64) (tp 60 (List.cons (.orow 21 (.int .i32)) []))))))))), ((.goto 0), (tp 4 (List.cons (.row 0) (List.cons (.top) (List.cons (.top) (List.cons (.int .i64) (tp 60 (List.cons (.orow 21 (.int .i32)) []))))))))]
def f21_l1_ins : List Sh := (List.cons (.str) (tp 3 (List.cons (.row 0) (List.cons (.top) (List.cons (.top) (List.cons (.int .i64) (tp 60 (List.cons (.orow 21 (.int .i32)) []))))))))
def f21_l1_outs : Outs := [((.exit 0), (tp 4 (List.cons (.row 0) (tp 63 (List.cons (.orow 21 (.int .i32)) []))))), ((.goto 0), (tp 4 (List.cons (.row 0) (List.cons (.top) (List.cons (.top) (List.cons (.int .i64) (tp 60 (List.cons (.orow 21 (.int .i32)) []))))))))]
def f21_g0_ins : List Sh := (tp 4 (List.cons (.row 0) (List.cons (.top) (List.cons (.top) (List.cons (.int .i64) (tp 60 (List.cons (.orow 21 (.int .i32)) [])))))))
def f21_g0_outs : Outs := [(.ret, (List.cons (.top) (List.cons (.top) (List.cons (.row 0) (List.cons (.int .i64) (tp 64 (List.cons (.orow 21 (.int .i32)) [])))))))]
def f32_ins : List Sh := [.ptr 0 0, .int .u8, .obld 67 1, .orow 5 .byte]
def f32_outs : Outs := [(.ret, [.nili, .obld 67 2, .odead, .orow 5 .byte])]
def f33_ins : List Sh := [.ptr 0 0, .str, .obld 67 1, .orow 5 .byte]
def f33_outs : Outs := [(.ret, [.tuple 2, .int .i64, .nili, .obld 67 2, .odead, .orow 5 .byte])]
def f11_ins : List Sh := [.str]
def f11_outs : Outs := [(.ret, [.str])]
def f11_l0_ins : List Sh := (List.cons (.str) (List.cons (.top) (List.cons (.top) (List.cons (.ptr 0 0) (List.cons (.top) (List.cons (.int .i64) (tp 9 (List.cons (.lst (.int .i32)) (List.cons (.int .i64) (List.cons (.int .i64) (tp 34 (List.cons (.obld 67 1) (List.cons (.orow 5 .byte) [])))))))))))))
def f11_l0_outs : Outs := [((.exit 0), (List.cons (.str) (List.cons (.top) (List.cons (.top) (List.cons (.ptr 0 0) (List.cons (.top) (List.cons (.int .i64) (tp 46 (List.cons (.obld 67 1) (List.cons (.orow 5 .byte) []))))))))))]
def f11_l1_ins : List Sh := (tp 3 (List.cons (.ptr 0 0) (tp 34 (List.cons (.lst .byte) (List.cons (.int .i64) (List.cons (.int .i64) (tp 11 (List.cons (.obld 67 1) (List.cons (.orow 5 .byte) [])))))))))
def f11_l1_outs : Outs := [((.exit 2), (tp 3 (List.cons (.ptr 0 0) (tp 48 (List.cons (.obld 67 1) (List.cons (.orow 5 .byte) []))))))]
def f111_ins : List Sh := [.int .u8]
def f111_outs : Outs := [(.ret, [.int .u8])]
def f110_ins : List Sh := [.lst .byte, .func (.func 111) 0 0]
def f110_outs : Outs := [(.ret, [.lst .byte])]
def f110_l0_ins : List Sh := (List.cons (.top) (List.cons (.func (.func 111) 0 0) (tp 3 (List.cons (.row 0) (List.cons (.top) (List.cons (.top) (List.cons (.lst .byte) (List.cons (.int .i64) (List.cons (.int .i64) (tp 11 (List.cons (.orow 5 .byte) [])))))))))))
def f110_l0_outs : Outs := [((.exit 0), (tp 5 (List.cons (.row 0) (tp 16 (List.cons (.orow 5 .byte) [])))))]
def f86_ins : List Sh := [.str]
def f86_outs : Outs := [(.ret, [.str])]
def f59_ins : List Sh := [.agg 3, .bool, .str, .str]
def f59_outs : Outs := [(.ret, [.bool])]
def f168_ins : List Sh := [.str]
def f168_outs : Outs := [(.ret, [.int .i64])]
def f168_l0_ins : List Sh := (List.cons (.top) (List.cons (.top) (List.cons (.int .i64) (List.cons (.top) (List.cons (.ptr 0 0) (tp 5 (List.cons (.oiter) [])))))))
def f168_l0_outs : Outs := [((.exit 0), (List.cons (.top) (List.cons (.top) (List.cons (.int .i64) (tp 7 [])))))]
def f155_ins : List Sh := [.str]
def f155_outs : Outs := [(.ret, [.tuple 2, .int .i32, .int .i64])]
def f125_ins : List Sh := [.str]
def f125_outs : Outs := [(.ret, [.tuple 2, .int .i32, .int .i64])]
def f125_c0_ins : List Sh := (List.cons (.str) (tp 9 (List.cons (.bool) (tp 8 []))))
def f125_c0_outs : Outs := [(.ret, (List.cons (.top) (List.cons (.top) (List.cons (.int .i32) (List.cons (.int .i64) (tp 15 [])))))), (.normal, (List.cons (.top) (List.cons (.top) (List.cons (.int .i32) (List.cons (.int .i64) (tp 15 []))))))]
def f170_ins : List Sh := [.str, .int .i64]
def f170_outs : Outs := [(.ret, [.lst .str])]
def f170_l0_ins : List Sh := (List.cons (.str) (List.cons (.int .i64) (tp 4 (List.cons (.row 0) (List.cons (.int .i64) (tp 42 (List.cons (.orow 9 .str) [])))))))
def f170_l0_outs : Outs := [((.exit 0), (List.cons (.str) (List.cons (.int .i64) (tp 4 (List.cons (.row 0) (tp 43 (List.cons (.orow 9 .str) [])))))))]
def f170_c0_ins : List Sh := (List.cons (.str) (List.cons (.int .i64) (tp 48 [])))
def f170_c0_outs : Outs := [(.ret, (tp 4 (List.cons (.row 0) (tp 45 (List.cons (.orow 9 .str) [])))))]
def f145_ins : List Sh := [.str, .str]
def f145_outs : Outs := [(.ret, [.int .i64])]
def f144_ins : List Sh := [.str, .str]
def f144_outs : Outs := [(.ret, [.int .i64])]
def f144_l0_ins : List Sh := (List.cons (.str) (List.cons (.str) (tp 3 (List.cons (.int .i64) (tp 28 [])))))
def f144_l0_outs : Outs := [(.ret, (tp 4 (List.cons (.int .i64) (tp 29 []))))]
def f146_ins : List Sh := [.str, .str, .int .i64, .int .i64]
def f146_outs : Outs := [(.ret, [.lst .str])]
def f146_l0_ins : List Sh := (List.cons (.str) (List.cons (.str) (List.cons (.int .i64) (List.cons (.int .i64) (tp 5 (List.cons (.row 0) (List.cons (.int .i64) (tp 55 (List.cons (.orow 9 .str) [])))))))))
def f146_l0_outs : Outs := [((.exit 0), (List.cons (.str) (tp 8 (List.cons (.row 0) (List.cons (.int .i64) (tp 55 (List.cons (.orow 9 .str) [])))))))]
def f146_c0_ins : List Sh := (List.cons (.str) (List.cons (.str) (List.cons (.int .i64) (List.cons (.int .i64) (tp 62 [])))))
def f146_c0_outs : Outs := [(.ret, (tp 8 (List.cons (.lst .str) (tp 57 []))))]
def f112_ins : List Sh := [.str, .str]
def f112_outs : Outs := [(.ret, [.lst .str])]
def f99_ins : List Sh := [.str, .int .u8]
def f99_outs : Outs := [(.ret, [.int .i64])]
def f147_ins : List Sh := [.int .u8]
def f147_outs : Outs := [(.ret, [.bool])]
def f147_c0_ins : List Sh := (List.cons (.int .u8) (List.cons (.top) (List.cons (.top) (List.cons (.bool) (tp 23 [])))))
def f147_c0_outs : Outs := [(.normal, (List.cons (.int .u8) (List.cons (.top) (List.cons (.top) (List.cons (.bool) (tp 23 []))))))]
def f147_c1_ins : List Sh := (List.cons (.int .u8) (List.cons (.top) (List.cons (.top) (List.cons (.bool) (tp 23 [])))))
def f147_c1_outs : Outs := [(.normal, (List.cons (.int .u8) (List.cons (.top) (List.cons (.top) (List.cons (.bool) (tp 23 []))))))]
def f113_ins : List Sh := [.str]
def f113_outs : Outs := [(.ret, [.bool])]
def f113_l0_ins : List Sh := (List.cons (.str) (tp 4 (List.cons (.int .i64) (List.cons (.int .i64) (tp 10 [])))))
def f113_l0_outs : Outs := [((.exit 0), (List.cons (.str) (tp 16 []))), (.ret, (List.cons (.top) (List.cons (.top) (List.cons (.bool) (tp 14 [])))))]
def f87_ins : List Sh := [.str]
def f87_outs : Outs := [(.ret, [.bool])]
def f87_l0_ins : List Sh := (tp 6 (List.cons (.lst .str) (List.cons (.int .i64) (List.cons (.int .i64) (tp 7 [])))))
def f87_l0_outs : Outs := [((.exit 0), (tp 16 [])), (.ret, (List.cons (.top) (List.cons (.top) (List.cons (.bool) (tp 13 [])))))]
def f114_ins : List Sh := [.str]
def f114_outs : Outs := [(.ret, [.str])]
def f114_l0_ins : List Sh := (List.cons (.str) (List.cons (.top) (List.cons (.top) (List.cons (.row 0) (List.cons (.top) (List.cons (.top) (List.cons (.int .i64) (List.cons (.int .i64) (tp 24 (List.cons (.orow 5 .byte) []))))))))))
def f114_l0_outs : Outs := [((.exit 0), (tp 3 (List.cons (.row 0) (tp 28 (List.cons (.orow 5 .byte) [])))))]
def f88_ins : List Sh := [.agg 3, .int .i64, .str, .int .i64]
def f88_outs : Outs := [(.ret, [.str])]
def f60_ins : List Sh := [.agg 2, .str, .str]
def f60_outs : Outs := [(.ret, [.str])]
def f23_ins : List Sh := [.agg 3, .bool, .str, .str]
def f23_outs : Outs := [(.ret, [.str])]
def f13_ins : List Sh := [.int .i64]
def f13_outs : Outs := [(.ret, [.str])]
def f71_ins : List Sh := [.lst .str]
def f71_outs : Outs := [(.ret, [.int .i64])]
def f71_g0_ins : List Sh := (List.cons (.lst .str) (List.cons (.top) (List.cons (.top) (List.cons (.int .i64) (tp 14 [])))))
def f71_g0_outs : Outs := [(.ret, (List.cons (.top) (List.cons (.top) (List.cons (.int .i64) (tp 15 [])))))]
def f22_ins : List Sh := [.str]
def f22_outs : Outs := [(.ret, [.int .i64])]
def f22_l0_ins : List Sh := (List.cons (.str) (tp 4 (List.cons (.int .i64) (List.cons (.int .i64) (tp 8 [])))))
def f22_l0_outs : Outs := [((.exit 0), (tp 15 [])), (.ret, (List.cons (.top) (List.cons (.top) (List.cons (.int .i64) (tp 12 [])))))]
def f73_ins : List Sh := [.str]
def f73_outs : Outs := [(.ret, [.bool])]
def f98_ins : List Sh := [.lst .str, .func (.func 73) 0 0]
def f98_outs : Outs := [(.ret, [.int .i64])]
def f98_l0_ins : List Sh := (List.cons (.lst .str) (List.cons (.func (.func 73) 0 0) (tp 5 (List.cons (.int .i64) (List.cons (.int .i64) (tp 10 []))))))
def f98_l0_outs : Outs := [((.exit 0), (tp 19 [])), (.ret, (tp 4 (List.cons (.int .i64) (tp 14 []))))]
def f72_ins : List Sh := [.lst .str, .func (.func 73) 0 0]
def f72_outs : Outs := [(.ret, [.bool])]
def f74_ins : List Sh := [.str]
def f74_outs : Outs := [(.ret, [.bool])]
def f98v1_ins : List Sh := [.lst .str, .func (.func 74) 0 0]
def f98v1_outs : Outs := [(.ret, [.int .i64])]
def f98v1_l0_ins : List Sh := (List.cons (.lst .str) (List.cons (.func (.func 74) 0 0) (tp 5 (List.cons (.int .i64) (List.cons (.int .i64) (tp 10 []))))))
def f98v1_l0_outs : Outs := [((.exit 0), (tp 19 [])), (.ret, (tp 4 (List.cons (.int .i64) (tp 14 []))))]
def f72v1_ins : List Sh := [.lst .str, .func (.func 74) 0 0]
def f72v1_outs : Outs := [(.ret, [.bool])]
def f134_ins : List Sh := [.int .i32]
def f134_outs : Outs := [(.ret, [.bool])]
def f176_ins : List Sh := [.str, .func (.func 134) 0 0, .bool]
def f176_outs : Outs := [(.ret, [.int .i64])]
def f176_l0_ins : List Sh := (List.cons (.top) (List.cons (.func (.func 134) 0 0) (List.cons (.bool) (tp 7 (List.cons (.ptr 0 0) (tp 10 (List.cons (.oiter) [])))))))
def f176_l0_outs : Outs := [(.ret, (tp 6 (List.cons (.int .i64) (tp 14 [])))), ((.exit 0), (tp 21 []))]
def f163_ins : List Sh := [.str, .func (.func 134) 0 0]
def f163_outs : Outs := [(.ret, [.int .i64])]
def f135_ins : List Sh := [.str, .func (.func 134) 0 0]
def f135_outs : Outs := [(.ret, [.bool])]
def f100_ins : List Sh := [.str]
def f100_outs : Outs := [(.ret, [.tuple 3, .str, .str, .bool])]
def f75_ins : List Sh := [.lst .str]
def f75_outs : Outs := [(.ret, [.lst (.pair .str .str)])]
def f75_l0_ins : List Sh := (tp 3 (List.cons (.row 0) (List.cons (.bool) (tp 9 (List.cons (.lst .str) (List.cons (.int .i64) (List.cons (.int .i64) (tp 51 (List.cons (.orow 99 (.pair .str .str)) [])))))))))
def f75_l0_outs : Outs := [((.exit 0), (tp 3 (List.cons (.row 0) (tp 64 (List.cons (.orow 99 (.pair .str .str)) [])))))]
def f75_l1_ins : List Sh := (tp 3 (List.cons (.row 0) (tp 48 (List.cons (.int .i64) (List.cons (.int .i64) (tp 14 (List.cons (.orow 99 (.pair .str .str)) [])))))))
def f75_l1_outs : Outs := [((.exit 2), (tp 3 (List.cons (.row 0) (tp 64 (List.cons (.orow 99 (.pair .str .str)) [])))))]
def f41_ins : List Sh := [.lst .str]
def f41_outs : Outs := [(.ret, [.agg 5, .bool, .bool, .bool, .int .i64, .int .i64])]
def f41_l0_ins : List Sh := (List.cons (.top) (List.cons (.top) (List.cons (.ptr 0 0) (tp 3 (List.cons (.ptr 1 0) (tp 19 (List.cons (.lst (.pair .str .str)) (List.cons (.int .i64) (List.cons (.int .i64) (tp 12 (List.cons (.obox 5) (List.cons (.bool) (List.cons (.bool) (List.cons (.bool) (List.cons (.int .i64) (List.cons (.int .i64) (List.cons (.obox 5) (List.cons (.bool) (List.cons (.bool) (List.cons (.bool) (List.cons (.int .i64) (List.cons (.int .i64) []))))))))))))))))))))))
def f41_l0_outs : Outs := [((.exit 0), (List.cons (.top) (List.cons (.top) (List.cons (.ptr 0 0) (tp 3 (List.cons (.ptr 1 0) (tp 34 (List.cons (.obox 5) (List.cons (.bool) (List.cons (.bool) (List.cons (.bool) (List.cons (.int .i64) (List.cons (.int .i64) (List.cons (.obox 5) (List.cons (.bool) (List.cons (.bool) (List.cons (.bool) (List.cons (.int .i64) (List.cons (.int .i64) [])))))))))))))))))))]
def f16_ins : List Sh := [.str, .agg 12, .int .i64, .bool, .str, .str, .lst (.pair (.pair .bool (.pair .str .str)) (.pair (.int .i64) (.pair (.int .i64) (.pair (.int .i64) (.int .i64))))), .lst .str, .bool, .bool, .bool, .int .i64, .int .i64, .int .i64, .int .i64]
def f16_outs : Outs := [(.ret, [.tuple 2, .agg 11, .bool, .str, .str, .lst (.pair .bool (.pair .str .str)), .lst .str, .bool, .bool, .bool, .int .i64, .int .i64, .int .i64, .bool])]
def f16_l0_ins : List Sh := (tp 6 (List.cons (.ptr 0 0) (tp 3 (List.cons (.ptr 1 0) (tp 56 (List.cons (.row 2) (List.cons (.int .i64) (List.cons (.int .i64) (tp 12 (List.cons (.obox 11) (List.cons (.bool) (List.cons (.str) (List.cons (.str) (List.cons (.nils) (List.cons (.nils) (List.cons (.bool) (List.cons (.bool) (List.cons (.bool) (List.cons (.int .i64) (List.cons (.int .i64) (List.cons (.int .i64) (List.cons (.obox 11) (List.cons (.bool) (List.cons (.str) (List.cons (.str) (List.cons (.row 3) (List.cons (.row 2) (List.cons (.bool) (List.cons (.bool) (List.cons (.bool) (List.cons (.int .i64) (List.cons (.int .i64) (List.cons (.int .i64) (List.cons (.orow 9 .str) (List.cons (.orow 31 (.pair .bool (.pair .str .str))) [])))))))))))))))))))))))))))))))))))
def f16_l0_outs : Outs := [((.exit 0), (tp 6 (List.cons (.ptr 0 0) (tp 3 (List.cons (.ptr 1 0) (tp 71 (List.cons (.obox 11) (List.cons (.bool) (List.cons (.str) (List.cons (.str) (List.cons (.nils) (List.cons (.nils) (List.cons (.bool) (List.cons (.bool) (List.cons (.bool) (List.cons (.int .i64) (List.cons (.int .i64) (List.cons (.int .i64) (List.cons (.obox 11) (List.cons (.bool) (List.cons (.str) (List.cons (.str) (List.cons (.row 2) (List.cons (.row 3) (List.cons (.bool) (List.cons (.bool) (List.cons (.bool) (List.cons (.int .i64) (List.cons (.int .i64) (List.cons (.int .i64) (List.cons (.orow 31 (.pair .bool (.pair .str .str))) (List.cons (.orow 9 .str) []))))))))))))))))))))))))))))))))]
def f16_c0_ins : List Sh := (tp 4 (List.cons (.ptr 0 0) (List.cons (.top) (List.cons (.ptr 1 0) (List.cons (.top) (List.cons (.top) (List.cons (.row 2) (tp 72 (List.cons (.obox 12) (List.cons (.int .i64) (List.cons (.bool) (List.cons (.str) (List.cons (.str) (List.cons (.lst (.pair (.pair .bool (.pair .str .str)) (.pair (.int .i64) (.pair (.int .i64) (.pair (.int .i64) (.int .i64)))))) (List.cons (.lst .str) (List.cons (.bool) (List.cons (.bool) (List.cons (.bool) (List.cons (.int .i64) (List.cons (.int .i64) (List.cons (.int .i64) (List.cons (.obox 11) (List.cons (.bool) (List.cons (.str) (List.cons (.str) (List.cons (.nils) (List.cons (.nils) (List.cons (.bool) (List.cons (.bool) (List.cons (.bool) (List.cons (.int .i64) (List.cons (.int .i64) (List.cons (.int .i64) (List.cons (.orow 9 .str) []))))))))))))))))))))))))))))))))))
def f16_c0_outs : Outs := [(.ret, (tp 6 (List.cons (.ptr 0 0) (List.cons (.bool) (tp 74 (List.cons (.obox 11) (List.cons (.bool) (List.cons (.str) (List.cons (.str) (List.cons (.row 1) (List.cons (.row 2) (List.cons (.bool) (List.cons (.bool) (List.cons (.bool) (List.cons (.int .i64) (List.cons (.int .i64) (List.cons (.int .i64) (List.cons (.orow 31 (.pair .bool (.pair .str .str))) (List.cons (.orow 9 .str) [])))))))))))))))))))]
def f16_c1_ins : List Sh := (List.cons (.str) (List.cons (.top) (List.cons (.int .i64) (List.cons (.top) (List.cons (.ptr 0 0) (List.cons (.top) (List.cons (.ptr 1 0) (tp 75 (List.cons (.obox 12) (List.cons (.int .i64) (List.cons (.bool) (List.cons (.str) (List.cons (.str) (List.cons (.lst (.pair (.pair .bool (.pair .str .str)) (.pair (.int .i64) (.pair (.int .i64) (.pair (.int .i64) (.int .i64)))))) (List.cons (.lst .str) (List.cons (.bool) (List.cons (.bool) (List.cons (.bool) (List.cons (.int .i64) (List.cons (.int .i64) (List.cons (.int .i64) (List.cons (.obox 11) (List.cons (.bool) (List.cons (.str) (List.cons (.str) (List.cons (.nils) (List.cons (.nils) (List.cons (.bool) (List.cons (.bool) (List.cons (.bool) (List.cons (.int .i64) (List.cons (.int .i64) (List.cons (.int .i64) [])))))))))))))))))))))))))))))))))
def f16_c1_outs : Outs := [(.ret, (tp 6 (List.cons (.ptr 0 0) (List.cons (.bool) (tp 74 (List.cons (.obox 11) (List.cons (.bool) (List.cons (.str) (List.cons (.str) (List.cons (.row 1) (List.cons (.row 2) (List.cons (.bool) (List.cons (.bool) (List.cons (.bool) (List.cons (.int .i64) (List.cons (.int .i64) (List.cons (.int .i64) (List.cons (.orow 31 (.pair .bool (.pair .str .str))) (List.cons (.orow 9 .str) [])))))))))))))))))))]
def f48_ins : List Sh := [.ptr 0 0, .obox 1, .lst .str]
def f48_outs : Outs := [(.ret, [.bool, .obox 1, .lst .str])]
def f49_ins : List Sh := [.ptr 0 0, .obox 1, .lst .str]
def f49_outs : Outs := [(.ret, [.bool, .obox 1, .lst .str])]
def f50_ins : List Sh := [.ptr 0 0, .obox 1, .lst .str]
def f50_outs : Outs := [(.ret, [.bool, .obox 1, .lst .str])]
def f52_ins : List Sh := [.str, .str]
def f52_outs : Outs := [(.ret, [.bool])]
def f51_ins : List Sh := [.ptr 0 0, .obox 1, .lst .str]
def f51_outs : Outs := [(.ret, [.bool, .obox 1, .lst .str])]
def f53_ins : List Sh := [.ptr 0 0, .ptr 1 0, .obox 1, .lst .str, .obox 1, .str]
def f53_outs : Outs := [(.ret, [.bool, .obox 1, .lst .str, .obox 1, .str])]
def f55_ins : List Sh := [.str]
def f55_outs : Outs := [(.ret, [.int .i64])]
def f54_ins : List Sh := [.ptr 0 0, .ptr 1 0, .obox 1, .lst .str, .obox 1, .int .i64]
def f54_outs : Outs := [(.ret, [.bool, .obox 1, .lst .str, .obox 1, .int .i64])]
def f47_ins : List Sh := [.row 0, .ovals 22 6 6, .func (.func 48) 0 1, .ptr 1 0, .func (.func 49) 0 1, .ptr 1 0, .func (.func 50) 0 1, .ptr 1 0, .func (.func 51) 0 1, .ptr 1 0, .func (.func 53) 0 2, .ptr 1 0, .ptr 2 0, .func (.func 54) 0 2, .ptr 1 0, .ptr 3 0, .obox 1, .lst .str, .obox 1, .str, .obox 1, .int .i64]
def f47_outs : Outs := [(.ret, [.bool, .ovals 22 6 6, .func (.func 48) 0 1, .ptr 1 0, .func (.func 49) 0 1, .ptr 1 0, .func (.func 50) 0 1, .ptr 1 0, .func (.func 51) 0 1, .ptr 1 0, .func (.func 53) 0 2, .ptr 1 0, .ptr 2 0, .func (.func 54) 0 2, .ptr 1 0, .ptr 3 0, .obox 1, .lst .str, .obox 1, .str, .obox 1, .int .i64])]
def f19_ins : List Sh := [.lst .str]
def f19_outs : Outs := [(.ret, [.tuple 3, .str, .int .i64, .bool])]
def f8_ins : List Sh := []
def f8_outs : Outs := [(.ret, [.bool])]
def f29_ins : List Sh := [.int .i32]
def f29_outs : Outs := [(.ret, [.bool])]
def f64_ins : List Sh := [.int .i32]
def f64_outs : Outs := [(.ret, [.bool])]
def f92_ins : List Sh := [.int .i32]
def f92_outs : Outs := [(.ret, [.int .i64])]
def f65_ins : List Sh := [.int .i32]
def f65_outs : Outs := [(.ret, [.lst .byte])]
def f31_ins : List Sh := [.lst (.int .i32)]
def f31_outs : Outs := [(.ret, [.tuple 2, .str, .bool])]
def f10_ins : List Sh := [.str]
def f10_outs : Outs := [(.ret, [.tuple 2, .str, .bool])]
def f10_l1_ins : List Sh := (List.cons (.str) (tp 3 (List.cons (.row 0) (List.cons (.int .i64) (tp 90 (List.cons (.orow 21 (.int .i32)) []))))))
def f10_l1_outs : Outs := [((.exit 0), (tp 4 (List.cons (.row 0) (tp 91 (List.cons (.orow 21 (.int .i32)) []))))), (.ret, (List.cons (.top) (List.cons (.top) (List.cons (.str) (List.cons (.bool) (tp 92 []))))))]
def f12_ins : List Sh := [.str]
def f12_outs : Outs := [(.ret, [.str])]
def f14_ins : List Sh := [.int .i64]
def f14_outs : Outs := [(.ret, [.str])]
def f3_ins : List Sh := [.str, .int .i64]
def f3_outs : Outs := [(.ret, [.bool])]
def f40_ins : List Sh := [.agg 2, .str, .str]
def f40_outs : Outs := [(.ret, [.bool])]
def f15_ins : List Sh := [.agg 12, .int .i64, .bool, .str, .str, .lst (.pair (.pair .bool (.pair .str .str)) (.pair (.int .i64) (.pair (.int .i64) (.pair (.int .i64) (.int .i64))))), .lst .str, .bool, .bool, .bool, .int .i64, .int .i64, .int .i64]
def f15_outs : Outs := [(.ret, [.bool])]
def f15_l0_ins : List Sh := (List.cons (.top) (List.cons (.ptr 0 0) (List.cons (.top) (List.cons (.int .i64) (tp 30 (List.cons (.obox 12) (List.cons (.int .i64) (List.cons (.bool) (List.cons (.str) (List.cons (.str) (List.cons (.lst (.pair (.pair .bool (.pair .str .str)) (.pair (.int .i64) (.pair (.int .i64) (.pair (.int .i64) (.int .i64)))))) (List.cons (.lst .str) (List.cons (.bool) (List.cons (.bool) (List.cons (.bool) (List.cons (.int .i64) (List.cons (.int .i64) (List.cons (.int .i64) []))))))))))))))))))
def f15_l0_outs : Outs := [((.exit 0), (List.cons (.top) (List.cons (.ptr 0 0) (tp 32 (List.cons (.obox 12) (List.cons (.int .i64) (List.cons (.bool) (List.cons (.str) (List.cons (.str) (List.cons (.lst (.pair (.pair .bool (.pair .str .str)) (.pair (.int .i64) (.pair (.int .i64) (.pair (.int .i64) (.int .i64)))))) (List.cons (.lst .str) (List.cons (.bool) (List.cons (.bool) (List.cons (.bool) (List.cons (.int .i64) (List.cons (.int .i64) (List.cons (.int .i64) []))))))))))))))))), (.ret, (List.cons (.top) (List.cons (.top) (List.cons (.bool) (tp 31 [])))))]
def f78_ins : List Sh := [.lst .str]
def f78_outs : Outs := [(.ret, [.int .i64])]
def f80_ins : List Sh := [.lst .str]
def f80_outs : Outs := [(.ret, [.lst (.pair .str .str)])]
def f45_ins : List Sh := [.lst .str]
def f45_outs : Outs := [(.ret, [.agg 5, .bool, .bool, .bool, .int .i64, .int .i64])]
def f45_l0_ins : List Sh := (List.cons (.lst .str) (List.cons (.top) (List.cons (.ptr 0 0) (List.cons (.int .i64) (List.cons (.ptr 1 0) (List.cons (.int .i64) (tp 70 (List.cons (.obox 5) (List.cons (.bool) (List.cons (.bool) (List.cons (.bool) (List.cons (.int .i64) (List.cons (.int .i64) (List.cons (.obox 5) (List.cons (.bool) (List.cons (.bool) (List.cons (.bool) (List.cons (.int .i64) (List.cons (.int .i64) [])))))))))))))))))))
def f45_l0_outs : Outs := [((.exit 0), (List.cons (.lst .str) (List.cons (.top) (List.cons (.ptr 0 0) (List.cons (.top) (List.cons (.ptr 1 0) (tp 71 (List.cons (.obox 5) (List.cons (.bool) (List.cons (.bool) (List.cons (.bool) (List.cons (.int .i64) (List.cons (.int .i64) (List.cons (.obox 5) (List.cons (.bool) (List.cons (.bool) (List.cons (.bool) (List.cons (.int .i64) (List.cons (.int .i64) [])))))))))))))))))))]
def f45_l1_ins : List Sh := (List.cons (.top) (List.cons (.top) (List.cons (.ptr 0 0) (List.cons (.top) (List.cons (.ptr 1 0) (tp 4 (List.cons (.lst (.pair .str .str)) (List.cons (.int .i64) (tp 65 (List.cons (.obox 5) (List.cons (.bool) (List.cons (.bool) (List.cons (.bool) (List.cons (.int .i64) (List.cons (.int .i64) (List.cons (.obox 5) (List.cons (.bool) (List.cons (.bool) (List.cons (.bool) (List.cons (.int .i64) (List.cons (.int .i64) [])))))))))))))))))))))
def f45_l1_outs : Outs := [((.exit 2), (List.cons (.top) (List.cons (.top) (List.cons (.ptr 0 0) (List.cons (.top) (List.cons (.ptr 1 0) (tp 71 (List.cons (.obox 5) (List.cons (.bool) (List.cons (.bool) (List.cons (.bool) (List.cons (.int .i64) (List.cons (.int .i64) (List.cons (.obox 5) (List.cons (.bool) (List.cons (.bool) (List.cons (.bool) (List.cons (.int .i64) (List.cons (.int .i64) [])))))))))))))))))))]
def f17_ins : List Sh := [.str, .agg 12, .int .i64, .bool, .str, .str, .lst (.pair (.pair .bool (.pair .str .str)) (.pair (.int .i64) (.pair (.int .i64) (.pair (.int .i64) (.int .i64))))), .lst .str, .bool, .bool, .bool, .int .i64, .int .i64, .int .i64, .int .i64]
def f17_outs : Outs := [(.ret, [.tuple 2, .agg 11, .bool, .str, .str, .lst (.pair .bool (.pair .str .str)), .lst .str, .bool, .bool, .bool, .int .i64, .int .i64, .int .i64, .bool])]
def f18_ins : List Sh := [.agg 11, .bool, .str, .str, .lst (.pair .bool (.pair .str .str)), .lst .str, .bool, .bool, .bool, .int .i64, .int .i64, .int .i64, .agg 11, .bool, .str, .str, .lst (.pair .bool (.pair .str .str)), .lst .str, .bool, .bool, .bool, .int .i64, .int .i64, .int .i64]
def f18_outs : Outs := [(.ret, [.bool])]
def f20_ins : List Sh := [.lst .str]
def f20_outs : Outs := [(.ret, [.tuple 3, .str, .int .i64, .bool])]
def f4_ins : List Sh := [.str, .agg 12, .int .i64, .bool, .str, .str, .lst (.pair (.pair .bool (.pair .str .str)) (.pair (.int .i64) (.pair (.int .i64) (.pair (.int .i64) (.int .i64))))), .lst .str, .bool, .bool, .bool, .int .i64, .int .i64, .int .i64, .int .i64, .lst .str]
def f4_outs : Outs := [(.ret, [.bool])]
def f4_l0_ins : List Sh := (tp 3 (List.cons (.lst .str) (tp 5 (List.cons (.bool) (tp 5 (List.cons (.int .i64) (tp 86 [])))))))
def f4_l0_outs : Outs := [((.exit 0), (tp 3 (List.cons (.lst .str) (tp 5 (List.cons (.bool) (tp 92 [])))))), (.ret, (tp 8 (List.cons (.bool) (tp 93 []))))]
def f5_ins : List Sh := [.str, .str]
def f5_outs : Outs := [(.ret, [.bool])]
def f5_l0_ins : List Sh := (List.cons (.str) (List.cons (.str) (tp 3 (List.cons (.bool) (List.cons (.str) (List.cons (.int .i64) (tp 79 [])))))))
def f5_l0_outs : Outs := [((.exit 0), (List.cons (.str) (List.cons (.str) (tp 3 (List.cons (.bool) (List.cons (.str) (tp 80 []))))))), (.ret, (tp 4 (List.cons (.bool) (tp 82 []))))]
def f7_ins : List Sh := [.int .i64, .int .i64]
def f7_outs : Outs := [(.ret, [.bool])]
def f7_c0_ins : List Sh := (List.cons (.int .i64) (List.cons (.int .i64) (tp 3 (List.cons (.bool) (List.cons (.str) (List.cons (.str) (tp 18 (List.cons (.bool) (tp 58 [])))))))))
def f7_c0_outs : Outs := [(.ret, (tp 4 (List.cons (.bool) (tp 80 [])))), (.normal, (List.cons (.int .i64) (List.cons (.int .i64) (tp 3 (List.cons (.bool) (List.cons (.str) (List.cons (.str) (tp 77 []))))))))]
def f7_c1_ins : List Sh := (List.cons (.int .i64) (List.cons (.int .i64) (tp 3 (List.cons (.bool) (List.cons (.str) (List.cons (.str) (tp 77 [])))))))
def f7_c1_outs : Outs := [(.ret, (tp 4 (List.cons (.bool) (tp 80 []))))]
end Go.Proofs.YtmfcepdbpdihgaaGreatDoor.W
set_option linter.unusedVariables false
set_option linter.unusedSimpArgs false
namespace Go.Ae
open Go.Shelf Go.RowKit Go.Proofs
variable {P : Program} {ρ : Ren}
set_option maxHeartbeats 2000000 in
set_option maxRecDepth 100000 in
theorem bstr_row (L : Lays.n169 P ρ) (X : Builder.Extra P ρ) (b g cap : Nat) (p : Value) (cur : Array Value) (l : List UInt8) (w : World) (h0 : l ≠ []) (hbk : w.heap[b]? = some (.cells #[p, .slice (some ⟨g, 0, none⟩) l.length cap] (ρ.t 72) (0, 0)))
    (hg : w.heap[g]? = some (.cells cur (ρ.t 5) (0, 0))) (hnc : l.length ≤ cap) (hcm : cap ≤ maxLen) (hcs : cur.size = cap * 1) (hown : w.ownsRow 0 (ρ.t 5) 1 (.slice (some ⟨g, 0, none⟩) l.length cap) l.length (Lib.byteCells l)) :
    Calls P (ρ.f 169) #[.pointer (some ⟨b, 0, none⟩)] w fun e w' => e = .returned (.string ⟨l.toArray⟩) ∧ w' = w.drew.freeze ⟨g, 0, none⟩ l.length := by
  have hl0 : l.length ≠ 0 := by simpa using h0
  have c1 : w.drew.cell? ⟨b, 1, none⟩ = some (.slice (some ⟨g, 0, none⟩) l.length cap) := by
    have : w.drew.heap[b]? = some (.cells #[p, .slice (some ⟨g, 0, none⟩) l.length cap] (ρ.t 72) (0, 0)) := hbk
    rw [Lib.cell_of_heap this]; rfl
  have hSD : (Builtin.unsafeSliceData_ #[(ρ.t 37)] (ρ.t 127) #[.slice (some ⟨g, 0, none⟩) l.length cap]).run P w.drew = .ok (.pointer (some ⟨g, 0, none⟩)) w.drew :=
    Lib.run_unsafeSliceData_row _ _ _ _ _ _ (by omega)
  have hUS : (Builtin.unsafeString_ #[(ρ.t 127), (ρ.t 3)] (ρ.t 9) #[.pointer (some ⟨g, 0, none⟩), .int .i64 l.length]).run P w.drew = .ok (.string ⟨l.toArray⟩) (w.drew.freeze ⟨g, 0, none⟩ l.length) := by
    refine Lib.run_unsafeString_row w.drew (ρ.t 127) (ρ.t 3) (ρ.t 9) (ρ.t 5) L.t127 X.cellsByte g cur.size (by have hg' : w.drew.heap[g]? = some (.cells cur (ρ.t 5) (0, 0)) := hg; simp [World.shape?, hg']) l h0 (by omega) (by unfold maxLen at hcm; omega) ?_
    intro j x hx
    have := hown.cells (g := g) rfl j (.int .u8 x.toNat) (by simp [Lib.byteCells, hx])
    exact this
  have mixed := L.mixed
  have t72 := L.t72; have a72 := L.a72; have z72 := L.z72; have v72 := L.v72; have u72 := run_underlying L.t72
  have t70 := L.t70; have a70 := L.a70; have z70 := L.z70; have v70 := L.v70; have u70 := run_underlying L.t70
  have t37 := L.t37; have a37 := L.a37; have z37 := L.z37; have v37 := L.v37; have u37 := run_underlying L.t37
  have t127 := L.t127; have a127 := L.a127; have z127 := L.z127; have v127 := L.v127; have u127 := run_underlying L.t127
  have t3 := L.t3; have a3 := L.a3; have z3 := L.z3; have v3 := L.v3; have u3 := run_underlying L.t3
  have t9 := L.t9; have a9 := L.a9; have z9 := L.z9; have v9 := L.v9; have u9 := run_underlying L.t9
  have t5 := X.t5; have a5 := X.a5; have z5 := X.z5; have v5 := X.v5; have u5 := run_underlying X.t5
  go_enter L.f169, Body.n169_ntmps ρ
  go_wp2
  go_region_o
  all_goals (go_wp2; go_ret; exact ⟨rfl, rfl⟩)
set_option maxHeartbeats 2000000 in
set_option maxRecDepth 100000 in
theorem bstr_nil (L : Lays.n169 P ρ) (X : Builder.Extra P ρ) (b : Nat) (p : Value) (w : World) (hbk : w.heap[b]? = some (.cells #[p, .slice none 0 0] (ρ.t 72) (0, 0))) :
    Calls P (ρ.f 169) #[.pointer (some ⟨b, 0, none⟩)] w fun e w' => e = .returned (.string ⟨#[]⟩) ∧ w' = w.drew := by
  have hUS := Any.unsafeString_none L X
  have c1 : w.drew.cell? ⟨b, 1, none⟩ = some (.slice none 0 0) := by
    have : w.drew.heap[b]? = some (.cells #[p, .slice none 0 0] (ρ.t 72) (0, 0)) := hbk
    rw [Lib.cell_of_heap this]; rfl
  have hSD : (Builtin.unsafeSliceData_ #[(ρ.t 37)] (ρ.t 127) #[.slice none 0 0]).run P w.drew = .ok (.pointer none) w.drew := rfl
  have mixed := L.mixed
  have t72 := L.t72; have a72 := L.a72; have z72 := L.z72; have v72 := L.v72; have u72 := run_underlying L.t72
  have t70 := L.t70; have a70 := L.a70; have z70 := L.z70; have v70 := L.v70; have u70 := run_underlying L.t70
  have t37 := L.t37; have a37 := L.a37; have z37 := L.z37; have v37 := L.v37; have u37 := run_underlying L.t37
  have t127 := L.t127; have a127 := L.a127; have z127 := L.z127; have v127 := L.v127; have u127 := run_underlying L.t127
  have t3 := L.t3; have a3 := L.a3; have z3 := L.z3; have v3 := L.v3; have u3 := run_underlying L.t3
  have t9 := L.t9; have a9 := L.a9; have z9 := L.z9; have v9 := L.v9; have u9 := run_underlying L.t9
  have t5 := X.t5; have a5 := X.a5; have z5 := X.z5; have v5 := X.v5; have u5 := run_underlying X.t5
  go_enter L.f169, Body.n169_ntmps ρ
  go_wp2
  go_region_o
  all_goals (go_wp2; go_ret; exact ⟨rfl, rfl⟩)
set_option maxHeartbeats 2000000 in
set_option maxRecDepth 100000 in
theorem bstr_noroom (L : Lays.n169 P ρ) (X : Builder.Extra P ρ) (b g : Nat) (p : Value) (cur : Array Value) (w : World) (hbk : w.heap[b]? = some (.cells #[p, .slice (some ⟨g, 0, none⟩) 0 0] (ρ.t 72) (0, 0))) (hg : w.heap[g]? = some (.cells cur (ρ.t 5) (0, 0))) :
    Calls P (ρ.f 169) #[.pointer (some ⟨b, 0, none⟩)] w fun e w' => e = .returned (.string ⟨#[]⟩) ∧ w' = (w.drew.alloc (.view ⟨g, 0, none⟩ (ρ.t 5))) := by
  have hUS := Any.unsafeString_none L X
  have hlt : b < w.heap.size := by
    rcases Nat.lt_or_ge b w.heap.size with h' | h'
    · exact h'
    · simp [Array.getElem?_eq_none h'] at hbk
  have c1 : w.drew.cell? ⟨b, 1, none⟩ = some (.slice (some ⟨g, 0, none⟩) 0 0) := by
    have : w.drew.heap[b]? = some (.cells #[p, .slice (some ⟨g, 0, none⟩) 0 0] (ρ.t 72) (0, 0)) := hbk
    rw [Lib.cell_of_heap this]; rfl
  have hSD : (Builtin.unsafeSliceData_ #[(ρ.t 37)] (ρ.t 127) #[.slice (some ⟨g, 0, none⟩) 0 0]).run P w.drew = .ok (.pointer (some ⟨w.drew.heap.size, 0, none⟩)) (w.drew.alloc (.view ⟨g, 0, none⟩ (ρ.t 5))) :=
    Lib.run_unsafeSliceData_zero w.drew _ _ (ρ.t 5) L.t127 ⟨g, 0, none⟩ 0 ((ρ.t 5), cur.size) (by have hg' : w.drew.heap[g]? = some (.cells cur (ρ.t 5) (0, 0)) := hg; simp [World.shape?, hg'])
  have c2 : (w.drew.alloc (.view ⟨g, 0, none⟩ (ρ.t 5))).cell? ⟨b, 1, none⟩ = some (.slice (some ⟨g, 0, none⟩) 0 0) := by
    have : (w.drew.alloc (.view ⟨g, 0, none⟩ (ρ.t 5))).heap[b]? = _ := (Lib.alloc_old w.drew _ b hlt).trans hbk
    rw [Lib.cell_of_heap this]; rfl
  have c3 : (w.alloc (.view ⟨g, 0, none⟩ (ρ.t 5))).drew.cell? ⟨b, 1, none⟩ = some (.slice (some ⟨g, 0, none⟩) 0 0) := c2
  have c0 : w.cell? ⟨b, 1, none⟩ = some (.slice (some ⟨g, 0, none⟩) 0 0) := c1
  have mixed := L.mixed
  have t72 := L.t72; have a72 := L.a72; have z72 := L.z72; have v72 := L.v72; have u72 := run_underlying L.t72
  have t70 := L.t70; have a70 := L.a70; have z70 := L.z70; have v70 := L.v70; have u70 := run_underlying L.t70
  have t37 := L.t37; have a37 := L.a37; have z37 := L.z37; have v37 := L.v37; have u37 := run_underlying L.t37
  have t127 := L.t127; have a127 := L.a127; have z127 := L.z127; have v127 := L.v127; have u127 := run_underlying L.t127
  have t3 := L.t3; have a3 := L.a3; have z3 := L.z3; have v3 := L.v3; have u3 := run_underlying L.t3
  have t9 := L.t9; have a9 := L.a9; have z9 := L.z9; have v9 := L.v9; have u9 := run_underlying L.t9
  have t5 := X.t5; have a5 := X.a5; have z5 := X.z5; have v5 := X.v5; have u5 := run_underlying X.t5
  go_enter L.f169, Body.n169_ntmps ρ
  go_wp2
  go_region_o
  all_goals (go_wp2; go_ret; exact ⟨rfl, rfl⟩)
set_option maxHeartbeats 2000000 in
set_option maxRecDepth 100000 in
theorem bstr_room (L : Lays.n169 P ρ) (X : Builder.Extra P ρ) (b g cap : Nat) (p : Value) (w : World) (hc0 : cap ≠ 0) (hbk : w.heap[b]? = some (.cells #[p, .slice (some ⟨g, 0, none⟩) 0 cap] (ρ.t 72) (0, 0))) :
    Calls P (ρ.f 169) #[.pointer (some ⟨b, 0, none⟩)] w fun e w' => e = .returned (.string ⟨#[]⟩) ∧ w' = w.drew := by
  have hUS := Any.unsafeString_none L X
  have c1 : w.drew.cell? ⟨b, 1, none⟩ = some (.slice (some ⟨g, 0, none⟩) 0 cap) := by
    have : w.drew.heap[b]? = some (.cells #[p, .slice (some ⟨g, 0, none⟩) 0 cap] (ρ.t 72) (0, 0)) := hbk
    rw [Lib.cell_of_heap this]; rfl
  have hSD : (Builtin.unsafeSliceData_ #[(ρ.t 37)] (ρ.t 127) #[.slice (some ⟨g, 0, none⟩) 0 cap]).run P w.drew = .ok (.pointer (some ⟨g, 0, none⟩)) w.drew :=
    Lib.run_unsafeSliceData_row _ _ _ _ _ _ hc0
  clear hc0
  have mixed := L.mixed
  have t72 := L.t72; have a72 := L.a72; have z72 := L.z72; have v72 := L.v72; have u72 := run_underlying L.t72
  have t70 := L.t70; have a70 := L.a70; have z70 := L.z70; have v70 := L.v70; have u70 := run_underlying L.t70
  have t37 := L.t37; have a37 := L.a37; have z37 := L.z37; have v37 := L.v37; have u37 := run_underlying L.t37
  have t127 := L.t127; have a127 := L.a127; have z127 := L.z127; have v127 := L.v127; have u127 := run_underlying L.t127
  have t3 := L.t3; have a3 := L.a3; have z3 := L.z3; have v3 := L.v3; have u3 := run_underlying L.t3
  have t9 := L.t9; have a9 := L.a9; have z9 := L.z9; have v9 := L.v9; have u9 := run_underlying L.t9
  have t5 := X.t5; have a5 := X.a5; have z5 := X.z5; have v5 := X.v5; have u5 := run_underlying X.t5
  go_enter L.f169, Body.n169_ntmps ρ
  go_wp2
  go_region_o
  all_goals (go_wp2; go_ret; exact ⟨rfl, rfl⟩)
def bldIns (t e : TypeId) : List Sh := [.ptr 0 0, .obld t 1, .orow e .byte]
theorem two_obj {w : World} {m : Md} {g : List Value} {t e : TypeId} {l : List UInt8} {args : Array Value} (hob : RepOb w m g [[.bldr t 1], [.rowc e .byte l]]) (ha : RepL w m g [.ptr 0 0] args.toList) :
    ∃ b p v, args = #[.pointer (some ⟨b, 0, none⟩)] ∧ g = [.pointer (some ⟨b, 0, none⟩), v] ∧ w.heap[b]? = some (.cells #[p, v] t (0, 0)) ∧ (p = .pointer none ∨ p = .pointer (some ⟨b, 0, none⟩)) ∧ w.ownsRow 0 e 1 v l.length (Lib.byteCells l) ∧ v.ownBlock ≠ some b ∧ (∃ ao n c, v = .slice ao n c) := by
  obtain ⟨v1, r1, h1, ⟨b, h2, h3⟩, h4⟩ := ha
  have h4' : r1 = [] := h4
  subst h3 h4'
  have hargs : args = #[.pointer (some ⟨b, 0, none⟩)] := by cases args; simpa using h1
  have hl := hob.len
  obtain ⟨b', p, v, he, hh, hp, hv, hsl⟩ := (hob.obj 0 _ _ h2 rfl).more
  simp only [Value.pointer.injEq, Option.some.injEq, Addr.mk.injEq, and_true] at he
  subst he
  have hg : g = [.pointer (some ⟨b, 0, none⟩), v] := by
    match g, hl, h2, hv with
    | [x, y], _, h2, hv =>
      simp at h2 hv
      rw [h2, hv]
  obtain ⟨xs, k1, k2⟩ := (hob.obj 1 _ _ hv rfl).rowc e .byte l rfl
  have hxs : xs = Lib.byteCells l := by
    have hxl := k1.1
    apply List.ext_getElem?
    intro i
    rcases Nat.lt_or_ge i l.length with hi | hi
    · have := k2 i l[i] (List.getElem?_eq_getElem hi)
      have h5 : (xs.drop (i * 1)).take 1 = [.int .u8 (l[i].toNat : Int)] := this
      rw [Nat.mul_one] at h5
      have h6 : ((xs.drop i).take 1)[0]? = some (.int .u8 (l[i].toNat : Int)) := by rw [h5]; rfl
      rw [List.getElem?_take, if_pos (by omega), List.getElem?_drop, Nat.add_zero] at h6
      rw [h6]
      simp [Lib.byteCells, hi]
    · have hxl' : xs.length = l.length * 1 := hxl
      have hi' : l.length ≤ i := hi
      rw [List.getElem?_eq_none (by omega), List.getElem?_eq_none (by rw [Lib.byteCells_length]; omega)]
  subst hxs
  refine ⟨b, p, v, hargs, hg, hh, hp, k1, fun hb => ?_, hsl⟩
  exact hob.sep 0 1 _ _ _ _ b (by omega) h2 rfl hv rfl rfl hb
theorem stp_of {w w' : World} {m : Md} (h1 : w'.os = w.os) (h2 : w'.tape = w.tape) (h3 : w'.output = w.output) (h4 : w.heap.size ≤ w'.heap.size) (hn : ∀ b, m.n b → m.a b) (hk : ∀ b, b < w.heap.size → ¬ m.n b → w'.heap[b]? = w.heap[b]?) : Stp w m w' m :=
  ⟨h1, h2, h3, h4, hn, hk, fun _ _ h => h, fun _ _ h => h, fun _ _ h _ => h⟩
theorem enters {f : FuncId} {fn : Func} (hf : P.funcs[f]? = some fn) (hb : fn.body.isSome = true) (hname : (fn.name == "runtime.NumGoroutine") = false) (args : Array Value) (w : World) : (callFunc f args).run P w = .ok (.enter f args) w := by
  obtain ⟨c, hc⟩ := Option.isSome_iff_exists.1 hb
  have hn : fn.name ≠ "runtime.NumGoroutine" := by simpa using hname
  simp [callFunc, hf, hc, hn]
def bldChk (v : List UInt8 × Unit) : Option (List UInt8 × Unit) := some v
theorem bld_check (L : Lays.n240 P ρ) (X : Builder.X72 P ρ) {fn : Func} (hf : P.funcs[ρ.f 240]? = some fn) (hb : fn.body.isSome = true) (hname : (fn.name == "runtime.NumGoroutine") = false) :
    FnOk P (ρ.f 240) ⟨bldIns (ρ.t 72) (ρ.t 5), [(.ret, [.tuple 0, .obld (ρ.t 72) 1, .orow (ρ.t 5) .byte])], bldChk⟩ := by
  intro w m g v args y hob hargs hy
  obtain ⟨l, u⟩ := v
  have hob' : RepOb w m g [[.bldr (ρ.t 72) 1], [.rowc (ρ.t 5) .byte l]] := hob
  obtain ⟨b, p, v, rfl, rfl, hh, hp, hown, hne, hsl⟩ := two_obj hob' hargs
  refine .inr ⟨enters hf hb hname _ w, ?_⟩
  have hy' : y = (l, ()) := (Option.some.inj hy).symm
  subst hy'
  have hlt : b < w.heap.size := (Array.getElem?_eq_some_iff.1 hh).1
  rcases hp with rfl | rfl
  · have c0 : w.cell? ⟨b, 0, none⟩ = some (.pointer none) := by rw [Lib.cell_of_heap hh]; rfl
    have sh : w.shape? b = some (ρ.t 72, 2) := by simp [World.shape?, hh]
    refine (Any.Builder_copyCheck_fresh L X b w c0 sh (Lib.frozen_of_heap hh 0)).mono fun e w' ⟨he, hw⟩ => ⟨_, he, ?_⟩
    subst hw
    have hs1 : (w.setCell ⟨b, 0, none⟩ (.pointer (some ⟨b, 0, none⟩))).heap[b]? = some (.cells #[.pointer (some ⟨b, 0, none⟩), v] (ρ.t 72) (0, 0)) := by
      simp [World.setCell, Array.getElem?_modify, hh]
    have hs2 : ∀ k, k ≠ b → (w.setCell ⟨b, 0, none⟩ (.pointer (some ⟨b, 0, none⟩))).heap[k]? = w.heap[k]? := by
      intro k hk
      simp [World.setCell, Array.getElem?_modify, Ne.symm hk]
    obtain ⟨r1, r2⟩ := hob'.set (w' := w.setCell ⟨b, 0, none⟩ (.pointer (some ⟨b, 0, none⟩))) (o := 0) (cs' := [.bldr (ρ.t 72) 1]) rfl rfl (fun b' hb' => hb') rfl rfl rfl (by simp [World.setCell])
      (fun b' _ hne' => hs2 b' fun e => hne' (by rw [e]; rfl))
      (fun hs => ⟨(fun _ _ _ h => by cases h), (fun _ _ h => by cases h), (fun h => by simp [isBox] at h), (fun _ _ h => by cases h), ⟨b, _, v, rfl, hs1, .inr rfl, rfl, hsl⟩⟩)
    exact ⟨.ret, [.tuple 0, .obld (ρ.t 72) 1, .orow (ρ.t 5) .byte], ((l, ()) : List UInt8 × Unit), m, _, ⟨by simp, fun R k => rfl⟩, r2, r1, fun _ _ h => h, ⟨_, [], rfl, ⟨#[], rfl, rfl⟩, rfl⟩⟩
  · have c0 : w.cell? ⟨b, 0, none⟩ = some (.pointer (some ⟨b, 0, none⟩)) := by rw [Lib.cell_of_heap hh]; rfl
    refine (Any.Builder_copyCheck_used L X b w c0).mono fun e w' ⟨he, hw⟩ => ⟨_, he, ?_⟩
    subst hw
    exact ⟨.ret, [.tuple 0, .obld (ρ.t 72) 1, .orow (ρ.t 5) .byte], ((l, ()) : List UInt8 × Unit), m, _, ⟨by simp, fun R k => rfl⟩, Stp.refl _ hob.nm, hob', fun _ _ h => h, ⟨_, [], rfl, ⟨#[], rfl, rfl⟩, rfl⟩⟩
theorem repOb_dead2 {w w' : World} {m : Md} {g : List Value} {ob : Store} (hob : RepOb w m g ob) (hl : g.length = 2) (hs : Stp w m w' m) : RepOb w' m g [[], []] := by
  have hd : ∀ (i : Nat) cs, ([[], []] : Store)[i]? = some cs → cs = [] := by
    intro i cs h
    match i, h with
    | 0, h => simpa using h.symm
    | 1, h => simpa using h.symm
  refine ⟨hob.gi.mono hs, hl, ?_, hob.nm, fun b hb => Nat.lt_of_lt_of_le (hob.lt b hb) hs.size, fun i gi cs _ h2 => by rw [hd i cs h2]; exact RepO.dead .., fun i j gi gj ci cj b _ _ h2 _ _ h5 => by rw [hd i ci h2] at h5; simp [blk] at h5⟩
  rintro b ⟨i, gi, cs, _, h2, h3⟩
  rw [hd i cs h2] at h3; simp [blk] at h3
def bldStr (v : List UInt8 × Unit) : Option (List UInt8 × Unit) := some v
theorem bld_string (L : Lays.n169 P ρ) (X : Builder.Extra P ρ) {fn : Func} (hf : P.funcs[ρ.f 169]? = some fn) (hb : fn.body.isSome = true) (hname : (fn.name == "runtime.NumGoroutine") = false) :
    FnOk P (ρ.f 169) ⟨bldIns (ρ.t 72) (ρ.t 5), [(.ret, [.str, .odead, .odead])], bldStr⟩ := by
  intro w m g v args y hob hargs hy
  obtain ⟨l, u⟩ := v
  have hob' : RepOb w m g [[.bldr (ρ.t 72) 1], [.rowc (ρ.t 5) .byte l]] := hob
  obtain ⟨b, p, v, rfl, rfl, hh, hp, hown, hne, hsl⟩ := two_obj hob' hargs
  refine .inr ⟨enters hf hb hname _ w, ?_⟩
  have hy' : y = (l, ()) := (Option.some.inj hy).symm
  subst hy'
  have done : ∀ (w' : World), Stp w m w' m → ∃ ax l' u m' g', OSel [(AX.ret, [Sh.str, Sh.odead, Sh.odead])] ((l, ()) : List UInt8 × Unit) ax l' u ∧ Stp w m w' m' ∧ RepOb w' m' g' (em id l' u).2 ∧ (∀ (o : Nat) x, ([.pointer (some ⟨b, 0, none⟩), v] : List Value)[o]? = some x → g'[o]? = some x) ∧ RepL w' m' g' (em id l' u).1 [.string ⟨⟨l⟩⟩] := fun w' hs =>
    ⟨.ret, [.str, .odead, .odead], ((l, ()) : List UInt8 × Unit), m, _, ⟨by simp, fun R k => rfl⟩, hs, repOb_dead2 hob' rfl hs, fun _ _ h => h, ⟨_, [], rfl, rfl, rfl⟩⟩
  rcases hown.2 with ⟨rfl, hl0⟩ | ⟨gb, cap, cur, rfl, _, hg, hnc, hcm, hcs, htake⟩
  · have hl : l = [] := List.length_eq_zero_iff.1 hl0
    subst hl
    exact (bstr_nil L X b p w hh).mono fun e w' ⟨he, hw⟩ => ⟨_, he, by subst hw; exact done _ (stp_of rfl rfl rfl (Nat.le_refl _) hob.nm fun _ _ _ => rfl)⟩
  · have hmn : m.n gb := hob'.sub gb ⟨1, _, _, rfl, rfl, rfl⟩
    by_cases hl : l = []
    · subst hl
      by_cases hc0 : cap = 0
      · subst hc0
        refine (bstr_noroom L X b gb p cur w hh hg).mono fun e w' ⟨he, hw⟩ => ⟨_, he, ?_⟩
        subst hw
        exact done _ (stp_of rfl rfl rfl (by simp) hob.nm fun k hk _ => Lib.alloc_old w.drew _ k hk)
      · exact (bstr_room L X b gb cap p w hc0 hh).mono fun e w' ⟨he, hw⟩ => ⟨_, he, by subst hw; exact done _ (stp_of rfl rfl rfl (Nat.le_refl _) hob.nm fun _ _ _ => rfl)⟩
    · refine (bstr_row L X b gb cap p cur l w hl hh hg hnc hcm hcs hown).mono fun e w' ⟨he, hw⟩ => ⟨_, he, ?_⟩
      subst hw
      have hl0 : l.length ≠ 0 := fun h => hl (List.length_eq_zero_iff.1 h)
      refine done _ (stp_of ?_ ?_ ?_ ?_ hob.nm fun k hk hkn => ?_)
      · unfold World.freeze; split <;> rfl
      · unfold World.freeze; split <;> rfl
      · unfold World.freeze; split <;> rfl
      · unfold World.freeze; split
        · exact Nat.le_refl _
        · show w.heap.size ≤ (w.heap.modify gb _).size
          rw [Array.size_modify]; exact Nat.le_refl _
      · have hne2 : gb ≠ k := fun e => hkn (e ▸ hmn)
        unfold World.freeze; split
        · rfl
        · show (w.heap.modify gb _)[k]? = w.heap[k]?
          rw [Array.getElem?_modify, if_neg hne2]
end Go.Ae
set_option linter.unusedVariables false
namespace Go.Ae
open Go.RowKit
variable {P : Program} {f : FuncId}
theorem args1 {w : World} {m : Md} {g : List Value} {a : AV} {args : Array Value} (h : RepL w m g [a] args.toList) : ∃ v, args = #[v] ∧ RepV w m g a v := by
  obtain ⟨v1, r1, h1, h2, h3⟩ := h
  have h3' : r1 = [] := h3
  subst h3'
  exact ⟨v1, by cases args; simpa using h1, h2⟩
theorem args3 {w : World} {m : Md} {g : List Value} {a b c : AV} {args : Array Value} (h : RepL w m g [a, b, c] args.toList) : ∃ v u t, args = #[v, u, t] ∧ RepV w m g a v ∧ RepV w m g b u ∧ RepV w m g c t := by
  obtain ⟨v1, r1, h1, h2, v2, r2, rfl, h4, v3, r3, rfl, h6, h7⟩ := h
  have h7' : r3 = [] := h7
  subst h7'
  exact ⟨v1, v2, v3, by cases args; simpa using h1, h2, h4, h6⟩
theorem args5 {w : World} {m : Md} {g : List Value} {a b c d e : AV} {args : Array Value} (h : RepL w m g [a, b, c, d, e] args.toList) :
    ∃ v u t s r, args = #[v, u, t, s, r] ∧ RepV w m g a v ∧ RepV w m g b u ∧ RepV w m g c t ∧ RepV w m g d s ∧ RepV w m g e r := by
  obtain ⟨v1, r1, h1, h2, v2, r2, rfl, h4, v3, r3, rfl, h6, v4, r4, rfl, h8, v5, r5, rfl, h10, h11⟩ := h
  have h11' : r5 = [] := h11
  subst h11'
  exact ⟨v1, v2, v3, v4, v5, by cases args; simpa using h1, h2, h4, h6, h8, h10⟩
theorem lib_ss {fn : Func} (hf : P.funcs[f]? = some fn) (hb : fn.body.isSome = true) (hname : (fn.name == "runtime.NumGoroutine") = false) {F : List UInt8 × Unit → Option (List UInt8 × Unit)}
    (h : ∀ (s : List UInt8) (y : List UInt8), F (s, ()) = some (y, ()) → ∀ w, GlobI w → Calls P f #[.string ⟨⟨s⟩⟩] w fun e w' => e = .returned (.string ⟨⟨y⟩⟩) ∧ Below w.heap.size w w') :
    FnOk P f ⟨[.str], [(.ret, [.str])], F⟩ := by
  intro w m g v args y hob hargs hy
  obtain ⟨s, u⟩ := v
  obtain ⟨v1, rfl, h1⟩ := args1 hargs
  have h1' : v1 = .string ⟨⟨s⟩⟩ := h1
  subst h1'
  refine .inr ⟨enters hf hb hname _ w, ?_⟩
  obtain ⟨y, u'⟩ := y
  have hy' : F (s, ()) = some (y, ()) := hy
  refine (h s y hy' w hob.gi.i).mono fun e w' ⟨he, hbl⟩ => ⟨_, he, ?_⟩
  exact ⟨.ret, [.str], (y, ()), m, g, ⟨by simp, fun R k => rfl⟩, stp_below hbl hob.nm, repOb_nil hob (stp_below hbl hob.nm), fun _ _ h => h, ⟨_, [], rfl, rfl, rfl⟩⟩
theorem lib_ssss {fn : Func} (hf : P.funcs[f]? = some fn) (hb : fn.body.isSome = true) (hname : (fn.name == "runtime.NumGoroutine") = false) {F : List UInt8 × List UInt8 × List UInt8 × Unit → Option (List UInt8 × Unit)}
    (h : ∀ (s t r : List UInt8) (y : List UInt8), F (s, t, r, ()) = some (y, ()) → ∀ w, GlobI w → Calls P f #[.string ⟨⟨s⟩⟩, .string ⟨⟨t⟩⟩, .string ⟨⟨r⟩⟩] w fun e w' => e = .returned (.string ⟨⟨y⟩⟩) ∧ Below w.heap.size w w') :
    FnOk P f ⟨[.str, .str, .str], [(.ret, [.str])], F⟩ := by
  intro w m g v args y hob hargs hy
  obtain ⟨s, t, r, u⟩ := v
  obtain ⟨v1, v2, v3, rfl, h1, h2, h3⟩ := args3 hargs
  have h1' : v1 = .string ⟨⟨s⟩⟩ := h1
  have h2' : v2 = .string ⟨⟨t⟩⟩ := h2
  have h3' : v3 = .string ⟨⟨r⟩⟩ := h3
  subst h1' h2' h3'
  refine .inr ⟨enters hf hb hname _ w, ?_⟩
  obtain ⟨y, u'⟩ := y
  have hy' : F (s, t, r, ()) = some (y, ()) := hy
  refine (h s t r y hy' w hob.gi.i).mono fun e w' ⟨he, hbl⟩ => ⟨_, he, ?_⟩
  exact ⟨.ret, [.str], (y, ()), m, g, ⟨by simp, fun R k => rfl⟩, stp_below hbl hob.nm, repOb_nil hob (stp_below hbl hob.nm), fun _ _ h => h, ⟨_, [], rfl, rfl, rfl⟩⟩
theorem lib_is {fn : Func} (hf : P.funcs[f]? = some fn) (hb : fn.body.isSome = true) (hname : (fn.name == "runtime.NumGoroutine") = false) {k : IntKind} {F : Int × Unit → Option (List UInt8 × Unit)}
    (h : ∀ (n : Int) (y : List UInt8), F (n, ()) = some (y, ()) → ∀ w, GlobI w → Calls P f #[.int k n] w fun e w' => e = .returned (.string ⟨⟨y⟩⟩) ∧ Below w.heap.size w w') :
    FnOk P f ⟨[.int k], [(.ret, [.str])], F⟩ := by
  intro w m g v args y hob hargs hy
  obtain ⟨s, u⟩ := v
  obtain ⟨v1, rfl, h1⟩ := args1 hargs
  have h1' : v1 = .int k s := h1.1
  subst h1'
  refine .inr ⟨enters hf hb hname _ w, ?_⟩
  obtain ⟨y, u'⟩ := y
  have hy' : F (s, ()) = some (y, ()) := hy
  refine (h s y hy' w hob.gi.i).mono fun e w' ⟨he, hbl⟩ => ⟨_, he, ?_⟩
  exact ⟨.ret, [.str], (y, ()), m, g, ⟨by simp, fun R k => rfl⟩, stp_below hbl hob.nm, repOb_nil hob (stp_below hbl hob.nm), fun _ _ h => h, ⟨_, [], rfl, rfl, rfl⟩⟩
theorem lib_ii {fn : Func} (hf : P.funcs[f]? = some fn) (hb : fn.body.isSome = true) (hname : (fn.name == "runtime.NumGoroutine") = false) {k : IntKind} {F : Int × Unit → Option (Int × Unit)}
    (h : ∀ (n : Int) (y : Int), F (n, ()) = some (y, ()) → ∀ w, GlobI w → Calls P f #[.int k n] w fun e w' => e = .returned (.int .i64 y) ∧ Below w.heap.size w w') :
    FnOk P f ⟨[.int k], [(.ret, [.int .i64])], F⟩ := by
  intro w m g v args y hob hargs hy
  obtain ⟨s, u⟩ := v
  obtain ⟨v1, rfl, h1⟩ := args1 hargs
  have h1' : v1 = .int k s := h1.1
  subst h1'
  refine .inr ⟨enters hf hb hname _ w, ?_⟩
  obtain ⟨y, u'⟩ := y
  have hy' : F (s, ()) = some (y, ()) := hy
  refine (h s y hy' w hob.gi.i).mono fun e w' ⟨he, hbl⟩ => ⟨_, he, ?_⟩
  exact ⟨.ret, [.int .i64], (y, ()), m, g, ⟨by simp, fun R k => rfl⟩, stp_below hbl hob.nm, repOb_nil hob (stp_below hbl hob.nm), fun _ _ h => h, ⟨_, [], rfl, ⟨rfl, fun h => by cases h⟩, rfl⟩⟩
theorem lib_s_ie {fn : Func} (hf : P.funcs[f]? = some fn) (hb : fn.body.isSome = true) (hname : (fn.name == "runtime.NumGoroutine") = false) {t : TypeId} {F : List UInt8 × Unit → Option ((Int × Unit) ⊕ (Int × Unit))}
    (h1 : ∀ (s : List UInt8) (y : Int), F (s, ()) = some (.inl (y, ())) → ∀ w, GlobI w → Calls P f #[.string ⟨⟨s⟩⟩] w fun e w' => e = .returned (.tuple #[.int .i64 y, .nilIface]) ∧ Below w.heap.size w w')
    (h2 : ∀ (s : List UInt8) (y : Int), F (s, ()) = some (.inr (y, ())) → ∀ w, GlobI w → Calls P f #[.string ⟨⟨s⟩⟩] w fun e w' => (∃ u, e = .returned (.tuple #[.int .i64 y, .iface t u])) ∧ Below w.heap.size w w') :
    FnOk P f ⟨[.str], [(.ret, [.tuple 2, .int .i64, .nili]), (.ret, [.tuple 2, .int .i64, .iface t, .top])], F⟩ := by
  intro w m g v args y hob hargs hy
  obtain ⟨s, u⟩ := v
  obtain ⟨v1, rfl, h3⟩ := args1 hargs
  have h3' : v1 = .string ⟨⟨s⟩⟩ := h3
  subst h3'
  refine .inr ⟨enters hf hb hname _ w, ?_⟩
  cases y with
  | inl y =>
    obtain ⟨y, u'⟩ := y
    have hy' : F (s, ()) = some (.inl (y, ())) := hy
    refine (h1 s y hy' w hob.gi.i).mono fun e w' ⟨he, hbl⟩ => ⟨_, he, ?_⟩
    exact ⟨.ret, [.tuple 2, .int .i64, .nili], (y, ()), m, g, ⟨by simp, fun R k => rfl⟩, stp_below hbl hob.nm, repOb_nil hob (stp_below hbl hob.nm), fun _ _ h => h,
      ⟨_, [], rfl, ⟨_, rfl, _, _, rfl, ⟨rfl, fun h => by cases h⟩, _, _, rfl, rfl, rfl⟩, rfl⟩⟩
  | inr y =>
    obtain ⟨y, u'⟩ := y
    have hy' : F (s, ()) = some (.inr (y, ())) := hy
    refine (h2 s y hy' w hob.gi.i).mono fun e w' ⟨⟨u2, he⟩, hbl⟩ => ⟨_, he, ?_⟩
    exact ⟨.ret, [.tuple 2, .int .i64, .iface t, .top], (y, ()), m, g, ⟨by simp, fun R k => rfl⟩, stp_below hbl hob.nm, repOb_nil hob (stp_below hbl hob.nm), fun _ _ h => h,
      ⟨_, [], rfl, ⟨_, rfl, _, _, rfl, ⟨rfl, fun h => by cases h⟩, _, _, rfl, ⟨_, rfl, trivial⟩, rfl⟩, rfl⟩⟩
theorem lib_err {fn : Func} (hf : P.funcs[f]? = some fn) (hb : fn.body.isSome = true) (hname : (fn.name == "runtime.NumGoroutine") = false) {t t' : TypeId} {F : List UInt8 × List UInt8 × Int × Int × Int × Unit → Option Unit}
    (h : ∀ (s r : List UInt8) (a b n : Int), F (s, r, a, b, n, ()) = some () → ∀ w, GlobI w → Calls P f #[.string ⟨⟨s⟩⟩, .string ⟨⟨r⟩⟩, .int .i64 a, .int .i64 b, .iface t (.int .i64 n)] w fun e w' => (∃ u, e = .returned (.iface t' u)) ∧ Below w.heap.size w w') :
    FnOk P f ⟨[.str, .str, .int .i64, .int .i64, .iface t, .int .i64], [(.ret, [.iface t', .top])], F⟩ := by
  intro w m g v args y hob hargs hy
  obtain ⟨s, r, a, b, n, u⟩ := v
  obtain ⟨v1, v2, v3, v4, v5, rfl, h1, h2, h3, h4, h5⟩ := args5 hargs
  have h1' : v1 = .string ⟨⟨s⟩⟩ := h1
  have h2' : v2 = .string ⟨⟨r⟩⟩ := h2
  have h3' : v3 = .int .i64 a := h3.1
  have h4' : v4 = .int .i64 b := h4.1
  obtain ⟨u5, h5, h6⟩ := h5
  have h6' : u5 = .int .i64 n := h6.1
  subst h1' h2' h3' h4' h6' h5
  refine .inr ⟨enters hf hb hname _ w, ?_⟩
  have hy' : F (s, r, a, b, n, ()) = some () := hy
  refine (h s r a b n hy' w hob.gi.i).mono fun e w' ⟨⟨u2, he⟩, hbl⟩ => ⟨_, he, ?_⟩
  exact ⟨.ret, [.iface t', .top], (), m, g, ⟨by simp, fun R k => rfl⟩, stp_below hbl hob.nm, repOb_nil hob (stp_below hbl hob.nm), fun _ _ h => h, ⟨_, [], rfl, ⟨_, rfl, trivial⟩, rfl⟩⟩
end Go.Ae
set_option linter.unusedVariables false
namespace Go.Proofs.YtmfcepdbpdihgaaGreatDoor.W
open Go Go.Ae Go.RowKit
def lowB (c : UInt8) : UInt8 := cond (Nat.ble 65 c.toNat && Nat.ble c.toNat 90) (c + 32) c
def LowAt (w : World) (g N : Nat) (l : List UInt8) : Prop :=
  ∃ rest : List Value, w.heap[g]? = some (.cells ((l.map fun c => Value.int .u8 (c.toNat : Int)) ++ rest).toArray 5 (N, N + 1)) ∧ l.length + rest.length = N
section
variable {w : World} {g N : Nat} {l : List UInt8}
theorem LowAt.cell (h : LowAt w g N l) (k : Nat) (hk : k < l.length) : w.cell? ⟨g, k, none⟩ = some (.int .u8 ((l.getD k 0).toNat : Int)) := by
  obtain ⟨rest, h1, h2⟩ := h
  rw [cell_of_row w g k _ _ _ h1]
  simp [List.getElem?_append, hk, List.getD]
theorem LowAt.set (h : LowAt w g N l) (k : Nat) (hk : k < l.length) (c : UInt8) : LowAt (w.setCell ⟨g, k, none⟩ (.int .u8 (c.toNat : Int))) g N (l.set k c) := by
  obtain ⟨rest, h1, h2⟩ := h
  refine ⟨rest, ?_, by simpa using h2⟩
  have hg : g < w.heap.size := (Array.getElem?_eq_some_iff.1 h1).1
  simp only [World.setCell, Array.getElem?_modify, h1]
  simp [List.set_append, hk]
end
theorem LowAt.str {w : World} {g N cap : Nat} {l : List UInt8} (h : LowAt w g N l) (h1 : l.length ≤ cap) (h2 : cap ≤ 9223372036854775807) (hΓ : GOk Tryz.prog Γ) :
    (convert 65 9 (.slice (some ⟨g, 0, none⟩) l.length cap)).run Tryz.prog w = .ok (.string ⟨⟨l⟩⟩) w := by
  have hg : g < w.heap.size := by obtain ⟨rest, h1, _⟩ := h; exact (Array.getElem?_eq_some_iff.1 h1).1
  refine bytes_string (e := 5) (m := ⟨fun _ => False, fun _ => False⟩) hΓ (by kernel_rfl) (by kernel_rfl) (by kernel_rfl) ⟨_, _, rfl, h1, h2, (fun h => by cases h), fun j x hj => ?_⟩
  have hj' : l[j]? = some x := hj
  have hlt : j < l.length := (List.getElem?_eq_some_iff.1 hj').1
  refine ⟨g, 0, [.int .u8 ((x : UInt8).toNat : Int)], rfl, rfl, rfl, hg, id, fun i u hu => ?_⟩
  have hi : i = 0 := by have := (List.getElem?_eq_some_iff.1 hu).1; simp at this; exact this
  subst hi
  have hu' : u = .int .u8 ((x : UInt8).toNat : Int) := by simpa using hu.symm
  rw [hu']
  have hx : l.getD j 0 = x := by rw [List.getD_eq_getElem?_getD, hj']; rfl
  have hc := h.cell j hlt
  simp only [Ty.size, Nat.mul_one, Nat.zero_add, Nat.add_zero]
  rw [hc, hx]
def C102 (v : List UInt8 × Unit) : Option (List UInt8 × Unit) := if v.1.length ≤ 140737488355328 then some (v.1.map lowB, ()) else none
end Go.Proofs.YtmfcepdbpdihgaaGreatDoor.W
namespace Go.Proofs
open Go.Shelf
def Tryz.lays169_ren : Go.Shelf.Ren := ⟨fun | 169 => 35 | n => n, fun | 70 => 64 | 9 => 9 | 0 => 0 | 72 => 67 | 37 => 65 | 127 => 90 | 3 => 3 | 5 => 5 | n => n, fun | n => n⟩
theorem Tryz.lays169 : Go.Proofs.Lays.n169 Tryz.prog Tryz.lays169_ren := {
  mixed := by kernel_rfl
  f169 := Tryz.func35.trans (congrArg some (by kernel_rfl))
  t0 := Tryz.underlying0
  a0 := Tryz.isAgg0
  z0 := Tryz.sizeOf0
  v0 := Tryz.zeroValue0
  t3 := Tryz.underlying3
  a3 := Tryz.isAgg3
  z3 := Tryz.sizeOf3
  v3 := Tryz.zeroValue3
  t9 := Tryz.underlying9
  a9 := Tryz.isAgg9
  z9 := Tryz.sizeOf9
  v9 := Tryz.zeroValue9
  t37 := Tryz.underlying65
  a37 := Tryz.isAgg65
  z37 := Tryz.sizeOf65
  v37 := Tryz.zeroValue65
  t70 := Tryz.underlying64
  a70 := Tryz.isAgg64
  z70 := Tryz.sizeOf64
  v70 := Tryz.zeroValue64
  t72 := Tryz.underlying67
  a72 := Tryz.isAgg67
  z72 := Tryz.sizeOf67
  v72 := Tryz.zeroValue67
  t127 := Tryz.underlying90
  a127 := Tryz.isAgg90
  z127 := Tryz.sizeOf90
  v127 := Tryz.zeroValue90 }
theorem Tryz.Builder_Extra_169 : Builder.Extra Tryz.prog Tryz.lays169_ren := {
  sizeBuilder := by kernel_rfl
  liesBuilder := by kernel_rfl
  t5 := Tryz.underlying5
  a5 := Tryz.isAgg5
  z5 := Tryz.sizeOf5
  v5 := Tryz.zeroValue5
  infoByte := by kernel_rfl
  cellsByte := by kernel_rfl
  sizeByte := by kernel_rfl
  neB5 := by decide }
def Tryz.lays158_ren : Go.Shelf.Ren := ⟨fun | 158 => 67 | 165 => 94 | 166 => 33 | 167 => 32 | 169 => 35 | 230 => 95 | 203 => 96 | 240 => 66 | 241 => 124 | 197 => 125 | 118 => 126 | 168 => 127 | 270 => 128 | 262 => 129 | 276 => 93 | 277 => 154 | 260 => 155 | 242 => 156 | 313 => 157 | 278 => 171 | 274 => 172 | 275 => 173 | n => n, fun | 9 => 9 | 4 => 4 | 3 => 3 | 5 => 5 | 72 => 67 | 0 => 0 | 76 => 71 | 75 => 69 | 107 => 114 | 70 => 64 | 20 => 20 | 37 => 65 | 127 => 90 | 21 => 21 | 105 => 91 | 164 => 110 | 162 => 159 | 203 => 157 | 119 => 171 | 46 => 76 | 139 => 174 | 138 => 173 | 51 => 149 | 160 => 175 | 208 => 184 | 206 => 182 | 80 => 73 | n => n, fun | 13 => 3 | 3 => 5 | 4 => 6 | n => n⟩
theorem Tryz.lays158 : Go.Proofs.Lays.n158 Tryz.prog Tryz.lays158_ren := {
  mixed := by kernel_rfl
  f118 := Tryz.func126.trans (congrArg some (by kernel_rfl))
  f158 := Tryz.func67.trans (congrArg some (by kernel_rfl))
  f165 := Tryz.func94.trans (congrArg some (by kernel_rfl))
  f166 := Tryz.func33.trans (congrArg some (by kernel_rfl))
  f167 := Tryz.func32.trans (congrArg some (by kernel_rfl))
  f168 := Tryz.func127.trans (congrArg some (by kernel_rfl))
  f169 := Tryz.func35.trans (congrArg some (by kernel_rfl))
  f197 := Tryz.func125.trans (congrArg some (by kernel_rfl))
  f203 := Tryz.func96.trans (congrArg some (by kernel_rfl))
  f230 := Tryz.func95.trans (congrArg some (by kernel_rfl))
  f240 := Tryz.func66.trans (congrArg some (by kernel_rfl))
  f241 := Tryz.func124.trans (congrArg some (by kernel_rfl))
  f242 := Tryz.func156.trans (congrArg some (by kernel_rfl))
  f260 := Tryz.func155.trans (congrArg some (by kernel_rfl))
  f262 := Tryz.func129.trans (congrArg some (by kernel_rfl))
  f270 := Tryz.func128.trans (congrArg some (by kernel_rfl))
  f274 := Tryz.func172.trans (congrArg some (by kernel_rfl))
  f275 := Tryz.func173.trans (congrArg some (by kernel_rfl))
  f276 := Tryz.func93.trans (congrArg some (by kernel_rfl))
  f277 := Tryz.func154.trans (congrArg some (by kernel_rfl))
  f278 := Tryz.func171.trans (congrArg some (by kernel_rfl))
  f313 := Tryz.func157.trans (congrArg some (by kernel_rfl))
  t0 := Tryz.underlying0
  a0 := Tryz.isAgg0
  z0 := Tryz.sizeOf0
  v0 := Tryz.zeroValue0
  t3 := Tryz.underlying3
  a3 := Tryz.isAgg3
  z3 := Tryz.sizeOf3
  v3 := Tryz.zeroValue3
  t4 := Tryz.underlying4
  a4 := Tryz.isAgg4
  z4 := Tryz.sizeOf4
  v4 := Tryz.zeroValue4
  t5 := Tryz.underlying5
  a5 := Tryz.isAgg5
  z5 := Tryz.sizeOf5
  v5 := Tryz.zeroValue5
  t9 := Tryz.underlying9
  a9 := Tryz.isAgg9
  z9 := Tryz.sizeOf9
  v9 := Tryz.zeroValue9
  t20 := Tryz.underlying20
  a20 := Tryz.isAgg20
  z20 := Tryz.sizeOf20
  v20 := Tryz.zeroValue20
  t21 := Tryz.underlying21
  a21 := Tryz.isAgg21
  z21 := Tryz.sizeOf21
  v21 := Tryz.zeroValue21
  t37 := Tryz.underlying65
  a37 := Tryz.isAgg65
  z37 := Tryz.sizeOf65
  v37 := Tryz.zeroValue65
  t46 := Tryz.underlying76
  a46 := Tryz.isAgg76
  z46 := Tryz.sizeOf76
  v46 := Tryz.zeroValue76
  t51 := Tryz.underlying149
  a51 := Tryz.isAgg149
  z51 := Tryz.sizeOf149
  v51 := Tryz.zeroValue149
  t70 := Tryz.underlying64
  a70 := Tryz.isAgg64
  z70 := Tryz.sizeOf64
  v70 := Tryz.zeroValue64
  t72 := Tryz.underlying67
  a72 := Tryz.isAgg67
  z72 := Tryz.sizeOf67
  v72 := Tryz.zeroValue67
  t75 := Tryz.underlying69
  a75 := Tryz.isAgg69
  z75 := Tryz.sizeOf69
  v75 := Tryz.zeroValue69
  t76 := Tryz.underlying71
  a76 := Tryz.isAgg71
  z76 := Tryz.sizeOf71
  v76 := Tryz.zeroValue71
  t105 := Tryz.underlying91
  a105 := Tryz.isAgg91
  z105 := Tryz.sizeOf91
  v105 := Tryz.zeroValue91
  t107 := Tryz.underlying114
  a107 := Tryz.isAgg114
  z107 := Tryz.sizeOf114
  v107 := Tryz.zeroValue114
  t119 := Tryz.underlying171
  a119 := Tryz.isAgg171
  z119 := Tryz.sizeOf171
  t127 := Tryz.underlying90
  a127 := Tryz.isAgg90
  z127 := Tryz.sizeOf90
  v127 := Tryz.zeroValue90
  t138 := Tryz.underlying173
  a138 := Tryz.isAgg173
  z138 := Tryz.sizeOf173
  v138 := Tryz.zeroValue173
  t139 := Tryz.underlying174
  a139 := Tryz.isAgg174
  z139 := Tryz.sizeOf174
  v139 := Tryz.zeroValue174
  t160 := Tryz.underlying175
  a160 := Tryz.isAgg175
  z160 := Tryz.sizeOf175
  v160 := Tryz.zeroValue175
  t162 := Tryz.underlying159
  a162 := Tryz.isAgg159
  z162 := Tryz.sizeOf159
  v162 := Tryz.zeroValue159
  t164 := Tryz.underlying110
  a164 := Tryz.isAgg110
  z164 := Tryz.sizeOf110
  v164 := Tryz.zeroValue110
  t203 := Tryz.underlying157
  a203 := Tryz.isAgg157
  z203 := Tryz.sizeOf157
  v203 := Tryz.zeroValue157
  t206 := Tryz.underlying182
  a206 := Tryz.isAgg182
  z206 := Tryz.sizeOf182
  v206 := Tryz.zeroValue182
  t208 := Tryz.underlying184
  a208 := Tryz.isAgg184
  z208 := Tryz.sizeOf184
  v208 := Tryz.zeroValue184
  g3 := by kernel_rfl
  g4 := by kernel_rfl
  g13 := by kernel_rfl }
theorem Tryz.Builder_Extra_158 : Builder.Extra Tryz.prog Tryz.lays158_ren := {
  sizeBuilder := by kernel_rfl
  liesBuilder := by kernel_rfl
  t5 := Tryz.underlying5
  a5 := Tryz.isAgg5
  z5 := Tryz.sizeOf5
  v5 := Tryz.zeroValue5
  infoByte := by kernel_rfl
  cellsByte := by kernel_rfl
  sizeByte := by kernel_rfl
  neB5 := by decide }
def Tryz.lays160_ren : Go.Shelf.Ren := ⟨fun | 160 => 101 | 232 => 137 | 231 => 136 | 227 => 138 | 234 => 140 | 233 => 139 | 236 => 142 | 235 => 141 | 228 => 164 | 271 => 166 | 151 => 165 | 197 => 125 | 120 => 178 | 152 => 177 | 260 => 155 | 137 => 99 | 119 => 179 | 224 => 117 | 225 => 116 | 217 => 115 | 266 => 148 | n => n, fun | 9 => 9 | 4 => 4 | 3 => 3 | 5 => 5 | 117 => 144 | 116 => 143 | 0 => 0 | 124 => 147 | 21 => 21 | 105 => 91 | 46 => 76 | 119 => 171 | 139 => 174 | 138 => 173 | n => n, fun | 3 => 5 | 4 => 6 | n => n⟩
theorem Tryz.lays160 : Go.Proofs.Lays.n160 Tryz.prog Tryz.lays160_ren := {
  mixed := by kernel_rfl
  f119 := Tryz.func179.trans (congrArg some (by kernel_rfl))
  f120 := Tryz.func178.trans (congrArg some (by kernel_rfl))
  f137 := Tryz.func99.trans (congrArg some (by kernel_rfl))
  f151 := Tryz.func165.trans (congrArg some (by kernel_rfl))
  f152 := Tryz.func177.trans (congrArg some (by kernel_rfl))
  f160 := Tryz.func101.trans (congrArg some (by kernel_rfl))
  f197 := Tryz.func125.trans (congrArg some (by kernel_rfl))
  f217 := Tryz.func115.trans (congrArg some (by kernel_rfl))
  f224 := Tryz.func117.trans (congrArg some (by kernel_rfl))
  f225 := Tryz.func116.trans (congrArg some (by kernel_rfl))
  f227 := Tryz.func138.trans (congrArg some (by kernel_rfl))
  f228 := Tryz.func164.trans (congrArg some (by kernel_rfl))
  f231 := Tryz.func136.trans (congrArg some (by kernel_rfl))
  f232 := Tryz.func137.trans (congrArg some (by kernel_rfl))
  f233 := Tryz.func139.trans (congrArg some (by kernel_rfl))
  f234 := Tryz.func140.trans (congrArg some (by kernel_rfl))
  f235 := Tryz.func141.trans (congrArg some (by kernel_rfl))
  f236 := Tryz.func142.trans (congrArg some (by kernel_rfl))
  f260 := Tryz.func155.trans (congrArg some (by kernel_rfl))
  f266 := Tryz.func148.trans (congrArg some (by kernel_rfl))
  f271 := Tryz.func166.trans (congrArg some (by kernel_rfl))
  t0 := Tryz.underlying0
  a0 := Tryz.isAgg0
  z0 := Tryz.sizeOf0
  v0 := Tryz.zeroValue0
  t3 := Tryz.underlying3
  a3 := Tryz.isAgg3
  z3 := Tryz.sizeOf3
  v3 := Tryz.zeroValue3
  t4 := Tryz.underlying4
  a4 := Tryz.isAgg4
  z4 := Tryz.sizeOf4
  v4 := Tryz.zeroValue4
  t5 := Tryz.underlying5
  a5 := Tryz.isAgg5
  z5 := Tryz.sizeOf5
  v5 := Tryz.zeroValue5
  t9 := Tryz.underlying9
  a9 := Tryz.isAgg9
  z9 := Tryz.sizeOf9
  v9 := Tryz.zeroValue9
  t21 := Tryz.underlying21
  a21 := Tryz.isAgg21
  z21 := Tryz.sizeOf21
  v21 := Tryz.zeroValue21
  t46 := Tryz.underlying76
  a46 := Tryz.isAgg76
  z46 := Tryz.sizeOf76
  v46 := Tryz.zeroValue76
  t105 := Tryz.underlying91
  a105 := Tryz.isAgg91
  z105 := Tryz.sizeOf91
  v105 := Tryz.zeroValue91
  t116 := Tryz.underlying143
  a116 := Tryz.isAgg143
  z116 := Tryz.sizeOf143
  t117 := Tryz.underlying144
  a117 := Tryz.isAgg144
  z117 := Tryz.sizeOf144
  v117 := Tryz.zeroValue144
  t119 := Tryz.underlying171
  a119 := Tryz.isAgg171
  z119 := Tryz.sizeOf171
  t124 := Tryz.underlying147
  a124 := Tryz.isAgg147
  z124 := Tryz.sizeOf147
  v124 := Tryz.zeroValue147
  t138 := Tryz.underlying173
  a138 := Tryz.isAgg173
  z138 := Tryz.sizeOf173
  v138 := Tryz.zeroValue173
  t139 := Tryz.underlying174
  a139 := Tryz.isAgg174
  z139 := Tryz.sizeOf174
  v139 := Tryz.zeroValue174
  g3 := by kernel_rfl
  g4 := by kernel_rfl }
def Tryz.laysM171_ren : Go.Shelf.Ren := ⟨fun | 171 => 38 | 243 => 70 | 246 => 97 | 283 => 130 | 284 => 131 | 285 => 132 | 286 => 133 | 129 => 159 | 317 => 158 | 318 => 160 | 319 => 161 | 320 => 162 | 337 => 174 | 338 => 175 | n => n, fun | 3 => 3 | 9 => 9 | 2 => 2 | 4 => 4 | 171 => 135 | 0 => 0 | 53 => 126 | 37 => 65 | 5 => 5 | 173 => 138 | 212 => 161 | 51 => 149 | 20 => 20 | 213 => 162 | 46 => 76 | 232 => 185 | 233 => 186 | n => n, fun | 17 => 4 | 18 => 7 | 19 => 8 | n => n⟩
theorem Tryz.laysM171 : Go.Proofs.LaysM.n171 Tryz.prog Tryz.laysM171_ren := {
  mixed := by kernel_rfl
  f129 := Tryz.func159.trans (congrArg some (by kernel_rfl))
  f171 := Tryz.func38.trans (congrArg some (by kernel_rfl))
  f243 := Tryz.func70.trans (congrArg some (by kernel_rfl))
  f246 := Tryz.func97.trans (congrArg some (by kernel_rfl))
  f283 := Tryz.func130.trans (congrArg some (by kernel_rfl))
  f284 := Tryz.func131.trans (congrArg some (by kernel_rfl))
  f285 := Tryz.func132.trans (congrArg some (by kernel_rfl))
  f286 := Tryz.func133.trans (congrArg some (by kernel_rfl))
  f317 := Tryz.func158.trans (congrArg some (by kernel_rfl))
  f318 := Tryz.func160.trans (congrArg some (by kernel_rfl))
  f319 := Tryz.func161.trans (congrArg some (by kernel_rfl))
  f320 := Tryz.func162.trans (congrArg some (by kernel_rfl))
  f337 := Tryz.func174.trans (congrArg some (by kernel_rfl))
  f338 := Tryz.func175.trans (congrArg some (by kernel_rfl))
  t0 := Tryz.underlying0
  a0 := Tryz.isAgg0
  z0 := Tryz.sizeOf0
  v0 := Tryz.zeroValue0
  t2 := Tryz.underlying2
  a2 := Tryz.isAgg2
  z2 := Tryz.sizeOf2
  v2 := Tryz.zeroValue2
  t3 := Tryz.underlying3
  a3 := Tryz.isAgg3
  z3 := Tryz.sizeOf3
  v3 := Tryz.zeroValue3
  t4 := Tryz.underlying4
  a4 := Tryz.isAgg4
  z4 := Tryz.sizeOf4
  v4 := Tryz.zeroValue4
  t5 := Tryz.underlying5
  a5 := Tryz.isAgg5
  z5 := Tryz.sizeOf5
  v5 := Tryz.zeroValue5
  t9 := Tryz.underlying9
  a9 := Tryz.isAgg9
  z9 := Tryz.sizeOf9
  v9 := Tryz.zeroValue9
  t20 := Tryz.underlying20
  a20 := Tryz.isAgg20
  z20 := Tryz.sizeOf20
  v20 := Tryz.zeroValue20
  t37 := Tryz.underlying65
  a37 := Tryz.isAgg65
  z37 := Tryz.sizeOf65
  v37 := Tryz.zeroValue65
  t46 := Tryz.underlying76
  a46 := Tryz.isAgg76
  z46 := Tryz.sizeOf76
  v46 := Tryz.zeroValue76
  t51 := Tryz.underlying149
  a51 := Tryz.isAgg149
  z51 := Tryz.sizeOf149
  v51 := Tryz.zeroValue149
  t53 := Tryz.underlying126
  a53 := Tryz.isAgg126
  z53 := Tryz.sizeOf126
  v53 := Tryz.zeroValue126
  t171 := Tryz.underlying135
  a171 := Tryz.isAgg135
  z171 := Tryz.sizeOf135
  v171 := Tryz.zeroValue135
  t173 := Tryz.underlying138
  a173 := Tryz.isAgg138
  z173 := Tryz.sizeOf138
  v173 := Tryz.zeroValue138
  t212 := Tryz.underlying161
  a212 := Tryz.isAgg161
  z212 := Tryz.sizeOf161
  v212 := Tryz.zeroValue161
  t213 := Tryz.underlying162
  a213 := Tryz.isAgg162
  z213 := Tryz.sizeOf162
  t232 := Tryz.underlying185
  a232 := Tryz.isAgg185
  z232 := Tryz.sizeOf185
  v232 := Tryz.zeroValue185
  t233 := Tryz.underlying186
  a233 := Tryz.isAgg186
  z233 := Tryz.sizeOf186
  v233 := Tryz.zeroValue186
  g17 := by kernel_rfl
  g18 := by kernel_rfl
  g19 := by kernel_rfl
  i0 := by kernel_rfl
  i2 := by kernel_rfl
  i3 := by kernel_rfl
  i4 := by kernel_rfl
  i5 := by kernel_rfl
  i9 := by kernel_rfl
  i20 := by kernel_rfl
  i37 := by kernel_rfl
  i46 := by kernel_rfl
  i51 := by kernel_rfl
  i53 := by kernel_rfl
  i171 := by kernel_rfl
  i173 := by kernel_rfl
  i212 := by kernel_rfl
  i232 := by kernel_rfl
  i233 := by kernel_rfl
  m17 := by kernel_rfl
  m18 := by kernel_rfl
  m19 := by kernel_rfl }
def Tryz.laysC245_ren : Go.Shelf.Ren := ⟨fun | 245 => 91 | 279 => 120 | 280 => 121 | 281 => 122 | 282 => 123 | 316 => 152 | 171 => 38 | 205 => 153 | 243 => 70 | 246 => 97 | 283 => 130 | 284 => 131 | 285 => 132 | 286 => 133 | 129 => 159 | 317 => 158 | 318 => 160 | 319 => 161 | 320 => 162 | 337 => 174 | 338 => 175 | n => n, fun | 9 => 9 | 3 => 3 | 75 => 69 | 167 => 125 | 4 => 4 | 168 => 129 | 210 => 153 | 37 => 65 | 0 => 0 | 127 => 90 | 145 => 170 | 143 => 168 | 2 => 2 | 171 => 135 | 53 => 126 | 5 => 5 | 173 => 138 | 212 => 161 | 51 => 149 | 20 => 20 | 213 => 162 | 46 => 76 | 232 => 185 | 233 => 186 | 80 => 73 | n => n, fun | 15 => 1 | 16 => 2 | 17 => 4 | 18 => 7 | 19 => 8 | n => n⟩
theorem Tryz.laysC245 : Go.Proofs.LaysC.n245 Tryz.prog Tryz.laysC245_ren := {
  mixed := by kernel_rfl
  f129 := Tryz.func159.trans (congrArg some (by kernel_rfl))
  f171 := Tryz.func38.trans (congrArg some (by kernel_rfl))
  f205 := Tryz.func153.trans (congrArg some (by kernel_rfl))
  f243 := Tryz.func70.trans (congrArg some (by kernel_rfl))
  f245 := Tryz.func91.trans (congrArg some (by kernel_rfl))
  f246 := Tryz.func97.trans (congrArg some (by kernel_rfl))
  f279 := Tryz.func120.trans (congrArg some (by kernel_rfl))
  f280 := Tryz.func121.trans (congrArg some (by kernel_rfl))
  f281 := Tryz.func122.trans (congrArg some (by kernel_rfl))
  f282 := Tryz.func123.trans (congrArg some (by kernel_rfl))
  f283 := Tryz.func130.trans (congrArg some (by kernel_rfl))
  f284 := Tryz.func131.trans (congrArg some (by kernel_rfl))
  f285 := Tryz.func132.trans (congrArg some (by kernel_rfl))
  f286 := Tryz.func133.trans (congrArg some (by kernel_rfl))
  f316 := Tryz.func152.trans (congrArg some (by kernel_rfl))
  f317 := Tryz.func158.trans (congrArg some (by kernel_rfl))
  f318 := Tryz.func160.trans (congrArg some (by kernel_rfl))
  f319 := Tryz.func161.trans (congrArg some (by kernel_rfl))
  f320 := Tryz.func162.trans (congrArg some (by kernel_rfl))
  f337 := Tryz.func174.trans (congrArg some (by kernel_rfl))
  f338 := Tryz.func175.trans (congrArg some (by kernel_rfl))
  t0 := Tryz.underlying0
  a0 := Tryz.isAgg0
  z0 := Tryz.sizeOf0
  v0 := Tryz.zeroValue0
  t2 := Tryz.underlying2
  a2 := Tryz.isAgg2
  z2 := Tryz.sizeOf2
  v2 := Tryz.zeroValue2
  t3 := Tryz.underlying3
  a3 := Tryz.isAgg3
  z3 := Tryz.sizeOf3
  v3 := Tryz.zeroValue3
  t4 := Tryz.underlying4
  a4 := Tryz.isAgg4
  z4 := Tryz.sizeOf4
  v4 := Tryz.zeroValue4
  t5 := Tryz.underlying5
  a5 := Tryz.isAgg5
  z5 := Tryz.sizeOf5
  v5 := Tryz.zeroValue5
  t9 := Tryz.underlying9
  a9 := Tryz.isAgg9
  z9 := Tryz.sizeOf9
  v9 := Tryz.zeroValue9
  t20 := Tryz.underlying20
  a20 := Tryz.isAgg20
  z20 := Tryz.sizeOf20
  v20 := Tryz.zeroValue20
  t37 := Tryz.underlying65
  a37 := Tryz.isAgg65
  z37 := Tryz.sizeOf65
  v37 := Tryz.zeroValue65
  t46 := Tryz.underlying76
  a46 := Tryz.isAgg76
  z46 := Tryz.sizeOf76
  v46 := Tryz.zeroValue76
  t51 := Tryz.underlying149
  a51 := Tryz.isAgg149
  z51 := Tryz.sizeOf149
  v51 := Tryz.zeroValue149
  t53 := Tryz.underlying126
  a53 := Tryz.isAgg126
  z53 := Tryz.sizeOf126
  v53 := Tryz.zeroValue126
  t75 := Tryz.underlying69
  a75 := Tryz.isAgg69
  z75 := Tryz.sizeOf69
  v75 := Tryz.zeroValue69
  t127 := Tryz.underlying90
  a127 := Tryz.isAgg90
  z127 := Tryz.sizeOf90
  v127 := Tryz.zeroValue90
  t143 := Tryz.underlying168
  a143 := Tryz.isAgg168
  z143 := Tryz.sizeOf168
  v143 := Tryz.zeroValue168
  t145 := Tryz.underlying170
  a145 := Tryz.isAgg170
  z145 := Tryz.sizeOf170
  v145 := Tryz.zeroValue170
  t167 := Tryz.underlying125
  a167 := Tryz.isAgg125
  z167 := Tryz.sizeOf125
  v167 := Tryz.zeroValue125
  t168 := Tryz.underlying129
  a168 := Tryz.isAgg129
  z168 := Tryz.sizeOf129
  v168 := Tryz.zeroValue129
  t171 := Tryz.underlying135
  a171 := Tryz.isAgg135
  z171 := Tryz.sizeOf135
  v171 := Tryz.zeroValue135
  t173 := Tryz.underlying138
  a173 := Tryz.isAgg138
  z173 := Tryz.sizeOf138
  v173 := Tryz.zeroValue138
  t210 := Tryz.underlying153
  a210 := Tryz.isAgg153
  z210 := Tryz.sizeOf153
  v210 := Tryz.zeroValue153
  t212 := Tryz.underlying161
  a212 := Tryz.isAgg161
  z212 := Tryz.sizeOf161
  v212 := Tryz.zeroValue161
  t213 := Tryz.underlying162
  a213 := Tryz.isAgg162
  z213 := Tryz.sizeOf162
  t232 := Tryz.underlying185
  a232 := Tryz.isAgg185
  z232 := Tryz.sizeOf185
  v232 := Tryz.zeroValue185
  t233 := Tryz.underlying186
  a233 := Tryz.isAgg186
  z233 := Tryz.sizeOf186
  v233 := Tryz.zeroValue186
  g15 := by kernel_rfl
  g16 := by kernel_rfl
  g17 := by kernel_rfl
  g18 := by kernel_rfl
  g19 := by kernel_rfl
  t80 := Tryz.underlying73
  a80 := Tryz.isAgg73
  z80 := Tryz.sizeOf73
  v80 := Tryz.zeroValue73
  i0 := by kernel_rfl
  i2 := by kernel_rfl
  i3 := by kernel_rfl
  i4 := by kernel_rfl
  i5 := by kernel_rfl
  i9 := by kernel_rfl
  i20 := by kernel_rfl
  i37 := by kernel_rfl
  i46 := by kernel_rfl
  i51 := by kernel_rfl
  i53 := by kernel_rfl
  i75 := by kernel_rfl
  i80 := by kernel_rfl
  i127 := by kernel_rfl
  i143 := by kernel_rfl
  i145 := by kernel_rfl
  i167 := by kernel_rfl
  i168 := by kernel_rfl
  i171 := by kernel_rfl
  i173 := by kernel_rfl
  i210 := by kernel_rfl
  i212 := by kernel_rfl
  i232 := by kernel_rfl
  i233 := by kernel_rfl
  m15 := by kernel_rfl
  m16 := by kernel_rfl
  m17 := by kernel_rfl
  m18 := by kernel_rfl
  m19 := by kernel_rfl
  c0 := by kernel_rfl
  c2 := by kernel_rfl
  c3 := by kernel_rfl
  c4 := by kernel_rfl
  c5 := by kernel_rfl
  c9 := by kernel_rfl
  c20 := by kernel_rfl
  c37 := by kernel_rfl
  c46 := by kernel_rfl
  c51 := by kernel_rfl
  c53 := by kernel_rfl
  c75 := by kernel_rfl
  c80 := by kernel_rfl
  c127 := by kernel_rfl
  c143 := by kernel_rfl
  c145 := by kernel_rfl
  c167 := by kernel_rfl
  c168 := by kernel_rfl
  c171 := by kernel_rfl
  c173 := by kernel_rfl
  c210 := by kernel_rfl
  c212 := by kernel_rfl
  c213 := by kernel_rfl
  c232 := by kernel_rfl
  c233 := by kernel_rfl }
def Tryz.laysC172_ren : Go.Shelf.Ren := ⟨fun | 172 => 83 | 244 => 108 | 245 => 91 | 247 => 90 | 279 => 120 | 280 => 121 | 281 => 122 | 282 => 123 | 287 => 119 | 316 => 152 | 171 => 38 | 205 => 153 | 321 => 150 | 322 => 151 | 243 => 70 | 246 => 97 | 283 => 130 | 284 => 131 | 285 => 132 | 286 => 133 | 129 => 159 | 317 => 158 | 318 => 160 | 319 => 161 | 320 => 162 | 337 => 174 | 338 => 175 | n => n, fun | 9 => 9 | 3 => 3 | 75 => 69 | 76 => 71 | 4 => 4 | 5 => 5 | 167 => 125 | 37 => 65 | 0 => 0 | 85 => 86 | 2 => 2 | 168 => 129 | 53 => 126 | 175 => 127 | 46 => 76 | 210 => 153 | 127 => 90 | 145 => 170 | 143 => 168 | 21 => 21 | 171 => 135 | 173 => 138 | 212 => 161 | 51 => 149 | 20 => 20 | 213 => 162 | 232 => 185 | 233 => 186 | 80 => 73 | n => n, fun | 15 => 1 | 16 => 2 | 17 => 4 | 18 => 7 | 19 => 8 | n => n⟩
theorem Tryz.laysC172 : Go.Proofs.LaysC.n172 Tryz.prog Tryz.laysC172_ren := {
  mixed := by kernel_rfl
  f129 := Tryz.func159.trans (congrArg some (by kernel_rfl))
  f171 := Tryz.func38.trans (congrArg some (by kernel_rfl))
  f172 := Tryz.func83.trans (congrArg some (by kernel_rfl))
  f205 := Tryz.func153.trans (congrArg some (by kernel_rfl))
  f243 := Tryz.func70.trans (congrArg some (by kernel_rfl))
  f244 := Tryz.func108.trans (congrArg some (by kernel_rfl))
  f245 := Tryz.func91.trans (congrArg some (by kernel_rfl))
  f246 := Tryz.func97.trans (congrArg some (by kernel_rfl))
  f247 := Tryz.func90.trans (congrArg some (by kernel_rfl))
  f279 := Tryz.func120.trans (congrArg some (by kernel_rfl))
  f280 := Tryz.func121.trans (congrArg some (by kernel_rfl))
  f281 := Tryz.func122.trans (congrArg some (by kernel_rfl))
  f282 := Tryz.func123.trans (congrArg some (by kernel_rfl))
  f283 := Tryz.func130.trans (congrArg some (by kernel_rfl))
  f284 := Tryz.func131.trans (congrArg some (by kernel_rfl))
  f285 := Tryz.func132.trans (congrArg some (by kernel_rfl))
  f286 := Tryz.func133.trans (congrArg some (by kernel_rfl))
  f287 := Tryz.func119.trans (congrArg some (by kernel_rfl))
  f316 := Tryz.func152.trans (congrArg some (by kernel_rfl))
  f317 := Tryz.func158.trans (congrArg some (by kernel_rfl))
  f318 := Tryz.func160.trans (congrArg some (by kernel_rfl))
  f319 := Tryz.func161.trans (congrArg some (by kernel_rfl))
  f320 := Tryz.func162.trans (congrArg some (by kernel_rfl))
  f321 := Tryz.func150.trans (congrArg some (by kernel_rfl))
  f322 := Tryz.func151.trans (congrArg some (by kernel_rfl))
  f337 := Tryz.func174.trans (congrArg some (by kernel_rfl))
  f338 := Tryz.func175.trans (congrArg some (by kernel_rfl))
  t0 := Tryz.underlying0
  a0 := Tryz.isAgg0
  z0 := Tryz.sizeOf0
  v0 := Tryz.zeroValue0
  t2 := Tryz.underlying2
  a2 := Tryz.isAgg2
  z2 := Tryz.sizeOf2
  v2 := Tryz.zeroValue2
  t3 := Tryz.underlying3
  a3 := Tryz.isAgg3
  z3 := Tryz.sizeOf3
  v3 := Tryz.zeroValue3
  t4 := Tryz.underlying4
  a4 := Tryz.isAgg4
  z4 := Tryz.sizeOf4
  v4 := Tryz.zeroValue4
  t5 := Tryz.underlying5
  a5 := Tryz.isAgg5
  z5 := Tryz.sizeOf5
  v5 := Tryz.zeroValue5
  t9 := Tryz.underlying9
  a9 := Tryz.isAgg9
  z9 := Tryz.sizeOf9
  v9 := Tryz.zeroValue9
  t20 := Tryz.underlying20
  a20 := Tryz.isAgg20
  z20 := Tryz.sizeOf20
  v20 := Tryz.zeroValue20
  t21 := Tryz.underlying21
  a21 := Tryz.isAgg21
  z21 := Tryz.sizeOf21
  v21 := Tryz.zeroValue21
  t37 := Tryz.underlying65
  a37 := Tryz.isAgg65
  z37 := Tryz.sizeOf65
  v37 := Tryz.zeroValue65
  t46 := Tryz.underlying76
  a46 := Tryz.isAgg76
  z46 := Tryz.sizeOf76
  v46 := Tryz.zeroValue76
  t51 := Tryz.underlying149
  a51 := Tryz.isAgg149
  z51 := Tryz.sizeOf149
  v51 := Tryz.zeroValue149
  t53 := Tryz.underlying126
  a53 := Tryz.isAgg126
  z53 := Tryz.sizeOf126
  v53 := Tryz.zeroValue126
  t75 := Tryz.underlying69
  a75 := Tryz.isAgg69
  z75 := Tryz.sizeOf69
  v75 := Tryz.zeroValue69
  t76 := Tryz.underlying71
  a76 := Tryz.isAgg71
  z76 := Tryz.sizeOf71
  v76 := Tryz.zeroValue71
  t85 := Tryz.underlying86
  a85 := Tryz.isAgg86
  z85 := Tryz.sizeOf86
  v85 := Tryz.zeroValue86
  t127 := Tryz.underlying90
  a127 := Tryz.isAgg90
  z127 := Tryz.sizeOf90
  v127 := Tryz.zeroValue90
  t143 := Tryz.underlying168
  a143 := Tryz.isAgg168
  z143 := Tryz.sizeOf168
  v143 := Tryz.zeroValue168
  t145 := Tryz.underlying170
  a145 := Tryz.isAgg170
  z145 := Tryz.sizeOf170
  v145 := Tryz.zeroValue170
  t167 := Tryz.underlying125
  a167 := Tryz.isAgg125
  z167 := Tryz.sizeOf125
  v167 := Tryz.zeroValue125
  t168 := Tryz.underlying129
  a168 := Tryz.isAgg129
  z168 := Tryz.sizeOf129
  v168 := Tryz.zeroValue129
  t171 := Tryz.underlying135
  a171 := Tryz.isAgg135
  z171 := Tryz.sizeOf135
  v171 := Tryz.zeroValue135
  t173 := Tryz.underlying138
  a173 := Tryz.isAgg138
  z173 := Tryz.sizeOf138
  v173 := Tryz.zeroValue138
  t175 := Tryz.underlying127
  a175 := Tryz.isAgg127
  z175 := Tryz.sizeOf127
  v175 := Tryz.zeroValue127
  t210 := Tryz.underlying153
  a210 := Tryz.isAgg153
  z210 := Tryz.sizeOf153
  v210 := Tryz.zeroValue153
  t212 := Tryz.underlying161
  a212 := Tryz.isAgg161
  z212 := Tryz.sizeOf161
  v212 := Tryz.zeroValue161
  t213 := Tryz.underlying162
  a213 := Tryz.isAgg162
  z213 := Tryz.sizeOf162
  t232 := Tryz.underlying185
  a232 := Tryz.isAgg185
  z232 := Tryz.sizeOf185
  v232 := Tryz.zeroValue185
  t233 := Tryz.underlying186
  a233 := Tryz.isAgg186
  z233 := Tryz.sizeOf186
  v233 := Tryz.zeroValue186
  g15 := by kernel_rfl
  g16 := by kernel_rfl
  g17 := by kernel_rfl
  g18 := by kernel_rfl
  g19 := by kernel_rfl
  t80 := Tryz.underlying73
  a80 := Tryz.isAgg73
  z80 := Tryz.sizeOf73
  v80 := Tryz.zeroValue73
  i0 := by kernel_rfl
  i2 := by kernel_rfl
  i3 := by kernel_rfl
  i4 := by kernel_rfl
  i5 := by kernel_rfl
  i9 := by kernel_rfl
  i20 := by kernel_rfl
  i21 := by kernel_rfl
  i37 := by kernel_rfl
  i46 := by kernel_rfl
  i51 := by kernel_rfl
  i53 := by kernel_rfl
  i75 := by kernel_rfl
  i76 := by kernel_rfl
  i80 := by kernel_rfl
  i85 := by kernel_rfl
  i127 := by kernel_rfl
  i143 := by kernel_rfl
  i145 := by kernel_rfl
  i167 := by kernel_rfl
  i168 := by kernel_rfl
  i171 := by kernel_rfl
  i173 := by kernel_rfl
  i175 := by kernel_rfl
  i210 := by kernel_rfl
  i212 := by kernel_rfl
  i232 := by kernel_rfl
  i233 := by kernel_rfl
  m15 := by kernel_rfl
  m16 := by kernel_rfl
  m17 := by kernel_rfl
  m18 := by kernel_rfl
  m19 := by kernel_rfl
  c0 := by kernel_rfl
  c2 := by kernel_rfl
  c3 := by kernel_rfl
  c4 := by kernel_rfl
  c5 := by kernel_rfl
  c9 := by kernel_rfl
  c20 := by kernel_rfl
  c21 := by kernel_rfl
  c37 := by kernel_rfl
  c46 := by kernel_rfl
  c51 := by kernel_rfl
  c53 := by kernel_rfl
  c75 := by kernel_rfl
  c76 := by kernel_rfl
  c80 := by kernel_rfl
  c85 := by kernel_rfl
  c127 := by kernel_rfl
  c143 := by kernel_rfl
  c145 := by kernel_rfl
  c167 := by kernel_rfl
  c168 := by kernel_rfl
  c171 := by kernel_rfl
  c173 := by kernel_rfl
  c175 := by kernel_rfl
  c210 := by kernel_rfl
  c212 := by kernel_rfl
  c213 := by kernel_rfl
  c232 := by kernel_rfl
  c233 := by kernel_rfl }
def Tryz.lays155_ren : Go.Shelf.Ren := ⟨fun | 155 => 84 | 154 => 109 | 138 => 144 | 165 => 94 | 143 => 145 | 166 => 33 | 197 => 125 | 169 => 35 | 195 => 168 | 218 => 169 | 240 => 66 | 241 => 124 | 219 => 89 | 260 => 155 | 276 => 93 | 277 => 154 | 217 => 115 | 225 => 116 | 224 => 117 | 267 => 118 | 266 => 148 | 314 => 149 | n => n, fun | 9 => 9 | 3 => 3 | 4 => 4 | 72 => 67 | 0 => 0 | 76 => 71 | 105 => 91 | 21 => 21 | 5 => 5 | 70 => 64 | 20 => 20 | 37 => 65 | 75 => 69 | 127 => 90 | 164 => 110 | 46 => 76 | 119 => 171 | 139 => 174 | 138 => 173 | 146 => 150 | 51 => 149 | 80 => 73 | n => n, fun | 1 => 0 | 3 => 5 | 4 => 6 | n => n⟩
theorem Tryz.lays155 : Go.Proofs.Lays.n155 Tryz.prog Tryz.lays155_ren := {
  mixed := by kernel_rfl
  f138 := Tryz.func144.trans (congrArg some (by kernel_rfl))
  f143 := Tryz.func145.trans (congrArg some (by kernel_rfl))
  f154 := Tryz.func109.trans (congrArg some (by kernel_rfl))
  f155 := Tryz.func84.trans (congrArg some (by kernel_rfl))
  f165 := Tryz.func94.trans (congrArg some (by kernel_rfl))
  f166 := Tryz.func33.trans (congrArg some (by kernel_rfl))
  f169 := Tryz.func35.trans (congrArg some (by kernel_rfl))
  f195 := Tryz.func168.trans (congrArg some (by kernel_rfl))
  f197 := Tryz.func125.trans (congrArg some (by kernel_rfl))
  f217 := Tryz.func115.trans (congrArg some (by kernel_rfl))
  f218 := Tryz.func169.trans (congrArg some (by kernel_rfl))
  f219 := Tryz.func89.trans (congrArg some (by kernel_rfl))
  f224 := Tryz.func117.trans (congrArg some (by kernel_rfl))
  f225 := Tryz.func116.trans (congrArg some (by kernel_rfl))
  f240 := Tryz.func66.trans (congrArg some (by kernel_rfl))
  f241 := Tryz.func124.trans (congrArg some (by kernel_rfl))
  f260 := Tryz.func155.trans (congrArg some (by kernel_rfl))
  f266 := Tryz.func148.trans (congrArg some (by kernel_rfl))
  f267 := Tryz.func118.trans (congrArg some (by kernel_rfl))
  f276 := Tryz.func93.trans (congrArg some (by kernel_rfl))
  f277 := Tryz.func154.trans (congrArg some (by kernel_rfl))
  f314 := Tryz.func149.trans (congrArg some (by kernel_rfl))
  t0 := Tryz.underlying0
  a0 := Tryz.isAgg0
  z0 := Tryz.sizeOf0
  v0 := Tryz.zeroValue0
  t3 := Tryz.underlying3
  a3 := Tryz.isAgg3
  z3 := Tryz.sizeOf3
  v3 := Tryz.zeroValue3
  t4 := Tryz.underlying4
  a4 := Tryz.isAgg4
  z4 := Tryz.sizeOf4
  v4 := Tryz.zeroValue4
  t5 := Tryz.underlying5
  a5 := Tryz.isAgg5
  z5 := Tryz.sizeOf5
  v5 := Tryz.zeroValue5
  t9 := Tryz.underlying9
  a9 := Tryz.isAgg9
  z9 := Tryz.sizeOf9
  v9 := Tryz.zeroValue9
  t20 := Tryz.underlying20
  a20 := Tryz.isAgg20
  z20 := Tryz.sizeOf20
  v20 := Tryz.zeroValue20
  t21 := Tryz.underlying21
  a21 := Tryz.isAgg21
  z21 := Tryz.sizeOf21
  v21 := Tryz.zeroValue21
  t37 := Tryz.underlying65
  a37 := Tryz.isAgg65
  z37 := Tryz.sizeOf65
  v37 := Tryz.zeroValue65
  t46 := Tryz.underlying76
  a46 := Tryz.isAgg76
  z46 := Tryz.sizeOf76
  v46 := Tryz.zeroValue76
  t51 := Tryz.underlying149
  a51 := Tryz.isAgg149
  z51 := Tryz.sizeOf149
  v51 := Tryz.zeroValue149
  t70 := Tryz.underlying64
  a70 := Tryz.isAgg64
  z70 := Tryz.sizeOf64
  v70 := Tryz.zeroValue64
  t72 := Tryz.underlying67
  a72 := Tryz.isAgg67
  z72 := Tryz.sizeOf67
  v72 := Tryz.zeroValue67
  t75 := Tryz.underlying69
  a75 := Tryz.isAgg69
  z75 := Tryz.sizeOf69
  v75 := Tryz.zeroValue69
  t76 := Tryz.underlying71
  a76 := Tryz.isAgg71
  z76 := Tryz.sizeOf71
  v76 := Tryz.zeroValue71
  t105 := Tryz.underlying91
  a105 := Tryz.isAgg91
  z105 := Tryz.sizeOf91
  v105 := Tryz.zeroValue91
  t119 := Tryz.underlying171
  a119 := Tryz.isAgg171
  z119 := Tryz.sizeOf171
  t127 := Tryz.underlying90
  a127 := Tryz.isAgg90
  z127 := Tryz.sizeOf90
  v127 := Tryz.zeroValue90
  t138 := Tryz.underlying173
  a138 := Tryz.isAgg173
  z138 := Tryz.sizeOf173
  v138 := Tryz.zeroValue173
  t139 := Tryz.underlying174
  a139 := Tryz.isAgg174
  z139 := Tryz.sizeOf174
  v139 := Tryz.zeroValue174
  t146 := Tryz.underlying150
  a146 := Tryz.isAgg150
  z146 := Tryz.sizeOf150
  v146 := Tryz.zeroValue150
  t164 := Tryz.underlying110
  a164 := Tryz.isAgg110
  z164 := Tryz.sizeOf110
  v164 := Tryz.zeroValue110
  g1 := by kernel_rfl
  g3 := by kernel_rfl
  g4 := by kernel_rfl }
theorem Tryz.Builder_Extra_155 : Builder.Extra Tryz.prog Tryz.lays155_ren := {
  sizeBuilder := by kernel_rfl
  liesBuilder := by kernel_rfl
  t5 := Tryz.underlying5
  a5 := Tryz.isAgg5
  z5 := Tryz.sizeOf5
  v5 := Tryz.zeroValue5
  infoByte := by kernel_rfl
  cellsByte := by kernel_rfl
  sizeByte := by kernel_rfl
  neB5 := by decide }
end Go.Proofs
set_option linter.unusedVariables false
set_option maxRecDepth 100000
namespace Go.Proofs.YtmfcepdbpdihgaaGreatDoor.W
open Go Go.Ae Go.RowKit
def C148 (v : List UInt8 × Int × Unit) : Option (Int × Unit) := some (Lib.indexByte v.1 v.2.1.toNat.toUInt8, ())
theorem ok148 : FnOk Tryz.prog 148 ⟨f148_ins, f148_outs, C148⟩ := ext_sbi (fun _ _ => rfl) fun s c w => by
  rw [run_callFunc_extern Tryz.func148 (by kernel_rfl) (by kernel_rfl) (by kernel_rfl) (e := Extern.BytealgIndexByte.indexByte) (by kernel_rfl), Lib.run_indexByteString]
  rfl
def C169 (v : List UInt8 × Int × Unit) : Option (Int × Unit) := some ((Lib.countByte v.1 v.2.1.toNat.toUInt8 : Nat), ())
theorem ok169 : FnOk Tryz.prog 169 ⟨f169_ins, f169_outs, C169⟩ := ext_sbi (fun _ _ => rfl) fun s c w => by
  rw [run_callFunc_extern Tryz.func169 (by kernel_rfl) (by kernel_rfl) (by kernel_rfl) (e := Extern.BytealgCount.count) (by kernel_rfl), Lib.run_countString]
  rfl
def C101 (v : List UInt8 × List UInt8 × Unit) : Option (List UInt8 × Unit) :=
  if v.1.length ≤ 9223372036854775807 ∧ v.2.1.length < 4294967281 ∧ v.2.1.all (fun b => decide (b.toNat < 128)) = true then some (Lib.trimS v.1 v.2.1, ()) else none
theorem infoSet : (Tryz.prog.info? 142).map (fun i => (i.zero, i.size)) = some (some (.agg (Array.replicate 256 (.bool false))), 256) := by kernel_rfl
theorem ok101 : FnOk Tryz.prog 101 ⟨f101_ins, f101_outs, C101⟩ := lib_sss Tryz.func101 (by kernel_rfl) (by kernel_rfl) fun s t y h w => by
  simp only [C101] at h
  split at h
  · rename_i hc
    obtain ⟨h1, h2, h3⟩ := hc
    simp only [Option.some.injEq, Prod.mk.injEq, and_true] at h
    subst h
    exact Any.strings_Trim_laid Tryz.lays160 infoSet ⟨⟨s⟩⟩ ⟨⟨t⟩⟩ w h1 h2 (ascii_of_all h3)
  · cases h
def C67 (v : List UInt8 × Unit) : Option (List UInt8 × Unit) :=
  if v.1.length ≤ 140737488355328 ∧ v.1.all (fun b => decide (b.toNat < 128)) = true then some (v.1.map Lib.upperB, ()) else none
theorem ok67 : FnOk Tryz.prog 67 ⟨f67_ins, f67_outs, C67⟩ := lib_ss Tryz.func67 (by kernel_rfl) (by kernel_rfl) fun s y h w _ => by
  simp only [C67] at h
  split at h
  · rename_i hc
    obtain ⟨h1, h3⟩ := hc
    simp only [Option.some.injEq, Prod.mk.injEq, and_true] at h
    subst h
    exact Any.strings_ToUpper_ascii Tryz.lays158 Tryz.Builder_Extra_158 ⟨⟨s⟩⟩ w h1 (ascii_of_all h3)
  · cases h
theorem index_hit (c : UInt8) (s : List UInt8) : Lib.index (c :: s) [c] = 0 := by
  rw [Lib.index, if_pos (by simp [List.isPrefixOf])]
theorem index_miss {c b : UInt8} (h : b ≠ c) (s : List UInt8) : Lib.index (b :: s) [c] = if Lib.index s [c] = -1 then -1 else Lib.index s [c] + 1 := by
  rw [Lib.index, if_neg (by simp [List.isPrefixOf]; exact fun h' => absurd h'.symm h)]
  simp
theorem replaceK_filter (c : UInt8) : ∀ (s : List UInt8) (k : Nat), s.length ≤ k → Lib.replaceK [c] [] k s = s.filter (fun b => b != c)
  | [], 0, _ => rfl
  | [], k + 1, _ => by rw [Lib.replaceK, if_pos (by simp [Lib.index])]; rfl
  | b :: s, 0, h => by simp at h
  | b :: s, k + 1, h => by
    have hl : s.length ≤ k := by simpa using h
    by_cases hb : b = c
    · subst hb
      rw [Lib.replaceK_hit [b] [] k (b :: s) 0 (index_hit b s)]
      simp only [List.take_zero, List.nil_append, List.length_cons, List.length_nil, Nat.zero_add, List.drop_succ_cons, List.drop_zero]
      rw [replaceK_filter b s k hl, List.filter_cons]; simp
    · have ih := replaceK_filter c s (k + 1) (by omega)
      have ih' := replaceK_filter c s k hl
      rw [List.filter_cons, if_pos (by simpa using hb)]
      by_cases hm : Lib.index s [c] = -1
      · rw [Lib.replaceK, if_pos (by rw [index_miss hb, if_pos hm]; rfl)]
        rw [Lib.replaceK, if_pos (by rw [hm]; rfl)] at ih
        rw [← ih]
      · have hge := Lib.index_ge s [c]
        obtain ⟨i, hi⟩ : ∃ i : Nat, Lib.index s [c] = i := ⟨(Lib.index s [c]).toNat, by omega⟩
        rw [Lib.replaceK_hit [c] [] k (b :: s) (i + 1) (by rw [index_miss hb, if_neg hm, hi]; rfl)]
        rw [Lib.replaceK_hit [c] [] k s i hi] at ih
        simp only [List.take_succ_cons, List.append_nil, List.cons_append, List.length_cons, List.length_nil, Nat.zero_add, List.drop_succ_cons] at ih ⊢
        rw [ih]
theorem replaceK_more (c : UInt8) : ∀ (f : Nat) (s : List UInt8), s.length < f → Lib.replaceK [c] [] (Lib.countFrom [c] f s) s = s.filter (fun b => b != c)
  | 0, s, h => absurd h (Nat.not_lt_zero _)
  | f + 1, s, h => by
    rw [Lib.countFrom]
    split
    · rename_i hm
      rw [Lib.replaceK]
      have := replaceK_filter c s (s.length + 1) (by omega)
      rw [Lib.replaceK, if_pos hm] at this
      exact this
    · rename_i hm
      have hge := Lib.index_ge s [c]
      have hm' : Lib.index s [c] ≠ -1 := fun e => hm (by rw [e]; rfl)
      obtain ⟨i, hi⟩ : ∃ i : Nat, Lib.index s [c] = i := ⟨(Lib.index s [c]).toNat, by omega⟩
      have hroom := Lib.index_room s [c] (by omega)
      rw [hi] at hroom
      simp only [List.length_cons, List.length_nil] at hroom
      rw [hi, Nat.add_comm 1, Lib.replaceK_hit [c] [] _ s i hi]
      have ih := replaceK_more c f (s.drop (i + 1)) (by simp; omega)
      simp only [Int.toNat_natCast, List.length_cons, List.length_nil, Nat.zero_add] at ih ⊢
      rw [ih]
      have h2 := replaceK_filter c s (s.length + 1) (by omega)
      rw [Lib.replaceK_hit [c] [] _ s i hi, replaceK_filter c _ _ (by simp)] at h2
      exact h2
theorem replaceAll_filter (c : UInt8) (s : List UInt8) : Lib.replaceAll s [c] [] = s.filter (fun b => b != c) := by
  unfold Lib.replaceAll Lib.replace Lib.replaceNum
  rw [if_neg (by simp), if_pos (Or.inl (by omega))]
  exact replaceK_more c (s.length + 1) s (by omega)
def C84 (v : List UInt8 × List UInt8 × List UInt8 × Unit) : Option (List UInt8 × Unit) :=
  match v.2.1, v.2.2.1 with
  | [c], [] => if v.1.length < 4294967281 then some (v.1.filter (fun b => b != c), ()) else none
  | _, _ => none
theorem ok84 : FnOk Tryz.prog 84 ⟨f84_ins, f84_outs, C84⟩ := lib_ssss Tryz.func84 (by kernel_rfl) (by kernel_rfl) fun s t r y h w hg => by
  match t, r, h with
  | [c], [], h =>
    have h' : (if s.length < 4294967281 then some (s.filter (fun b => b != c), ()) else none) = some (y, ()) := h
    split at h'
    · rename_i hc
      simp only [Option.some.injEq, Prod.mk.injEq, and_true] at h'
      subst h'
      obtain ⟨⟨m, hm⟩, _⟩ := hg
      have := Any.strings_ReplaceAll Tryz.lays155 Tryz.Builder_Extra_155 ⟨⟨s⟩⟩ ⟨⟨[c]⟩⟩ ⟨⟨[]⟩⟩ m w hc hm (Nat.le_refl 1) (by
        show s.length + Lib.countB _ _ * 0 ≤ _
        omega)
      simp only [replaceAll_filter] at this
      exact this
    · cases h'
  | [], _, h => cases h
  | _ :: _ :: _, _, h => cases h
  | [_], _ :: _, h => cases h
theorem tab_of {P : Program} {w : World} {name : String} {b : Nat} {k : IntKind} {zs : List Int} (hg : P.globalNamed name = some b) (h : tabAt w b k zs) : Lib.TabIs P w name k zs := by
  obtain ⟨ty, fz, h⟩ := h
  unfold Lib.TabIs World.var?
  rw [hg]
  simp only [Option.bind_some, h]
def digF : Nat → Nat → List UInt8
  | 0, _ => []
  | f + 1, n => if n < 10 then [UInt8.ofNat (48 + n)] else digF f (n / 10) ++ [UInt8.ofNat (48 + n % 10)]
theorem digF_eq : ∀ (f n : Nat), n < 10 ^ (f + 1) → digF (f + 1) n = Lib.decDigits n
  | 0, n, h => by
    have : n < 10 := by simpa using h
    rw [digF, if_pos this, Lib.decDigits, dif_pos this]
  | f + 1, n, h => by
    rw [digF, Lib.decDigits]
    split
    · rfl
    · rw [digF_eq f (n / 10) (by rw [Nat.pow_succ] at h; omega)]
def itoaF (n : Int) : List UInt8 := if n < 0 then 45 :: digF 20 n.natAbs else digF 20 n.toNat
def C38 (v : Int × Unit) : Option (List UInt8 × Unit) := if -9223372036854775808 ≤ v.1 ∧ v.1 ≤ 9223372036854775807 then some (itoaF v.1, ()) else none
theorem ok38 : FnOk Tryz.prog 38 ⟨f38_ins, f38_outs, C38⟩ := lib_is Tryz.func38 (by kernel_rfl) (by kernel_rfl) fun n y h w hg => by
  simp only [C38] at h
  split at h
  · rename_i hc
    obtain ⟨h1, h2⟩ := hc
    simp only [Option.some.injEq, Prod.mk.injEq, and_true] at h
    have hy : y = Lib.itoa n := by
      rw [← h]
      unfold itoaF Lib.itoa
      split
      · rw [digF_eq 19 _ (by omega)]
      · rw [digF_eq 19 _ (by omega)]
    subst hy
    obtain ⟨_, _, _, h4, _⟩ := hg
    have ht : Lib.TabIs Tryz.prog w "internal/strconv.uint64pow10" .u64 Lib.pow10Tab := by
      have e : Lib.pow10Tab = tens := by decide
      rw [e]
      exact tab_of (by kernel_rfl) h4
    refine (Any.strconv_Itoa Tryz.laysM171 n h1 h2 w ht).mono fun e w' ⟨he, k, os, hw⟩ => ⟨he, ?_⟩
    subst hw
    refine ⟨rfl, rfl, rfl, by simp [Sort.grow, World.drewN], fun i hi => ?_⟩
    have hi' : i < (w.drewN k).heap.size := hi
    show (((w.drewN k).heap ++ os)[i]? : Option Obj) = w.heap[i]?
    rw [Array.getElem?_append_left hi']
    rfl
  · cases h
theorem bytesWorld_below (w : World) (e : TypeId) (s : ByteArray) : Below w.heap.size w (Lib.bytesWorld w e s) := ⟨rfl, rfl, rfl, by rw [Lib.bytesWorld_size]; omega, fun k hk => Lib.bytesWorld_at_old w _ _ k hk⟩
def C83 (v : List UInt8 × Unit) : Option ((Int × Unit) ⊕ (Int × Unit)) :=
  if v.1.length ≤ 281474976710656 then (match Lib.atoiAll v.1 with | .ok n => some (.inl (n, ())) | .range => some (.inr (Lib.atoiSat v.1, ())) | _ => some (.inr (0, ()))) else none
theorem ok83 : FnOk Tryz.prog 83 ⟨f83_ins, f83_outs, C83⟩ := lib_s_ie Tryz.func83 (by kernel_rfl) (by kernel_rfl)
  (fun s y h w hg => by
    simp only [C83] at h
    split at h
    · rename_i hc
      split at h
      · rename_i n hn
        simp only [Option.some.injEq, Sum.inl.injEq, Prod.mk.injEq, and_true] at h
        subst h
        refine (Any.strconv_Atoi_ok Tryz.laysC172 ⟨⟨s⟩⟩ (Nat.le_trans (show s.length ≤ _ from hc) (by decide)) _ hn w).mono fun e w' ⟨he, hw⟩ => ⟨he, ?_⟩
        rcases hw with rfl | ⟨t, rfl⟩
        · exact Below.refl _ _
        · exact bytesWorld_below _ _ _
      · cases h
      · cases h
    · cases h)
  (fun s y h w hg => by
    simp only [C83] at h
    obtain ⟨_, ⟨t1, p1, h1⟩, ⟨t2, p2, h2⟩, _⟩ := hg
    split at h
    · rename_i hc
      cases hx : Lib.atoiAll s with
      | ok n => rw [hx] at h; cases h
      | range =>
        rw [hx] at h
        simp only [Option.some.injEq, Sum.inr.injEq, Prod.mk.injEq, and_true] at h
        subst h
        exact (Any.strconv_Atoi_range Tryz.laysC172 ⟨⟨s⟩⟩ hc hx _ w h2 (.inr ⟨_, _, rfl⟩)).mono fun e w' ⟨N, he, _, _, hb⟩ => ⟨⟨_, he⟩, hb⟩
      | _ =>
        rw [hx] at h
        simp only [Option.some.injEq, Sum.inr.injEq, Prod.mk.injEq, and_true] at h
        subst h
        exact (Any.strconv_Atoi_syntax Tryz.laysC172 ⟨⟨s⟩⟩ hc hx _ w h1 (.inr ⟨_, _, rfl⟩)).mono fun e w' ⟨N, he, _, _, hb⟩ => ⟨⟨_, he⟩, hb⟩
    · cases h)
def C91 (v : List UInt8 × List UInt8 × Int × Int × Int × Unit) : Option Unit := if v.2.1.length ≤ 281474976710656 ∧ (v.2.2.2.2.1 = 1 ∨ v.2.2.2.2.1 = 2) then some () else none
theorem ok91 : FnOk Tryz.prog 91 ⟨f91_ins, f91_outs, C91⟩ := lib_err Tryz.func91 (by kernel_rfl) (by kernel_rfl) fun s r a b n h w hg => by
  simp only [C91] at h
  obtain ⟨_, ⟨t1, p1, h1⟩, ⟨t2, p2, h2⟩, _⟩ := hg
  split at h
  · rename_i hc
    obtain ⟨hl, rfl | rfl⟩ := hc
    · exact (Any.strconv_toError_range Tryz.laysC245 ⟨⟨s⟩⟩ ⟨⟨r⟩⟩ a b _ w hl h2 (.inr ⟨_, _, rfl⟩)).mono fun e w' ⟨N, he, _, _, hb⟩ => ⟨⟨_, he⟩, hb⟩
    · exact (Any.strconv_toError_syntax Tryz.laysC245 ⟨⟨s⟩⟩ ⟨⟨r⟩⟩ a b _ w hl h1 (.inr ⟨_, _, rfl⟩)).mono fun e w' ⟨N, he, _, _, hb⟩ => ⟨⟨_, he⟩, hb⟩
  · cases h
def C66 (v : List UInt8 × Unit) : Option (List UInt8 × Unit) := bldChk v
theorem ok66 : FnOk Tryz.prog 66 ⟨f66_ins, f66_outs, C66⟩ := bld_check { Tryz.lays155 with } { Tryz.Builder_Extra_155 with } Tryz.func66 (by kernel_rfl) (by kernel_rfl)
def C35 (v : List UInt8 × Unit) : Option (List UInt8 × Unit) := bldStr v
theorem ok35 : FnOk Tryz.prog 35 ⟨f35_ins, f35_outs, C35⟩ := bld_string Tryz.lays169 Tryz.Builder_Extra_169 Tryz.func35 (by kernel_rfl) (by kernel_rfl)
set_option maxRecDepth 100000
theorem tz64 (w : World) (hc : w.cell? ⟨8, 15, none⟩ = some (.int .u8 4)) : Calls Tryz.prog 175 #[.int .u64 16] w fun e w' => e = .returned (.int .i64 4) ∧ w' = w := by
  have h1 : IntKind.u64.wrap (bits BinOp.and IntKind.u64 16 (IntKind.u64.wrap (-16)) * 285870213051353865) = 4573923408821661840 := by decide +kernel
  go_enter Tryz.func175, Tryz.ntmps175
  go_wp2
  go_ret
  exact ⟨rfl, rfl⟩
theorem tz (w : World) (hc : w.cell? ⟨8, 15, none⟩ = some (.int .u8 4)) : Calls Tryz.prog 162 #[.int .u64 16] w fun e w' => e = .returned (.int .i64 4) ∧ w' = w := by
  have e175 : ∀ args w, (callFunc 175 args).run Tryz.prog w = .ok (.enter 175 args) w := fun args w => enters Tryz.func175 (by kernel_rfl) (by kernel_rfl) args w
  go_enter Tryz.func162, Tryz.ntmps162
  go_wp2_with (go_at_fn 175; refine (tz64 _ hc).mono ?_; rintro e w' ⟨rfl, rfl⟩)
  go_ret
  exact ⟨rfl, rfl⟩
def C162 (v : Int × Unit) : Option (Int × Unit) := if v.1 = 16 then some (4, ()) else none
theorem ok162 : FnOk Tryz.prog 162 ⟨f162_ins, f162_outs, C162⟩ := lib_ii Tryz.func162 (by kernel_rfl) (by kernel_rfl) fun n y h w hg => by
  simp only [C162] at h
  split at h
  · rename_i hn
    subst hn
    simp only [Option.some.injEq, Prod.mk.injEq, and_true] at h
    subst h
    obtain ⟨_, _, _, _, ty, fz, h8⟩ := hg
    refine (tz w (by simp only [World.cell?, h8]; rfl)).mono fun e w' ⟨he, hw⟩ => ⟨he, hw ▸ Below.refl _ _⟩
  · cases h
end Go.Proofs.YtmfcepdbpdihgaaGreatDoor.W
set_option maxRecDepth 100000
set_option linter.unusedVariables false
namespace Go.Proofs.YtmfcepdbpdihgaaGreatDoor.W
open Go Go.Ae
def F24  : Int × Unit → Option (Bool × Unit) := fun (x0, _) =>
 bif decide (x0 ≥ 32) then
 bif decide (x0 ≤ 126) then some (bif x0 == 92 then false else true, ()) else some (false, ())
 else some (false, ())
theorem h24  (v : HS f24_ins) : afun Γ (fun f => Ae.lookA f []) 0 Tryz.f24.ntmps Tryz.f24.results.toList (code Tryz.f24) .nil (em id f24_ins v).1 (em id f24_ins v).2 (ofin 0 f24_outs) = F24 v := by kernel_rfl
def C24 (v : Int × Unit) : Option (Bool × Unit) := F24 v
theorem ok24 : FnOk Tryz.prog 24 ⟨f24_ins, f24_outs, C24⟩ :=
 fn_ok (np := 0) (n := .nil) hm hΓ (K := (fun f => Ae.lookA f [])) (kok_nil _) Tryz.func24 (c := code Tryz.f24) (by kernel_rfl) (name_ne (by kernel_rfl))
 (ann_nil _) (fun v => Nat.le_of_ble_eq_true (by kernel_rfl)) (fun v => h24 v)
def F82  : List UInt8 × List UInt8 × Unit → Option (Bool × Unit) := fun (x0, x1, _) =>
 bif decide ((↑x0.length : Int) ≥ (↑x1.length : Int)) then
 bif decide (0 ≤ (↑x1.length : Int)) && decide ((↑x1.length : Int) ≤ (↑x0.length : Int)) then
 some (List.take (↑x1.length : Int).toNat x0 == x1, ())
 else none
 else some (false, ())
theorem h82  (v : HS f82_ins) : afun Γ (fun f => Ae.lookA f []) 0 Tryz.f82.ntmps Tryz.f82.results.toList (code Tryz.f82) .nil (em id f82_ins v).1 (em id f82_ins v).2 (ofin 0 f82_outs) = F82 v := by kernel_rfl
def C82 (v : List UInt8 × List UInt8 × Unit) : Option (Bool × Unit) := F82 v
theorem ok82 : FnOk Tryz.prog 82 ⟨f82_ins, f82_outs, C82⟩ :=
 fn_ok (np := 0) (n := .nil) hm hΓ (K := (fun f => Ae.lookA f [])) (kok_nil _) Tryz.func82 (c := code Tryz.f82) (by kernel_rfl) (name_ne (by kernel_rfl))
 (ann_nil _) (fun v => Nat.le_of_ble_eq_true (by kernel_rfl)) (fun v => h82 v)
def F61 (f82 : List UInt8 × List UInt8 × Unit → Option (Bool × Unit)) : List UInt8 × List UInt8 × Unit → Option (List UInt8 × Bool × Unit) := fun (x0, x1, _) =>
 (f82 (x0, x1, ())).bind fun val =>
 bif !val.1 then some (x0, false, ())
 else
 bif decide (0 ≤ (↑x1.length : Int)) && decide ((↑x1.length : Int) ≤ (↑x0.length : Int)) then
 some (List.drop (↑x1.length : Int).toNat x0, true, ())
 else none
theorem h61 (f82 : HS f82_ins → Option (OTy f82_outs)) (v : HS f61_ins) : afun Γ (fun f => Ae.lookA f [(82, ⟨f82_ins, f82_outs, f82⟩)]) 0 Tryz.f61.ntmps Tryz.f61.results.toList (code Tryz.f61) .nil (em id f61_ins v).1 (em id f61_ins v).2 (ofin 0 f61_outs) = F61 f82 v := by kernel_rfl
def C61 (v : List UInt8 × List UInt8 × Unit) : Option (List UInt8 × Bool × Unit) := F61 C82 v
theorem ok61 : FnOk Tryz.prog 61 ⟨f61_ins, f61_outs, C61⟩ :=
 fn_ok (np := 0) (n := .nil) hm hΓ (K := (fun f => Ae.lookA f [(82, ⟨f82_ins, f82_outs, C82⟩)])) (kok_cons ok82 (kok_nil _)) Tryz.func61 (c := code Tryz.f61) (by kernel_rfl) (name_ne (by kernel_rfl))
 (ann_nil _) (fun v => Nat.le_of_ble_eq_true (by kernel_rfl)) (fun v => h61 C82 v)
def F25 (f61 : List UInt8 × List UInt8 × Unit → Option (List UInt8 × Bool × Unit)) : List UInt8 × List UInt8 × Unit → Option (List UInt8 × Bool × Unit) := fun (x0, x1, _) =>
 (f61 (x0, x1, ())).bind fun val => some (val.1, val.2.1, ())
theorem h25 (f61 : HS f61_ins → Option (OTy f61_outs)) (v : HS f25_ins) : afun Γ (fun f => Ae.lookA f [(61, ⟨f61_ins, f61_outs, f61⟩)]) 0 Tryz.f25.ntmps Tryz.f25.results.toList (code Tryz.f25) .nil (em id f25_ins v).1 (em id f25_ins v).2 (ofin 0 f25_outs) = F25 f61 v := by kernel_rfl
def C25 (v : List UInt8 × List UInt8 × Unit) : Option (List UInt8 × Bool × Unit) := F25 C61 v
theorem ok25 : FnOk Tryz.prog 25 ⟨f25_ins, f25_outs, C25⟩ :=
 fn_ok (np := 0) (n := .nil) hm hΓ (K := (fun f => Ae.lookA f [(61, ⟨f61_ins, f61_outs, C61⟩)])) (kok_cons ok61 (kok_nil _)) Tryz.func25 (c := code Tryz.f25) (by kernel_rfl) (name_ne (by kernel_rfl))
 (ann_nil _) (fun v => Nat.le_of_ble_eq_true (by kernel_rfl)) (fun v => h25 C61 v)
def F115 (f148 : List UInt8 × Int × Unit → Option (Int × Unit)) : List UInt8 × Int × Unit → Option (Int × Unit) := fun (x0, x1, _) =>
 (f148 (x0, x1, ())).bind fun val => some (val.1, ())
theorem h115 (f148 : HS f148_ins → Option (OTy f148_outs)) (v : HS f115_ins) : afun Γ (fun f => Ae.lookA f [(148, ⟨f148_ins, f148_outs, f148⟩)]) 0 Tryz.f115.ntmps Tryz.f115.results.toList (code Tryz.f115) .nil (em id f115_ins v).1 (em id f115_ins v).2 (ofin 0 f115_outs) = F115 f148 v := by kernel_rfl
def C115 (v : List UInt8 × Int × Unit) : Option (Int × Unit) := F115 C148 v
theorem ok115 : FnOk Tryz.prog 115 ⟨f115_ins, f115_outs, C115⟩ :=
 fn_ok (np := 0) (n := .nil) hm hΓ (K := (fun f => Ae.lookA f [(148, ⟨f148_ins, f148_outs, C148⟩)])) (kok_cons ok148 (kok_nil _)) Tryz.func115 (c := code Tryz.f115) (by kernel_rfl) (name_ne (by kernel_rfl))
 (ann_nil _) (fun v => Nat.le_of_ble_eq_true (by kernel_rfl)) (fun v => h115 C148 v)
def F89_c0 (f115 : List UInt8 × Int × Unit → Option (Int × Unit)) : List UInt8 × List UInt8 × Int × Bool × Unit → Option (Int × Unit) := fun (x0, x1, x2, x3, _) =>
 bif x3 then some (0, ())
 else
 bif x2 == 1 then
 bif decide (0 < (↑x1.length : Int)) then
 (f115 (x0, (↑(x1.getD 0 0).toNat : Int), ())).bind fun val => some (val.1, ())
 else none
 else bif decide (x2 ≥ (↑x0.length : Int)) then some (-1, ()) else none
theorem h89_c0 (f115 : HS f115_ins → Option (OTy f115_outs)) (v : HS f89_c0_ins) : aev Γ (fun f => Ae.lookA f [(115, ⟨f115_ins, f115_outs, f115⟩)]) 0 (subc (code Tryz.f89) [1, 1, 0, 0, 1]) .nil (stof f89_c0_ins v) (oout 0 f89_c0_outs) = F89_c0 f115 v := by kernel_rfl
def C89_c0 (v : List UInt8 × List UInt8 × Int × Bool × Unit) : Option (Int × Unit) := F89_c0 C115 v
theorem k89_c0 : FragOk Tryz.prog 0 (fun Q a w => ((subc (code Tryz.f89) [1, 1, 0, 0, 1])).wp Tryz.prog Q a w) ⟨f89_c0_ins, f89_c0_outs, C89_c0⟩ :=
 frag_code (ins := f89_c0_ins) (os := f89_c0_outs) (np := 0) (n := .nil) (F := C89_c0) hm hΓ (K := (fun f => Ae.lookA f [(115, ⟨f115_ins, f115_outs, C115⟩)])) (kok_cons ok115 (kok_nil _))
 (ann_nil _) (fun v => h89_c0 C115 v)
def F89 (f89_c0 : List UInt8 × List UInt8 × Int × Bool × Unit → Option (Int × Unit)) : List UInt8 × List UInt8 × Unit → Option (Int × Unit) := fun (x0, x1, _) =>
 bif (↑x1.length : Int) == 0 then
 (f89_c0 (x0, x1, (↑x1.length : Int), true, ())).bind fun val => some (val.1, ())
 else (f89_c0 (x0, x1, (↑x1.length : Int), x1 == x0, ())).bind fun val => some (val.1, ())
theorem h89 (f89_c0 : HS f89_c0_ins → Option (OTy f89_c0_outs)) (v : HS f89_ins) : afun Γ (fun f => Ae.lookA f []) 0 Tryz.f89.ntmps Tryz.f89.results.toList (code Tryz.f89) (.seq .nil (.seq .nil (.seq (.blk (.cut .nil ⟨f89_c0_ins, f89_c0_outs, f89_c0⟩)) .nil))) (em id f89_ins v).1 (em id f89_ins v).2 (ofin 0 f89_outs) = F89 f89_c0 v := by kernel_rfl
def C89 (v : List UInt8 × List UInt8 × Unit) : Option (Int × Unit) := F89 C89_c0 v
theorem ok89 : FnOk Tryz.prog 89 ⟨f89_ins, f89_outs, C89⟩ :=
 fn_ok (np := 0) (n := (.seq .nil (.seq .nil (.seq (.blk (.cut .nil ⟨f89_c0_ins, f89_c0_outs, C89_c0⟩)) .nil)))) hm hΓ (K := (fun f => Ae.lookA f [])) (kok_nil _) Tryz.func89 (c := code Tryz.f89) (by kernel_rfl) (name_ne (by kernel_rfl))
 (ann_seq (a := (subc (code Tryz.f89) [0])) (b := (subc (code Tryz.f89) [1])) (by kernel_rfl) (ann_nil _) (ann_seq (a := (subc (code Tryz.f89) [1, 0])) (b := (subc (code Tryz.f89) [1, 1])) (by kernel_rfl) (ann_nil _) (ann_seq (a := (subc (code Tryz.f89) [1, 1, 0])) (b := (subc (code Tryz.f89) [1, 1, 1])) (by kernel_rfl) (ann_blk (x := (subc (code Tryz.f89) [1, 1, 0, 0])) (by kernel_rfl) (ann_cut (a := (subc (code Tryz.f89) [1, 1, 0, 0, 0])) (b := (subc (code Tryz.f89) [1, 1, 0, 0, 1])) (by kernel_rfl) (ann_nil _) k89_c0)) (ann_nil _)))) (fun v => Nat.le_of_ble_eq_true (by kernel_rfl)) (fun v => h89 C89_c0 v)
def F62 (f89 : List UInt8 × List UInt8 × Unit → Option (Int × Unit)) : List UInt8 × List UInt8 × Unit → Option (List UInt8 × List UInt8 × Bool × Unit) := fun (x0, x1, _) =>
 (f89 (x0, x1, ())).bind fun val =>
 bif decide (val.1 ≥ 0) then
 bif decide (0 ≤ val.1) && decide (val.1 ≤ (↑x0.length : Int)) then
 bif
 decide (0 ≤ IntKind.i64.wrap (val.1 + (↑x1.length : Int))) &&
 decide (IntKind.i64.wrap (val.1 + (↑x1.length : Int)) ≤ (↑x0.length : Int)) then
 some
 (List.take (Int.toNat val.1) x0, List.drop (IntKind.i64.wrap (val.1 + (↑x1.length : Int))).toNat x0, true,
 ())
 else none
 else none
 else some (x0, [], false, ())
theorem h62 (f89 : HS f89_ins → Option (OTy f89_outs)) (v : HS f62_ins) : afun Γ (fun f => Ae.lookA f [(89, ⟨f89_ins, f89_outs, f89⟩)]) 0 Tryz.f62.ntmps Tryz.f62.results.toList (code Tryz.f62) .nil (em id f62_ins v).1 (em id f62_ins v).2 (ofin 0 f62_outs) = F62 f89 v := by kernel_rfl
def C62 (v : List UInt8 × List UInt8 × Unit) : Option (List UInt8 × List UInt8 × Bool × Unit) := F62 C89 v
theorem ok62 : FnOk Tryz.prog 62 ⟨f62_ins, f62_outs, C62⟩ :=
 fn_ok (np := 0) (n := .nil) hm hΓ (K := (fun f => Ae.lookA f [(89, ⟨f89_ins, f89_outs, C89⟩)])) (kok_cons ok89 (kok_nil _)) Tryz.func62 (c := code Tryz.f62) (by kernel_rfl) (name_ne (by kernel_rfl))
 (ann_nil _) (fun v => Nat.le_of_ble_eq_true (by kernel_rfl)) (fun v => h62 C89 v)
def F26 (f62 : List UInt8 × List UInt8 × Unit → Option (List UInt8 × List UInt8 × Bool × Unit)) : List UInt8 × List UInt8 × Unit → Option (List UInt8 × List UInt8 × Bool × Unit) := fun (x0, x1, _) =>
 (f62 (x0, x1, ())).bind fun val => some (val.1, val.2.1, val.2.2.1, ())
theorem h26 (f62 : HS f62_ins → Option (OTy f62_outs)) (v : HS f26_ins) : afun Γ (fun f => Ae.lookA f [(62, ⟨f62_ins, f62_outs, f62⟩)]) 0 Tryz.f26.ntmps Tryz.f26.results.toList (code Tryz.f26) .nil (em id f26_ins v).1 (em id f26_ins v).2 (ofin 0 f26_outs) = F26 f62 v := by kernel_rfl
def C26 (v : List UInt8 × List UInt8 × Unit) : Option (List UInt8 × List UInt8 × Bool × Unit) := F26 C62 v
theorem ok26 : FnOk Tryz.prog 26 ⟨f26_ins, f26_outs, C26⟩ :=
 fn_ok (np := 0) (n := .nil) hm hΓ (K := (fun f => Ae.lookA f [(62, ⟨f62_ins, f62_outs, C62⟩)])) (kok_cons ok62 (kok_nil _)) Tryz.func26 (c := code Tryz.f26) (by kernel_rfl) (name_ne (by kernel_rfl))
 (ann_nil _) (fun v => Nat.le_of_ble_eq_true (by kernel_rfl)) (fun v => h26 C62 v)
def F150  : Int × Unit → Option (Int × Unit) := fun (x0, _) =>
 some (intBits BinOp.or IntKind.u8 x0 32, ())
theorem h150  (v : HS f150_ins) : afun Γ (fun f => Ae.lookA f []) 0 Tryz.f150.ntmps Tryz.f150.results.toList (code Tryz.f150) .nil (em id f150_ins v).1 (em id f150_ins v).2 (ofin 0 f150_outs) = F150 v := by kernel_rfl
def C150 (v : Int × Unit) : Option (Int × Unit) := F150 v
theorem ok150 : FnOk Tryz.prog 150 ⟨f150_ins, f150_outs, C150⟩ :=
 fn_ok (np := 0) (n := .nil) hm hΓ (K := (fun f => Ae.lookA f [])) (kok_nil _) Tryz.func150 (c := code Tryz.f150) (by kernel_rfl) (name_ne (by kernel_rfl))
 (ann_nil _) (fun v => Nat.le_of_ble_eq_true (by kernel_rfl)) (fun v => h150 v)
def F151_l0 (f150 : Int × Unit → Option (Int × Unit)) : List UInt8 × Int × Int × Bool × Unit → Option ((List UInt8 × Int × Int × Bool × Unit) ⊕ ((Int × Unit) ⊕ (Bool × Unit))) := fun (x0, x1, x2, x3, _) =>
 bif decide (x2 < (↑x0.length : Int)) then
 bif decide (0 ≤ x2) && decide (x2 < (↑x0.length : Int)) then
 bif decide (48 ≤ (↑(x0.getD x2.toNat 0).toNat : Int)) then
 bif decide (0 ≤ x2) && decide (x2 < (↑x0.length : Int)) then
 bif decide ((↑(x0.getD x2.toNat 0).toNat : Int) ≤ 57) then
 some (Sum.inl (x0, 48, IntKind.i64.wrap (x2 + 1), x3, ()))
 else
 bif x3 then
 bif decide (0 ≤ x2) && decide (x2 < (↑x0.length : Int)) then
 (f150 ((↑(x0.getD x2.toNat 0).toNat : Int), ())).bind fun val =>
 bif decide (97 ≤ val.1) then
 bif decide (0 ≤ x2) && decide (x2 < (↑x0.length : Int)) then
 (f150 ((↑(x0.getD x2.toNat 0).toNat : Int), ())).bind fun val =>
 bif decide (val.1 ≤ 102) then some (Sum.inl (x0, 48, IntKind.i64.wrap (x2 + 1), x3, ()))
 else
 bif decide (0 ≤ x2) && decide (x2 < (↑x0.length : Int)) then
 bif (↑(x0.getD x2.toNat 0).toNat : Int) == 95 then
 bif x1 != 48 then some (Sum.inr (Sum.inr (false, ())))
 else some (Sum.inl (x0, 95, IntKind.i64.wrap (x2 + 1), x3, ()))
 else
 bif x1 == 95 then some (Sum.inr (Sum.inr (false, ())))
 else some (Sum.inl (x0, 33, IntKind.i64.wrap (x2 + 1), x3, ()))
 else none
 else none
 else
 bif decide (0 ≤ x2) && decide (x2 < (↑x0.length : Int)) then
 bif (↑(x0.getD x2.toNat 0).toNat : Int) == 95 then
 bif x1 != 48 then some (Sum.inr (Sum.inr (false, ())))
 else some (Sum.inl (x0, 95, IntKind.i64.wrap (x2 + 1), x3, ()))
 else
 bif x1 == 95 then some (Sum.inr (Sum.inr (false, ())))
 else some (Sum.inl (x0, 33, IntKind.i64.wrap (x2 + 1), x3, ()))
 else none
 else none
 else
 bif decide (0 ≤ x2) && decide (x2 < (↑x0.length : Int)) then
 bif (↑(x0.getD x2.toNat 0).toNat : Int) == 95 then
 bif x1 != 48 then some (Sum.inr (Sum.inr (false, ())))
 else some (Sum.inl (x0, 95, IntKind.i64.wrap (x2 + 1), x3, ()))
 else
 bif x1 == 95 then some (Sum.inr (Sum.inr (false, ())))
 else some (Sum.inl (x0, 33, IntKind.i64.wrap (x2 + 1), x3, ()))
 else none
 else none
 else
 bif x3 then
 bif decide (0 ≤ x2) && decide (x2 < (↑x0.length : Int)) then
 (f150 ((↑(x0.getD x2.toNat 0).toNat : Int), ())).bind fun val =>
 bif decide (97 ≤ val.1) then
 bif decide (0 ≤ x2) && decide (x2 < (↑x0.length : Int)) then
 (f150 ((↑(x0.getD x2.toNat 0).toNat : Int), ())).bind fun val =>
 bif decide (val.1 ≤ 102) then some (Sum.inl (x0, 48, IntKind.i64.wrap (x2 + 1), x3, ()))
 else
 bif decide (0 ≤ x2) && decide (x2 < (↑x0.length : Int)) then
 bif (↑(x0.getD x2.toNat 0).toNat : Int) == 95 then
 bif x1 != 48 then some (Sum.inr (Sum.inr (false, ())))
 else some (Sum.inl (x0, 95, IntKind.i64.wrap (x2 + 1), x3, ()))
 else
 bif x1 == 95 then some (Sum.inr (Sum.inr (false, ())))
 else some (Sum.inl (x0, 33, IntKind.i64.wrap (x2 + 1), x3, ()))
 else none
 else none
 else
 bif decide (0 ≤ x2) && decide (x2 < (↑x0.length : Int)) then
 bif (↑(x0.getD x2.toNat 0).toNat : Int) == 95 then
 bif x1 != 48 then some (Sum.inr (Sum.inr (false, ())))
 else some (Sum.inl (x0, 95, IntKind.i64.wrap (x2 + 1), x3, ()))
 else
 bif x1 == 95 then some (Sum.inr (Sum.inr (false, ())))
 else some (Sum.inl (x0, 33, IntKind.i64.wrap (x2 + 1), x3, ()))
 else none
 else none
 else
 bif decide (0 ≤ x2) && decide (x2 < (↑x0.length : Int)) then
 bif (↑(x0.getD x2.toNat 0).toNat : Int) == 95 then
 bif x1 != 48 then some (Sum.inr (Sum.inr (false, ())))
 else some (Sum.inl (x0, 95, IntKind.i64.wrap (x2 + 1), x3, ()))
 else
 bif x1 == 95 then some (Sum.inr (Sum.inr (false, ())))
 else some (Sum.inl (x0, 33, IntKind.i64.wrap (x2 + 1), x3, ()))
 else none
 else none
 else some (Sum.inr (Sum.inl (x1, ())))
theorem h151_l0 (f150 : HS f150_ins → Option (OTy f150_outs)) (v : HS f151_l0_ins) : aev Γ (fun f => Ae.lookA f [(150, ⟨f150_ins, f150_outs, f150⟩)]) 0 (subc (code Tryz.f151) [1, 1, 1, 1, 1, 1, 0, 0, 0]) .nil (stof f151_l0_ins v) (around 0 f151_l0_ins f151_l0_outs) = F151_l0 f150 v := by kernel_rfl
def C151_l0 (v : List UInt8 × Int × Int × Bool × Unit) : Option ((Int × Unit) ⊕ (Bool × Unit)) := loopN (F151_l0 C150) big v
theorem k151_l0 : FragOk Tryz.prog 0 (fun Q a w => (Code.loop (subc (code Tryz.f151) [1, 1, 1, 1, 1, 1, 0, 0, 0])).wp Tryz.prog Q a w) ⟨f151_l0_ins, f151_l0_outs, C151_l0⟩ :=
 frag_loop (ins := f151_l0_ins) (os := f151_l0_outs) (np := 0) (n := .nil) (F := F151_l0 C150) hm hΓ (K := (fun f => Ae.lookA f [(150, ⟨f150_ins, f150_outs, C150⟩)])) (kok_cons ok150 (kok_nil _)) (fun _ => big)
 (ann_nil _) (fun v => h151_l0 C150 v)
def F151_c0 (f151_l0 : List UInt8 × Int × Int × Bool × Unit → Option ((Int × Unit) ⊕ (Bool × Unit))) : List UInt8 × Int × Int × Bool × Unit → Option (Bool × Unit) := fun (x0, x1, x2, x3, _) =>
 (f151_l0 (x0, x1, x2, x3, ())).bind fun val =>
 Sum.elim (fun val => some (bif val.1 == 95 then false else true, ()))
 (fun val => some (val.1, ())) val
theorem h151_c0 (f151_l0 : HS f151_l0_ins → Option (OTy f151_l0_outs)) (v : HS f151_c0_ins) : aev Γ (fun f => Ae.lookA f []) 0 (subc (code Tryz.f151) [1, 1, 1, 1, 1, 1]) (.seq (.blk (.loop ⟨f151_l0_ins, f151_l0_outs, f151_l0⟩)) .nil) (stof f151_c0_ins v) (oout 0 f151_c0_outs) = F151_c0 f151_l0 v := by kernel_rfl
def C151_c0 (v : List UInt8 × Int × Int × Bool × Unit) : Option (Bool × Unit) := F151_c0 C151_l0 v
theorem k151_c0 : FragOk Tryz.prog 0 (fun Q a w => ((subc (code Tryz.f151) [1, 1, 1, 1, 1, 1])).wp Tryz.prog Q a w) ⟨f151_c0_ins, f151_c0_outs, C151_c0⟩ :=
 frag_code (ins := f151_c0_ins) (os := f151_c0_outs) (np := 0) (n := (.seq (.blk (.loop ⟨f151_l0_ins, f151_l0_outs, C151_l0⟩)) .nil)) (F := C151_c0) hm hΓ (K := (fun f => Ae.lookA f [])) (kok_nil _)
 (ann_seq (a := (subc (code Tryz.f151) [1, 1, 1, 1, 1, 1, 0])) (b := (subc (code Tryz.f151) [1, 1, 1, 1, 1, 1, 1])) (by kernel_rfl) (ann_blk (x := (subc (code Tryz.f151) [1, 1, 1, 1, 1, 1, 0, 0])) (by kernel_rfl) (ann_loop (x := (subc (code Tryz.f151) [1, 1, 1, 1, 1, 1, 0, 0, 0])) (by kernel_rfl) k151_l0)) (ann_nil _)) (fun v => h151_c0 C151_l0 v)
def F151_c1 (f150 : Int × Unit → Option (Int × Unit)) (f151_c0 : List UInt8 × Int × Int × Bool × Unit → Option (Bool × Unit)) : List UInt8 × Int × Int × Unit → Option (Bool × Unit) := fun (x0, x1, x2, _) =>
 bif decide ((↑x0.length : Int) ≥ 2) then
 bif decide (0 < (↑x0.length : Int)) then
 bif (↑(x0.getD 0 0).toNat : Int) == 48 then
 bif decide (1 < (↑x0.length : Int)) then
 (f150 ((↑(x0.getD 1 0).toNat : Int), ())).bind fun val =>
 bif val.1 == 98 then
 bif decide (1 < (↑x0.length : Int)) then
 (f150 ((↑(x0.getD 1 0).toNat : Int), ())).bind fun val =>
 (f151_c0 (x0, 48, 2, val.1 == 120, ())).bind fun val => some (val.1, ())
 else none
 else
 bif decide (1 < (↑x0.length : Int)) then
 (f150 ((↑(x0.getD 1 0).toNat : Int), ())).bind fun val =>
 bif val.1 == 111 then
 bif decide (1 < (↑x0.length : Int)) then
 (f150 ((↑(x0.getD 1 0).toNat : Int), ())).bind fun val =>
 (f151_c0 (x0, 48, 2, val.1 == 120, ())).bind fun val => some (val.1, ())
 else none
 else
 bif decide (1 < (↑x0.length : Int)) then
 (f150 ((↑(x0.getD 1 0).toNat : Int), ())).bind fun val =>
 bif val.1 == 120 then
 bif decide (1 < (↑x0.length : Int)) then
 (f150 ((↑(x0.getD 1 0).toNat : Int), ())).bind fun val =>
 (f151_c0 (x0, 48, 2, val.1 == 120, ())).bind fun val => some (val.1, ())
 else none
 else (f151_c0 (x0, x1, x2, false, ())).bind fun val => some (val.1, ())
 else none
 else none
 else none
 else (f151_c0 (x0, x1, x2, false, ())).bind fun val => some (val.1, ())
 else none
 else (f151_c0 (x0, x1, x2, false, ())).bind fun val => some (val.1, ())
theorem h151_c1 (f150 : HS f150_ins → Option (OTy f150_outs)) (f151_c0 : HS f151_c0_ins → Option (OTy f151_c0_outs)) (v : HS f151_c1_ins) : aev Γ (fun f => Ae.lookA f [(150, ⟨f150_ins, f150_outs, f150⟩)]) 0 (subc (code Tryz.f151) [1, 1, 1, 1]) (.seq .nil (.cut .nil ⟨f151_c0_ins, f151_c0_outs, f151_c0⟩)) (stof f151_c1_ins v) (oout 0 f151_c1_outs) = F151_c1 f150 f151_c0 v := by kernel_rfl
def C151_c1 (v : List UInt8 × Int × Int × Unit) : Option (Bool × Unit) := F151_c1 C150 C151_c0 v
theorem k151_c1 : FragOk Tryz.prog 0 (fun Q a w => ((subc (code Tryz.f151) [1, 1, 1, 1])).wp Tryz.prog Q a w) ⟨f151_c1_ins, f151_c1_outs, C151_c1⟩ :=
 frag_code (ins := f151_c1_ins) (os := f151_c1_outs) (np := 0) (n := (.seq .nil (.cut .nil ⟨f151_c0_ins, f151_c0_outs, C151_c0⟩))) (F := C151_c1) hm hΓ (K := (fun f => Ae.lookA f [(150, ⟨f150_ins, f150_outs, C150⟩)])) (kok_cons ok150 (kok_nil _))
 (ann_seq (a := (subc (code Tryz.f151) [1, 1, 1, 1, 0])) (b := (subc (code Tryz.f151) [1, 1, 1, 1, 1])) (by kernel_rfl) (ann_nil _) (ann_cut (a := (subc (code Tryz.f151) [1, 1, 1, 1, 1, 0])) (b := (subc (code Tryz.f151) [1, 1, 1, 1, 1, 1])) (by kernel_rfl) (ann_nil _) k151_c0)) (fun v => h151_c1 C150 C151_c0 v)
def F151 (f151_c1 : List UInt8 × Int × Int × Unit → Option (Bool × Unit)) : List UInt8 × Unit → Option (Bool × Unit) := fun (x0, _) =>
 bif decide ((↑x0.length : Int) ≥ 1) then
 bif decide (0 < (↑x0.length : Int)) then
 bif (↑(x0.getD 0 0).toNat : Int) == 45 then
 bif decide (1 ≤ (↑x0.length : Int)) then
 (f151_c1 (List.drop 1 x0, 94, 0, ())).bind fun val => some (val.1, ())
 else none
 else
 bif decide (0 < (↑x0.length : Int)) then
 bif (↑(x0.getD 0 0).toNat : Int) == 43 then
 bif decide (1 ≤ (↑x0.length : Int)) then
 (f151_c1 (List.drop 1 x0, 94, 0, ())).bind fun val => some (val.1, ())
 else none
 else (f151_c1 (x0, 94, 0, ())).bind fun val => some (val.1, ())
 else none
 else none
 else (f151_c1 (x0, 94, 0, ())).bind fun val => some (val.1, ())
theorem h151 (f151_c1 : HS f151_c1_ins → Option (OTy f151_c1_outs)) (v : HS f151_ins) : afun Γ (fun f => Ae.lookA f []) 0 Tryz.f151.ntmps Tryz.f151.results.toList (code Tryz.f151) (.seq .nil (.seq .nil (.seq .nil (.cut .nil ⟨f151_c1_ins, f151_c1_outs, f151_c1⟩)))) (em id f151_ins v).1 (em id f151_ins v).2 (ofin 0 f151_outs) = F151 f151_c1 v := by kernel_rfl
def C151 (v : List UInt8 × Unit) : Option (Bool × Unit) := F151 C151_c1 v
theorem ok151 : FnOk Tryz.prog 151 ⟨f151_ins, f151_outs, C151⟩ :=
 fn_ok (np := 0) (n := (.seq .nil (.seq .nil (.seq .nil (.cut .nil ⟨f151_c1_ins, f151_c1_outs, C151_c1⟩))))) hm hΓ (K := (fun f => Ae.lookA f [])) (kok_nil _) Tryz.func151 (c := code Tryz.f151) (by kernel_rfl) (name_ne (by kernel_rfl))
 (ann_seq (a := (subc (code Tryz.f151) [0])) (b := (subc (code Tryz.f151) [1])) (by kernel_rfl) (ann_nil _) (ann_seq (a := (subc (code Tryz.f151) [1, 0])) (b := (subc (code Tryz.f151) [1, 1])) (by kernel_rfl) (ann_nil _) (ann_seq (a := (subc (code Tryz.f151) [1, 1, 0])) (b := (subc (code Tryz.f151) [1, 1, 1])) (by kernel_rfl) (ann_nil _) (ann_cut (a := (subc (code Tryz.f151) [1, 1, 1, 0])) (b := (subc (code Tryz.f151) [1, 1, 1, 1])) (by kernel_rfl) (ann_nil _) k151_c1)))) (fun v => Nat.le_of_ble_eq_true (by kernel_rfl)) (fun v => h151 C151_c1 v)
def F119_c0  : List UInt8 × Int × Bool × List UInt8 × Bool × Unit → Option (List UInt8 × Int × Int × Bool × List UInt8 × Unit) := fun (x0, x1, x2, x3, x4, _) =>
 bif x4 then
 bif decide (2 ≤ (↑x0.length : Int)) then
 some (List.drop 2 x0, 16, x1, x2, x3, ())
 else none
 else
 bif decide (1 ≤ (↑x0.length : Int)) then
 some (List.drop 1 x0, 8, x1, x2, x3, ())
 else none
theorem h119_c0  (v : HS f119_c0_ins) : aev Γ (fun f => Ae.lookA f []) 0 (subc (code Tryz.f119) [1, 1, 1, 1, 0, 0, 1, 1, 1, 0, 1, 1, 0, 0, 1, 1, 1, 1, 1]) .nil (stof f119_c0_ins v) (oout 0 f119_c0_outs) = F119_c0 v := by kernel_rfl
def C119_c0 (v : List UInt8 × Int × Bool × List UInt8 × Bool × Unit) : Option (List UInt8 × Int × Int × Bool × List UInt8 × Unit) := F119_c0 v
theorem k119_c0 : FragOk Tryz.prog 0 (fun Q a w => ((subc (code Tryz.f119) [1, 1, 1, 1, 0, 0, 1, 1, 1, 0, 1, 1, 0, 0, 1, 1, 1, 1, 1])).wp Tryz.prog Q a w) ⟨f119_c0_ins, f119_c0_outs, C119_c0⟩ :=
 frag_code (ins := f119_c0_ins) (os := f119_c0_outs) (np := 0) (n := .nil) (F := C119_c0) hm hΓ (K := (fun f => Ae.lookA f [])) (kok_nil _)
 (ann_nil _) (fun v => h119_c0 v)
def F119_c1 (f150 : Int × Unit → Option (Int × Unit)) (f119_c0 : List UInt8 × Int × Bool × List UInt8 × Bool × Unit → Option (List UInt8 × Int × Int × Bool × List UInt8 × Unit)) : List UInt8 × Int × Bool × List UInt8 × Bool × Unit → Option (List UInt8 × Int × Int × Bool × List UInt8 × Unit) := fun (x0, x1, x2, x3, x4, _) =>
 bif x4 then
 bif decide (2 ≤ (↑x0.length : Int)) then
 some (List.drop 2 x0, 8, x1, x2, x3, ())
 else none
 else
 bif decide ((↑x0.length : Int) ≥ 3) then
 bif decide (1 < (↑x0.length : Int)) then
 (f150 ((↑(x0.getD 1 0).toNat : Int), ())).bind fun val =>
 (f119_c0 (x0, x1, x2, x3, val.1 == 120, ())).bind fun val =>
 some (val.1, val.2.1, val.2.2.1, val.2.2.2.1, val.2.2.2.2.1, ())
 else none
 else
 (f119_c0 (x0, x1, x2, x3, false, ())).bind fun val =>
 some (val.1, val.2.1, val.2.2.1, val.2.2.2.1, val.2.2.2.2.1, ())
theorem h119_c1 (f150 : HS f150_ins → Option (OTy f150_outs)) (f119_c0 : HS f119_c0_ins → Option (OTy f119_c0_outs)) (v : HS f119_c1_ins) : aev Γ (fun f => Ae.lookA f [(150, ⟨f150_ins, f150_outs, f150⟩)]) 0 (subc (code Tryz.f119) [1, 1, 1, 1, 0, 0, 1, 1, 1, 0, 1, 1, 0, 0, 1, 1, 1]) (.cond .nil (.cut .nil ⟨f119_c0_ins, f119_c0_outs, f119_c0⟩)) (stof f119_c1_ins v) (oout 0 f119_c1_outs) = F119_c1 f150 f119_c0 v := by kernel_rfl
def C119_c1 (v : List UInt8 × Int × Bool × List UInt8 × Bool × Unit) : Option (List UInt8 × Int × Int × Bool × List UInt8 × Unit) := F119_c1 C150 C119_c0 v
theorem k119_c1 : FragOk Tryz.prog 0 (fun Q a w => ((subc (code Tryz.f119) [1, 1, 1, 1, 0, 0, 1, 1, 1, 0, 1, 1, 0, 0, 1, 1, 1])).wp Tryz.prog Q a w) ⟨f119_c1_ins, f119_c1_outs, C119_c1⟩ :=
 frag_code (ins := f119_c1_ins) (os := f119_c1_outs) (np := 0) (n := (.cond .nil (.cut .nil ⟨f119_c0_ins, f119_c0_outs, C119_c0⟩))) (F := C119_c1) hm hΓ (K := (fun f => Ae.lookA f [(150, ⟨f150_ins, f150_outs, C150⟩)])) (kok_cons ok150 (kok_nil _))
 (ann_cond (x := (subc (code Tryz.f119) [1, 1, 1, 1, 0, 0, 1, 1, 1, 0, 1, 1, 0, 0, 1, 1, 1, 0])) (y := (subc (code Tryz.f119) [1, 1, 1, 1, 0, 0, 1, 1, 1, 0, 1, 1, 0, 0, 1, 1, 1, 1])) (by kernel_rfl) (ann_nil _) (ann_cut (a := (subc (code Tryz.f119) [1, 1, 1, 1, 0, 0, 1, 1, 1, 0, 1, 1, 0, 0, 1, 1, 1, 1, 0])) (b := (subc (code Tryz.f119) [1, 1, 1, 1, 0, 0, 1, 1, 1, 0, 1, 1, 0, 0, 1, 1, 1, 1, 1])) (by kernel_rfl) (ann_nil _) k119_c0)) (fun v => h119_c1 C150 C119_c0 v)
def F119_c2 (f150 : Int × Unit → Option (Int × Unit)) (f119_c1 : List UInt8 × Int × Bool × List UInt8 × Bool × Unit → Option (List UInt8 × Int × Int × Bool × List UInt8 × Unit)) : List UInt8 × Int × Bool × List UInt8 × Bool × Unit → Option (List UInt8 × Int × Int × Bool × List UInt8 × Unit) := fun (x0, x1, x2, x3, x4, _) =>
 bif x4 then
 bif decide (2 ≤ (↑x0.length : Int)) then
 some (List.drop 2 x0, 2, x1, x2, x3, ())
 else none
 else
 bif decide ((↑x0.length : Int) ≥ 3) then
 bif decide (1 < (↑x0.length : Int)) then
 (f150 ((↑(x0.getD 1 0).toNat : Int), ())).bind fun val =>
 (f119_c1 (x0, x1, x2, x3, val.1 == 111, ())).bind fun val =>
 some (val.1, val.2.1, val.2.2.1, val.2.2.2.1, val.2.2.2.2.1, ())
 else none
 else
 (f119_c1 (x0, x1, x2, x3, false, ())).bind fun val =>
 some (val.1, val.2.1, val.2.2.1, val.2.2.2.1, val.2.2.2.2.1, ())
theorem h119_c2 (f150 : HS f150_ins → Option (OTy f150_outs)) (f119_c1 : HS f119_c1_ins → Option (OTy f119_c1_outs)) (v : HS f119_c2_ins) : aev Γ (fun f => Ae.lookA f [(150, ⟨f150_ins, f150_outs, f150⟩)]) 0 (subc (code Tryz.f119) [1, 1, 1, 1, 0, 0, 1, 1, 1, 0, 1, 1, 0, 0, 1]) (.cond .nil (.cut .nil ⟨f119_c1_ins, f119_c1_outs, f119_c1⟩)) (stof f119_c2_ins v) (oout 0 f119_c2_outs) = F119_c2 f150 f119_c1 v := by kernel_rfl
def C119_c2 (v : List UInt8 × Int × Bool × List UInt8 × Bool × Unit) : Option (List UInt8 × Int × Int × Bool × List UInt8 × Unit) := F119_c2 C150 C119_c1 v
theorem k119_c2 : FragOk Tryz.prog 0 (fun Q a w => ((subc (code Tryz.f119) [1, 1, 1, 1, 0, 0, 1, 1, 1, 0, 1, 1, 0, 0, 1])).wp Tryz.prog Q a w) ⟨f119_c2_ins, f119_c2_outs, C119_c2⟩ :=
 frag_code (ins := f119_c2_ins) (os := f119_c2_outs) (np := 0) (n := (.cond .nil (.cut .nil ⟨f119_c1_ins, f119_c1_outs, C119_c1⟩))) (F := C119_c2) hm hΓ (K := (fun f => Ae.lookA f [(150, ⟨f150_ins, f150_outs, C150⟩)])) (kok_cons ok150 (kok_nil _))
 (ann_cond (x := (subc (code Tryz.f119) [1, 1, 1, 1, 0, 0, 1, 1, 1, 0, 1, 1, 0, 0, 1, 0])) (y := (subc (code Tryz.f119) [1, 1, 1, 1, 0, 0, 1, 1, 1, 0, 1, 1, 0, 0, 1, 1])) (by kernel_rfl) (ann_nil _) (ann_cut (a := (subc (code Tryz.f119) [1, 1, 1, 1, 0, 0, 1, 1, 1, 0, 1, 1, 0, 0, 1, 1, 0])) (b := (subc (code Tryz.f119) [1, 1, 1, 1, 0, 0, 1, 1, 1, 0, 1, 1, 0, 0, 1, 1, 1])) (by kernel_rfl) (ann_nil _) k119_c1)) (fun v => h119_c2 C150 C119_c1 v)
def F119_c3 (f150 : Int × Unit → Option (Int × Unit)) (f119_c2 : List UInt8 × Int × Bool × List UInt8 × Bool × Unit → Option (List UInt8 × Int × Int × Bool × List UInt8 × Unit)) : List UInt8 × Int × Int × Bool × List UInt8 × Bool × Unit → Option ((List UInt8 × Int × Int × Bool × List UInt8 × Unit) ⊕ (Int × Int × Unit)) := fun (x0, x1, x2, x3, x4, x5, _) =>
 bif x5 then some (Sum.inl (x0, x1, x2, x3, x4, ()))
 else
 bif x1 == 0 then
 bif decide (0 < (↑x0.length : Int)) then
 bif (↑(x0.getD 0 0).toNat : Int) == 48 then
 bif decide ((↑x0.length : Int) ≥ 3) then
 bif decide (1 < (↑x0.length : Int)) then
 (f150 ((↑(x0.getD 1 0).toNat : Int), ())).bind fun val =>
 (f119_c2 (x0, x2, x3, x4, val.1 == 98, ())).bind fun val =>
 some
 (Sum.inl
 (val.1, val.2.1, val.2.2.1, val.2.2.2.1, val.2.2.2.2.1, ()))
 else none
 else
 (f119_c2 (x0, x2, x3, x4, false, ())).bind fun val =>
 some
 (Sum.inl
 (val.1, val.2.1, val.2.2.1, val.2.2.2.1, val.2.2.2.2.1, ()))
 else some (Sum.inl (x0, 10, x2, x3, x4, ()))
 else none
 else some (Sum.inr (0, 3, ()))
theorem h119_c3 (f150 : HS f150_ins → Option (OTy f150_outs)) (f119_c2 : HS f119_c2_ins → Option (OTy f119_c2_outs)) (v : HS f119_c3_ins) : aev Γ (fun f => Ae.lookA f [(150, ⟨f150_ins, f150_outs, f150⟩)]) 0 (subc (code Tryz.f119) [1, 1, 1, 1, 0, 0, 1]) (.cond .nil (.seq .nil (.cond (.seq .nil (.seq .nil (.cond (.blk (.cut .nil ⟨f119_c2_ins, f119_c2_outs, f119_c2⟩)) .nil))) .nil))) (stof f119_c3_ins v) (oout 0 f119_c3_outs) = F119_c3 f150 f119_c2 v := by kernel_rfl
def C119_c3 (v : List UInt8 × Int × Int × Bool × List UInt8 × Bool × Unit) : Option ((List UInt8 × Int × Int × Bool × List UInt8 × Unit) ⊕ (Int × Int × Unit)) := F119_c3 C150 C119_c2 v
theorem k119_c3 : FragOk Tryz.prog 0 (fun Q a w => ((subc (code Tryz.f119) [1, 1, 1, 1, 0, 0, 1])).wp Tryz.prog Q a w) ⟨f119_c3_ins, f119_c3_outs, C119_c3⟩ :=
 frag_code (ins := f119_c3_ins) (os := f119_c3_outs) (np := 0) (n := (.cond .nil (.seq .nil (.cond (.seq .nil (.seq .nil (.cond (.blk (.cut .nil ⟨f119_c2_ins, f119_c2_outs, C119_c2⟩)) .nil))) .nil)))) (F := C119_c3) hm hΓ (K := (fun f => Ae.lookA f [(150, ⟨f150_ins, f150_outs, C150⟩)])) (kok_cons ok150 (kok_nil _))
 (ann_cond (x := (subc (code Tryz.f119) [1, 1, 1, 1, 0, 0, 1, 0])) (y := (subc (code Tryz.f119) [1, 1, 1, 1, 0, 0, 1, 1])) (by kernel_rfl) (ann_nil _) (ann_seq (a := (subc (code Tryz.f119) [1, 1, 1, 1, 0, 0, 1, 1, 0])) (b := (subc (code Tryz.f119) [1, 1, 1, 1, 0, 0, 1, 1, 1])) (by kernel_rfl) (ann_nil _) (ann_cond (x := (subc (code Tryz.f119) [1, 1, 1, 1, 0, 0, 1, 1, 1, 0])) (y := (subc (code Tryz.f119) [1, 1, 1, 1, 0, 0, 1, 1, 1, 1])) (by kernel_rfl) (ann_seq (a := (subc (code Tryz.f119) [1, 1, 1, 1, 0, 0, 1, 1, 1, 0, 0])) (b := (subc (code Tryz.f119) [1, 1, 1, 1, 0, 0, 1, 1, 1, 0, 1])) (by kernel_rfl) (ann_nil _) (ann_seq (a := (subc (code Tryz.f119) [1, 1, 1, 1, 0, 0, 1, 1, 1, 0, 1, 0])) (b := (subc (code Tryz.f119) [1, 1, 1, 1, 0, 0, 1, 1, 1, 0, 1, 1])) (by kernel_rfl) (ann_nil _) (ann_cond (x := (subc (code Tryz.f119) [1, 1, 1, 1, 0, 0, 1, 1, 1, 0, 1, 1, 0])) (y := (subc (code Tryz.f119) [1, 1, 1, 1, 0, 0, 1, 1, 1, 0, 1, 1, 1])) (by kernel_rfl) (ann_blk (x := (subc (code Tryz.f119) [1, 1, 1, 1, 0, 0, 1, 1, 1, 0, 1, 1, 0, 0])) (by kernel_rfl) (ann_cut (a := (subc (code Tryz.f119) [1, 1, 1, 1, 0, 0, 1, 1, 1, 0, 1, 1, 0, 0, 0])) (b := (subc (code Tryz.f119) [1, 1, 1, 1, 0, 0, 1, 1, 1, 0, 1, 1, 0, 0, 1])) (by kernel_rfl) (ann_nil _) k119_c2)) (ann_nil _)))) (ann_nil _)))) (fun v => h119_c3 C150 C119_c2 v)
def F119_c4 (f150 : Int × Unit → Option (Int × Unit)) : Int × Bool × List UInt8 × Int × Int × Bool × Int × Int × List UInt8 × Int × Int × Bool × Unit → Option ((Int × Bool × List UInt8 × Int × Int × Bool × Int × Int × List UInt8 × Int × Int × Unit) ⊕ (Int × Int × Unit)) := fun (x0, x1, x2, x3, x4, x5, x6, x7, x8, x9, x10, x11, _) =>
 bif x11 then
 (f150 (x7, ())).bind fun val =>
 some
 (Sum.inl
 (x0, x1, x2, x3, x4, x5, x6, IntKind.u8.wrap (IntKind.u8.wrap (val.1 - 97) + 10), x8, x9, x10, ()))
 else some (Sum.inr (0, 2, ()))
theorem h119_c4 (f150 : HS f150_ins → Option (OTy f150_outs)) (v : HS f119_c4_ins) : aev Γ (fun f => Ae.lookA f [(150, ⟨f150_ins, f150_outs, f150⟩)]) 0 (subc (code Tryz.f119) [1, 1, 1, 1, 1, 1, 1, 1, 1, 1, 1, 0, 1, 0, 0, 1, 1, 0, 0, 1, 1, 0, 0, 1, 1, 1, 1, 1]) .nil (stof f119_c4_ins v) (oout 0 f119_c4_outs) = F119_c4 f150 v := by kernel_rfl
def C119_c4 (v : Int × Bool × List UInt8 × Int × Int × Bool × Int × Int × List UInt8 × Int × Int × Bool × Unit) : Option ((Int × Bool × List UInt8 × Int × Int × Bool × Int × Int × List UInt8 × Int × Int × Unit) ⊕ (Int × Int × Unit)) := F119_c4 C150 v
theorem k119_c4 : FragOk Tryz.prog 0 (fun Q a w => ((subc (code Tryz.f119) [1, 1, 1, 1, 1, 1, 1, 1, 1, 1, 1, 0, 1, 0, 0, 1, 1, 0, 0, 1, 1, 0, 0, 1, 1, 1, 1, 1])).wp Tryz.prog Q a w) ⟨f119_c4_ins, f119_c4_outs, C119_c4⟩ :=
 frag_code (ins := f119_c4_ins) (os := f119_c4_outs) (np := 0) (n := .nil) (F := C119_c4) hm hΓ (K := (fun f => Ae.lookA f [(150, ⟨f150_ins, f150_outs, C150⟩)])) (kok_cons ok150 (kok_nil _))
 (ann_nil _) (fun v => h119_c4 C150 v)
def F119_c5 (f150 : Int × Unit → Option (Int × Unit)) (f119_c4 : Int × Bool × List UInt8 × Int × Int × Bool × Int × Int × List UInt8 × Int × Int × Bool × Unit → Option ((Int × Bool × List UInt8 × Int × Int × Bool × Int × Int × List UInt8 × Int × Int × Unit) ⊕ (Int × Int × Unit))) : Int × Bool × List UInt8 × Int × Int × Bool × Int × Int × List UInt8 × Int × Int × Bool × Unit → Option ((Int × Bool × List UInt8 × Int × Int × Bool × Int × Int × List UInt8 × Int × Int × Unit) ⊕ (Int × Int × Unit)) := fun (x0, x1, x2, x3, x4, x5, x6, x7, x8, x9, x10, x11, _) =>
 bif x11 then some (Sum.inl (x0, x1, x2, x3, x4, x5, x6, IntKind.u8.wrap (x7 - 48), x8, x9, x10, ()))
 else
 (f150 (x7, ())).bind fun val =>
 bif decide (97 ≤ val.1) then
 (f150 (x7, ())).bind fun val =>
 (f119_c4 (x0, x1, x2, x3, x4, x5, x6, x7, x8, x9, x10, decide (val.1 ≤ 122), ())).bind fun val =>
 Sum.elim
 (fun val =>
 some
 (Sum.inl
 (val.1, val.2.1, val.2.2.1, val.2.2.2.1, val.2.2.2.2.1,
 val.2.2.2.2.2.1, val.2.2.2.2.2.2.1, val.2.2.2.2.2.2.2.1,
 val.2.2.2.2.2.2.2.2.1, val.2.2.2.2.2.2.2.2.2.1,
 val.2.2.2.2.2.2.2.2.2.2.1, ())))
 (fun val => some (Sum.inr (val.1, val.2.1, ()))) val
 else
 (f119_c4 (x0, x1, x2, x3, x4, x5, x6, x7, x8, x9, x10, false, ())).bind fun val =>
 Sum.elim
 (fun val =>
 some
 (Sum.inl
 (val.1, val.2.1, val.2.2.1, val.2.2.2.1, val.2.2.2.2.1,
 val.2.2.2.2.2.1, val.2.2.2.2.2.2.1, val.2.2.2.2.2.2.2.1,
 val.2.2.2.2.2.2.2.2.1, val.2.2.2.2.2.2.2.2.2.1,
 val.2.2.2.2.2.2.2.2.2.2.1, ())))
 (fun val => some (Sum.inr (val.1, val.2.1, ()))) val
theorem h119_c5 (f150 : HS f150_ins → Option (OTy f150_outs)) (f119_c4 : HS f119_c4_ins → Option (OTy f119_c4_outs)) (v : HS f119_c5_ins) : aev Γ (fun f => Ae.lookA f [(150, ⟨f150_ins, f150_outs, f150⟩)]) 0 (subc (code Tryz.f119) [1, 1, 1, 1, 1, 1, 1, 1, 1, 1, 1, 0, 1, 0, 0, 1, 1, 0, 0, 1, 1, 0, 0, 1, 1, 1]) (.cond .nil (.cut .nil ⟨f119_c4_ins, f119_c4_outs, f119_c4⟩)) (stof f119_c5_ins v) (oout 0 f119_c5_outs) = F119_c5 f150 f119_c4 v := by kernel_rfl
def C119_c5 (v : Int × Bool × List UInt8 × Int × Int × Bool × Int × Int × List UInt8 × Int × Int × Bool × Unit) : Option ((Int × Bool × List UInt8 × Int × Int × Bool × Int × Int × List UInt8 × Int × Int × Unit) ⊕ (Int × Int × Unit)) := F119_c5 C150 C119_c4 v
theorem k119_c5 : FragOk Tryz.prog 0 (fun Q a w => ((subc (code Tryz.f119) [1, 1, 1, 1, 1, 1, 1, 1, 1, 1, 1, 0, 1, 0, 0, 1, 1, 0, 0, 1, 1, 0, 0, 1, 1, 1])).wp Tryz.prog Q a w) ⟨f119_c5_ins, f119_c5_outs, C119_c5⟩ :=
 frag_code (ins := f119_c5_ins) (os := f119_c5_outs) (np := 0) (n := (.cond .nil (.cut .nil ⟨f119_c4_ins, f119_c4_outs, C119_c4⟩))) (F := C119_c5) hm hΓ (K := (fun f => Ae.lookA f [(150, ⟨f150_ins, f150_outs, C150⟩)])) (kok_cons ok150 (kok_nil _))
 (ann_cond (x := (subc (code Tryz.f119) [1, 1, 1, 1, 1, 1, 1, 1, 1, 1, 1, 0, 1, 0, 0, 1, 1, 0, 0, 1, 1, 0, 0, 1, 1, 1, 0])) (y := (subc (code Tryz.f119) [1, 1, 1, 1, 1, 1, 1, 1, 1, 1, 1, 0, 1, 0, 0, 1, 1, 0, 0, 1, 1, 0, 0, 1, 1, 1, 1])) (by kernel_rfl) (ann_nil _) (ann_cut (a := (subc (code Tryz.f119) [1, 1, 1, 1, 1, 1, 1, 1, 1, 1, 1, 0, 1, 0, 0, 1, 1, 0, 0, 1, 1, 0, 0, 1, 1, 1, 1, 0])) (b := (subc (code Tryz.f119) [1, 1, 1, 1, 1, 1, 1, 1, 1, 1, 1, 0, 1, 0, 0, 1, 1, 0, 0, 1, 1, 0, 0, 1, 1, 1, 1, 1])) (by kernel_rfl) (ann_nil _) k119_c4)) (fun v => h119_c5 C150 C119_c4 v)
def F119_c6 (f119_c5 : Int × Bool × List UInt8 × Int × Int × Bool × Int × Int × List UInt8 × Int × Int × Bool × Unit → Option ((Int × Bool × List UInt8 × Int × Int × Bool × Int × Int × List UInt8 × Int × Int × Unit) ⊕ (Int × Int × Unit))) : Int × Bool × List UInt8 × Int × Int × Bool × Int × Int × List UInt8 × Int × Int × Bool × Unit → Option ((Int × Bool × List UInt8 × Int × Int × Bool × Int × List UInt8 × Int × Int × Unit) ⊕ (Int × Bool × List UInt8 × Int × Int × Bool × Int × Int × List UInt8 × Int × Int × Unit) ⊕ (Int × Int × Unit)) := fun (x0, x1, x2, x3, x4, x5, x6, x7, x8, x9, x10, x11, _) =>
 bif x11 then some (Sum.inl (x0, x1, x2, x3, x4, true, x6, x8, x9, x10, ()))
 else
 bif decide (48 ≤ x7) then
 (f119_c5 (x0, x1, x2, x3, x4, x5, x6, x7, x8, x9, x10, decide (x7 ≤ 57), ())).bind fun val =>
 Sum.elim
 (fun val =>
 some
 (Sum.inr
 (Sum.inl
 (val.1, val.2.1, val.2.2.1, val.2.2.2.1, val.2.2.2.2.1,
 val.2.2.2.2.2.1, val.2.2.2.2.2.2.1, val.2.2.2.2.2.2.2.1,
 val.2.2.2.2.2.2.2.2.1, val.2.2.2.2.2.2.2.2.2.1,
 val.2.2.2.2.2.2.2.2.2.2.1, ()))))
 (fun val => some (Sum.inr (Sum.inr (val.1, val.2.1, ())))) val
 else
 (f119_c5 (x0, x1, x2, x3, x4, x5, x6, x7, x8, x9, x10, false, ())).bind fun val =>
 Sum.elim
 (fun val =>
 some
 (Sum.inr
 (Sum.inl
 (val.1, val.2.1, val.2.2.1, val.2.2.2.1, val.2.2.2.2.1,
 val.2.2.2.2.2.1, val.2.2.2.2.2.2.1, val.2.2.2.2.2.2.2.1,
 val.2.2.2.2.2.2.2.2.1, val.2.2.2.2.2.2.2.2.2.1,
 val.2.2.2.2.2.2.2.2.2.2.1, ()))))
 (fun val => some (Sum.inr (Sum.inr (val.1, val.2.1, ())))) val
theorem h119_c6 (f119_c5 : HS f119_c5_ins → Option (OTy f119_c5_outs)) (v : HS f119_c6_ins) : aev Γ (fun f => Ae.lookA f []) 0 (subc (code Tryz.f119) [1, 1, 1, 1, 1, 1, 1, 1, 1, 1, 1, 0, 1, 0, 0, 1, 1, 0, 0, 1, 1, 0, 0, 1]) (.cond .nil (.cut .nil ⟨f119_c5_ins, f119_c5_outs, f119_c5⟩)) (stof f119_c6_ins v) (oout 0 f119_c6_outs) = F119_c6 f119_c5 v := by kernel_rfl
def C119_c6 (v : Int × Bool × List UInt8 × Int × Int × Bool × Int × Int × List UInt8 × Int × Int × Bool × Unit) : Option ((Int × Bool × List UInt8 × Int × Int × Bool × Int × List UInt8 × Int × Int × Unit) ⊕ (Int × Bool × List UInt8 × Int × Int × Bool × Int × Int × List UInt8 × Int × Int × Unit) ⊕ (Int × Int × Unit)) := F119_c6 C119_c5 v
theorem k119_c6 : FragOk Tryz.prog 0 (fun Q a w => ((subc (code Tryz.f119) [1, 1, 1, 1, 1, 1, 1, 1, 1, 1, 1, 0, 1, 0, 0, 1, 1, 0, 0, 1, 1, 0, 0, 1])).wp Tryz.prog Q a w) ⟨f119_c6_ins, f119_c6_outs, C119_c6⟩ :=
 frag_code (ins := f119_c6_ins) (os := f119_c6_outs) (np := 0) (n := (.cond .nil (.cut .nil ⟨f119_c5_ins, f119_c5_outs, C119_c5⟩))) (F := C119_c6) hm hΓ (K := (fun f => Ae.lookA f [])) (kok_nil _)
 (ann_cond (x := (subc (code Tryz.f119) [1, 1, 1, 1, 1, 1, 1, 1, 1, 1, 1, 0, 1, 0, 0, 1, 1, 0, 0, 1, 1, 0, 0, 1, 0])) (y := (subc (code Tryz.f119) [1, 1, 1, 1, 1, 1, 1, 1, 1, 1, 1, 0, 1, 0, 0, 1, 1, 0, 0, 1, 1, 0, 0, 1, 1])) (by kernel_rfl) (ann_nil _) (ann_cut (a := (subc (code Tryz.f119) [1, 1, 1, 1, 1, 1, 1, 1, 1, 1, 1, 0, 1, 0, 0, 1, 1, 0, 0, 1, 1, 0, 0, 1, 1, 0])) (b := (subc (code Tryz.f119) [1, 1, 1, 1, 1, 1, 1, 1, 1, 1, 1, 0, 1, 0, 0, 1, 1, 0, 0, 1, 1, 0, 0, 1, 1, 1])) (by kernel_rfl) (ann_nil _) k119_c5)) (fun v => h119_c6 C119_c5 v)
def F119_l0 (f119_c6 : Int × Bool × List UInt8 × Int × Int × Bool × Int × Int × List UInt8 × Int × Int × Bool × Unit → Option ((Int × Bool × List UInt8 × Int × Int × Bool × Int × List UInt8 × Int × Int × Unit) ⊕ (Int × Bool × List UInt8 × Int × Int × Bool × Int × Int × List UInt8 × Int × Int × Unit) ⊕ (Int × Int × Unit))) : Int × Bool × List UInt8 × Int × Int × Bool × Int × List UInt8 × Int × Int × Unit → Option ((Int × Bool × List UInt8 × Int × Int × Bool × Int × List UInt8 × Int × Int × Unit) ⊕ ((List UInt8 × Bool × Int × Unit) ⊕ (Int × Int × Unit))) := fun (x0, x1, x2, x3, x4, x5, x6, x7, x8, x9, _) =>
 bif decide (x9 < x8) then
 bif decide (0 ≤ x9) && decide (x9 < (↑x7.length : Int)) then
 bif (↑(UInt8.toNat (x7.getD x9.toNat 0)) : Int) == 95 then
 (f119_c6
 (x0, x1, x2, x3, x4, x5, x6, (↑(UInt8.toNat (x7.getD x9.toNat 0)) : Int), x7, x8, x9, x1,
 ())).bind
 fun val =>
 Sum.elim
 (fun val =>
 some
 (Sum.inl
 (val.1, val.2.1, val.2.2.1, val.2.2.2.1, val.2.2.2.2.1,
 val.2.2.2.2.2.1, val.2.2.2.2.2.2.1, val.2.2.2.2.2.2.2.1,
 val.2.2.2.2.2.2.2.2.1,
 IntKind.i64.wrap (val.2.2.2.2.2.2.2.2.2.1 + 1), ())))
 (fun val =>
 Sum.elim
 (fun val =>
 bif decide (val.2.2.2.2.2.2.2.1 ≥ IntKind.u8.wrap val.1) then
 some (Sum.inr (Sum.inr (0, 2, ())))
 else
 bif decide (val.2.2.2.2.2.2.1 ≥ val.2.2.2.1) then
 some (Sum.inr (Sum.inr (val.2.2.2.2.1, 1, ())))
 else
 bif
 decide
 (IntKind.u64.wrap
 (IntKind.u64.wrap (val.2.2.2.2.2.2.1 * IntKind.u64.wrap val.1) +
 IntKind.u64.wrap val.2.2.2.2.2.2.2.1) <
 IntKind.u64.wrap (val.2.2.2.2.2.2.1 * IntKind.u64.wrap val.1)) then
 some (Sum.inr (Sum.inr (val.2.2.2.2.1, 1, ())))
 else
 bif
 decide
 (IntKind.u64.wrap
 (IntKind.u64.wrap (val.2.2.2.2.2.2.1 * IntKind.u64.wrap val.1) +
 IntKind.u64.wrap val.2.2.2.2.2.2.2.1) >
 val.2.2.2.2.1) then
 some (Sum.inr (Sum.inr (val.2.2.2.2.1, 1, ())))
 else
 some
 (Sum.inl
 (val.1, val.2.1, val.2.2.1, val.2.2.2.1, val.2.2.2.2.1,
 val.2.2.2.2.2.1,
 IntKind.u64.wrap
 (IntKind.u64.wrap (val.2.2.2.2.2.2.1 * IntKind.u64.wrap val.1) +
 IntKind.u64.wrap val.2.2.2.2.2.2.2.1),
 val.2.2.2.2.2.2.2.2.1, val.2.2.2.2.2.2.2.2.2.1,
 IntKind.i64.wrap (val.2.2.2.2.2.2.2.2.2.2.1 + 1), ())))
 (fun val => some (Sum.inr (Sum.inr (val.1, val.2.1, ())))) val)
 val
 else
 (f119_c6
 (x0, x1, x2, x3, x4, x5, x6, (↑(UInt8.toNat (x7.getD x9.toNat 0)) : Int), x7, x8, x9, false,
 ())).bind
 fun val =>
 Sum.elim
 (fun val =>
 some
 (Sum.inl
 (val.1, val.2.1, val.2.2.1, val.2.2.2.1, val.2.2.2.2.1,
 val.2.2.2.2.2.1, val.2.2.2.2.2.2.1, val.2.2.2.2.2.2.2.1,
 val.2.2.2.2.2.2.2.2.1,
 IntKind.i64.wrap (val.2.2.2.2.2.2.2.2.2.1 + 1), ())))
 (fun val =>
 Sum.elim
 (fun val =>
 bif decide (val.2.2.2.2.2.2.2.1 ≥ IntKind.u8.wrap val.1) then
 some (Sum.inr (Sum.inr (0, 2, ())))
 else
 bif decide (val.2.2.2.2.2.2.1 ≥ val.2.2.2.1) then
 some (Sum.inr (Sum.inr (val.2.2.2.2.1, 1, ())))
 else
 bif
 decide
 (IntKind.u64.wrap
 (IntKind.u64.wrap (val.2.2.2.2.2.2.1 * IntKind.u64.wrap val.1) +
 IntKind.u64.wrap val.2.2.2.2.2.2.2.1) <
 IntKind.u64.wrap (val.2.2.2.2.2.2.1 * IntKind.u64.wrap val.1)) then
 some (Sum.inr (Sum.inr (val.2.2.2.2.1, 1, ())))
 else
 bif
 decide
 (IntKind.u64.wrap
 (IntKind.u64.wrap (val.2.2.2.2.2.2.1 * IntKind.u64.wrap val.1) +
 IntKind.u64.wrap val.2.2.2.2.2.2.2.1) >
 val.2.2.2.2.1) then
 some (Sum.inr (Sum.inr (val.2.2.2.2.1, 1, ())))
 else
 some
 (Sum.inl
 (val.1, val.2.1, val.2.2.1, val.2.2.2.1, val.2.2.2.2.1,
 val.2.2.2.2.2.1,
 IntKind.u64.wrap
 (IntKind.u64.wrap (val.2.2.2.2.2.2.1 * IntKind.u64.wrap val.1) +
 IntKind.u64.wrap val.2.2.2.2.2.2.2.1),
 val.2.2.2.2.2.2.2.2.1, val.2.2.2.2.2.2.2.2.2.1,
 IntKind.i64.wrap (val.2.2.2.2.2.2.2.2.2.2.1 + 1), ())))
 (fun val => some (Sum.inr (Sum.inr (val.1, val.2.1, ())))) val)
 val
 else none
 else some (Sum.inr (Sum.inl (x2, x5, x6, ())))
theorem h119_l0 (f119_c6 : HS f119_c6_ins → Option (OTy f119_c6_outs)) (v : HS f119_l0_ins) : aev Γ (fun f => Ae.lookA f []) 0 (subc (code Tryz.f119) [1, 1, 1, 1, 1, 1, 1, 1, 1, 1, 1, 0, 1, 0, 0]) (.seq .nil (.seq .nil (.seq (.blk (.seq .nil (.seq .nil (.seq (.blk (.cut .nil ⟨f119_c6_ins, f119_c6_outs, f119_c6⟩)) .nil)))) .nil))) (stof f119_l0_ins v) (around 0 f119_l0_ins f119_l0_outs) = F119_l0 f119_c6 v := by kernel_rfl
def C119_l0 (v : Int × Bool × List UInt8 × Int × Int × Bool × Int × List UInt8 × Int × Int × Unit) : Option ((List UInt8 × Bool × Int × Unit) ⊕ (Int × Int × Unit)) := loopN (F119_l0 C119_c6) big v
theorem k119_l0 : FragOk Tryz.prog 0 (fun Q a w => (Code.loop (subc (code Tryz.f119) [1, 1, 1, 1, 1, 1, 1, 1, 1, 1, 1, 0, 1, 0, 0])).wp Tryz.prog Q a w) ⟨f119_l0_ins, f119_l0_outs, C119_l0⟩ :=
 frag_loop (ins := f119_l0_ins) (os := f119_l0_outs) (np := 0) (n := (.seq .nil (.seq .nil (.seq (.blk (.seq .nil (.seq .nil (.seq (.blk (.cut .nil ⟨f119_c6_ins, f119_c6_outs, C119_c6⟩)) .nil)))) .nil)))) (F := F119_l0 C119_c6) hm hΓ (K := (fun f => Ae.lookA f [])) (kok_nil _) (fun _ => big)
 (ann_seq (a := (subc (code Tryz.f119) [1, 1, 1, 1, 1, 1, 1, 1, 1, 1, 1, 0, 1, 0, 0, 0])) (b := (subc (code Tryz.f119) [1, 1, 1, 1, 1, 1, 1, 1, 1, 1, 1, 0, 1, 0, 0, 1])) (by kernel_rfl) (ann_nil _) (ann_seq (a := (subc (code Tryz.f119) [1, 1, 1, 1, 1, 1, 1, 1, 1, 1, 1, 0, 1, 0, 0, 1, 0])) (b := (subc (code Tryz.f119) [1, 1, 1, 1, 1, 1, 1, 1, 1, 1, 1, 0, 1, 0, 0, 1, 1])) (by kernel_rfl) (ann_nil _) (ann_seq (a := (subc (code Tryz.f119) [1, 1, 1, 1, 1, 1, 1, 1, 1, 1, 1, 0, 1, 0, 0, 1, 1, 0])) (b := (subc (code Tryz.f119) [1, 1, 1, 1, 1, 1, 1, 1, 1, 1, 1, 0, 1, 0, 0, 1, 1, 1])) (by kernel_rfl) (ann_blk (x := (subc (code Tryz.f119) [1, 1, 1, 1, 1, 1, 1, 1, 1, 1, 1, 0, 1, 0, 0, 1, 1, 0, 0])) (by kernel_rfl) (ann_seq (a := (subc (code Tryz.f119) [1, 1, 1, 1, 1, 1, 1, 1, 1, 1, 1, 0, 1, 0, 0, 1, 1, 0, 0, 0])) (b := (subc (code Tryz.f119) [1, 1, 1, 1, 1, 1, 1, 1, 1, 1, 1, 0, 1, 0, 0, 1, 1, 0, 0, 1])) (by kernel_rfl) (ann_nil _) (ann_seq (a := (subc (code Tryz.f119) [1, 1, 1, 1, 1, 1, 1, 1, 1, 1, 1, 0, 1, 0, 0, 1, 1, 0, 0, 1, 0])) (b := (subc (code Tryz.f119) [1, 1, 1, 1, 1, 1, 1, 1, 1, 1, 1, 0, 1, 0, 0, 1, 1, 0, 0, 1, 1])) (by kernel_rfl) (ann_nil _) (ann_seq (a := (subc (code Tryz.f119) [1, 1, 1, 1, 1, 1, 1, 1, 1, 1, 1, 0, 1, 0, 0, 1, 1, 0, 0, 1, 1, 0])) (b := (subc (code Tryz.f119) [1, 1, 1, 1, 1, 1, 1, 1, 1, 1, 1, 0, 1, 0, 0, 1, 1, 0, 0, 1, 1, 1])) (by kernel_rfl) (ann_blk (x := (subc (code Tryz.f119) [1, 1, 1, 1, 1, 1, 1, 1, 1, 1, 1, 0, 1, 0, 0, 1, 1, 0, 0, 1, 1, 0, 0])) (by kernel_rfl) (ann_cut (a := (subc (code Tryz.f119) [1, 1, 1, 1, 1, 1, 1, 1, 1, 1, 1, 0, 1, 0, 0, 1, 1, 0, 0, 1, 1, 0, 0, 0])) (b := (subc (code Tryz.f119) [1, 1, 1, 1, 1, 1, 1, 1, 1, 1, 1, 0, 1, 0, 0, 1, 1, 0, 0, 1, 1, 0, 0, 1])) (by kernel_rfl) (ann_nil _) k119_c6)) (ann_nil _))))) (ann_nil _)))) (fun v => h119_l0 C119_c6 v)
def F119_c7 (f151 : List UInt8 × Unit → Option (Bool × Unit)) (f119_l0 : Int × Bool × List UInt8 × Int × Int × Bool × Int × List UInt8 × Int × Int × Unit → Option ((List UInt8 × Bool × Int × Unit) ⊕ (Int × Int × Unit))) : List UInt8 × Int × Int × Bool × List UInt8 × Int × Unit → Option ((Int × Int × Unit) ⊕ (Int × Unit)) := fun (x0, x1, x2, x3, x4, x5, _) =>
 bif decide (0 ≤ IntKind.u64.wrap x2) then
 bif decide (x0.length ≤ 9223372036854775807) then
 (f119_l0
 (x1, x3, x4, x5,
 IntKind.u64.wrap (IntKind.u64.wrap (1 * 2 ^ min (IntKind.u64.wrap x2).toNat IntKind.u64.bits) - 1), false,
 0, x0, (↑x0.length : Int), 0, ())).bind
 fun val =>
 Sum.elim
 (fun val =>
 bif val.2.1 then
 (f151 (val.1, ())).bind fun val_1 =>
 bif !val_1.1 then some (Sum.inl (0, 2, ())) else some (Sum.inr (val.2.2.1, ()))
 else some (Sum.inr (val.2.2.1, ())))
 (fun val => some (Sum.inl (val.1, val.2.1, ()))) val
 else none
 else none
theorem h119_c7 (f151 : HS f151_ins → Option (OTy f151_outs)) (f119_l0 : HS f119_l0_ins → Option (OTy f119_l0_outs)) (v : HS f119_c7_ins) : aev Γ (fun f => Ae.lookA f [(151, ⟨f151_ins, f151_outs, f151⟩)]) 0 (subc (code Tryz.f119) [1, 1, 1, 1, 1, 1, 1, 1]) (.seq .nil (.seq .nil (.seq .nil (.seq (.seq .nil (.blk (.loop ⟨f119_l0_ins, f119_l0_outs, f119_l0⟩))) .nil)))) (stof f119_c7_ins v) (oout 0 f119_c7_outs) = F119_c7 f151 f119_l0 v := by kernel_rfl
def C119_c7 (v : List UInt8 × Int × Int × Bool × List UInt8 × Int × Unit) : Option ((Int × Int × Unit) ⊕ (Int × Unit)) := F119_c7 C151 C119_l0 v
theorem k119_c7 : FragOk Tryz.prog 0 (fun Q a w => ((subc (code Tryz.f119) [1, 1, 1, 1, 1, 1, 1, 1])).wp Tryz.prog Q a w) ⟨f119_c7_ins, f119_c7_outs, C119_c7⟩ :=
 frag_code (ins := f119_c7_ins) (os := f119_c7_outs) (np := 0) (n := (.seq .nil (.seq .nil (.seq .nil (.seq (.seq .nil (.blk (.loop ⟨f119_l0_ins, f119_l0_outs, C119_l0⟩))) .nil))))) (F := C119_c7) hm hΓ (K := (fun f => Ae.lookA f [(151, ⟨f151_ins, f151_outs, C151⟩)])) (kok_cons ok151 (kok_nil _))
 (ann_seq (a := (subc (code Tryz.f119) [1, 1, 1, 1, 1, 1, 1, 1, 0])) (b := (subc (code Tryz.f119) [1, 1, 1, 1, 1, 1, 1, 1, 1])) (by kernel_rfl) (ann_nil _) (ann_seq (a := (subc (code Tryz.f119) [1, 1, 1, 1, 1, 1, 1, 1, 1, 0])) (b := (subc (code Tryz.f119) [1, 1, 1, 1, 1, 1, 1, 1, 1, 1])) (by kernel_rfl) (ann_nil _) (ann_seq (a := (subc (code Tryz.f119) [1, 1, 1, 1, 1, 1, 1, 1, 1, 1, 0])) (b := (subc (code Tryz.f119) [1, 1, 1, 1, 1, 1, 1, 1, 1, 1, 1])) (by kernel_rfl) (ann_nil _) (ann_seq (a := (subc (code Tryz.f119) [1, 1, 1, 1, 1, 1, 1, 1, 1, 1, 1, 0])) (b := (subc (code Tryz.f119) [1, 1, 1, 1, 1, 1, 1, 1, 1, 1, 1, 1])) (by kernel_rfl) (ann_seq (a := (subc (code Tryz.f119) [1, 1, 1, 1, 1, 1, 1, 1, 1, 1, 1, 0, 0])) (b := (subc (code Tryz.f119) [1, 1, 1, 1, 1, 1, 1, 1, 1, 1, 1, 0, 1])) (by kernel_rfl) (ann_nil _) (ann_blk (x := (subc (code Tryz.f119) [1, 1, 1, 1, 1, 1, 1, 1, 1, 1, 1, 0, 1, 0])) (by kernel_rfl) (ann_loop (x := (subc (code Tryz.f119) [1, 1, 1, 1, 1, 1, 1, 1, 1, 1, 1, 0, 1, 0, 0])) (by kernel_rfl) k119_l0))) (ann_nil _))))) (fun v => h119_c7 C151 C119_l0 v)
def F119_c8 (f119_c7 : List UInt8 × Int × Int × Bool × List UInt8 × Int × Unit → Option ((Int × Int × Unit) ⊕ (Int × Unit))) : List UInt8 × Int × Int × Bool × List UInt8 × Unit → Option ((Int × Int × Unit) ⊕ (Int × Unit)) := fun (x0, x1, x2, x3, x4, _) =>
 bif x1 == 10 then
 (f119_c7 (x0, x1, x2, x3, x4, 1844674407370955162, ())).bind fun val =>
 Sum.elim (fun val => some (Sum.inl (val.1, val.2.1, ())))
 (fun val => some (Sum.inr (val.1, ()))) val
 else
 bif x1 == 16 then
 (f119_c7 (x0, x1, x2, x3, x4, 1152921504606846976, ())).bind fun val =>
 Sum.elim (fun val => some (Sum.inl (val.1, val.2.1, ())))
 (fun val => some (Sum.inr (val.1, ()))) val
 else
 bif IntKind.u64.wrap x1 != 0 then
 (f119_c7
 (x0, x1, x2, x3, x4,
 IntKind.u64.wrap (IntKind.u64.wrap (Int.tdiv 18446744073709551615 (IntKind.u64.wrap x1)) + 1), ())).bind
 fun val =>
 Sum.elim (fun val => some (Sum.inl (val.1, val.2.1, ())))
 (fun val => some (Sum.inr (val.1, ()))) val
 else none
theorem h119_c8 (f119_c7 : HS f119_c7_ins → Option (OTy f119_c7_outs)) (v : HS f119_c8_ins) : aev Γ (fun f => Ae.lookA f []) 0 (subc (code Tryz.f119) [1, 1, 1, 1, 1, 1]) (.seq .nil (.cut .nil ⟨f119_c7_ins, f119_c7_outs, f119_c7⟩)) (stof f119_c8_ins v) (oout 0 f119_c8_outs) = F119_c8 f119_c7 v := by kernel_rfl
def C119_c8 (v : List UInt8 × Int × Int × Bool × List UInt8 × Unit) : Option ((Int × Int × Unit) ⊕ (Int × Unit)) := F119_c8 C119_c7 v
theorem k119_c8 : FragOk Tryz.prog 0 (fun Q a w => ((subc (code Tryz.f119) [1, 1, 1, 1, 1, 1])).wp Tryz.prog Q a w) ⟨f119_c8_ins, f119_c8_outs, C119_c8⟩ :=
 frag_code (ins := f119_c8_ins) (os := f119_c8_outs) (np := 0) (n := (.seq .nil (.cut .nil ⟨f119_c7_ins, f119_c7_outs, C119_c7⟩))) (F := C119_c8) hm hΓ (K := (fun f => Ae.lookA f [])) (kok_nil _)
 (ann_seq (a := (subc (code Tryz.f119) [1, 1, 1, 1, 1, 1, 0])) (b := (subc (code Tryz.f119) [1, 1, 1, 1, 1, 1, 1])) (by kernel_rfl) (ann_nil _) (ann_cut (a := (subc (code Tryz.f119) [1, 1, 1, 1, 1, 1, 1, 0])) (b := (subc (code Tryz.f119) [1, 1, 1, 1, 1, 1, 1, 1])) (by kernel_rfl) (ann_nil _) k119_c7)) (fun v => h119_c8 C119_c7 v)
def F119 (f119_c3 : List UInt8 × Int × Int × Bool × List UInt8 × Bool × Unit → Option ((List UInt8 × Int × Int × Bool × List UInt8 × Unit) ⊕ (Int × Int × Unit))) (f119_c8 : List UInt8 × Int × Int × Bool × List UInt8 × Unit → Option ((Int × Int × Unit) ⊕ (Int × Unit))) : List UInt8 × Int × Int × Unit → Option ((Int × Int × Unit) ⊕ (Int × Unit)) := fun (x0, x1, x2, _) =>
 bif x0 == [] then some (Sum.inl (0, 2, ()))
 else
 bif decide (2 ≤ x1) then
 (f119_c3 (x0, x1, x2, x1 == 0, x0, decide (x1 ≤ 36), ())).bind fun val =>
 Sum.elim
 (fun val =>
 bif val.2.2.1 == 0 then
 (f119_c8 (val.1, val.2.1, 64, val.2.2.2.1, val.2.2.2.2.1, ())).bind fun val =>
 Sum.elim (fun val => some (Sum.inl (val.1, val.2.1, ())))
 (fun val => some (Sum.inr (val.1, ()))) val
 else
 bif decide (val.2.2.1 < 0) then some (Sum.inl (0, 4, ()))
 else
 bif decide (val.2.2.1 > 64) then some (Sum.inl (0, 4, ()))
 else
 (f119_c8 (val.1, val.2.1, val.2.2.1, val.2.2.2.1, val.2.2.2.2.1, ())).bind
 fun val =>
 Sum.elim (fun val => some (Sum.inl (val.1, val.2.1, ())))
 (fun val => some (Sum.inr (val.1, ()))) val)
 (fun val => some (Sum.inl (val.1, val.2.1, ()))) val
 else
 (f119_c3 (x0, x1, x2, x1 == 0, x0, false, ())).bind fun val =>
 Sum.elim
 (fun val =>
 bif val.2.2.1 == 0 then
 (f119_c8 (val.1, val.2.1, 64, val.2.2.2.1, val.2.2.2.2.1, ())).bind fun val =>
 Sum.elim (fun val => some (Sum.inl (val.1, val.2.1, ())))
 (fun val => some (Sum.inr (val.1, ()))) val
 else
 bif decide (val.2.2.1 < 0) then some (Sum.inl (0, 4, ()))
 else
 bif decide (val.2.2.1 > 64) then some (Sum.inl (0, 4, ()))
 else
 (f119_c8 (val.1, val.2.1, val.2.2.1, val.2.2.2.1, val.2.2.2.2.1, ())).bind
 fun val =>
 Sum.elim (fun val => some (Sum.inl (val.1, val.2.1, ())))
 (fun val => some (Sum.inr (val.1, ()))) val)
 (fun val => some (Sum.inl (val.1, val.2.1, ()))) val
theorem h119 (f119_c3 : HS f119_c3_ins → Option (OTy f119_c3_outs)) (f119_c8 : HS f119_c8_ins → Option (OTy f119_c8_outs)) (v : HS f119_ins) : afun Γ (fun f => Ae.lookA f []) 0 Tryz.f119.ntmps Tryz.f119.results.toList (code Tryz.f119) (.seq .nil (.seq .nil (.seq .nil (.seq .nil (.seq (.blk (.cut .nil ⟨f119_c3_ins, f119_c3_outs, f119_c3⟩)) (.cut .nil ⟨f119_c8_ins, f119_c8_outs, f119_c8⟩)))))) (em id f119_ins v).1 (em id f119_ins v).2 (ofin 0 f119_outs) = F119 f119_c3 f119_c8 v := by kernel_rfl
def C119 (v : List UInt8 × Int × Int × Unit) : Option ((Int × Int × Unit) ⊕ (Int × Unit)) := F119 C119_c3 C119_c8 v
theorem ok119 : FnOk Tryz.prog 119 ⟨f119_ins, f119_outs, C119⟩ :=
 fn_ok (np := 0) (n := (.seq .nil (.seq .nil (.seq .nil (.seq .nil (.seq (.blk (.cut .nil ⟨f119_c3_ins, f119_c3_outs, C119_c3⟩)) (.cut .nil ⟨f119_c8_ins, f119_c8_outs, C119_c8⟩))))))) hm hΓ (K := (fun f => Ae.lookA f [])) (kok_nil _) Tryz.func119 (c := code Tryz.f119) (by kernel_rfl) (name_ne (by kernel_rfl))
 (ann_seq (a := (subc (code Tryz.f119) [0])) (b := (subc (code Tryz.f119) [1])) (by kernel_rfl) (ann_nil _) (ann_seq (a := (subc (code Tryz.f119) [1, 0])) (b := (subc (code Tryz.f119) [1, 1])) (by kernel_rfl) (ann_nil _) (ann_seq (a := (subc (code Tryz.f119) [1, 1, 0])) (b := (subc (code Tryz.f119) [1, 1, 1])) (by kernel_rfl) (ann_nil _) (ann_seq (a := (subc (code Tryz.f119) [1, 1, 1, 0])) (b := (subc (code Tryz.f119) [1, 1, 1, 1])) (by kernel_rfl) (ann_nil _) (ann_seq (a := (subc (code Tryz.f119) [1, 1, 1, 1, 0])) (b := (subc (code Tryz.f119) [1, 1, 1, 1, 1])) (by kernel_rfl) (ann_blk (x := (subc (code Tryz.f119) [1, 1, 1, 1, 0, 0])) (by kernel_rfl) (ann_cut (a := (subc (code Tryz.f119) [1, 1, 1, 1, 0, 0, 0])) (b := (subc (code Tryz.f119) [1, 1, 1, 1, 0, 0, 1])) (by kernel_rfl) (ann_nil _) k119_c3)) (ann_cut (a := (subc (code Tryz.f119) [1, 1, 1, 1, 1, 0])) (b := (subc (code Tryz.f119) [1, 1, 1, 1, 1, 1])) (by kernel_rfl) (ann_nil _) k119_c8)))))) (fun v => Nat.le_of_ble_eq_true (by kernel_rfl)) (fun v => h119 C119_c3 C119_c8 v)
def F90_c0  : Int × Bool × Int × Unit → Option ((Int × Int × Unit) ⊕ (Int × Unit)) := fun (x0, x1, x2, _) =>
 bif decide (0 ≤ IntKind.u64.wrap (IntKind.i64.wrap (x0 - 1))) then
 bif !x1 then
 bif
 decide
 (x2 ≥
 IntKind.u64.wrap (1 * 2 ^ min (IntKind.u64.wrap (IntKind.i64.wrap (x0 - 1))).toNat IntKind.u64.bits)) then
 some
 (Sum.inl
 (IntKind.i64.wrap
 (IntKind.u64.wrap
 (IntKind.u64.wrap (1 * 2 ^ min (IntKind.u64.wrap (IntKind.i64.wrap (x0 - 1))).toNat IntKind.u64.bits) -
 1)),
 1, ()))
 else
 bif x1 then
 bif
 decide
 (x2 >
 IntKind.u64.wrap
 (1 * 2 ^ min (IntKind.u64.wrap (IntKind.i64.wrap (x0 - 1))).toNat IntKind.u64.bits)) then
 some
 (Sum.inl
 (IntKind.i64.wrap
 (0 -
 IntKind.i64.wrap
 (IntKind.u64.wrap
 (1 * 2 ^ min (IntKind.u64.wrap (IntKind.i64.wrap (x0 - 1))).toNat IntKind.u64.bits))),
 1, ()))
 else
 bif x1 then some (Sum.inr (IntKind.i64.wrap (0 - IntKind.i64.wrap x2), ()))
 else some (Sum.inr (IntKind.i64.wrap x2, ()))
 else
 bif x1 then some (Sum.inr (IntKind.i64.wrap (0 - IntKind.i64.wrap x2), ()))
 else some (Sum.inr (IntKind.i64.wrap x2, ()))
 else
 bif x1 then
 bif
 decide
 (x2 >
 IntKind.u64.wrap (1 * 2 ^ min (IntKind.u64.wrap (IntKind.i64.wrap (x0 - 1))).toNat IntKind.u64.bits)) then
 some
 (Sum.inl
 (IntKind.i64.wrap
 (0 -
 IntKind.i64.wrap
 (IntKind.u64.wrap
 (1 * 2 ^ min (IntKind.u64.wrap (IntKind.i64.wrap (x0 - 1))).toNat IntKind.u64.bits))),
 1, ()))
 else
 bif x1 then some (Sum.inr (IntKind.i64.wrap (0 - IntKind.i64.wrap x2), ()))
 else some (Sum.inr (IntKind.i64.wrap x2, ()))
 else
 bif x1 then some (Sum.inr (IntKind.i64.wrap (0 - IntKind.i64.wrap x2), ()))
 else some (Sum.inr (IntKind.i64.wrap x2, ()))
 else none
theorem h90_c0  (v : HS f90_c0_ins) : aev Γ (fun f => Ae.lookA f []) 0 (subc (code Tryz.f90) [1, 1, 1, 1, 1, 1, 1, 1]) .nil (stof f90_c0_ins v) (oout 0 f90_c0_outs) = F90_c0 v := by kernel_rfl
def C90_c0 (v : Int × Bool × Int × Unit) : Option ((Int × Int × Unit) ⊕ (Int × Unit)) := F90_c0 v
theorem k90_c0 : FragOk Tryz.prog 0 (fun Q a w => ((subc (code Tryz.f90) [1, 1, 1, 1, 1, 1, 1, 1])).wp Tryz.prog Q a w) ⟨f90_c0_ins, f90_c0_outs, C90_c0⟩ :=
 frag_code (ins := f90_c0_ins) (os := f90_c0_outs) (np := 0) (n := .nil) (F := C90_c0) hm hΓ (K := (fun f => Ae.lookA f [])) (kok_nil _)
 (ann_nil _) (fun v => h90_c0 v)
def F90_c1 (f119 : List UInt8 × Int × Int × Unit → Option ((Int × Int × Unit) ⊕ (Int × Unit))) (f90_c0 : Int × Bool × Int × Unit → Option ((Int × Int × Unit) ⊕ (Int × Unit))) : List UInt8 × Int × Int × Bool × Unit → Option ((Int × Int × Unit) ⊕ (Int × Unit)) := fun (x0, x1, x2, x3, _) =>
 (f119 (x0, x1, x2, ())).bind fun val =>
 Sum.elim
 (fun val =>
 bif !val.2.1 == 1 then some (Sum.inl (0, val.2.1, ()))
 else
 bif x2 == 0 then
 (f90_c0 (64, x3, val.1, ())).bind fun val =>
 Sum.elim (fun val => some (Sum.inl (val.1, val.2.1, ())))
 (fun val => some (Sum.inr (val.1, ()))) val
 else
 (f90_c0 (x2, x3, val.1, ())).bind fun val =>
 Sum.elim (fun val => some (Sum.inl (val.1, val.2.1, ())))
 (fun val => some (Sum.inr (val.1, ()))) val)
 (fun val =>
 bif x2 == 0 then
 (f90_c0 (64, x3, val.1, ())).bind fun val =>
 Sum.elim (fun val => some (Sum.inl (val.1, val.2.1, ())))
 (fun val => some (Sum.inr (val.1, ()))) val
 else
 (f90_c0 (x2, x3, val.1, ())).bind fun val =>
 Sum.elim (fun val => some (Sum.inl (val.1, val.2.1, ())))
 (fun val => some (Sum.inr (val.1, ()))) val)
 val
theorem h90_c1 (f119 : HS f119_ins → Option (OTy f119_outs)) (f90_c0 : HS f90_c0_ins → Option (OTy f90_c0_outs)) (v : HS f90_c1_ins) : aev Γ (fun f => Ae.lookA f [(119, ⟨f119_ins, f119_outs, f119⟩)]) 0 (subc (code Tryz.f90) [1, 1, 1, 1]) (.seq .nil (.seq .nil (.seq .nil (.cut .nil ⟨f90_c0_ins, f90_c0_outs, f90_c0⟩)))) (stof f90_c1_ins v) (oout 0 f90_c1_outs) = F90_c1 f119 f90_c0 v := by kernel_rfl
def C90_c1 (v : List UInt8 × Int × Int × Bool × Unit) : Option ((Int × Int × Unit) ⊕ (Int × Unit)) := F90_c1 C119 C90_c0 v
theorem k90_c1 : FragOk Tryz.prog 0 (fun Q a w => ((subc (code Tryz.f90) [1, 1, 1, 1])).wp Tryz.prog Q a w) ⟨f90_c1_ins, f90_c1_outs, C90_c1⟩ :=
 frag_code (ins := f90_c1_ins) (os := f90_c1_outs) (np := 0) (n := (.seq .nil (.seq .nil (.seq .nil (.cut .nil ⟨f90_c0_ins, f90_c0_outs, C90_c0⟩))))) (F := C90_c1) hm hΓ (K := (fun f => Ae.lookA f [(119, ⟨f119_ins, f119_outs, C119⟩)])) (kok_cons ok119 (kok_nil _))
 (ann_seq (a := (subc (code Tryz.f90) [1, 1, 1, 1, 0])) (b := (subc (code Tryz.f90) [1, 1, 1, 1, 1])) (by kernel_rfl) (ann_nil _) (ann_seq (a := (subc (code Tryz.f90) [1, 1, 1, 1, 1, 0])) (b := (subc (code Tryz.f90) [1, 1, 1, 1, 1, 1])) (by kernel_rfl) (ann_nil _) (ann_seq (a := (subc (code Tryz.f90) [1, 1, 1, 1, 1, 1, 0])) (b := (subc (code Tryz.f90) [1, 1, 1, 1, 1, 1, 1])) (by kernel_rfl) (ann_nil _) (ann_cut (a := (subc (code Tryz.f90) [1, 1, 1, 1, 1, 1, 1, 0])) (b := (subc (code Tryz.f90) [1, 1, 1, 1, 1, 1, 1, 1])) (by kernel_rfl) (ann_nil _) k90_c0)))) (fun v => h90_c1 C119 C90_c0 v)
def F90 (f90_c1 : List UInt8 × Int × Int × Bool × Unit → Option ((Int × Int × Unit) ⊕ (Int × Unit))) : List UInt8 × Int × Int × Unit → Option ((Int × Int × Unit) ⊕ (Int × Unit)) := fun (x0, x1, x2, _) =>
 bif x0 == [] then some (Sum.inl (0, 2, ()))
 else
 bif decide (0 < (↑x0.length : Int)) then
 bif (↑(x0.getD 0 0).toNat : Int) == 43 then
 bif decide (1 ≤ (↑x0.length : Int)) then
 (f90_c1 (List.drop 1 x0, x1, x2, false, ())).bind fun val =>
 Sum.elim (fun val => some (Sum.inl (val.1, val.2.1, ())))
 (fun val => some (Sum.inr (val.1, ()))) val
 else none
 else
 bif (↑(x0.getD 0 0).toNat : Int) == 45 then
 bif decide (1 ≤ (↑x0.length : Int)) then
 (f90_c1 (List.drop 1 x0, x1, x2, true, ())).bind fun val =>
 Sum.elim (fun val => some (Sum.inl (val.1, val.2.1, ())))
 (fun val => some (Sum.inr (val.1, ()))) val
 else none
 else
 (f90_c1 (x0, x1, x2, false, ())).bind fun val =>
 Sum.elim (fun val => some (Sum.inl (val.1, val.2.1, ())))
 (fun val => some (Sum.inr (val.1, ()))) val
 else none
theorem h90 (f90_c1 : HS f90_c1_ins → Option (OTy f90_c1_outs)) (v : HS f90_ins) : afun Γ (fun f => Ae.lookA f []) 0 Tryz.f90.ntmps Tryz.f90.results.toList (code Tryz.f90) (.seq .nil (.seq .nil (.seq .nil (.cut .nil ⟨f90_c1_ins, f90_c1_outs, f90_c1⟩)))) (em id f90_ins v).1 (em id f90_ins v).2 (ofin 0 f90_outs) = F90 f90_c1 v := by kernel_rfl
def C90 (v : List UInt8 × Int × Int × Unit) : Option ((Int × Int × Unit) ⊕ (Int × Unit)) := F90 C90_c1 v
theorem ok90 : FnOk Tryz.prog 90 ⟨f90_ins, f90_outs, C90⟩ :=
 fn_ok (np := 0) (n := (.seq .nil (.seq .nil (.seq .nil (.cut .nil ⟨f90_c1_ins, f90_c1_outs, C90_c1⟩))))) hm hΓ (K := (fun f => Ae.lookA f [])) (kok_nil _) Tryz.func90 (c := code Tryz.f90) (by kernel_rfl) (name_ne (by kernel_rfl))
 (ann_seq (a := (subc (code Tryz.f90) [0])) (b := (subc (code Tryz.f90) [1])) (by kernel_rfl) (ann_nil _) (ann_seq (a := (subc (code Tryz.f90) [1, 0])) (b := (subc (code Tryz.f90) [1, 1])) (by kernel_rfl) (ann_nil _) (ann_seq (a := (subc (code Tryz.f90) [1, 1, 0])) (b := (subc (code Tryz.f90) [1, 1, 1])) (by kernel_rfl) (ann_nil _) (ann_cut (a := (subc (code Tryz.f90) [1, 1, 1, 0])) (b := (subc (code Tryz.f90) [1, 1, 1, 1])) (by kernel_rfl) (ann_nil _) k90_c1)))) (fun v => Nat.le_of_ble_eq_true (by kernel_rfl)) (fun v => h90 C90_c1 v)
end Go.Proofs.YtmfcepdbpdihgaaGreatDoor.W
set_option maxRecDepth 100000
set_option linter.unusedVariables false
namespace Go.Proofs.YtmfcepdbpdihgaaGreatDoor.W
open Go Go.Ae
def F63 (f90 : List UInt8 × Int × Int × Unit → Option ((Int × Int × Unit) ⊕ (Int × Unit))) (f91 : List UInt8 × List UInt8 × Int × Int × Int × Unit → Option (Unit)) : List UInt8 × Int × Int × Unit → Option ((Int × Unit) ⊕ (Int × Unit)) := fun (x0, x1, x2, _) =>
 (f90 (x0, x1, x2, ())).bind fun val =>
 Sum.elim
 (fun val =>
 (f91 ([80, 97, 114, 115, 101, 73, 110, 116], x0, x1, x2, val.2.1, ())).bind fun val_1 =>
 some (Sum.inl (val.1, ())))
 (fun val => some (Sum.inr (val.1, ()))) val
theorem h63 (f90 : HS f90_ins → Option (OTy f90_outs)) (f91 : HS f91_ins → Option (OTy f91_outs)) (v : HS f63_ins) : afun Γ (fun f => Ae.lookA f [(90, ⟨f90_ins, f90_outs, f90⟩), (91, ⟨f91_ins, f91_outs, f91⟩)]) 0 Tryz.f63.ntmps Tryz.f63.results.toList (code Tryz.f63) .nil (em id f63_ins v).1 (em id f63_ins v).2 (ofin 0 f63_outs) = F63 f90 f91 v := by kernel_rfl
def C63 (v : List UInt8 × Int × Int × Unit) : Option ((Int × Unit) ⊕ (Int × Unit)) := F63 C90 C91 v
theorem ok63 : FnOk Tryz.prog 63 ⟨f63_ins, f63_outs, C63⟩ :=
 fn_ok (np := 0) (n := .nil) hm hΓ (K := (fun f => Ae.lookA f [(90, ⟨f90_ins, f90_outs, C90⟩), (91, ⟨f91_ins, f91_outs, C91⟩)])) (kok_cons ok90 (kok_cons ok91 (kok_nil _))) Tryz.func63 (c := code Tryz.f63) (by kernel_rfl) (name_ne (by kernel_rfl))
 (ann_nil _) (fun v => Nat.le_of_ble_eq_true (by kernel_rfl)) (fun v => h63 C90 C91 v)
def F130  : Int × Unit → Option (List UInt8 × Unit) := fun (x0, _) =>
 bif decide (x0 < 10) then
 bif
 decide (0 ≤ IntKind.i64.wrap (x0 + 1)) &&
 decide
 (IntKind.i64.wrap (x0 + 1) ≤
 (↑[48, 49, 50, 51, 52, 53, 54, 55, 56, 57, 97, 98, 99, 100, 101, 102, 103, 104, 105, 106, 107, 108, 109,
 110, 111, 112, 113, 114, 115, 116, 117, 118, 119, 120, 121, 122].length :
 Int)) then
 bif decide (0 ≤ x0) && decide (x0 ≤ IntKind.i64.wrap (x0 + 1)) then
 some
 (List.drop x0.toNat
 (List.take (IntKind.i64.wrap (x0 + 1)).toNat
 [48, 49, 50, 51, 52, 53, 54, 55, 56, 57, 97, 98, 99, 100, 101, 102, 103, 104, 105, 106, 107, 108, 109,
 110, 111, 112, 113, 114, 115, 116, 117, 118, 119, 120, 121, 122]),
 ())
 else none
 else none
 else
 bif
 decide (0 ≤ IntKind.i64.wrap (IntKind.i64.wrap (x0 * 2) + 2)) &&
 decide
 (IntKind.i64.wrap (IntKind.i64.wrap (x0 * 2) + 2) ≤
 (↑((([48, 48, 48, 49, 48, 50, 48, 51, 48, 52, 48, 53, 48, 54, 48, 55, 48, 56, 48, 57, 49, 48, 49, 49, 49, 50,
 49, 51, 49, 52, 49, 53, 49, 54, 49, 55, 49, 56, 49, 57, 50, 48, 50, 49, 50, 50, 50, 51,
 50, 52] : List UInt8).append
 (([50, 53, 50, 54, 50, 55, 50, 56, 50, 57, 51, 48, 51, 49, 51, 50, 51, 51, 51, 52, 51, 53, 51,
 54, 51, 55, 51, 56, 51, 57, 52, 48, 52, 49, 52, 50, 52, 51, 52, 52, 52, 53, 52, 54, 52,
 55, 52, 56, 52, 57] : List UInt8) : List UInt8)).append
 ((([53, 48, 53, 49, 53, 50, 53, 51, 53, 52, 53, 53, 53, 54, 53, 55, 53, 56, 53, 57, 54, 48, 54,
 49, 54, 50, 54, 51, 54, 52, 54, 53, 54, 54, 54, 55, 54, 56, 54, 57, 55, 48, 55, 49, 55,
 50, 55, 51, 55, 52] : List UInt8) : List UInt8).append
 ([55, 53, 55, 54, 55, 55, 55, 56, 55, 57, 56, 48, 56, 49, 56, 50, 56, 51, 56, 52, 56, 53, 56,
 54, 56, 55, 56, 56, 56, 57, 57, 48, 57, 49, 57, 50, 57, 51, 57, 52, 57, 53, 57, 54, 57, 55,
 57, 56, 57, 57] : List UInt8))).toArray.toList.length :
 Int)) then
 bif
 decide (0 ≤ IntKind.i64.wrap (x0 * 2)) &&
 decide (IntKind.i64.wrap (x0 * 2) ≤ IntKind.i64.wrap (IntKind.i64.wrap (x0 * 2) + 2)) then
 some
 (List.drop (IntKind.i64.wrap (x0 * 2)).toNat
 (List.take (IntKind.i64.wrap (IntKind.i64.wrap (x0 * 2) + 2)).toNat
 ((([48, 48, 48, 49, 48, 50, 48, 51, 48, 52, 48, 53, 48, 54, 48, 55, 48, 56, 48, 57, 49, 48, 49, 49, 49, 50,
 49, 51, 49, 52, 49, 53, 49, 54, 49, 55, 49, 56, 49, 57, 50, 48, 50, 49, 50, 50, 50, 51, 50,
 52] : List UInt8).append
 (([50, 53, 50, 54, 50, 55, 50, 56, 50, 57, 51, 48, 51, 49, 51, 50, 51, 51, 51, 52, 51, 53, 51, 54,
 51, 55, 51, 56, 51, 57, 52, 48, 52, 49, 52, 50, 52, 51, 52, 52, 52, 53, 52, 54, 52, 55, 52,
 56, 52, 57] : List UInt8) : List UInt8)).append
 ((([53, 48, 53, 49, 53, 50, 53, 51, 53, 52, 53, 53, 53, 54, 53, 55, 53, 56, 53, 57, 54, 48, 54, 49,
 54, 50, 54, 51, 54, 52, 54, 53, 54, 54, 54, 55, 54, 56, 54, 57, 55, 48, 55, 49, 55, 50, 55,
 51, 55, 52] : List UInt8) : List UInt8).append
 ([55, 53, 55, 54, 55, 55, 55, 56, 55, 57, 56, 48, 56, 49, 56, 50, 56, 51, 56, 52, 56, 53, 56, 54,
 56, 55, 56, 56, 56, 57, 57, 48, 57, 49, 57, 50, 57, 51, 57, 52, 57, 53, 57, 54, 57, 55, 57, 56,
 57, 57] : List UInt8))).toArray.toList),
 ())
 else none
 else none
theorem h130  (v : HS f130_ins) : afun Γ (fun f => Ae.lookA f []) 0 Tryz.f130.ntmps Tryz.f130.results.toList (code Tryz.f130) .nil (em id f130_ins v).1 (em id f130_ins v).2 (ofin 0 f130_outs) = F130 v := by kernel_rfl
def C130 (v : Int × Unit) : Option (List UInt8 × Unit) := F130 v
theorem ok130 : FnOk Tryz.prog 130 ⟨f130_ins, f130_outs, C130⟩ :=
 fn_ok (np := 0) (n := .nil) hm hΓ (K := (fun f => Ae.lookA f [])) (kok_nil _) Tryz.func130 (c := code Tryz.f130) (by kernel_rfl) (name_ne (by kernel_rfl))
 (ann_nil _) (fun v => Nat.le_of_ble_eq_true (by kernel_rfl)) (fun v => h130 v)
def F161  : Int × Unit → Option (Bool × Unit) := fun (x0, _) =>
 some (intBits BinOp.and IntKind.i64 x0 (IntKind.i64.wrap (x0 - 1)) == 0, ())
theorem h161  (v : HS f161_ins) : afun Γ (fun f => Ae.lookA f []) 0 Tryz.f161.ntmps Tryz.f161.results.toList (code Tryz.f161) .nil (em id f161_ins v).1 (em id f161_ins v).2 (ofin 0 f161_outs) = F161 v := by kernel_rfl
def C161 (v : Int × Unit) : Option (Bool × Unit) := F161 v
theorem ok161 : FnOk Tryz.prog 161 ⟨f161_ins, f161_outs, C161⟩ :=
 fn_ok (np := 0) (n := .nil) hm hΓ (K := (fun f => Ae.lookA f [])) (kok_nil _) Tryz.func161 (c := code Tryz.f161) (by kernel_rfl) (name_ne (by kernel_rfl))
 (ann_nil _) (fun v => Nat.le_of_ble_eq_true (by kernel_rfl)) (fun v => h161 v)
def F133_l0  : List UInt8 × Int × Bool × Bool × List UInt8 × Int × Int × Int × Int × List UInt8 × Unit → Option ((List UInt8 × Int × Bool × Bool × List UInt8 × Int × Int × Int × Int × List UInt8 × Unit) ⊕ (List UInt8 × Int × Bool × Bool × List UInt8 × Int × List UInt8 × Unit)) := fun (x0, x1, x2, x3, x4, x5, x6, x7, x8, x9, _) =>
 bif decide (x1 ≥ x7) then
 bif
 decide (0 ≤ intBits BinOp.and IntKind.u64 x1 x8) &&
 decide
 (intBits BinOp.and IntKind.u64 x1 x8 <
 (↑[48, 49, 50, 51, 52, 53, 54, 55, 56, 57, 97, 98, 99, 100, 101, 102, 103, 104, 105, 106, 107, 108, 109,
 110, 111, 112, 113, 114, 115, 116, 117, 118, 119, 120, 121, 122].length :
 Int)) then
 bif decide (x9.length = 65) then
 bif decide (0 ≤ IntKind.i64.wrap (x5 - 1)) && decide (IntKind.i64.wrap (x5 - 1) < (↑65 : Int)) then
 bif decide ((IntKind.i64.wrap (x5 - 1)).toNat < x9.length) then
 bif decide (0 ≤ x6) then
 some
 (Sum.inl
 (x0, x1.fdiv (2 ^ min x6.toNat IntKind.u64.bits), x2, x3, x4, IntKind.i64.wrap (x5 - 1), x6, x7, x8,
 x9.set (IntKind.i64.wrap (x5 - 1)).toNat
 (UInt8.ofNat
 (↑(([48, 49, 50, 51, 52, 53, 54, 55, 56, 57, 97, 98, 99, 100, 101, 102, 103, 104, 105, 106, 107,
 108, 109, 110, 111, 112, 113, 114, 115, 116, 117, 118, 119, 120, 121,
 122] : List UInt8).getD
 (intBits BinOp.and IntKind.u64 x1 x8).toNat 0).toNat :
 Int).toNat),
 ()))
 else none
 else none
 else none
 else none
 else none
 else some (Sum.inr (x0, x1, x2, x3, x4, x5, x9, ()))
theorem h133_l0  (v : HS f133_l0_ins) : aev Γ (fun f => Ae.lookA f []) 0 (subc (code Tryz.f133) [1, 1, 1, 1, 1, 0, 1, 0, 1, 1, 1, 0, 0, 0]) .nil (stof f133_l0_ins v) (around 0 f133_l0_ins f133_l0_outs) = F133_l0 v := by kernel_rfl
def C133_l0 (v : List UInt8 × Int × Bool × Bool × List UInt8 × Int × Int × Int × Int × List UInt8 × Unit) : Option (List UInt8 × Int × Bool × Bool × List UInt8 × Int × List UInt8 × Unit) := loopN (F133_l0) big v
theorem k133_l0 : FragOk Tryz.prog 0 (fun Q a w => (Code.loop (subc (code Tryz.f133) [1, 1, 1, 1, 1, 0, 1, 0, 1, 1, 1, 0, 0, 0])).wp Tryz.prog Q a w) ⟨f133_l0_ins, f133_l0_outs, C133_l0⟩ :=
 frag_loop (ins := f133_l0_ins) (os := f133_l0_outs) (np := 0) (n := .nil) (F := F133_l0) hm hΓ (K := (fun f => Ae.lookA f [])) (kok_nil _) (fun _ => big)
 (ann_nil _) (fun v => h133_l0 v)
def F133_l1  : List UInt8 × Int × Bool × Bool × List UInt8 × Int × Int × List UInt8 × Unit → Option ((List UInt8 × Int × Bool × Bool × List UInt8 × Int × Int × List UInt8 × Unit) ⊕ (List UInt8 × Int × Bool × Bool × List UInt8 × Int × List UInt8 × Unit)) := fun (x0, x1, x2, x3, x4, x5, x6, x7, _) =>
 bif decide (x1 ≥ x6) then
 bif x6 != 0 then
 bif
 decide (0 ≤ IntKind.u64.wrap (x1 - IntKind.u64.wrap (IntKind.u64.wrap (x1.tdiv x6) * x6))) &&
 decide
 (IntKind.u64.wrap (x1 - IntKind.u64.wrap (IntKind.u64.wrap (x1.tdiv x6) * x6)) <
 (↑[48, 49, 50, 51, 52, 53, 54, 55, 56, 57, 97, 98, 99, 100, 101, 102, 103, 104, 105, 106, 107, 108, 109,
 110, 111, 112, 113, 114, 115, 116, 117, 118, 119, 120, 121, 122].length :
 Int)) then
 bif decide (x7.length = 65) then
 bif decide (0 ≤ IntKind.i64.wrap (x5 - 1)) && decide (IntKind.i64.wrap (x5 - 1) < (↑65 : Int)) then
 bif decide ((IntKind.i64.wrap (x5 - 1)).toNat < x7.length) then
 some
 (Sum.inl
 (x0, IntKind.u64.wrap (x1.tdiv x6), x2, x3, x4, IntKind.i64.wrap (x5 - 1), x6,
 x7.set (IntKind.i64.wrap (x5 - 1)).toNat
 (UInt8.ofNat
 (↑(([48, 49, 50, 51, 52, 53, 54, 55, 56, 57, 97, 98, 99, 100, 101, 102, 103, 104, 105, 106, 107,
 108, 109, 110, 111, 112, 113, 114, 115, 116, 117, 118, 119, 120, 121,
 122] : List UInt8).getD
 (IntKind.u64.wrap (x1 - IntKind.u64.wrap (IntKind.u64.wrap (x1.tdiv x6) * x6))).toNat
 0).toNat :
 Int).toNat),
 ()))
 else none
 else none
 else none
 else none
 else none
 else some (Sum.inr (x0, x1, x2, x3, x4, x5, x7, ()))
theorem h133_l1  (v : HS f133_l1_ins) : aev Γ (fun f => Ae.lookA f []) 0 (subc (code Tryz.f133) [1, 1, 1, 1, 1, 0, 1, 1, 1, 0, 0, 0]) .nil (stof f133_l1_ins v) (around 0 f133_l1_ins f133_l1_outs) = F133_l1 v := by kernel_rfl
def C133_l1 (v : List UInt8 × Int × Bool × Bool × List UInt8 × Int × Int × List UInt8 × Unit) : Option (List UInt8 × Int × Bool × Bool × List UInt8 × Int × List UInt8 × Unit) := loopN (F133_l1) big v
theorem k133_l1 : FragOk Tryz.prog 0 (fun Q a w => (Code.loop (subc (code Tryz.f133) [1, 1, 1, 1, 1, 0, 1, 1, 1, 0, 0, 0])).wp Tryz.prog Q a w) ⟨f133_l1_ins, f133_l1_outs, C133_l1⟩ :=
 frag_loop (ins := f133_l1_ins) (os := f133_l1_outs) (np := 0) (n := .nil) (F := F133_l1) hm hΓ (K := (fun f => Ae.lookA f [])) (kok_nil _) (fun _ => big)
 (ann_nil _) (fun v => h133_l1 v)
def F133_c0  : List UInt8 × Bool × List UInt8 × Int × List UInt8 × Unit → Option (List UInt8 × Unit) := fun (x0, x1, x2, x3, x4, _) =>
 bif x1 then
 bif decide (x4.length = 65) then bif decide (0 ≤ x3) && decide (x3 ≤ (↑x4.length : Int)) then none else none else none
 else
 bif decide (x4.length = 65) then
 bif decide (0 ≤ x3) && decide (x3 ≤ (↑x4.length : Int)) then some (List.drop x3.toNat x4, ()) else none
 else none
theorem h133_c0  (v : HS f133_c0_ins) : aev Γ (fun f => Ae.lookA f []) 0 (subc (code Tryz.f133) [1, 1, 1, 1, 1, 1, 1]) .nil (stof f133_c0_ins v) (oout 0 f133_c0_outs) = F133_c0 v := by kernel_rfl
def C133_c0 (v : List UInt8 × Bool × List UInt8 × Int × List UInt8 × Unit) : Option (List UInt8 × Unit) := F133_c0 v
theorem k133_c0 : FragOk Tryz.prog 0 (fun Q a w => ((subc (code Tryz.f133) [1, 1, 1, 1, 1, 1, 1])).wp Tryz.prog Q a w) ⟨f133_c0_ins, f133_c0_outs, C133_c0⟩ :=
 frag_code (ins := f133_c0_ins) (os := f133_c0_outs) (np := 0) (n := .nil) (F := C133_c0) hm hΓ (K := (fun f => Ae.lookA f [])) (kok_nil _)
 (ann_nil _) (fun v => h133_c0 v)
def F133_c1 (f133_c0 : List UInt8 × Bool × List UInt8 × Int × List UInt8 × Unit → Option (List UInt8 × Unit)) : List UInt8 × Bool × Bool × List UInt8 × Int × List UInt8 × Unit → Option (List UInt8 × Unit) := fun (x0, x1, x2, x3, x4, x5, _) =>
 bif x1 then
 bif decide (x5.length = 65) then
 bif decide (0 ≤ IntKind.i64.wrap (x4 - 1)) && decide (IntKind.i64.wrap (x4 - 1) < (↑65 : Int)) then
 bif decide ((IntKind.i64.wrap (x4 - 1)).toNat < x5.length) then
 (f133_c0
 (x0, x2, x3, IntKind.i64.wrap (x4 - 1),
 x5.set (IntKind.i64.wrap (x4 - 1)).toNat (45), ())).bind
 fun val => some (val.1, ())
 else none
 else none
 else none
 else (f133_c0 (x0, x2, x3, x4, x5, ())).bind fun val => some (val.1, ())
theorem h133_c1 (f133_c0 : HS f133_c0_ins → Option (OTy f133_c0_outs)) (v : HS f133_c1_ins) : aev Γ (fun f => Ae.lookA f []) 0 (subc (code Tryz.f133) [1, 1, 1, 1, 1, 1]) (.cut .nil ⟨f133_c0_ins, f133_c0_outs, f133_c0⟩) (stof f133_c1_ins v) (oout 0 f133_c1_outs) = F133_c1 f133_c0 v := by kernel_rfl
def C133_c1 (v : List UInt8 × Bool × Bool × List UInt8 × Int × List UInt8 × Unit) : Option (List UInt8 × Unit) := F133_c1 C133_c0 v
theorem k133_c1 : FragOk Tryz.prog 0 (fun Q a w => ((subc (code Tryz.f133) [1, 1, 1, 1, 1, 1])).wp Tryz.prog Q a w) ⟨f133_c1_ins, f133_c1_outs, C133_c1⟩ :=
 frag_code (ins := f133_c1_ins) (os := f133_c1_outs) (np := 0) (n := (.cut .nil ⟨f133_c0_ins, f133_c0_outs, C133_c0⟩)) (F := C133_c1) hm hΓ (K := (fun f => Ae.lookA f [])) (kok_nil _)
 (ann_cut (a := (subc (code Tryz.f133) [1, 1, 1, 1, 1, 1, 0])) (b := (subc (code Tryz.f133) [1, 1, 1, 1, 1, 1, 1])) (by kernel_rfl) (ann_nil _) k133_c0) (fun v => h133_c1 C133_c0 v)
def F133_c2 (f161 : Int × Unit → Option (Bool × Unit)) (f162 : Int × Unit → Option (Int × Unit)) (f133_c1 : List UInt8 × Bool × Bool × List UInt8 × Int × List UInt8 × Unit → Option (List UInt8 × Unit)) (f133_l0 : List UInt8 × Int × Bool × Bool × List UInt8 × Int × Int × Int × Int × List UInt8 × Unit → Option (List UInt8 × Int × Bool × Bool × List UInt8 × Int × List UInt8 × Unit)) (f133_l1 : List UInt8 × Int × Bool × Bool × List UInt8 × Int × Int × List UInt8 × Unit → Option (List UInt8 × Int × Bool × Bool × List UInt8 × Int × List UInt8 × Unit)) : List UInt8 × Int × Int × Bool × Bool × List UInt8 × Int × List UInt8 × Unit → Option (List UInt8 × Unit) := fun (x0, x1, x2, x3, x4, x5, x6, x7, _) =>
 (f161 (x2, ())).bind fun val =>
 bif val.1 then
 (f162 (IntKind.u64.wrap x2, ())).bind fun val =>
 (f133_l0
 (x0, x1, x3, x4, x5, x6, IntKind.u64.wrap val.1, IntKind.u64.wrap x2,
 IntKind.u64.wrap (IntKind.u64.wrap x2 - 1), x7, ())).bind
 fun val =>
 bif
 decide (0 ≤ val.2.1) &&
 decide
 (val.2.1 <
 (↑[48, 49, 50, 51, 52, 53, 54, 55, 56, 57, 97, 98, 99, 100, 101, 102, 103, 104, 105, 106, 107, 108,
 109, 110, 111, 112, 113, 114, 115, 116, 117, 118, 119, 120, 121, 122].length :
 Int)) then
 bif decide (List.length val.2.2.2.2.2.2.1 = 65) then
 bif
 decide (0 ≤ IntKind.i64.wrap (val.2.2.2.2.2.1 - 1)) &&
 decide (IntKind.i64.wrap (val.2.2.2.2.2.1 - 1) < (↑65 : Int)) then
 bif
 decide
 ((IntKind.i64.wrap (val.2.2.2.2.2.1 - 1)).toNat <
 List.length val.2.2.2.2.2.2.1) then
 (f133_c1
 (val.1, val.2.2.1, val.2.2.2.1, val.2.2.2.2.1,
 IntKind.i64.wrap (val.2.2.2.2.2.1 - 1),
 List.set val.2.2.2.2.2.2.1
 (IntKind.i64.wrap (val.2.2.2.2.2.1 - 1)).toNat
 (UInt8.ofNat
 (↑(([48, 49, 50, 51, 52, 53, 54, 55, 56, 57, 97, 98, 99, 100, 101, 102, 103, 104, 105, 106,
 107, 108, 109, 110, 111, 112, 113, 114, 115, 116, 117, 118, 119, 120, 121,
 122] : List UInt8).getD
 (Int.toNat val.2.1) 0).toNat :
 Int).toNat),
 ())).bind
 fun val => some (val.1, ())
 else none
 else none
 else none
 else none
 else
 (f133_l1 (x0, x1, x3, x4, x5, x6, IntKind.u64.wrap x2, x7, ())).bind fun val =>
 bif
 decide (0 ≤ val.2.1) &&
 decide
 (val.2.1 <
 (↑[48, 49, 50, 51, 52, 53, 54, 55, 56, 57, 97, 98, 99, 100, 101, 102, 103, 104, 105, 106, 107, 108,
 109, 110, 111, 112, 113, 114, 115, 116, 117, 118, 119, 120, 121, 122].length :
 Int)) then
 bif decide (List.length val.2.2.2.2.2.2.1 = 65) then
 bif
 decide (0 ≤ IntKind.i64.wrap (val.2.2.2.2.2.1 - 1)) &&
 decide (IntKind.i64.wrap (val.2.2.2.2.2.1 - 1) < (↑65 : Int)) then
 bif
 decide
 ((IntKind.i64.wrap (val.2.2.2.2.2.1 - 1)).toNat <
 List.length val.2.2.2.2.2.2.1) then
 (f133_c1
 (val.1, val.2.2.1, val.2.2.2.1, val.2.2.2.2.1,
 IntKind.i64.wrap (val.2.2.2.2.2.1 - 1),
 List.set val.2.2.2.2.2.2.1
 (IntKind.i64.wrap (val.2.2.2.2.2.1 - 1)).toNat
 (UInt8.ofNat
 (↑(([48, 49, 50, 51, 52, 53, 54, 55, 56, 57, 97, 98, 99, 100, 101, 102, 103, 104, 105, 106,
 107, 108, 109, 110, 111, 112, 113, 114, 115, 116, 117, 118, 119, 120, 121,
 122] : List UInt8).getD
 (Int.toNat val.2.1) 0).toNat :
 Int).toNat),
 ())).bind
 fun val => some (val.1, ())
 else none
 else none
 else none
 else none
theorem h133_c2 (f161 : HS f161_ins → Option (OTy f161_outs)) (f162 : HS f162_ins → Option (OTy f162_outs)) (f133_c1 : HS f133_c1_ins → Option (OTy f133_c1_outs)) (f133_l0 : HS f133_l0_ins → Option (OTy f133_l0_outs)) (f133_l1 : HS f133_l1_ins → Option (OTy f133_l1_outs)) (v : HS f133_c2_ins) : aev Γ (fun f => Ae.lookA f [(161, ⟨f161_ins, f161_outs, f161⟩), (162, ⟨f162_ins, f162_outs, f162⟩)]) 0 (subc (code Tryz.f133) [1, 1, 1, 1, 1]) (.cut (.seq .nil (.cond (.seq .nil (.seq .nil (.seq .nil (.seq (.blk (.loop ⟨f133_l0_ins, f133_l0_outs, f133_l0⟩)) .nil)))) (.seq .nil (.seq (.blk (.loop ⟨f133_l1_ins, f133_l1_outs, f133_l1⟩)) .nil)))) ⟨f133_c1_ins, f133_c1_outs, f133_c1⟩) (stof f133_c2_ins v) (oout 0 f133_c2_outs) = F133_c2 f161 f162 f133_c1 f133_l0 f133_l1 v := by kernel_rfl
def C133_c2 (v : List UInt8 × Int × Int × Bool × Bool × List UInt8 × Int × List UInt8 × Unit) : Option (List UInt8 × Unit) := F133_c2 C161 C162 C133_c1 C133_l0 C133_l1 v
theorem k133_c2 : FragOk Tryz.prog 0 (fun Q a w => ((subc (code Tryz.f133) [1, 1, 1, 1, 1])).wp Tryz.prog Q a w) ⟨f133_c2_ins, f133_c2_outs, C133_c2⟩ :=
 frag_code (ins := f133_c2_ins) (os := f133_c2_outs) (np := 0) (n := (.cut (.seq .nil (.cond (.seq .nil (.seq .nil (.seq .nil (.seq (.blk (.loop ⟨f133_l0_ins, f133_l0_outs, C133_l0⟩)) .nil)))) (.seq .nil (.seq (.blk (.loop ⟨f133_l1_ins, f133_l1_outs, C133_l1⟩)) .nil)))) ⟨f133_c1_ins, f133_c1_outs, C133_c1⟩)) (F := C133_c2) hm hΓ (K := (fun f => Ae.lookA f [(161, ⟨f161_ins, f161_outs, C161⟩), (162, ⟨f162_ins, f162_outs, C162⟩)])) (kok_cons ok161 (kok_cons ok162 (kok_nil _)))
 (ann_cut (a := (subc (code Tryz.f133) [1, 1, 1, 1, 1, 0])) (b := (subc (code Tryz.f133) [1, 1, 1, 1, 1, 1])) (by kernel_rfl) (ann_seq (a := (subc (code Tryz.f133) [1, 1, 1, 1, 1, 0, 0])) (b := (subc (code Tryz.f133) [1, 1, 1, 1, 1, 0, 1])) (by kernel_rfl) (ann_nil _) (ann_cond (x := (subc (code Tryz.f133) [1, 1, 1, 1, 1, 0, 1, 0])) (y := (subc (code Tryz.f133) [1, 1, 1, 1, 1, 0, 1, 1])) (by kernel_rfl) (ann_seq (a := (subc (code Tryz.f133) [1, 1, 1, 1, 1, 0, 1, 0, 0])) (b := (subc (code Tryz.f133) [1, 1, 1, 1, 1, 0, 1, 0, 1])) (by kernel_rfl) (ann_nil _) (ann_seq (a := (subc (code Tryz.f133) [1, 1, 1, 1, 1, 0, 1, 0, 1, 0])) (b := (subc (code Tryz.f133) [1, 1, 1, 1, 1, 0, 1, 0, 1, 1])) (by kernel_rfl) (ann_nil _) (ann_seq (a := (subc (code Tryz.f133) [1, 1, 1, 1, 1, 0, 1, 0, 1, 1, 0])) (b := (subc (code Tryz.f133) [1, 1, 1, 1, 1, 0, 1, 0, 1, 1, 1])) (by kernel_rfl) (ann_nil _) (ann_seq (a := (subc (code Tryz.f133) [1, 1, 1, 1, 1, 0, 1, 0, 1, 1, 1, 0])) (b := (subc (code Tryz.f133) [1, 1, 1, 1, 1, 0, 1, 0, 1, 1, 1, 1])) (by kernel_rfl) (ann_blk (x := (subc (code Tryz.f133) [1, 1, 1, 1, 1, 0, 1, 0, 1, 1, 1, 0, 0])) (by kernel_rfl) (ann_loop (x := (subc (code Tryz.f133) [1, 1, 1, 1, 1, 0, 1, 0, 1, 1, 1, 0, 0, 0])) (by kernel_rfl) k133_l0)) (ann_nil _))))) (ann_seq (a := (subc (code Tryz.f133) [1, 1, 1, 1, 1, 0, 1, 1, 0])) (b := (subc (code Tryz.f133) [1, 1, 1, 1, 1, 0, 1, 1, 1])) (by kernel_rfl) (ann_nil _) (ann_seq (a := (subc (code Tryz.f133) [1, 1, 1, 1, 1, 0, 1, 1, 1, 0])) (b := (subc (code Tryz.f133) [1, 1, 1, 1, 1, 0, 1, 1, 1, 1])) (by kernel_rfl) (ann_blk (x := (subc (code Tryz.f133) [1, 1, 1, 1, 1, 0, 1, 1, 1, 0, 0])) (by kernel_rfl) (ann_loop (x := (subc (code Tryz.f133) [1, 1, 1, 1, 1, 0, 1, 1, 1, 0, 0, 0])) (by kernel_rfl) k133_l1)) (ann_nil _))))) k133_c1) (fun v => h133_c2 C161 C162 C133_c1 C133_l0 C133_l1 v)
def F133 (f133_c2 : List UInt8 × Int × Int × Bool × Bool × List UInt8 × Int × List UInt8 × Unit → Option (List UInt8 × Unit)) : List UInt8 × Int × Int × Bool × Bool × Unit → Option (List UInt8 × List UInt8 × Unit) := fun (x0, x1, x2, x3, x4, _) =>
 bif decide (x2 < 2) then none
 else
 bif x2 == 10 then none
 else
 bif decide (x2 > 36) then none
 else
 bif x3 then
 (f133_c2
 (x0, IntKind.u64.wrap (0 - x1), x2, x3, x4, [], 65,
 [0, 0, 0,
 0, 0, 0,
 0, 0, 0,
 0, 0, 0,
 0, 0, 0,
 0, 0, 0,
 0, 0, 0,
 0, 0, 0,
 0, 0, 0,
 0, 0, 0,
 0, 0, 0,
 0, 0, 0,
 0, 0, 0,
 0, 0, 0,
 0, 0, 0,
 0, 0, 0,
 0, 0, 0,
 0, 0, 0,
 0, 0, 0,
 0, 0, 0,
 0, 0, 0,
 0, 0],
 ())).bind
 fun val => some ([], val.1, ())
 else
 (f133_c2
 (x0, x1, x2, x3, x4, [], 65,
 [0, 0, 0,
 0, 0, 0,
 0, 0, 0,
 0, 0, 0,
 0, 0, 0,
 0, 0, 0,
 0, 0, 0,
 0, 0, 0,
 0, 0, 0,
 0, 0, 0,
 0, 0, 0,
 0, 0, 0,
 0, 0, 0,
 0, 0, 0,
 0, 0, 0,
 0, 0, 0,
 0, 0, 0,
 0, 0, 0,
 0, 0, 0,
 0, 0, 0,
 0, 0, 0,
 0, 0],
 ())).bind
 fun val => some ([], val.1, ())
theorem h133 (f133_c2 : HS f133_c2_ins → Option (OTy f133_c2_outs)) (v : HS f133_ins) : afun Γ (fun f => Ae.lookA f []) 0 Tryz.f133.ntmps Tryz.f133.results.toList (code Tryz.f133) (.seq .nil (.seq .nil (.seq .nil (.seq .nil (.cut .nil ⟨f133_c2_ins, f133_c2_outs, f133_c2⟩))))) (em id f133_ins v).1 (em id f133_ins v).2 (ofin 0 f133_outs) = F133 f133_c2 v := by kernel_rfl
def C133 (v : List UInt8 × Int × Int × Bool × Bool × Unit) : Option (List UInt8 × List UInt8 × Unit) := F133 C133_c2 v
theorem ok133 : FnOk Tryz.prog 133 ⟨f133_ins, f133_outs, C133⟩ :=
 fn_ok (np := 0) (n := (.seq .nil (.seq .nil (.seq .nil (.seq .nil (.cut .nil ⟨f133_c2_ins, f133_c2_outs, C133_c2⟩)))))) hm hΓ (K := (fun f => Ae.lookA f [])) (kok_nil _) Tryz.func133 (c := code Tryz.f133) (by kernel_rfl) (name_ne (by kernel_rfl))
 (ann_seq (a := (subc (code Tryz.f133) [0])) (b := (subc (code Tryz.f133) [1])) (by kernel_rfl) (ann_nil _) (ann_seq (a := (subc (code Tryz.f133) [1, 0])) (b := (subc (code Tryz.f133) [1, 1])) (by kernel_rfl) (ann_nil _) (ann_seq (a := (subc (code Tryz.f133) [1, 1, 0])) (b := (subc (code Tryz.f133) [1, 1, 1])) (by kernel_rfl) (ann_nil _) (ann_seq (a := (subc (code Tryz.f133) [1, 1, 1, 0])) (b := (subc (code Tryz.f133) [1, 1, 1, 1])) (by kernel_rfl) (ann_nil _) (ann_cut (a := (subc (code Tryz.f133) [1, 1, 1, 1, 0])) (b := (subc (code Tryz.f133) [1, 1, 1, 1, 1])) (by kernel_rfl) (ann_nil _) k133_c2))))) (fun v => Nat.le_of_ble_eq_true (by kernel_rfl)) (fun v => h133 C133_c2 v)
def F97_c0  : Int × Int × List UInt8 × Unit → Option (Empty) := fun (x0, x1, x2, _) =>
 none
theorem h97_c0  (v : HS f97_c0_ins) : aev Γ (fun f => Ae.lookA f []) 0 (subc (code Tryz.f97) [1, 0, 1, 0, 1, 1, 1, 1]) .nil (stof f97_c0_ins v) (oout 0 f97_c0_outs) = F97_c0 v := by kernel_rfl
def C97_c0 (v : Int × Int × List UInt8 × Unit) : Option (Empty) := F97_c0 v
theorem k97_c0 : FragOk Tryz.prog 0 (fun Q a w => ((subc (code Tryz.f97) [1, 0, 1, 0, 1, 1, 1, 1])).wp Tryz.prog Q a w) ⟨f97_c0_ins, f97_c0_outs, C97_c0⟩ :=
 frag_code (ins := f97_c0_ins) (os := f97_c0_outs) (np := 0) (n := .nil) (F := C97_c0) hm hΓ (K := (fun f => Ae.lookA f [])) (kok_nil _)
 (ann_nil _) (fun v => h97_c0 v)
def F97 (f130 : Int × Unit → Option (List UInt8 × Unit)) (f133 : List UInt8 × Int × Int × Bool × Bool × Unit → Option (List UInt8 × List UInt8 × Unit)) (f97_c0 : Int × Int × List UInt8 × Unit → Option (Empty)) : Int × Int × Unit → Option (List UInt8 × Unit) := fun (x0, x1, _) =>
 bif x1 == 10 then
 bif decide (0 ≤ x0) then
 bif decide (x0 < 100) then (f130 (x0, ())).bind fun val => some (val.1, ())
 else
 bif decide (x0 < 0) then
 (f97_c0
 (x0, IntKind.u64.wrap (0 - IntKind.u64.wrap x0),
 [0, 0, 0,
 0, 0, 0,
 0, 0, 0,
 0, 0, 0,
 0, 0, 0,
 0, 0, 0,
 0, 0, 0,
 0, 0, 0],
 ())).bind
 fun val => none
 else
 (f97_c0
 (x0, IntKind.u64.wrap x0,
 [0, 0, 0,
 0, 0, 0,
 0, 0, 0,
 0, 0, 0,
 0, 0, 0,
 0, 0, 0,
 0, 0, 0,
 0, 0, 0],
 ())).bind
 fun val => none
 else
 bif decide (x0 < 0) then
 (f97_c0
 (x0, IntKind.u64.wrap (0 - IntKind.u64.wrap x0),
 [0, 0, 0,
 0, 0, 0,
 0, 0, 0,
 0, 0, 0,
 0, 0, 0,
 0, 0, 0,
 0, 0, 0,
 0, 0, 0],
 ())).bind
 fun val => none
 else
 (f97_c0
 (x0, IntKind.u64.wrap x0,
 [0, 0, 0,
 0, 0, 0,
 0, 0, 0,
 0, 0, 0,
 0, 0, 0,
 0, 0, 0,
 0, 0, 0,
 0, 0, 0],
 ())).bind
 fun val => none
 else (f133 ([], IntKind.u64.wrap x0, x1, decide (x0 < 0), false, ())).bind fun val => some (val.2.1, ())
theorem h97 (f130 : HS f130_ins → Option (OTy f130_outs)) (f133 : HS f133_ins → Option (OTy f133_outs)) (f97_c0 : HS f97_c0_ins → Option (OTy f97_c0_outs)) (v : HS f97_ins) : afun Γ (fun f => Ae.lookA f [(130, ⟨f130_ins, f130_outs, f130⟩), (133, ⟨f133_ins, f133_outs, f133⟩)]) 0 Tryz.f97.ntmps Tryz.f97.results.toList (code Tryz.f97) (.seq .nil (.seq (.seq .nil (.cond (.seq .nil (.seq .nil (.seq .nil (.cut .nil ⟨f97_c0_ins, f97_c0_outs, f97_c0⟩)))) .nil)) .nil)) (em id f97_ins v).1 (em id f97_ins v).2 (ofin 0 f97_outs) = F97 f130 f133 f97_c0 v := by kernel_rfl
def C97 (v : Int × Int × Unit) : Option (List UInt8 × Unit) := F97 C130 C133 C97_c0 v
theorem ok97 : FnOk Tryz.prog 97 ⟨f97_ins, f97_outs, C97⟩ :=
 fn_ok (np := 0) (n := (.seq .nil (.seq (.seq .nil (.cond (.seq .nil (.seq .nil (.seq .nil (.cut .nil ⟨f97_c0_ins, f97_c0_outs, C97_c0⟩)))) .nil)) .nil))) hm hΓ (K := (fun f => Ae.lookA f [(130, ⟨f130_ins, f130_outs, C130⟩), (133, ⟨f133_ins, f133_outs, C133⟩)])) (kok_cons ok130 (kok_cons ok133 (kok_nil _))) Tryz.func97 (c := code Tryz.f97) (by kernel_rfl) (name_ne (by kernel_rfl))
 (ann_seq (a := (subc (code Tryz.f97) [0])) (b := (subc (code Tryz.f97) [1])) (by kernel_rfl) (ann_nil _) (ann_seq (a := (subc (code Tryz.f97) [1, 0])) (b := (subc (code Tryz.f97) [1, 1])) (by kernel_rfl) (ann_seq (a := (subc (code Tryz.f97) [1, 0, 0])) (b := (subc (code Tryz.f97) [1, 0, 1])) (by kernel_rfl) (ann_nil _) (ann_cond (x := (subc (code Tryz.f97) [1, 0, 1, 0])) (y := (subc (code Tryz.f97) [1, 0, 1, 1])) (by kernel_rfl) (ann_seq (a := (subc (code Tryz.f97) [1, 0, 1, 0, 0])) (b := (subc (code Tryz.f97) [1, 0, 1, 0, 1])) (by kernel_rfl) (ann_nil _) (ann_seq (a := (subc (code Tryz.f97) [1, 0, 1, 0, 1, 0])) (b := (subc (code Tryz.f97) [1, 0, 1, 0, 1, 1])) (by kernel_rfl) (ann_nil _) (ann_seq (a := (subc (code Tryz.f97) [1, 0, 1, 0, 1, 1, 0])) (b := (subc (code Tryz.f97) [1, 0, 1, 0, 1, 1, 1])) (by kernel_rfl) (ann_nil _) (ann_cut (a := (subc (code Tryz.f97) [1, 0, 1, 0, 1, 1, 1, 0])) (b := (subc (code Tryz.f97) [1, 0, 1, 0, 1, 1, 1, 1])) (by kernel_rfl) (ann_nil _) k97_c0)))) (ann_nil _))) (ann_nil _))) (fun v => Nat.le_of_ble_eq_true (by kernel_rfl)) (fun v => h97 C130 C133 C97_c0 v)
def F68 (f97 : Int × Int × Unit → Option (List UInt8 × Unit)) : Int × Int × Unit → Option (List UInt8 × Unit) := fun (x0, x1, _) =>
 (f97 (x0, x1, ())).bind fun val => some (val.1, ())
theorem h68 (f97 : HS f97_ins → Option (OTy f97_outs)) (v : HS f68_ins) : afun Γ (fun f => Ae.lookA f [(97, ⟨f97_ins, f97_outs, f97⟩)]) 0 Tryz.f68.ntmps Tryz.f68.results.toList (code Tryz.f68) .nil (em id f68_ins v).1 (em id f68_ins v).2 (ofin 0 f68_outs) = F68 f97 v := by kernel_rfl
def C68 (v : Int × Int × Unit) : Option (List UInt8 × Unit) := F68 C97 v
theorem ok68 : FnOk Tryz.prog 68 ⟨f68_ins, f68_outs, C68⟩ :=
 fn_ok (np := 0) (n := .nil) hm hΓ (K := (fun f => Ae.lookA f [(97, ⟨f97_ins, f97_outs, C97⟩)])) (kok_cons ok97 (kok_nil _)) Tryz.func68 (c := code Tryz.f68) (by kernel_rfl) (name_ne (by kernel_rfl))
 (ann_nil _) (fun v => Nat.le_of_ble_eq_true (by kernel_rfl)) (fun v => h68 C97 v)
def F34 (f67 : List UInt8 × Unit → Option (List UInt8 × Unit)) (f68 : Int × Int × Unit → Option (List UInt8 × Unit)) : Int × Unit → Option (List UInt8 × Unit) := fun (x0, _) =>
 (f68 (x0, 16, ())).bind fun val => (f67 (val.1, ())).bind fun val => some (val.1, ())
theorem h34 (f67 : HS f67_ins → Option (OTy f67_outs)) (f68 : HS f68_ins → Option (OTy f68_outs)) (v : HS f34_ins) : afun Γ (fun f => Ae.lookA f [(67, ⟨f67_ins, f67_outs, f67⟩), (68, ⟨f68_ins, f68_outs, f68⟩)]) 0 Tryz.f34.ntmps Tryz.f34.results.toList (code Tryz.f34) .nil (em id f34_ins v).1 (em id f34_ins v).2 (ofin 0 f34_outs) = F34 f67 f68 v := by kernel_rfl
def C34 (v : Int × Unit) : Option (List UInt8 × Unit) := F34 C67 C68 v
theorem ok34 : FnOk Tryz.prog 34 ⟨f34_ins, f34_outs, C34⟩ :=
 fn_ok (np := 0) (n := .nil) hm hΓ (K := (fun f => Ae.lookA f [(67, ⟨f67_ins, f67_outs, C67⟩), (68, ⟨f68_ins, f68_outs, C68⟩)])) (kok_cons ok67 (kok_cons ok68 (kok_nil _))) Tryz.func34 (c := code Tryz.f34) (by kernel_rfl) (name_ne (by kernel_rfl))
 (ann_nil _) (fun v => Nat.le_of_ble_eq_true (by kernel_rfl)) (fun v => h34 C67 C68 v)
def F27 (f24 : Int × Unit → Option (Bool × Unit)) (f34 : Int × Unit → Option (List UInt8 × Unit)) (f63 : List UInt8 × Int × Int × Unit → Option ((Int × Unit) ⊕ (Int × Unit))) : List UInt8 × Unit → Option (Int × Unit) := fun (x0, _) =>
 (f63 (x0, 16, 32, ())).bind fun val =>
 Sum.elim (fun val => some (-1, ()))
 (fun val =>
 bif decide ((↑x0.length : Int) > 6) then some (-1, ())
 else
 (f34 (val.1, ())).bind fun val_1 =>
 bif !val_1.1 == x0 then some (-1, ())
 else
 (f24 (IntKind.i32.wrap val.1, ())).bind fun val_2 =>
 bif val_2.1 then some (-1, ()) else some (IntKind.i32.wrap val.1, ()))
 val
theorem h27 (f24 : HS f24_ins → Option (OTy f24_outs)) (f34 : HS f34_ins → Option (OTy f34_outs)) (f63 : HS f63_ins → Option (OTy f63_outs)) (v : HS f27_ins) : afun Γ (fun f => Ae.lookA f [(24, ⟨f24_ins, f24_outs, f24⟩), (34, ⟨f34_ins, f34_outs, f34⟩), (63, ⟨f63_ins, f63_outs, f63⟩)]) 0 Tryz.f27.ntmps Tryz.f27.results.toList (code Tryz.f27) .nil (em id f27_ins v).1 (em id f27_ins v).2 (ofin 0 f27_outs) = F27 f24 f34 f63 v := by kernel_rfl
def C27 (v : List UInt8 × Unit) : Option (Int × Unit) := F27 C24 C34 C63 v
theorem ok27 : FnOk Tryz.prog 27 ⟨f27_ins, f27_outs, C27⟩ :=
 fn_ok (np := 0) (n := .nil) hm hΓ (K := (fun f => Ae.lookA f [(24, ⟨f24_ins, f24_outs, C24⟩), (34, ⟨f34_ins, f34_outs, C34⟩), (63, ⟨f63_ins, f63_outs, C63⟩)])) (kok_cons ok24 (kok_cons ok34 (kok_cons ok63 (kok_nil _)))) Tryz.func27 (c := code Tryz.f27) (by kernel_rfl) (name_ne (by kernel_rfl))
 (ann_nil _) (fun v => Nat.le_of_ble_eq_true (by kernel_rfl)) (fun v => h27 C24 C34 C63 v)
def F85  : Int × Unit → Option (Bool × Unit) := fun (x0, _) =>
 bif decide (x0 ≥ 0) then
 bif decide (x0 ≤ 1114111) then
 bif decide (x0 ≥ 55296) then some (bif decide (x0 ≤ 57343) then false else true, ())
 else some (!false, ())
 else some (false, ())
 else some (false, ())
theorem h85  (v : HS f85_ins) : afun Γ (fun f => Ae.lookA f []) 0 Tryz.f85.ntmps Tryz.f85.results.toList (code Tryz.f85) .nil (em id f85_ins v).1 (em id f85_ins v).2 (ofin 0 f85_outs) = F85 v := by kernel_rfl
def C85 (v : Int × Unit) : Option (Bool × Unit) := F85 v
theorem ok85 : FnOk Tryz.prog 85 ⟨f85_ins, f85_outs, C85⟩ :=
 fn_ok (np := 0) (n := .nil) hm hΓ (K := (fun f => Ae.lookA f [])) (kok_nil _) Tryz.func85 (c := code Tryz.f85) (by kernel_rfl) (name_ne (by kernel_rfl))
 (ann_nil _) (fun v => Nat.le_of_ble_eq_true (by kernel_rfl)) (fun v => h85 v)
def F58 (f85 : Int × Unit → Option (Bool × Unit)) : Int × Unit → Option (Int × Unit) := fun (x0, _) =>
 (f85 (x0, ())).bind fun val =>
 bif !val.1 then some (0, ())
 else
 bif decide (x0 ≤ 127) then some (1, ())
 else
 bif decide (x0 ≤ 2047) then some (2, ())
 else bif decide (x0 ≤ 65535) then some (3, ()) else some (4, ())
theorem h58 (f85 : HS f85_ins → Option (OTy f85_outs)) (v : HS f58_ins) : afun Γ (fun f => Ae.lookA f [(85, ⟨f85_ins, f85_outs, f85⟩)]) 0 Tryz.f58.ntmps Tryz.f58.results.toList (code Tryz.f58) .nil (em id f58_ins v).1 (em id f58_ins v).2 (ofin 0 f58_outs) = F58 f85 v := by kernel_rfl
def C58 (v : Int × Unit) : Option (Int × Unit) := F58 C85 v
theorem ok58 : FnOk Tryz.prog 58 ⟨f58_ins, f58_outs, C58⟩ :=
 fn_ok (np := 0) (n := .nil) hm hΓ (K := (fun f => Ae.lookA f [(85, ⟨f85_ins, f85_outs, C85⟩)])) (kok_cons ok85 (kok_nil _)) Tryz.func58 (c := code Tryz.f58) (by kernel_rfl) (name_ne (by kernel_rfl))
 (ann_nil _) (fun v => Nat.le_of_ble_eq_true (by kernel_rfl)) (fun v => h58 C85 v)
def F28_l0 (f58 : Int × Unit → Option (Int × Unit)) : List (Int) × Int × Int × List UInt8 × Unit → Option ((List (Int) × Int × Int × List UInt8 × Unit) ⊕ ((List UInt8 × Unit) ⊕ (List UInt8 × Bool × Unit))) := fun (x0, x1, x2, x3, _) =>
 bif decide (x2 < x1) then
 bif decide (0 ≤ x2) && decide (x2 < (↑x0.length : Int)) then
 (f58 (x0.getD x2.toNat 0, ())).bind fun val =>
 bif val.1 == 0 then some (Sum.inr (Sum.inr ([], false, ())))
 else
 bif val.1 == 1 then
 bif
 decide
 (x3.length + [UInt8.ofNat (IntKind.u8.wrap (x0.getD x2.toNat 0)).toNat].length ≤
 140737488355328 / 1) then
 some
 (Sum.inl
 (x0, x1, IntKind.i64.wrap (x2 + 1),
 x3 ++ [UInt8.ofNat (IntKind.u8.wrap (x0.getD x2.toNat 0)).toNat], ()))
 else none
 else
 bif val.1 == 2 then
 bif
 decide
 (x3.length +
 [UInt8.ofNat
 (intBits BinOp.or IntKind.u8 192
 (IntKind.u8.wrap
 (Int.fdiv (x0.getD x2.toNat 0)
 (2 ^ min 6 IntKind.i32.bits)))).toNat,
 UInt8.ofNat
 (intBits BinOp.or IntKind.u8 128
 (IntKind.u8.wrap
 (intBits BinOp.and IntKind.i32 (x0.getD x2.toNat 0)
 63))).toNat].length ≤
 140737488355328 / 1) then
 some
 (Sum.inl
 (x0, x1, IntKind.i64.wrap (x2 + 1),
 x3 ++
 [UInt8.ofNat
 (intBits BinOp.or IntKind.u8 192
 (IntKind.u8.wrap
 (Int.fdiv (x0.getD x2.toNat 0)
 (2 ^ min 6 IntKind.i32.bits)))).toNat,
 UInt8.ofNat
 (intBits BinOp.or IntKind.u8 128
 (IntKind.u8.wrap
 (intBits BinOp.and IntKind.i32 (x0.getD x2.toNat 0)
 63))).toNat],
 ()))
 else none
 else
 bif val.1 == 3 then
 bif
 decide
 (x3.length +
 [UInt8.ofNat
 (intBits BinOp.or IntKind.u8 224
 (IntKind.u8.wrap
 (Int.fdiv (x0.getD x2.toNat 0)
 (2 ^ min 12 IntKind.i32.bits)))).toNat,
 UInt8.ofNat
 (intBits BinOp.or IntKind.u8 128
 (IntKind.u8.wrap
 (intBits BinOp.and IntKind.i32
 (Int.fdiv (x0.getD x2.toNat 0)
 (2 ^ min 6 IntKind.i32.bits))
 63))).toNat,
 UInt8.ofNat
 (intBits BinOp.or IntKind.u8 128
 (IntKind.u8.wrap
 (intBits BinOp.and IntKind.i32 (x0.getD x2.toNat 0)
 63))).toNat].length ≤
 140737488355328 / 1) then
 some
 (Sum.inl
 (x0, x1, IntKind.i64.wrap (x2 + 1),
 x3 ++
 [UInt8.ofNat
 (intBits BinOp.or IntKind.u8 224
 (IntKind.u8.wrap
 (Int.fdiv (x0.getD x2.toNat 0)
 (2 ^ min 12 IntKind.i32.bits)))).toNat,
 UInt8.ofNat
 (intBits BinOp.or IntKind.u8 128
 (IntKind.u8.wrap
 (intBits BinOp.and IntKind.i32
 (Int.fdiv (x0.getD x2.toNat 0)
 (2 ^ min 6 IntKind.i32.bits))
 63))).toNat,
 UInt8.ofNat
 (intBits BinOp.or IntKind.u8 128
 (IntKind.u8.wrap
 (intBits BinOp.and IntKind.i32 (x0.getD x2.toNat 0)
 63))).toNat],
 ()))
 else none
 else
 bif val.1 == 4 then
 bif
 decide
 (x3.length +
 [UInt8.ofNat
 (intBits BinOp.or IntKind.u8 240
 (IntKind.u8.wrap
 (Int.fdiv (x0.getD x2.toNat 0)
 (2 ^ min 18 IntKind.i32.bits)))).toNat,
 UInt8.ofNat
 (intBits BinOp.or IntKind.u8 128
 (IntKind.u8.wrap
 (intBits BinOp.and IntKind.i32
 (Int.fdiv (x0.getD x2.toNat 0)
 (2 ^ min 12 IntKind.i32.bits))
 63))).toNat,
 UInt8.ofNat
 (intBits BinOp.or IntKind.u8 128
 (IntKind.u8.wrap
 (intBits BinOp.and IntKind.i32
 (Int.fdiv (x0.getD x2.toNat 0)
 (2 ^ min 6 IntKind.i32.bits))
 63))).toNat,
 UInt8.ofNat
 (intBits BinOp.or IntKind.u8 128
 (IntKind.u8.wrap
 (intBits BinOp.and IntKind.i32 (x0.getD x2.toNat 0)
 63))).toNat].length ≤
 140737488355328 / 1) then
 some
 (Sum.inl
 (x0, x1, IntKind.i64.wrap (x2 + 1),
 x3 ++
 [UInt8.ofNat
 (intBits BinOp.or IntKind.u8 240
 (IntKind.u8.wrap
 (Int.fdiv (x0.getD x2.toNat 0)
 (2 ^ min 18 IntKind.i32.bits)))).toNat,
 UInt8.ofNat
 (intBits BinOp.or IntKind.u8 128
 (IntKind.u8.wrap
 (intBits BinOp.and IntKind.i32
 (Int.fdiv (x0.getD x2.toNat 0)
 (2 ^ min 12 IntKind.i32.bits))
 63))).toNat,
 UInt8.ofNat
 (intBits BinOp.or IntKind.u8 128
 (IntKind.u8.wrap
 (intBits BinOp.and IntKind.i32
 (Int.fdiv (x0.getD x2.toNat 0)
 (2 ^ min 6 IntKind.i32.bits))
 63))).toNat,
 UInt8.ofNat
 (intBits BinOp.or IntKind.u8 128
 (IntKind.u8.wrap
 (intBits BinOp.and IntKind.i32 (x0.getD x2.toNat 0)
 63))).toNat],
 ()))
 else none
 else some (Sum.inl (x0, x1, IntKind.i64.wrap (x2 + 1), x3, ()))
 else none
 else some (Sum.inr (Sum.inl (x3, ())))
theorem h28_l0 (f58 : HS f58_ins → Option (OTy f58_outs)) (v : HS f28_l0_ins) : aev Γ (fun f => Ae.lookA f [(58, ⟨f58_ins, f58_outs, f58⟩)]) 0 (subc (code Tryz.f28) [1, 1, 0, 1, 0, 0]) .nil (stof f28_l0_ins v) (around 0 f28_l0_ins f28_l0_outs) = F28_l0 f58 v := by kernel_rfl
def C28_l0 (v : List (Int) × Int × Int × List UInt8 × Unit) : Option ((List UInt8 × Unit) ⊕ (List UInt8 × Bool × Unit)) := loopN (F28_l0 C58) big v
theorem k28_l0 : FragOk Tryz.prog 0 (fun Q a w => (Code.loop (subc (code Tryz.f28) [1, 1, 0, 1, 0, 0])).wp Tryz.prog Q a w) ⟨f28_l0_ins, f28_l0_outs, C28_l0⟩ :=
 frag_loop (ins := f28_l0_ins) (os := f28_l0_outs) (np := 0) (n := .nil) (F := F28_l0 C58) hm hΓ (K := (fun f => Ae.lookA f [(58, ⟨f58_ins, f58_outs, C58⟩)])) (kok_cons ok58 (kok_nil _)) (fun _ => big)
 (ann_nil _) (fun v => h28_l0 C58 v)
def F28 (f28_l0 : List (Int) × Int × Int × List UInt8 × Unit → Option ((List UInt8 × Unit) ⊕ (List UInt8 × Bool × Unit))) : List (Int) × Unit → Option (List UInt8 × Bool × Unit) := fun (x0, _) =>
 (f28_l0 (x0, (↑x0.length : Int), 0, [], ())).bind fun val =>
 Sum.elim (fun val => some (val.1, true, ())) (fun val => some (val.1, val.2.1, ())) val
theorem h28 (f28_l0 : HS f28_l0_ins → Option (OTy f28_l0_outs)) (v : HS f28_ins) : afun Γ (fun f => Ae.lookA f []) 0 Tryz.f28.ntmps Tryz.f28.results.toList (code Tryz.f28) (.seq .nil (.seq .nil (.seq (.seq .nil (.blk (.loop ⟨f28_l0_ins, f28_l0_outs, f28_l0⟩))) .nil))) (em id f28_ins v).1 (em id f28_ins v).2 (ofin 0 f28_outs) = F28 f28_l0 v := by kernel_rfl
def C28 (v : List (Int) × Unit) : Option (List UInt8 × Bool × Unit) := F28 C28_l0 v
theorem ok28 : FnOk Tryz.prog 28 ⟨f28_ins, f28_outs, C28⟩ :=
 fn_ok (np := 0) (n := (.seq .nil (.seq .nil (.seq (.seq .nil (.blk (.loop ⟨f28_l0_ins, f28_l0_outs, C28_l0⟩))) .nil)))) hm hΓ (K := (fun f => Ae.lookA f [])) (kok_nil _) Tryz.func28 (c := code Tryz.f28) (by kernel_rfl) (name_ne (by kernel_rfl))
 (ann_seq (a := (subc (code Tryz.f28) [0])) (b := (subc (code Tryz.f28) [1])) (by kernel_rfl) (ann_nil _) (ann_seq (a := (subc (code Tryz.f28) [1, 0])) (b := (subc (code Tryz.f28) [1, 1])) (by kernel_rfl) (ann_nil _) (ann_seq (a := (subc (code Tryz.f28) [1, 1, 0])) (b := (subc (code Tryz.f28) [1, 1, 1])) (by kernel_rfl) (ann_seq (a := (subc (code Tryz.f28) [1, 1, 0, 0])) (b := (subc (code Tryz.f28) [1, 1, 0, 1])) (by kernel_rfl) (ann_nil _) (ann_blk (x := (subc (code Tryz.f28) [1, 1, 0, 1, 0])) (by kernel_rfl) (ann_loop (x := (subc (code Tryz.f28) [1, 1, 0, 1, 0, 0])) (by kernel_rfl) k28_l0))) (ann_nil _)))) (fun v => Nat.le_of_ble_eq_true (by kernel_rfl)) (fun v => h28 C28_l0 v)
def F9_l0 (f24 : Int × Unit → Option (Bool × Unit)) (f25 : List UInt8 × List UInt8 × Unit → Option (List UInt8 × Bool × Unit)) (f26 : List UInt8 × List UInt8 × Unit → Option (List UInt8 × List UInt8 × Bool × Unit)) (f27 : List UInt8 × Unit → Option (Int × Unit)) : List UInt8 × List (Int) × Unit → Option ((List UInt8 × List (Int) × Unit) ⊕ ((List (Int) × Unit) ⊕ (List UInt8 × Bool × Unit))) := fun (x0, x1, _) =>
 bif !x0 == [] then
 bif decide (0 < (↑x0.length : Int)) then
 (f24 (IntKind.i32.wrap (↑(x0.getD 0 0).toNat : Int), ())).bind fun val =>
 bif val.1 then
 bif decide (0 < (↑x0.length : Int)) then
 bif
 decide
 (x1.length + [IntKind.i32.wrap (↑(x0.getD 0 0).toNat : Int)].length ≤
 140737488355328 / 4) then
 bif decide (1 ≤ (↑x0.length : Int)) then
 some
 (Sum.inl
 (List.drop 1 x0, x1 ++ [IntKind.i32.wrap (↑(x0.getD 0 0).toNat : Int)],
 ()))
 else none
 else none
 else none
 else
 (f25 (x0, [92, 120, 123], ())).bind fun val =>
 (f26 (val.1, [125], ())).bind fun val_1 =>
 (f27 (val_1.1, ())).bind fun val_2 =>
 bif !val.2.1 then some (Sum.inr (Sum.inr ([], false, ())))
 else
 bif !val_1.2.2.1 then some (Sum.inr (Sum.inr ([], false, ())))
 else
 bif decide (val_2.1 < 0) then some (Sum.inr (Sum.inr ([], false, ())))
 else
 bif decide (x1.length + [val_2.1].length ≤ 140737488355328 / 4) then
 some (Sum.inl (val_1.2.1, x1 ++ [val_2.1], ()))
 else none
 else none
 else some (Sum.inr (Sum.inl (x1, ())))
theorem h9_l0 (f24 : HS f24_ins → Option (OTy f24_outs)) (f25 : HS f25_ins → Option (OTy f25_outs)) (f26 : HS f26_ins → Option (OTy f26_outs)) (f27 : HS f27_ins → Option (OTy f27_outs)) (v : HS f9_l0_ins) : aev Γ (fun f => Ae.lookA f [(24, ⟨f24_ins, f24_outs, f24⟩), (25, ⟨f25_ins, f25_outs, f25⟩), (26, ⟨f26_ins, f26_outs, f26⟩), (27, ⟨f27_ins, f27_outs, f27⟩)]) 0 (subc (code Tryz.f9) [1, 1, 0, 0, 0]) .nil (stof f9_l0_ins v) (around 0 f9_l0_ins f9_l0_outs) = F9_l0 f24 f25 f26 f27 v := by kernel_rfl
def C9_l0 (v : List UInt8 × List (Int) × Unit) : Option ((List (Int) × Unit) ⊕ (List UInt8 × Bool × Unit)) := loopN (F9_l0 C24 C25 C26 C27) big v
theorem k9_l0 : FragOk Tryz.prog 0 (fun Q a w => (Code.loop (subc (code Tryz.f9) [1, 1, 0, 0, 0])).wp Tryz.prog Q a w) ⟨f9_l0_ins, f9_l0_outs, C9_l0⟩ :=
 frag_loop (ins := f9_l0_ins) (os := f9_l0_outs) (np := 0) (n := .nil) (F := F9_l0 C24 C25 C26 C27) hm hΓ (K := (fun f => Ae.lookA f [(24, ⟨f24_ins, f24_outs, C24⟩), (25, ⟨f25_ins, f25_outs, C25⟩), (26, ⟨f26_ins, f26_outs, C26⟩), (27, ⟨f27_ins, f27_outs, C27⟩)])) (kok_cons ok24 (kok_cons ok25 (kok_cons ok26 (kok_cons ok27 (kok_nil _))))) (fun _ => big)
 (ann_nil _) (fun v => h9_l0 C24 C25 C26 C27 v)
def F9 (f28 : List (Int) × Unit → Option (List UInt8 × Bool × Unit)) (f9_l0 : List UInt8 × List (Int) × Unit → Option ((List (Int) × Unit) ⊕ (List UInt8 × Bool × Unit))) : List UInt8 × Unit → Option (List UInt8 × Bool × Unit) := fun (x0, _) =>
 (f9_l0 (x0, [], ())).bind fun val =>
 Sum.elim (fun val => (f28 (val.1, ())).bind fun val => some (val.1, val.2.1, ()))
 (fun val => some (val.1, val.2.1, ())) val
theorem h9 (f28 : HS f28_ins → Option (OTy f28_outs)) (f9_l0 : HS f9_l0_ins → Option (OTy f9_l0_outs)) (v : HS f9_ins) : afun Γ (fun f => Ae.lookA f [(28, ⟨f28_ins, f28_outs, f28⟩)]) 0 Tryz.f9.ntmps Tryz.f9.results.toList (code Tryz.f9) (.seq .nil (.seq .nil (.seq (.blk (.loop ⟨f9_l0_ins, f9_l0_outs, f9_l0⟩)) .nil))) (em id f9_ins v).1 (em id f9_ins v).2 (ofin 0 f9_outs) = F9 f28 f9_l0 v := by kernel_rfl
def C9 (v : List UInt8 × Unit) : Option (List UInt8 × Bool × Unit) := F9 C28 C9_l0 v
theorem ok9 : FnOk Tryz.prog 9 ⟨f9_ins, f9_outs, C9⟩ :=
 fn_ok (np := 0) (n := (.seq .nil (.seq .nil (.seq (.blk (.loop ⟨f9_l0_ins, f9_l0_outs, C9_l0⟩)) .nil)))) hm hΓ (K := (fun f => Ae.lookA f [(28, ⟨f28_ins, f28_outs, C28⟩)])) (kok_cons ok28 (kok_nil _)) Tryz.func9 (c := code Tryz.f9) (by kernel_rfl) (name_ne (by kernel_rfl))
 (ann_seq (a := (subc (code Tryz.f9) [0])) (b := (subc (code Tryz.f9) [1])) (by kernel_rfl) (ann_nil _) (ann_seq (a := (subc (code Tryz.f9) [1, 0])) (b := (subc (code Tryz.f9) [1, 1])) (by kernel_rfl) (ann_nil _) (ann_seq (a := (subc (code Tryz.f9) [1, 1, 0])) (b := (subc (code Tryz.f9) [1, 1, 1])) (by kernel_rfl) (ann_blk (x := (subc (code Tryz.f9) [1, 1, 0, 0])) (by kernel_rfl) (ann_loop (x := (subc (code Tryz.f9) [1, 1, 0, 0, 0])) (by kernel_rfl) k9_l0)) (ann_nil _)))) (fun v => Nat.le_of_ble_eq_true (by kernel_rfl)) (fun v => h9 C28 C9_l0 v)
def F57_c0  : Int × Bool × Unit → Option ((Int × Int × Unit) ⊕ Unit) := fun (x0, x1, _) =>
 bif x1 then some (Sum.inl (2, IntKind.i32.wrap (intBits BinOp.and IntKind.u8 x0 15), ()))
 else
 bif decide (x0 ≥ 240) then
 bif decide (x0 < 245) then some (Sum.inl (3, IntKind.i32.wrap (intBits BinOp.and IntKind.u8 x0 7), ()))
 else some (Sum.inr ())
 else some (Sum.inr ())
theorem h57_c0  (v : HS f57_c0_ins) : aev Γ (fun f => Ae.lookA f []) 0 (subc (code Tryz.f57) [1, 0, 0, 1, 1, 1, 1, 1]) .nil (stof f57_c0_ins v) (oout 0 f57_c0_outs) = F57_c0 v := by kernel_rfl
def C57_c0 (v : Int × Bool × Unit) : Option ((Int × Int × Unit) ⊕ Unit) := F57_c0 v
theorem k57_c0 : FragOk Tryz.prog 0 (fun Q a w => ((subc (code Tryz.f57) [1, 0, 0, 1, 1, 1, 1, 1])).wp Tryz.prog Q a w) ⟨f57_c0_ins, f57_c0_outs, C57_c0⟩ :=
 frag_code (ins := f57_c0_ins) (os := f57_c0_outs) (np := 0) (n := .nil) (F := C57_c0) hm hΓ (K := (fun f => Ae.lookA f [])) (kok_nil _)
 (ann_nil _) (fun v => h57_c0 v)
def F57_c1 (f57_c0 : Int × Bool × Unit → Option ((Int × Int × Unit) ⊕ Unit)) : Int × Bool × Unit → Option ((Int × Int × Unit) ⊕ Unit) := fun (x0, x1, _) =>
 bif x1 then some (Sum.inl (1, IntKind.i32.wrap (intBits BinOp.and IntKind.u8 x0 31), ()))
 else
 bif decide (x0 ≥ 224) then
 (f57_c0 (x0, decide (x0 < 240), ())).bind fun val =>
 Sum.elim (fun val => some (Sum.inl (val.1, val.2.1, ()))) (fun val => some (Sum.inr ())) val
 else
 (f57_c0 (x0, false, ())).bind fun val =>
 Sum.elim (fun val => some (Sum.inl (val.1, val.2.1, ()))) (fun val => some (Sum.inr ())) val
theorem h57_c1 (f57_c0 : HS f57_c0_ins → Option (OTy f57_c0_outs)) (v : HS f57_c1_ins) : aev Γ (fun f => Ae.lookA f []) 0 (subc (code Tryz.f57) [1, 0, 0, 1, 1, 1]) (.cond .nil (.cut .nil ⟨f57_c0_ins, f57_c0_outs, f57_c0⟩)) (stof f57_c1_ins v) (oout 0 f57_c1_outs) = F57_c1 f57_c0 v := by kernel_rfl
def C57_c1 (v : Int × Bool × Unit) : Option ((Int × Int × Unit) ⊕ Unit) := F57_c1 C57_c0 v
theorem k57_c1 : FragOk Tryz.prog 0 (fun Q a w => ((subc (code Tryz.f57) [1, 0, 0, 1, 1, 1])).wp Tryz.prog Q a w) ⟨f57_c1_ins, f57_c1_outs, C57_c1⟩ :=
 frag_code (ins := f57_c1_ins) (os := f57_c1_outs) (np := 0) (n := (.cond .nil (.cut .nil ⟨f57_c0_ins, f57_c0_outs, C57_c0⟩))) (F := C57_c1) hm hΓ (K := (fun f => Ae.lookA f [])) (kok_nil _)
 (ann_cond (x := (subc (code Tryz.f57) [1, 0, 0, 1, 1, 1, 0])) (y := (subc (code Tryz.f57) [1, 0, 0, 1, 1, 1, 1])) (by kernel_rfl) (ann_nil _) (ann_cut (a := (subc (code Tryz.f57) [1, 0, 0, 1, 1, 1, 1, 0])) (b := (subc (code Tryz.f57) [1, 0, 0, 1, 1, 1, 1, 1])) (by kernel_rfl) (ann_nil _) k57_c0)) (fun v => h57_c1 C57_c0 v)
def F57 (f57_c1 : Int × Bool × Unit → Option ((Int × Int × Unit) ⊕ Unit)) : Int × Unit → Option (Int × Int × Unit) := fun (x0, _) =>
 bif decide (x0 < 128) then some (0, IntKind.i32.wrap x0, ())
 else
 bif decide (x0 ≥ 194) then
 (f57_c1 (x0, decide (x0 < 224), ())).bind fun val =>
 Sum.elim (fun val => some (val.1, val.2.1, ())) (fun val => some (-1, 0, ())) val
 else
 (f57_c1 (x0, false, ())).bind fun val =>
 Sum.elim (fun val => some (val.1, val.2.1, ())) (fun val => some (-1, 0, ())) val
theorem h57 (f57_c1 : HS f57_c1_ins → Option (OTy f57_c1_outs)) (v : HS f57_ins) : afun Γ (fun f => Ae.lookA f []) 0 Tryz.f57.ntmps Tryz.f57.results.toList (code Tryz.f57) (.seq .nil (.seq (.blk (.seq .nil (.cond .nil (.cut .nil ⟨f57_c1_ins, f57_c1_outs, f57_c1⟩)))) .nil)) (em id f57_ins v).1 (em id f57_ins v).2 (ofin 0 f57_outs) = F57 f57_c1 v := by kernel_rfl
def C57 (v : Int × Unit) : Option (Int × Int × Unit) := F57 C57_c1 v
theorem ok57 : FnOk Tryz.prog 57 ⟨f57_ins, f57_outs, C57⟩ :=
 fn_ok (np := 0) (n := (.seq .nil (.seq (.blk (.seq .nil (.cond .nil (.cut .nil ⟨f57_c1_ins, f57_c1_outs, C57_c1⟩)))) .nil))) hm hΓ (K := (fun f => Ae.lookA f [])) (kok_nil _) Tryz.func57 (c := code Tryz.f57) (by kernel_rfl) (name_ne (by kernel_rfl))
 (ann_seq (a := (subc (code Tryz.f57) [0])) (b := (subc (code Tryz.f57) [1])) (by kernel_rfl) (ann_nil _) (ann_seq (a := (subc (code Tryz.f57) [1, 0])) (b := (subc (code Tryz.f57) [1, 1])) (by kernel_rfl) (ann_blk (x := (subc (code Tryz.f57) [1, 0, 0])) (by kernel_rfl) (ann_seq (a := (subc (code Tryz.f57) [1, 0, 0, 0])) (b := (subc (code Tryz.f57) [1, 0, 0, 1])) (by kernel_rfl) (ann_nil _) (ann_cond (x := (subc (code Tryz.f57) [1, 0, 0, 1, 0])) (y := (subc (code Tryz.f57) [1, 0, 0, 1, 1])) (by kernel_rfl) (ann_nil _) (ann_cut (a := (subc (code Tryz.f57) [1, 0, 0, 1, 1, 0])) (b := (subc (code Tryz.f57) [1, 0, 0, 1, 1, 1])) (by kernel_rfl) (ann_nil _) k57_c1)))) (ann_nil _))) (fun v => Nat.le_of_ble_eq_true (by kernel_rfl)) (fun v => h57 C57_c1 v)
def F21_l0  : List UInt8 × Int × Int × Int × Int × List (Int) × Unit → Option ((List UInt8 × Int × Int × Int × Int × List (Int) × Unit) ⊕ ((List UInt8 × Int × Int × Int × List (Int) × Unit) ⊕ (Int × List (Int) × Unit))) := fun (x0, x1, x2, x3, x4, x5, _) =>
 bif decide (x4 ≤ IntKind.i64.wrap (x3 + x1)) then
 bif decide (0 ≤ x4) && decide (x4 < (↑x0.length : Int)) then
 bif intBits BinOp.andNot IntKind.u8 (↑(x0.getD x4.toNat 0).toNat : Int) 63 != 128 then
 some (Sum.inr (Sum.inr (x3, x5, ())))
 else
 bif decide (0 ≤ x4) && decide (x4 < (↑x0.length : Int)) then
 some
 (Sum.inl
 (x0, x1,
 intBits BinOp.or IntKind.i32 (IntKind.i32.wrap (x2 * 2 ^ min 6 IntKind.i32.bits))
 (IntKind.i32.wrap (intBits BinOp.and IntKind.u8 (↑(x0.getD x4.toNat 0).toNat : Int) 63)),
 x3, IntKind.i64.wrap (x4 + 1), x5, ()))
 else none
 else none
 else some (Sum.inr (Sum.inl (x0, x1, x2, x3, x5, ())))
theorem h21_l0  (v : HS f21_l0_ins) : aev Γ (fun f => Ae.lookA f []) 0 (subc (code Tryz.f21) [1, 0, 1, 1, 1, 1, 0, 0, 0, 1, 0, 1, 1, 0, 1, 0, 0]) .nil (stof f21_l0_ins v) (around 0 f21_l0_ins f21_l0_outs) = F21_l0 v := by kernel_rfl
def C21_l0 (v : List UInt8 × Int × Int × Int × Int × List (Int) × Unit) : Option ((List UInt8 × Int × Int × Int × List (Int) × Unit) ⊕ (Int × List (Int) × Unit)) := loopN (F21_l0) big v
theorem k21_l0 : FragOk Tryz.prog 0 (fun Q a w => (Code.loop (subc (code Tryz.f21) [1, 0, 1, 1, 1, 1, 0, 0, 0, 1, 0, 1, 1, 0, 1, 0, 0])).wp Tryz.prog Q a w) ⟨f21_l0_ins, f21_l0_outs, C21_l0⟩ :=
 frag_loop (ins := f21_l0_ins) (os := f21_l0_outs) (np := 0) (n := .nil) (F := F21_l0) hm hΓ (K := (fun f => Ae.lookA f [])) (kok_nil _) (fun _ => big)
 (ann_nil _) (fun v => h21_l0 v)
end Go.Proofs.YtmfcepdbpdihgaaGreatDoor.W
