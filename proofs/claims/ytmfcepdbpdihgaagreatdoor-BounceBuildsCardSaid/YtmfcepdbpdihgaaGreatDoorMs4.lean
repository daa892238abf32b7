/- The texts of the proof, one behind the other: W2, W3, W4, W5, W6. -/
import Derived.Test.YtmfcepdbpdihgaaGreatDoorMs3
set_option maxRecDepth 100000
set_option linter.unusedVariables false
namespace Go.Proofs.YtmfcepdbpdihgaaGreatDoor.W
open Go Go.Ae
def F63 (f90 : List UInt8 × Int × Int × Unit → Option ((Int × Int × Unit) ⊕ (Int × Unit))) (f91 : List UInt8 × List UInt8 × Int × Int × Int × Unit → Option (Unit)) : List UInt8 × Int × Int × Unit → Option ((Int × Unit) ⊕ (Int × Unit)) := fun (x0, x1, x2, _) =>
 (f90 (x0, x1, x2, ())).bind fun val =>
 Sum.elim
 (fun val =>
 (f91 ([80, 97, 114, 115, 101, 73, 110, 116], x0, x1, x2, val.2.1, ())).bind fun val_1 =>
 some (Sum.inl (val.1, ())))
 (fun val => some (Sum.inr (val.1, ()))) val
theorem h63 (f90 : HS f90_ins → Option (OTy f90_outs)) (f91 : HS f91_ins → Option (OTy f91_outs)) (v : HS f63_ins) : afun Γ (fun f => Ae.lookA f [(90, ⟨f90_ins, f90_outs, f90⟩), (91, ⟨f91_ins, f91_outs, f91⟩)]) 0 Tryz.f63.ntmps Tryz.f63.results.toList (code Tryz.f63) .nil (em id f63_ins v).1 (em id f63_ins v).2 (ofin 0 f63_outs) = F63 f90 f91 v := by kernel_rfl
def C63 (v : List UInt8 × Int × Int × Unit) : Option ((Int × Unit) ⊕ (Int × Unit)) := F63 C90 C91 v
theorem ok63 : FnOk Tryz.prog 63 ⟨f63_ins, f63_outs, C63⟩ :=
 fn_ok (np := 0) (n := .nil) hm hΓ (K := (fun f => Ae.lookA f [(90, ⟨f90_ins, f90_outs, C90⟩), (91, ⟨f91_ins, f91_outs, C91⟩)])) (kok_cons ok90 (kok_cons ok91 (kok_nil _))) Tryz.func63 (c := code Tryz.f63) (by kernel_rfl) (name_ne (by kernel_rfl))
 (ann_nil _) (fun v => Nat.le_of_ble_eq_true (by kernel_rfl)) (fun v => h63 C90 C91 v)
def F130  : Int × Unit → Option (List UInt8 × Unit) := fun (x0, _) =>
 bif decide (x0 < 10) then
 bif
 decide (0 ≤ IntKind.i64.wrap (x0 + 1)) &&
 decide
 (IntKind.i64.wrap (x0 + 1) ≤
 (↑[48, 49, 50, 51, 52, 53, 54, 55, 56, 57, 97, 98, 99, 100, 101, 102, 103, 104, 105, 106, 107, 108, 109,
 110, 111, 112, 113, 114, 115, 116, 117, 118, 119, 120, 121, 122].length :
 Int)) then
 bif decide (0 ≤ x0) && decide (x0 ≤ IntKind.i64.wrap (x0 + 1)) then
 some
 (List.drop x0.toNat
 (List.take (IntKind.i64.wrap (x0 + 1)).toNat
 [48, 49, 50, 51, 52, 53, 54, 55, 56, 57, 97, 98, 99, 100, 101, 102, 103, 104, 105, 106, 107, 108, 109,
 110, 111, 112, 113, 114, 115, 116, 117, 118, 119, 120, 121, 122]),
 ())
 else none
 else none
 else
 bif
 decide (0 ≤ IntKind.i64.wrap (IntKind.i64.wrap (x0 * 2) + 2)) &&
 decide
 (IntKind.i64.wrap (IntKind.i64.wrap (x0 * 2) + 2) ≤
 (↑((([48, 48, 48, 49, 48, 50, 48, 51, 48, 52, 48, 53, 48, 54, 48, 55, 48, 56, 48, 57, 49, 48, 49, 49, 49, 50,
 49, 51, 49, 52, 49, 53, 49, 54, 49, 55, 49, 56, 49, 57, 50, 48, 50, 49, 50, 50, 50, 51,
 50, 52] : List UInt8).append
 (([50, 53, 50, 54, 50, 55, 50, 56, 50, 57, 51, 48, 51, 49, 51, 50, 51, 51, 51, 52, 51, 53, 51,
 54, 51, 55, 51, 56, 51, 57, 52, 48, 52, 49, 52, 50, 52, 51, 52, 52, 52, 53, 52, 54, 52,
 55, 52, 56, 52, 57] : List UInt8) : List UInt8)).append
 ((([53, 48, 53, 49, 53, 50, 53, 51, 53, 52, 53, 53, 53, 54, 53, 55, 53, 56, 53, 57, 54, 48, 54,
 49, 54, 50, 54, 51, 54, 52, 54, 53, 54, 54, 54, 55, 54, 56, 54, 57, 55, 48, 55, 49, 55,
 50, 55, 51, 55, 52] : List UInt8) : List UInt8).append
 ([55, 53, 55, 54, 55, 55, 55, 56, 55, 57, 56, 48, 56, 49, 56, 50, 56, 51, 56, 52, 56, 53, 56,
 54, 56, 55, 56, 56, 56, 57, 57, 48, 57, 49, 57, 50, 57, 51, 57, 52, 57, 53, 57, 54, 57, 55,
 57, 56, 57, 57] : List UInt8))).toArray.toList.length :
 Int)) then
 bif
 decide (0 ≤ IntKind.i64.wrap (x0 * 2)) &&
 decide (IntKind.i64.wrap (x0 * 2) ≤ IntKind.i64.wrap (IntKind.i64.wrap (x0 * 2) + 2)) then
 some
 (List.drop (IntKind.i64.wrap (x0 * 2)).toNat
 (List.take (IntKind.i64.wrap (IntKind.i64.wrap (x0 * 2) + 2)).toNat
 ((([48, 48, 48, 49, 48, 50, 48, 51, 48, 52, 48, 53, 48, 54, 48, 55, 48, 56, 48, 57, 49, 48, 49, 49, 49, 50,
 49, 51, 49, 52, 49, 53, 49, 54, 49, 55, 49, 56, 49, 57, 50, 48, 50, 49, 50, 50, 50, 51, 50,
 52] : List UInt8).append
 (([50, 53, 50, 54, 50, 55, 50, 56, 50, 57, 51, 48, 51, 49, 51, 50, 51, 51, 51, 52, 51, 53, 51, 54,
 51, 55, 51, 56, 51, 57, 52, 48, 52, 49, 52, 50, 52, 51, 52, 52, 52, 53, 52, 54, 52, 55, 52,
 56, 52, 57] : List UInt8) : List UInt8)).append
 ((([53, 48, 53, 49, 53, 50, 53, 51, 53, 52, 53, 53, 53, 54, 53, 55, 53, 56, 53, 57, 54, 48, 54, 49,
 54, 50, 54, 51, 54, 52, 54, 53, 54, 54, 54, 55, 54, 56, 54, 57, 55, 48, 55, 49, 55, 50, 55,
 51, 55, 52] : List UInt8) : List UInt8).append
 ([55, 53, 55, 54, 55, 55, 55, 56, 55, 57, 56, 48, 56, 49, 56, 50, 56, 51, 56, 52, 56, 53, 56, 54,
 56, 55, 56, 56, 56, 57, 57, 48, 57, 49, 57, 50, 57, 51, 57, 52, 57, 53, 57, 54, 57, 55, 57, 56,
 57, 57] : List UInt8))).toArray.toList),
 ())
 else none
 else none
theorem h130  (v : HS f130_ins) : afun Γ (fun f => Ae.lookA f []) 0 Tryz.f130.ntmps Tryz.f130.results.toList (code Tryz.f130) .nil (em id f130_ins v).1 (em id f130_ins v).2 (ofin 0 f130_outs) = F130 v := by kernel_rfl
def C130 (v : Int × Unit) : Option (List UInt8 × Unit) := F130 v
theorem ok130 : FnOk Tryz.prog 130 ⟨f130_ins, f130_outs, C130⟩ :=
 fn_ok (np := 0) (n := .nil) hm hΓ (K := (fun f => Ae.lookA f [])) (kok_nil _) Tryz.func130 (c := code Tryz.f130) (by kernel_rfl) (name_ne (by kernel_rfl))
 (ann_nil _) (fun v => Nat.le_of_ble_eq_true (by kernel_rfl)) (fun v => h130 v)
def F161  : Int × Unit → Option (Bool × Unit) := fun (x0, _) =>
 some (intBits BinOp.and IntKind.i64 x0 (IntKind.i64.wrap (x0 - 1)) == 0, ())
theorem h161  (v : HS f161_ins) : afun Γ (fun f => Ae.lookA f []) 0 Tryz.f161.ntmps Tryz.f161.results.toList (code Tryz.f161) .nil (em id f161_ins v).1 (em id f161_ins v).2 (ofin 0 f161_outs) = F161 v := by kernel_rfl
def C161 (v : Int × Unit) : Option (Bool × Unit) := F161 v
theorem ok161 : FnOk Tryz.prog 161 ⟨f161_ins, f161_outs, C161⟩ :=
 fn_ok (np := 0) (n := .nil) hm hΓ (K := (fun f => Ae.lookA f [])) (kok_nil _) Tryz.func161 (c := code Tryz.f161) (by kernel_rfl) (name_ne (by kernel_rfl))
 (ann_nil _) (fun v => Nat.le_of_ble_eq_true (by kernel_rfl)) (fun v => h161 v)
def F133_l0  : List UInt8 × Int × Bool × Bool × List UInt8 × Int × Int × Int × Int × List UInt8 × Unit → Option ((List UInt8 × Int × Bool × Bool × List UInt8 × Int × Int × Int × Int × List UInt8 × Unit) ⊕ (List UInt8 × Int × Bool × Bool × List UInt8 × Int × List UInt8 × Unit)) := fun (x0, x1, x2, x3, x4, x5, x6, x7, x8, x9, _) =>
 bif decide (x1 ≥ x7) then
 bif
 decide (0 ≤ intBits BinOp.and IntKind.u64 x1 x8) &&
 decide
 (intBits BinOp.and IntKind.u64 x1 x8 <
 (↑[48, 49, 50, 51, 52, 53, 54, 55, 56, 57, 97, 98, 99, 100, 101, 102, 103, 104, 105, 106, 107, 108, 109,
 110, 111, 112, 113, 114, 115, 116, 117, 118, 119, 120, 121, 122].length :
 Int)) then
 bif decide (x9.length = 65) then
 bif decide (0 ≤ IntKind.i64.wrap (x5 - 1)) && decide (IntKind.i64.wrap (x5 - 1) < (↑65 : Int)) then
 bif decide ((IntKind.i64.wrap (x5 - 1)).toNat < x9.length) then
 bif decide (0 ≤ x6) then
 some
 (Sum.inl
 (x0, x1.fdiv (2 ^ min x6.toNat IntKind.u64.bits), x2, x3, x4, IntKind.i64.wrap (x5 - 1), x6, x7, x8,
 x9.set (IntKind.i64.wrap (x5 - 1)).toNat
 (UInt8.ofNat
 (↑(([48, 49, 50, 51, 52, 53, 54, 55, 56, 57, 97, 98, 99, 100, 101, 102, 103, 104, 105, 106, 107,
 108, 109, 110, 111, 112, 113, 114, 115, 116, 117, 118, 119, 120, 121,
 122] : List UInt8).getD
 (intBits BinOp.and IntKind.u64 x1 x8).toNat 0).toNat :
 Int).toNat),
 ()))
 else none
 else none
 else none
 else none
 else none
 else some (Sum.inr (x0, x1, x2, x3, x4, x5, x9, ()))
theorem h133_l0  (v : HS f133_l0_ins) : aev Γ (fun f => Ae.lookA f []) 0 (subc (code Tryz.f133) [1, 1, 1, 1, 1, 0, 1, 0, 1, 1, 1, 0, 0, 0]) .nil (stof f133_l0_ins v) (around 0 f133_l0_ins f133_l0_outs) = F133_l0 v := by kernel_rfl
def C133_l0 (v : List UInt8 × Int × Bool × Bool × List UInt8 × Int × Int × Int × Int × List UInt8 × Unit) : Option (List UInt8 × Int × Bool × Bool × List UInt8 × Int × List UInt8 × Unit) := loopN (F133_l0) big v
theorem k133_l0 : FragOk Tryz.prog 0 (fun Q a w => (Code.loop (subc (code Tryz.f133) [1, 1, 1, 1, 1, 0, 1, 0, 1, 1, 1, 0, 0, 0])).wp Tryz.prog Q a w) ⟨f133_l0_ins, f133_l0_outs, C133_l0⟩ :=
 frag_loop (ins := f133_l0_ins) (os := f133_l0_outs) (np := 0) (n := .nil) (F := F133_l0) hm hΓ (K := (fun f => Ae.lookA f [])) (kok_nil _) (fun _ => big)
 (ann_nil _) (fun v => h133_l0 v)
def F133_l1  : List UInt8 × Int × Bool × Bool × List UInt8 × Int × Int × List UInt8 × Unit → Option ((List UInt8 × Int × Bool × Bool × List UInt8 × Int × Int × List UInt8 × Unit) ⊕ (List UInt8 × Int × Bool × Bool × List UInt8 × Int × List UInt8 × Unit)) := fun (x0, x1, x2, x3, x4, x5, x6, x7, _) =>
 bif decide (x1 ≥ x6) then
 bif x6 != 0 then
 bif
 decide (0 ≤ IntKind.u64.wrap (x1 - IntKind.u64.wrap (IntKind.u64.wrap (x1.tdiv x6) * x6))) &&
 decide
 (IntKind.u64.wrap (x1 - IntKind.u64.wrap (IntKind.u64.wrap (x1.tdiv x6) * x6)) <
 (↑[48, 49, 50, 51, 52, 53, 54, 55, 56, 57, 97, 98, 99, 100, 101, 102, 103, 104, 105, 106, 107, 108, 109,
 110, 111, 112, 113, 114, 115, 116, 117, 118, 119, 120, 121, 122].length :
 Int)) then
 bif decide (x7.length = 65) then
 bif decide (0 ≤ IntKind.i64.wrap (x5 - 1)) && decide (IntKind.i64.wrap (x5 - 1) < (↑65 : Int)) then
 bif decide ((IntKind.i64.wrap (x5 - 1)).toNat < x7.length) then
 some
 (Sum.inl
 (x0, IntKind.u64.wrap (x1.tdiv x6), x2, x3, x4, IntKind.i64.wrap (x5 - 1), x6,
 x7.set (IntKind.i64.wrap (x5 - 1)).toNat
 (UInt8.ofNat
 (↑(([48, 49, 50, 51, 52, 53, 54, 55, 56, 57, 97, 98, 99, 100, 101, 102, 103, 104, 105, 106, 107,
 108, 109, 110, 111, 112, 113, 114, 115, 116, 117, 118, 119, 120, 121,
 122] : List UInt8).getD
 (IntKind.u64.wrap (x1 - IntKind.u64.wrap (IntKind.u64.wrap (x1.tdiv x6) * x6))).toNat
 0).toNat :
 Int).toNat),
 ()))
 else none
 else none
 else none
 else none
 else none
 else some (Sum.inr (x0, x1, x2, x3, x4, x5, x7, ()))
theorem h133_l1  (v : HS f133_l1_ins) : aev Γ (fun f => Ae.lookA f []) 0 (subc (code Tryz.f133) [1, 1, 1, 1, 1, 0, 1, 1, 1, 0, 0, 0]) .nil (stof f133_l1_ins v) (around 0 f133_l1_ins f133_l1_outs) = F133_l1 v := by kernel_rfl
def C133_l1 (v : List UInt8 × Int × Bool × Bool × List UInt8 × Int × Int × List UInt8 × Unit) : Option (List UInt8 × Int × Bool × Bool × List UInt8 × Int × List UInt8 × Unit) := loopN (F133_l1) big v
theorem k133_l1 : FragOk Tryz.prog 0 (fun Q a w => (Code.loop (subc (code Tryz.f133) [1, 1, 1, 1, 1, 0, 1, 1, 1, 0, 0, 0])).wp Tryz.prog Q a w) ⟨f133_l1_ins, f133_l1_outs, C133_l1⟩ :=
 frag_loop (ins := f133_l1_ins) (os := f133_l1_outs) (np := 0) (n := .nil) (F := F133_l1) hm hΓ (K := (fun f => Ae.lookA f [])) (kok_nil _) (fun _ => big)
 (ann_nil _) (fun v => h133_l1 v)
def F133_c0  : List UInt8 × Bool × List UInt8 × Int × List UInt8 × Unit → Option (List UInt8 × Unit) := fun (x0, x1, x2, x3, x4, _) =>
 bif x1 then
 bif decide (x4.length = 65) then bif decide (0 ≤ x3) && decide (x3 ≤ (↑x4.length : Int)) then none else none else none
 else
 bif decide (x4.length = 65) then
 bif decide (0 ≤ x3) && decide (x3 ≤ (↑x4.length : Int)) then some (List.drop x3.toNat x4, ()) else none
 else none
theorem h133_c0  (v : HS f133_c0_ins) : aev Γ (fun f => Ae.lookA f []) 0 (subc (code Tryz.f133) [1, 1, 1, 1, 1, 1, 1]) .nil (stof f133_c0_ins v) (oout 0 f133_c0_outs) = F133_c0 v := by kernel_rfl
def C133_c0 (v : List UInt8 × Bool × List UInt8 × Int × List UInt8 × Unit) : Option (List UInt8 × Unit) := F133_c0 v
theorem k133_c0 : FragOk Tryz.prog 0 (fun Q a w => ((subc (code Tryz.f133) [1, 1, 1, 1, 1, 1, 1])).wp Tryz.prog Q a w) ⟨f133_c0_ins, f133_c0_outs, C133_c0⟩ :=
 frag_code (ins := f133_c0_ins) (os := f133_c0_outs) (np := 0) (n := .nil) (F := C133_c0) hm hΓ (K := (fun f => Ae.lookA f [])) (kok_nil _)
 (ann_nil _) (fun v => h133_c0 v)
def F133_c1 (f133_c0 : List UInt8 × Bool × List UInt8 × Int × List UInt8 × Unit → Option (List UInt8 × Unit)) : List UInt8 × Bool × Bool × List UInt8 × Int × List UInt8 × Unit → Option (List UInt8 × Unit) := fun (x0, x1, x2, x3, x4, x5, _) =>
 bif x1 then
 bif decide (x5.length = 65) then
 bif decide (0 ≤ IntKind.i64.wrap (x4 - 1)) && decide (IntKind.i64.wrap (x4 - 1) < (↑65 : Int)) then
 bif decide ((IntKind.i64.wrap (x4 - 1)).toNat < x5.length) then
 (f133_c0
 (x0, x2, x3, IntKind.i64.wrap (x4 - 1),
 x5.set (IntKind.i64.wrap (x4 - 1)).toNat (45), ())).bind
 fun val => some (val.1, ())
 else none
 else none
 else none
 else (f133_c0 (x0, x2, x3, x4, x5, ())).bind fun val => some (val.1, ())
theorem h133_c1 (f133_c0 : HS f133_c0_ins → Option (OTy f133_c0_outs)) (v : HS f133_c1_ins) : aev Γ (fun f => Ae.lookA f []) 0 (subc (code Tryz.f133) [1, 1, 1, 1, 1, 1]) (.cut .nil ⟨f133_c0_ins, f133_c0_outs, f133_c0⟩) (stof f133_c1_ins v) (oout 0 f133_c1_outs) = F133_c1 f133_c0 v := by kernel_rfl
def C133_c1 (v : List UInt8 × Bool × Bool × List UInt8 × Int × List UInt8 × Unit) : Option (List UInt8 × Unit) := F133_c1 C133_c0 v
theorem k133_c1 : FragOk Tryz.prog 0 (fun Q a w => ((subc (code Tryz.f133) [1, 1, 1, 1, 1, 1])).wp Tryz.prog Q a w) ⟨f133_c1_ins, f133_c1_outs, C133_c1⟩ :=
 frag_code (ins := f133_c1_ins) (os := f133_c1_outs) (np := 0) (n := (.cut .nil ⟨f133_c0_ins, f133_c0_outs, C133_c0⟩)) (F := C133_c1) hm hΓ (K := (fun f => Ae.lookA f [])) (kok_nil _)
 (ann_cut (a := (subc (code Tryz.f133) [1, 1, 1, 1, 1, 1, 0])) (b := (subc (code Tryz.f133) [1, 1, 1, 1, 1, 1, 1])) (by kernel_rfl) (ann_nil _) k133_c0) (fun v => h133_c1 C133_c0 v)
def F133_c2 (f161 : Int × Unit → Option (Bool × Unit)) (f162 : Int × Unit → Option (Int × Unit)) (f133_c1 : List UInt8 × Bool × Bool × List UInt8 × Int × List UInt8 × Unit → Option (List UInt8 × Unit)) (f133_l0 : List UInt8 × Int × Bool × Bool × List UInt8 × Int × Int × Int × Int × List UInt8 × Unit → Option (List UInt8 × Int × Bool × Bool × List UInt8 × Int × List UInt8 × Unit)) (f133_l1 : List UInt8 × Int × Bool × Bool × List UInt8 × Int × Int × List UInt8 × Unit → Option (List UInt8 × Int × Bool × Bool × List UInt8 × Int × List UInt8 × Unit)) : List UInt8 × Int × Int × Bool × Bool × List UInt8 × Int × List UInt8 × Unit → Option (List UInt8 × Unit) := fun (x0, x1, x2, x3, x4, x5, x6, x7, _) =>
 (f161 (x2, ())).bind fun val =>
 bif val.1 then
 (f162 (IntKind.u64.wrap x2, ())).bind fun val =>
 (f133_l0
 (x0, x1, x3, x4, x5, x6, IntKind.u64.wrap val.1, IntKind.u64.wrap x2,
 IntKind.u64.wrap (IntKind.u64.wrap x2 - 1), x7, ())).bind
 fun val =>
 bif
 decide (0 ≤ val.2.1) &&
 decide
 (val.2.1 <
 (↑[48, 49, 50, 51, 52, 53, 54, 55, 56, 57, 97, 98, 99, 100, 101, 102, 103, 104, 105, 106, 107, 108,
 109, 110, 111, 112, 113, 114, 115, 116, 117, 118, 119, 120, 121, 122].length :
 Int)) then
 bif decide (List.length val.2.2.2.2.2.2.1 = 65) then
 bif
 decide (0 ≤ IntKind.i64.wrap (val.2.2.2.2.2.1 - 1)) &&
 decide (IntKind.i64.wrap (val.2.2.2.2.2.1 - 1) < (↑65 : Int)) then
 bif
 decide
 ((IntKind.i64.wrap (val.2.2.2.2.2.1 - 1)).toNat <
 List.length val.2.2.2.2.2.2.1) then
 (f133_c1
 (val.1, val.2.2.1, val.2.2.2.1, val.2.2.2.2.1,
 IntKind.i64.wrap (val.2.2.2.2.2.1 - 1),
 List.set val.2.2.2.2.2.2.1
 (IntKind.i64.wrap (val.2.2.2.2.2.1 - 1)).toNat
 (UInt8.ofNat
 (↑(([48, 49, 50, 51, 52, 53, 54, 55, 56, 57, 97, 98, 99, 100, 101, 102, 103, 104, 105, 106,
 107, 108, 109, 110, 111, 112, 113, 114, 115, 116, 117, 118, 119, 120, 121,
 122] : List UInt8).getD
 (Int.toNat val.2.1) 0).toNat :
 Int).toNat),
 ())).bind
 fun val => some (val.1, ())
 else none
 else none
 else none
 else none
 else
 (f133_l1 (x0, x1, x3, x4, x5, x6, IntKind.u64.wrap x2, x7, ())).bind fun val =>
 bif
 decide (0 ≤ val.2.1) &&
 decide
 (val.2.1 <
 (↑[48, 49, 50, 51, 52, 53, 54, 55, 56, 57, 97, 98, 99, 100, 101, 102, 103, 104, 105, 106, 107, 108,
 109, 110, 111, 112, 113, 114, 115, 116, 117, 118, 119, 120, 121, 122].length :
 Int)) then
 bif decide (List.length val.2.2.2.2.2.2.1 = 65) then
 bif
 decide (0 ≤ IntKind.i64.wrap (val.2.2.2.2.2.1 - 1)) &&
 decide (IntKind.i64.wrap (val.2.2.2.2.2.1 - 1) < (↑65 : Int)) then
 bif
 decide
 ((IntKind.i64.wrap (val.2.2.2.2.2.1 - 1)).toNat <
 List.length val.2.2.2.2.2.2.1) then
 (f133_c1
 (val.1, val.2.2.1, val.2.2.2.1, val.2.2.2.2.1,
 IntKind.i64.wrap (val.2.2.2.2.2.1 - 1),
 List.set val.2.2.2.2.2.2.1
 (IntKind.i64.wrap (val.2.2.2.2.2.1 - 1)).toNat
 (UInt8.ofNat
 (↑(([48, 49, 50, 51, 52, 53, 54, 55, 56, 57, 97, 98, 99, 100, 101, 102, 103, 104, 105, 106,
 107, 108, 109, 110, 111, 112, 113, 114, 115, 116, 117, 118, 119, 120, 121,
 122] : List UInt8).getD
 (Int.toNat val.2.1) 0).toNat :
 Int).toNat),
 ())).bind
 fun val => some (val.1, ())
 else none
 else none
 else none
 else none
theorem h133_c2 (f161 : HS f161_ins → Option (OTy f161_outs)) (f162 : HS f162_ins → Option (OTy f162_outs)) (f133_c1 : HS f133_c1_ins → Option (OTy f133_c1_outs)) (f133_l0 : HS f133_l0_ins → Option (OTy f133_l0_outs)) (f133_l1 : HS f133_l1_ins → Option (OTy f133_l1_outs)) (v : HS f133_c2_ins) : aev Γ (fun f => Ae.lookA f [(161, ⟨f161_ins, f161_outs, f161⟩), (162, ⟨f162_ins, f162_outs, f162⟩)]) 0 (subc (code Tryz.f133) [1, 1, 1, 1, 1]) (.cut (.seq .nil (.cond (.seq .nil (.seq .nil (.seq .nil (.seq (.blk (.loop ⟨f133_l0_ins, f133_l0_outs, f133_l0⟩)) .nil)))) (.seq .nil (.seq (.blk (.loop ⟨f133_l1_ins, f133_l1_outs, f133_l1⟩)) .nil)))) ⟨f133_c1_ins, f133_c1_outs, f133_c1⟩) (stof f133_c2_ins v) (oout 0 f133_c2_outs) = F133_c2 f161 f162 f133_c1 f133_l0 f133_l1 v := by kernel_rfl
def C133_c2 (v : List UInt8 × Int × Int × Bool × Bool × List UInt8 × Int × List UInt8 × Unit) : Option (List UInt8 × Unit) := F133_c2 C161 C162 C133_c1 C133_l0 C133_l1 v
theorem k133_c2 : FragOk Tryz.prog 0 (fun Q a w => ((subc (code Tryz.f133) [1, 1, 1, 1, 1])).wp Tryz.prog Q a w) ⟨f133_c2_ins, f133_c2_outs, C133_c2⟩ :=
 frag_code (ins := f133_c2_ins) (os := f133_c2_outs) (np := 0) (n := (.cut (.seq .nil (.cond (.seq .nil (.seq .nil (.seq .nil (.seq (.blk (.loop ⟨f133_l0_ins, f133_l0_outs, C133_l0⟩)) .nil)))) (.seq .nil (.seq (.blk (.loop ⟨f133_l1_ins, f133_l1_outs, C133_l1⟩)) .nil)))) ⟨f133_c1_ins, f133_c1_outs, C133_c1⟩)) (F := C133_c2) hm hΓ (K := (fun f => Ae.lookA f [(161, ⟨f161_ins, f161_outs, C161⟩), (162, ⟨f162_ins, f162_outs, C162⟩)])) (kok_cons ok161 (kok_cons ok162 (kok_nil _)))
 (ann_cut (a := (subc (code Tryz.f133) [1, 1, 1, 1, 1, 0])) (b := (subc (code Tryz.f133) [1, 1, 1, 1, 1, 1])) (by kernel_rfl) (ann_seq (a := (subc (code Tryz.f133) [1, 1, 1, 1, 1, 0, 0])) (b := (subc (code Tryz.f133) [1, 1, 1, 1, 1, 0, 1])) (by kernel_rfl) (ann_nil _) (ann_cond (x := (subc (code Tryz.f133) [1, 1, 1, 1, 1, 0, 1, 0])) (y := (subc (code Tryz.f133) [1, 1, 1, 1, 1, 0, 1, 1])) (by kernel_rfl) (ann_seq (a := (subc (code Tryz.f133) [1, 1, 1, 1, 1, 0, 1, 0, 0])) (b := (subc (code Tryz.f133) [1, 1, 1, 1, 1, 0, 1, 0, 1])) (by kernel_rfl) (ann_nil _) (ann_seq (a := (subc (code Tryz.f133) [1, 1, 1, 1, 1, 0, 1, 0, 1, 0])) (b := (subc (code Tryz.f133) [1, 1, 1, 1, 1, 0, 1, 0, 1, 1])) (by kernel_rfl) (ann_nil _) (ann_seq (a := (subc (code Tryz.f133) [1, 1, 1, 1, 1, 0, 1, 0, 1, 1, 0])) (b := (subc (code Tryz.f133) [1, 1, 1, 1, 1, 0, 1, 0, 1, 1, 1])) (by kernel_rfl) (ann_nil _) (ann_seq (a := (subc (code Tryz.f133) [1, 1, 1, 1, 1, 0, 1, 0, 1, 1, 1, 0])) (b := (subc (code Tryz.f133) [1, 1, 1, 1, 1, 0, 1, 0, 1, 1, 1, 1])) (by kernel_rfl) (ann_blk (x := (subc (code Tryz.f133) [1, 1, 1, 1, 1, 0, 1, 0, 1, 1, 1, 0, 0])) (by kernel_rfl) (ann_loop (x := (subc (code Tryz.f133) [1, 1, 1, 1, 1, 0, 1, 0, 1, 1, 1, 0, 0, 0])) (by kernel_rfl) k133_l0)) (ann_nil _))))) (ann_seq (a := (subc (code Tryz.f133) [1, 1, 1, 1, 1, 0, 1, 1, 0])) (b := (subc (code Tryz.f133) [1, 1, 1, 1, 1, 0, 1, 1, 1])) (by kernel_rfl) (ann_nil _) (ann_seq (a := (subc (code Tryz.f133) [1, 1, 1, 1, 1, 0, 1, 1, 1, 0])) (b := (subc (code Tryz.f133) [1, 1, 1, 1, 1, 0, 1, 1, 1, 1])) (by kernel_rfl) (ann_blk (x := (subc (code Tryz.f133) [1, 1, 1, 1, 1, 0, 1, 1, 1, 0, 0])) (by kernel_rfl) (ann_loop (x := (subc (code Tryz.f133) [1, 1, 1, 1, 1, 0, 1, 1, 1, 0, 0, 0])) (by kernel_rfl) k133_l1)) (ann_nil _))))) k133_c1) (fun v => h133_c2 C161 C162 C133_c1 C133_l0 C133_l1 v)
def F133 (f133_c2 : List UInt8 × Int × Int × Bool × Bool × List UInt8 × Int × List UInt8 × Unit → Option (List UInt8 × Unit)) : List UInt8 × Int × Int × Bool × Bool × Unit → Option (List UInt8 × List UInt8 × Unit) := fun (x0, x1, x2, x3, x4, _) =>
 bif decide (x2 < 2) then none
 else
 bif x2 == 10 then none
 else
 bif decide (x2 > 36) then none
 else
 bif x3 then
 (f133_c2
 (x0, IntKind.u64.wrap (0 - x1), x2, x3, x4, [], 65,
 [0, 0, 0,
 0, 0, 0,
 0, 0, 0,
 0, 0, 0,
 0, 0, 0,
 0, 0, 0,
 0, 0, 0,
 0, 0, 0,
 0, 0, 0,
 0, 0, 0,
 0, 0, 0,
 0, 0, 0,
 0, 0, 0,
 0, 0, 0,
 0, 0, 0,
 0, 0, 0,
 0, 0, 0,
 0, 0, 0,
 0, 0, 0,
 0, 0, 0,
 0, 0, 0,
 0, 0],
 ())).bind
 fun val => some ([], val.1, ())
 else
 (f133_c2
 (x0, x1, x2, x3, x4, [], 65,
 [0, 0, 0,
 0, 0, 0,
 0, 0, 0,
 0, 0, 0,
 0, 0, 0,
 0, 0, 0,
 0, 0, 0,
 0, 0, 0,
 0, 0, 0,
 0, 0, 0,
 0, 0, 0,
 0, 0, 0,
 0, 0, 0,
 0, 0, 0,
 0, 0, 0,
 0, 0, 0,
 0, 0, 0,
 0, 0, 0,
 0, 0, 0,
 0, 0, 0,
 0, 0, 0,
 0, 0],
 ())).bind
 fun val => some ([], val.1, ())
theorem h133 (f133_c2 : HS f133_c2_ins → Option (OTy f133_c2_outs)) (v : HS f133_ins) : afun Γ (fun f => Ae.lookA f []) 0 Tryz.f133.ntmps Tryz.f133.results.toList (code Tryz.f133) (.seq .nil (.seq .nil (.seq .nil (.seq .nil (.cut .nil ⟨f133_c2_ins, f133_c2_outs, f133_c2⟩))))) (em id f133_ins v).1 (em id f133_ins v).2 (ofin 0 f133_outs) = F133 f133_c2 v := by kernel_rfl
def C133 (v : List UInt8 × Int × Int × Bool × Bool × Unit) : Option (List UInt8 × List UInt8 × Unit) := F133 C133_c2 v
theorem ok133 : FnOk Tryz.prog 133 ⟨f133_ins, f133_outs, C133⟩ :=
 fn_ok (np := 0) (n := (.seq .nil (.seq .nil (.seq .nil (.seq .nil (.cut .nil ⟨f133_c2_ins, f133_c2_outs, C133_c2⟩)))))) hm hΓ (K := (fun f => Ae.lookA f [])) (kok_nil _) Tryz.func133 (c := code Tryz.f133) (by kernel_rfl) (name_ne (by kernel_rfl))
 (ann_seq (a := (subc (code Tryz.f133) [0])) (b := (subc (code Tryz.f133) [1])) (by kernel_rfl) (ann_nil _) (ann_seq (a := (subc (code Tryz.f133) [1, 0])) (b := (subc (code Tryz.f133) [1, 1])) (by kernel_rfl) (ann_nil _) (ann_seq (a := (subc (code Tryz.f133) [1, 1, 0])) (b := (subc (code Tryz.f133) [1, 1, 1])) (by kernel_rfl) (ann_nil _) (ann_seq (a := (subc (code Tryz.f133) [1, 1, 1, 0])) (b := (subc (code Tryz.f133) [1, 1, 1, 1])) (by kernel_rfl) (ann_nil _) (ann_cut (a := (subc (code Tryz.f133) [1, 1, 1, 1, 0])) (b := (subc (code Tryz.f133) [1, 1, 1, 1, 1])) (by kernel_rfl) (ann_nil _) k133_c2))))) (fun v => Nat.le_of_ble_eq_true (by kernel_rfl)) (fun v => h133 C133_c2 v)
def F97_c0  : Int × Int × List UInt8 × Unit → Option (Empty) := fun (x0, x1, x2, _) =>
 none
theorem h97_c0  (v : HS f97_c0_ins) : aev Γ (fun f => Ae.lookA f []) 0 (subc (code Tryz.f97) [1, 0, 1, 0, 1, 1, 1, 1]) .nil (stof f97_c0_ins v) (oout 0 f97_c0_outs) = F97_c0 v := by kernel_rfl
def C97_c0 (v : Int × Int × List UInt8 × Unit) : Option (Empty) := F97_c0 v
theorem k97_c0 : FragOk Tryz.prog 0 (fun Q a w => ((subc (code Tryz.f97) [1, 0, 1, 0, 1, 1, 1, 1])).wp Tryz.prog Q a w) ⟨f97_c0_ins, f97_c0_outs, C97_c0⟩ :=
 frag_code (ins := f97_c0_ins) (os := f97_c0_outs) (np := 0) (n := .nil) (F := C97_c0) hm hΓ (K := (fun f => Ae.lookA f [])) (kok_nil _)
 (ann_nil _) (fun v => h97_c0 v)
def F97 (f130 : Int × Unit → Option (List UInt8 × Unit)) (f133 : List UInt8 × Int × Int × Bool × Bool × Unit → Option (List UInt8 × List UInt8 × Unit)) (f97_c0 : Int × Int × List UInt8 × Unit → Option (Empty)) : Int × Int × Unit → Option (List UInt8 × Unit) := fun (x0, x1, _) =>
 bif x1 == 10 then
 bif decide (0 ≤ x0) then
 bif decide (x0 < 100) then (f130 (x0, ())).bind fun val => some (val.1, ())
 else
 bif decide (x0 < 0) then
 (f97_c0
 (x0, IntKind.u64.wrap (0 - IntKind.u64.wrap x0),
 [0, 0, 0,
 0, 0, 0,
 0, 0, 0,
 0, 0, 0,
 0, 0, 0,
 0, 0, 0,
 0, 0, 0,
 0, 0, 0],
 ())).bind
 fun val => none
 else
 (f97_c0
 (x0, IntKind.u64.wrap x0,
 [0, 0, 0,
 0, 0, 0,
 0, 0, 0,
 0, 0, 0,
 0, 0, 0,
 0, 0, 0,
 0, 0, 0,
 0, 0, 0],
 ())).bind
 fun val => none
 else
 bif decide (x0 < 0) then
 (f97_c0
 (x0, IntKind.u64.wrap (0 - IntKind.u64.wrap x0),
 [0, 0, 0,
 0, 0, 0,
 0, 0, 0,
 0, 0, 0,
 0, 0, 0,
 0, 0, 0,
 0, 0, 0,
 0, 0, 0],
 ())).bind
 fun val => none
 else
 (f97_c0
 (x0, IntKind.u64.wrap x0,
 [0, 0, 0,
 0, 0, 0,
 0, 0, 0,
 0, 0, 0,
 0, 0, 0,
 0, 0, 0,
 0, 0, 0,
 0, 0, 0],
 ())).bind
 fun val => none
 else (f133 ([], IntKind.u64.wrap x0, x1, decide (x0 < 0), false, ())).bind fun val => some (val.2.1, ())
theorem h97 (f130 : HS f130_ins → Option (OTy f130_outs)) (f133 : HS f133_ins → Option (OTy f133_outs)) (f97_c0 : HS f97_c0_ins → Option (OTy f97_c0_outs)) (v : HS f97_ins) : afun Γ (fun f => Ae.lookA f [(130, ⟨f130_ins, f130_outs, f130⟩), (133, ⟨f133_ins, f133_outs, f133⟩)]) 0 Tryz.f97.ntmps Tryz.f97.results.toList (code Tryz.f97) (.seq .nil (.seq (.seq .nil (.cond (.seq .nil (.seq .nil (.seq .nil (.cut .nil ⟨f97_c0_ins, f97_c0_outs, f97_c0⟩)))) .nil)) .nil)) (em id f97_ins v).1 (em id f97_ins v).2 (ofin 0 f97_outs) = F97 f130 f133 f97_c0 v := by kernel_rfl
def C97 (v : Int × Int × Unit) : Option (List UInt8 × Unit) := F97 C130 C133 C97_c0 v
theorem ok97 : FnOk Tryz.prog 97 ⟨f97_ins, f97_outs, C97⟩ :=
 fn_ok (np := 0) (n := (.seq .nil (.seq (.seq .nil (.cond (.seq .nil (.seq .nil (.seq .nil (.cut .nil ⟨f97_c0_ins, f97_c0_outs, C97_c0⟩)))) .nil)) .nil))) hm hΓ (K := (fun f => Ae.lookA f [(130, ⟨f130_ins, f130_outs, C130⟩), (133, ⟨f133_ins, f133_outs, C133⟩)])) (kok_cons ok130 (kok_cons ok133 (kok_nil _))) Tryz.func97 (c := code Tryz.f97) (by kernel_rfl) (name_ne (by kernel_rfl))
 (ann_seq (a := (subc (code Tryz.f97) [0])) (b := (subc (code Tryz.f97) [1])) (by kernel_rfl) (ann_nil _) (ann_seq (a := (subc (code Tryz.f97) [1, 0])) (b := (subc (code Tryz.f97) [1, 1])) (by kernel_rfl) (ann_seq (a := (subc (code Tryz.f97) [1, 0, 0])) (b := (subc (code Tryz.f97) [1, 0, 1])) (by kernel_rfl) (ann_nil _) (ann_cond (x := (subc (code Tryz.f97) [1, 0, 1, 0])) (y := (subc (code Tryz.f97) [1, 0, 1, 1])) (by kernel_rfl) (ann_seq (a := (subc (code Tryz.f97) [1, 0, 1, 0, 0])) (b := (subc (code Tryz.f97) [1, 0, 1, 0, 1])) (by kernel_rfl) (ann_nil _) (ann_seq (a := (subc (code Tryz.f97) [1, 0, 1, 0, 1, 0])) (b := (subc (code Tryz.f97) [1, 0, 1, 0, 1, 1])) (by kernel_rfl) (ann_nil _) (ann_seq (a := (subc (code Tryz.f97) [1, 0, 1, 0, 1, 1, 0])) (b := (subc (code Tryz.f97) [1, 0, 1, 0, 1, 1, 1])) (by kernel_rfl) (ann_nil _) (ann_cut (a := (subc (code Tryz.f97) [1, 0, 1, 0, 1, 1, 1, 0])) (b := (subc (code Tryz.f97) [1, 0, 1, 0, 1, 1, 1, 1])) (by kernel_rfl) (ann_nil _) k97_c0)))) (ann_nil _))) (ann_nil _))) (fun v => Nat.le_of_ble_eq_true (by kernel_rfl)) (fun v => h97 C130 C133 C97_c0 v)
def F68 (f97 : Int × Int × Unit → Option (List UInt8 × Unit)) : Int × Int × Unit → Option (List UInt8 × Unit) := fun (x0, x1, _) =>
 (f97 (x0, x1, ())).bind fun val => some (val.1, ())
theorem h68 (f97 : HS f97_ins → Option (OTy f97_outs)) (v : HS f68_ins) : afun Γ (fun f => Ae.lookA f [(97, ⟨f97_ins, f97_outs, f97⟩)]) 0 Tryz.f68.ntmps Tryz.f68.results.toList (code Tryz.f68) .nil (em id f68_ins v).1 (em id f68_ins v).2 (ofin 0 f68_outs) = F68 f97 v := by kernel_rfl
def C68 (v : Int × Int × Unit) : Option (List UInt8 × Unit) := F68 C97 v
theorem ok68 : FnOk Tryz.prog 68 ⟨f68_ins, f68_outs, C68⟩ :=
 fn_ok (np := 0) (n := .nil) hm hΓ (K := (fun f => Ae.lookA f [(97, ⟨f97_ins, f97_outs, C97⟩)])) (kok_cons ok97 (kok_nil _)) Tryz.func68 (c := code Tryz.f68) (by kernel_rfl) (name_ne (by kernel_rfl))
 (ann_nil _) (fun v => Nat.le_of_ble_eq_true (by kernel_rfl)) (fun v => h68 C97 v)
def F34 (f67 : List UInt8 × Unit → Option (List UInt8 × Unit)) (f68 : Int × Int × Unit → Option (List UInt8 × Unit)) : Int × Unit → Option (List UInt8 × Unit) := fun (x0, _) =>
 (f68 (x0, 16, ())).bind fun val => (f67 (val.1, ())).bind fun val => some (val.1, ())
theorem h34 (f67 : HS f67_ins → Option (OTy f67_outs)) (f68 : HS f68_ins → Option (OTy f68_outs)) (v : HS f34_ins) : afun Γ (fun f => Ae.lookA f [(67, ⟨f67_ins, f67_outs, f67⟩), (68, ⟨f68_ins, f68_outs, f68⟩)]) 0 Tryz.f34.ntmps Tryz.f34.results.toList (code Tryz.f34) .nil (em id f34_ins v).1 (em id f34_ins v).2 (ofin 0 f34_outs) = F34 f67 f68 v := by kernel_rfl
def C34 (v : Int × Unit) : Option (List UInt8 × Unit) := F34 C67 C68 v
theorem ok34 : FnOk Tryz.prog 34 ⟨f34_ins, f34_outs, C34⟩ :=
 fn_ok (np := 0) (n := .nil) hm hΓ (K := (fun f => Ae.lookA f [(67, ⟨f67_ins, f67_outs, C67⟩), (68, ⟨f68_ins, f68_outs, C68⟩)])) (kok_cons ok67 (kok_cons ok68 (kok_nil _))) Tryz.func34 (c := code Tryz.f34) (by kernel_rfl) (name_ne (by kernel_rfl))
 (ann_nil _) (fun v => Nat.le_of_ble_eq_true (by kernel_rfl)) (fun v => h34 C67 C68 v)
def F27 (f24 : Int × Unit → Option (Bool × Unit)) (f34 : Int × Unit → Option (List UInt8 × Unit)) (f63 : List UInt8 × Int × Int × Unit → Option ((Int × Unit) ⊕ (Int × Unit))) : List UInt8 × Unit → Option (Int × Unit) := fun (x0, _) =>
 (f63 (x0, 16, 32, ())).bind fun val =>
 Sum.elim (fun val => some (-1, ()))
 (fun val =>
 bif decide ((↑x0.length : Int) > 6) then some (-1, ())
 else
 (f34 (val.1, ())).bind fun val_1 =>
 bif !val_1.1 == x0 then some (-1, ())
 else
 (f24 (IntKind.i32.wrap val.1, ())).bind fun val_2 =>
 bif val_2.1 then some (-1, ()) else some (IntKind.i32.wrap val.1, ()))
 val
theorem h27 (f24 : HS f24_ins → Option (OTy f24_outs)) (f34 : HS f34_ins → Option (OTy f34_outs)) (f63 : HS f63_ins → Option (OTy f63_outs)) (v : HS f27_ins) : afun Γ (fun f => Ae.lookA f [(24, ⟨f24_ins, f24_outs, f24⟩), (34, ⟨f34_ins, f34_outs, f34⟩), (63, ⟨f63_ins, f63_outs, f63⟩)]) 0 Tryz.f27.ntmps Tryz.f27.results.toList (code Tryz.f27) .nil (em id f27_ins v).1 (em id f27_ins v).2 (ofin 0 f27_outs) = F27 f24 f34 f63 v := by kernel_rfl
def C27 (v : List UInt8 × Unit) : Option (Int × Unit) := F27 C24 C34 C63 v
theorem ok27 : FnOk Tryz.prog 27 ⟨f27_ins, f27_outs, C27⟩ :=
 fn_ok (np := 0) (n := .nil) hm hΓ (K := (fun f => Ae.lookA f [(24, ⟨f24_ins, f24_outs, C24⟩), (34, ⟨f34_ins, f34_outs, C34⟩), (63, ⟨f63_ins, f63_outs, C63⟩)])) (kok_cons ok24 (kok_cons ok34 (kok_cons ok63 (kok_nil _)))) Tryz.func27 (c := code Tryz.f27) (by kernel_rfl) (name_ne (by kernel_rfl))
 (ann_nil _) (fun v => Nat.le_of_ble_eq_true (by kernel_rfl)) (fun v => h27 C24 C34 C63 v)
def F85  : Int × Unit → Option (Bool × Unit) := fun (x0, _) =>
 bif decide (x0 ≥ 0) then
 bif decide (x0 ≤ 1114111) then
 bif decide (x0 ≥ 55296) then some (bif decide (x0 ≤ 57343) then false else true, ())
 else some (!false, ())
 else some (false, ())
 else some (false, ())
theorem h85  (v : HS f85_ins) : afun Γ (fun f => Ae.lookA f []) 0 Tryz.f85.ntmps Tryz.f85.results.toList (code Tryz.f85) .nil (em id f85_ins v).1 (em id f85_ins v).2 (ofin 0 f85_outs) = F85 v := by kernel_rfl
def C85 (v : Int × Unit) : Option (Bool × Unit) := F85 v
theorem ok85 : FnOk Tryz.prog 85 ⟨f85_ins, f85_outs, C85⟩ :=
 fn_ok (np := 0) (n := .nil) hm hΓ (K := (fun f => Ae.lookA f [])) (kok_nil _) Tryz.func85 (c := code Tryz.f85) (by kernel_rfl) (name_ne (by kernel_rfl))
 (ann_nil _) (fun v => Nat.le_of_ble_eq_true (by kernel_rfl)) (fun v => h85 v)
def F58 (f85 : Int × Unit → Option (Bool × Unit)) : Int × Unit → Option (Int × Unit) := fun (x0, _) =>
 (f85 (x0, ())).bind fun val =>
 bif !val.1 then some (0, ())
 else
 bif decide (x0 ≤ 127) then some (1, ())
 else
 bif decide (x0 ≤ 2047) then some (2, ())
 else bif decide (x0 ≤ 65535) then some (3, ()) else some (4, ())
theorem h58 (f85 : HS f85_ins → Option (OTy f85_outs)) (v : HS f58_ins) : afun Γ (fun f => Ae.lookA f [(85, ⟨f85_ins, f85_outs, f85⟩)]) 0 Tryz.f58.ntmps Tryz.f58.results.toList (code Tryz.f58) .nil (em id f58_ins v).1 (em id f58_ins v).2 (ofin 0 f58_outs) = F58 f85 v := by kernel_rfl
def C58 (v : Int × Unit) : Option (Int × Unit) := F58 C85 v
theorem ok58 : FnOk Tryz.prog 58 ⟨f58_ins, f58_outs, C58⟩ :=
 fn_ok (np := 0) (n := .nil) hm hΓ (K := (fun f => Ae.lookA f [(85, ⟨f85_ins, f85_outs, C85⟩)])) (kok_cons ok85 (kok_nil _)) Tryz.func58 (c := code Tryz.f58) (by kernel_rfl) (name_ne (by kernel_rfl))
 (ann_nil _) (fun v => Nat.le_of_ble_eq_true (by kernel_rfl)) (fun v => h58 C85 v)
def F28_l0 (f58 : Int × Unit → Option (Int × Unit)) : List (Int) × Int × Int × List UInt8 × Unit → Option ((List (Int) × Int × Int × List UInt8 × Unit) ⊕ ((List UInt8 × Unit) ⊕ (List UInt8 × Bool × Unit))) := fun (x0, x1, x2, x3, _) =>
 bif decide (x2 < x1) then
 bif decide (0 ≤ x2) && decide (x2 < (↑x0.length : Int)) then
 (f58 (x0.getD x2.toNat 0, ())).bind fun val =>
 bif val.1 == 0 then some (Sum.inr (Sum.inr ([], false, ())))
 else
 bif val.1 == 1 then
 bif
 decide
 (x3.length + [UInt8.ofNat (IntKind.u8.wrap (x0.getD x2.toNat 0)).toNat].length ≤
 140737488355328 / 1) then
 some
 (Sum.inl
 (x0, x1, IntKind.i64.wrap (x2 + 1),
 x3 ++ [UInt8.ofNat (IntKind.u8.wrap (x0.getD x2.toNat 0)).toNat], ()))
 else none
 else
 bif val.1 == 2 then
 bif
 decide
 (x3.length +
 [UInt8.ofNat
 (intBits BinOp.or IntKind.u8 192
 (IntKind.u8.wrap
 (Int.fdiv (x0.getD x2.toNat 0)
 (2 ^ min 6 IntKind.i32.bits)))).toNat,
 UInt8.ofNat
 (intBits BinOp.or IntKind.u8 128
 (IntKind.u8.wrap
 (intBits BinOp.and IntKind.i32 (x0.getD x2.toNat 0)
 63))).toNat].length ≤
 140737488355328 / 1) then
 some
 (Sum.inl
 (x0, x1, IntKind.i64.wrap (x2 + 1),
 x3 ++
 [UInt8.ofNat
 (intBits BinOp.or IntKind.u8 192
 (IntKind.u8.wrap
 (Int.fdiv (x0.getD x2.toNat 0)
 (2 ^ min 6 IntKind.i32.bits)))).toNat,
 UInt8.ofNat
 (intBits BinOp.or IntKind.u8 128
 (IntKind.u8.wrap
 (intBits BinOp.and IntKind.i32 (x0.getD x2.toNat 0)
 63))).toNat],
 ()))
 else none
 else
 bif val.1 == 3 then
 bif
 decide
 (x3.length +
 [UInt8.ofNat
 (intBits BinOp.or IntKind.u8 224
 (IntKind.u8.wrap
 (Int.fdiv (x0.getD x2.toNat 0)
 (2 ^ min 12 IntKind.i32.bits)))).toNat,
 UInt8.ofNat
 (intBits BinOp.or IntKind.u8 128
 (IntKind.u8.wrap
 (intBits BinOp.and IntKind.i32
 (Int.fdiv (x0.getD x2.toNat 0)
 (2 ^ min 6 IntKind.i32.bits))
 63))).toNat,
 UInt8.ofNat
 (intBits BinOp.or IntKind.u8 128
 (IntKind.u8.wrap
 (intBits BinOp.and IntKind.i32 (x0.getD x2.toNat 0)
 63))).toNat].length ≤
 140737488355328 / 1) then
 some
 (Sum.inl
 (x0, x1, IntKind.i64.wrap (x2 + 1),
 x3 ++
 [UInt8.ofNat
 (intBits BinOp.or IntKind.u8 224
 (IntKind.u8.wrap
 (Int.fdiv (x0.getD x2.toNat 0)
 (2 ^ min 12 IntKind.i32.bits)))).toNat,
 UInt8.ofNat
 (intBits BinOp.or IntKind.u8 128
 (IntKind.u8.wrap
 (intBits BinOp.and IntKind.i32
 (Int.fdiv (x0.getD x2.toNat 0)
 (2 ^ min 6 IntKind.i32.bits))
 63))).toNat,
 UInt8.ofNat
 (intBits BinOp.or IntKind.u8 128
 (IntKind.u8.wrap
 (intBits BinOp.and IntKind.i32 (x0.getD x2.toNat 0)
 63))).toNat],
 ()))
 else none
 else
 bif val.1 == 4 then
 bif
 decide
 (x3.length +
 [UInt8.ofNat
 (intBits BinOp.or IntKind.u8 240
 (IntKind.u8.wrap
 (Int.fdiv (x0.getD x2.toNat 0)
 (2 ^ min 18 IntKind.i32.bits)))).toNat,
 UInt8.ofNat
 (intBits BinOp.or IntKind.u8 128
 (IntKind.u8.wrap
 (intBits BinOp.and IntKind.i32
 (Int.fdiv (x0.getD x2.toNat 0)
 (2 ^ min 12 IntKind.i32.bits))
 63))).toNat,
 UInt8.ofNat
 (intBits BinOp.or IntKind.u8 128
 (IntKind.u8.wrap
 (intBits BinOp.and IntKind.i32
 (Int.fdiv (x0.getD x2.toNat 0)
 (2 ^ min 6 IntKind.i32.bits))
 63))).toNat,
 UInt8.ofNat
 (intBits BinOp.or IntKind.u8 128
 (IntKind.u8.wrap
 (intBits BinOp.and IntKind.i32 (x0.getD x2.toNat 0)
 63))).toNat].length ≤
 140737488355328 / 1) then
 some
 (Sum.inl
 (x0, x1, IntKind.i64.wrap (x2 + 1),
 x3 ++
 [UInt8.ofNat
 (intBits BinOp.or IntKind.u8 240
 (IntKind.u8.wrap
 (Int.fdiv (x0.getD x2.toNat 0)
 (2 ^ min 18 IntKind.i32.bits)))).toNat,
 UInt8.ofNat
 (intBits BinOp.or IntKind.u8 128
 (IntKind.u8.wrap
 (intBits BinOp.and IntKind.i32
 (Int.fdiv (x0.getD x2.toNat 0)
 (2 ^ min 12 IntKind.i32.bits))
 63))).toNat,
 UInt8.ofNat
 (intBits BinOp.or IntKind.u8 128
 (IntKind.u8.wrap
 (intBits BinOp.and IntKind.i32
 (Int.fdiv (x0.getD x2.toNat 0)
 (2 ^ min 6 IntKind.i32.bits))
 63))).toNat,
 UInt8.ofNat
 (intBits BinOp.or IntKind.u8 128
 (IntKind.u8.wrap
 (intBits BinOp.and IntKind.i32 (x0.getD x2.toNat 0)
 63))).toNat],
 ()))
 else none
 else some (Sum.inl (x0, x1, IntKind.i64.wrap (x2 + 1), x3, ()))
 else none
 else some (Sum.inr (Sum.inl (x3, ())))
theorem h28_l0 (f58 : HS f58_ins → Option (OTy f58_outs)) (v : HS f28_l0_ins) : aev Γ (fun f => Ae.lookA f [(58, ⟨f58_ins, f58_outs, f58⟩)]) 0 (subc (code Tryz.f28) [1, 1, 0, 1, 0, 0]) .nil (stof f28_l0_ins v) (around 0 f28_l0_ins f28_l0_outs) = F28_l0 f58 v := by kernel_rfl
def C28_l0 (v : List (Int) × Int × Int × List UInt8 × Unit) : Option ((List UInt8 × Unit) ⊕ (List UInt8 × Bool × Unit)) := loopN (F28_l0 C58) big v
theorem k28_l0 : FragOk Tryz.prog 0 (fun Q a w => (Code.loop (subc (code Tryz.f28) [1, 1, 0, 1, 0, 0])).wp Tryz.prog Q a w) ⟨f28_l0_ins, f28_l0_outs, C28_l0⟩ :=
 frag_loop (ins := f28_l0_ins) (os := f28_l0_outs) (np := 0) (n := .nil) (F := F28_l0 C58) hm hΓ (K := (fun f => Ae.lookA f [(58, ⟨f58_ins, f58_outs, C58⟩)])) (kok_cons ok58 (kok_nil _)) (fun _ => big)
 (ann_nil _) (fun v => h28_l0 C58 v)
def F28 (f28_l0 : List (Int) × Int × Int × List UInt8 × Unit → Option ((List UInt8 × Unit) ⊕ (List UInt8 × Bool × Unit))) : List (Int) × Unit → Option (List UInt8 × Bool × Unit) := fun (x0, _) =>
 (f28_l0 (x0, (↑x0.length : Int), 0, [], ())).bind fun val =>
 Sum.elim (fun val => some (val.1, true, ())) (fun val => some (val.1, val.2.1, ())) val
theorem h28 (f28_l0 : HS f28_l0_ins → Option (OTy f28_l0_outs)) (v : HS f28_ins) : afun Γ (fun f => Ae.lookA f []) 0 Tryz.f28.ntmps Tryz.f28.results.toList (code Tryz.f28) (.seq .nil (.seq .nil (.seq (.seq .nil (.blk (.loop ⟨f28_l0_ins, f28_l0_outs, f28_l0⟩))) .nil))) (em id f28_ins v).1 (em id f28_ins v).2 (ofin 0 f28_outs) = F28 f28_l0 v := by kernel_rfl
def C28 (v : List (Int) × Unit) : Option (List UInt8 × Bool × Unit) := F28 C28_l0 v
theorem ok28 : FnOk Tryz.prog 28 ⟨f28_ins, f28_outs, C28⟩ :=
 fn_ok (np := 0) (n := (.seq .nil (.seq .nil (.seq (.seq .nil (.blk (.loop ⟨f28_l0_ins, f28_l0_outs, C28_l0⟩))) .nil)))) hm hΓ (K := (fun f => Ae.lookA f [])) (kok_nil _) Tryz.func28 (c := code Tryz.f28) (by kernel_rfl) (name_ne (by kernel_rfl))
 (ann_seq (a := (subc (code Tryz.f28) [0])) (b := (subc (code Tryz.f28) [1])) (by kernel_rfl) (ann_nil _) (ann_seq (a := (subc (code Tryz.f28) [1, 0])) (b := (subc (code Tryz.f28) [1, 1])) (by kernel_rfl) (ann_nil _) (ann_seq (a := (subc (code Tryz.f28) [1, 1, 0])) (b := (subc (code Tryz.f28) [1, 1, 1])) (by kernel_rfl) (ann_seq (a := (subc (code Tryz.f28) [1, 1, 0, 0])) (b := (subc (code Tryz.f28) [1, 1, 0, 1])) (by kernel_rfl) (ann_nil _) (ann_blk (x := (subc (code Tryz.f28) [1, 1, 0, 1, 0])) (by kernel_rfl) (ann_loop (x := (subc (code Tryz.f28) [1, 1, 0, 1, 0, 0])) (by kernel_rfl) k28_l0))) (ann_nil _)))) (fun v => Nat.le_of_ble_eq_true (by kernel_rfl)) (fun v => h28 C28_l0 v)
def F9_l0 (f24 : Int × Unit → Option (Bool × Unit)) (f25 : List UInt8 × List UInt8 × Unit → Option (List UInt8 × Bool × Unit)) (f26 : List UInt8 × List UInt8 × Unit → Option (List UInt8 × List UInt8 × Bool × Unit)) (f27 : List UInt8 × Unit → Option (Int × Unit)) : List UInt8 × List (Int) × Unit → Option ((List UInt8 × List (Int) × Unit) ⊕ ((List (Int) × Unit) ⊕ (List UInt8 × Bool × Unit))) := fun (x0, x1, _) =>
 bif !x0 == [] then
 bif decide (0 < (↑x0.length : Int)) then
 (f24 (IntKind.i32.wrap (↑(x0.getD 0 0).toNat : Int), ())).bind fun val =>
 bif val.1 then
 bif decide (0 < (↑x0.length : Int)) then
 bif
 decide
 (x1.length + [IntKind.i32.wrap (↑(x0.getD 0 0).toNat : Int)].length ≤
 140737488355328 / 4) then
 bif decide (1 ≤ (↑x0.length : Int)) then
 some
 (Sum.inl
 (List.drop 1 x0, x1 ++ [IntKind.i32.wrap (↑(x0.getD 0 0).toNat : Int)],
 ()))
 else none
 else none
 else none
 else
 (f25 (x0, [92, 120, 123], ())).bind fun val =>
 (f26 (val.1, [125], ())).bind fun val_1 =>
 (f27 (val_1.1, ())).bind fun val_2 =>
 bif !val.2.1 then some (Sum.inr (Sum.inr ([], false, ())))
 else
 bif !val_1.2.2.1 then some (Sum.inr (Sum.inr ([], false, ())))
 else
 bif decide (val_2.1 < 0) then some (Sum.inr (Sum.inr ([], false, ())))
 else
 bif decide (x1.length + [val_2.1].length ≤ 140737488355328 / 4) then
 some (Sum.inl (val_1.2.1, x1 ++ [val_2.1], ()))
 else none
 else none
 else some (Sum.inr (Sum.inl (x1, ())))
theorem h9_l0 (f24 : HS f24_ins → Option (OTy f24_outs)) (f25 : HS f25_ins → Option (OTy f25_outs)) (f26 : HS f26_ins → Option (OTy f26_outs)) (f27 : HS f27_ins → Option (OTy f27_outs)) (v : HS f9_l0_ins) : aev Γ (fun f => Ae.lookA f [(24, ⟨f24_ins, f24_outs, f24⟩), (25, ⟨f25_ins, f25_outs, f25⟩), (26, ⟨f26_ins, f26_outs, f26⟩), (27, ⟨f27_ins, f27_outs, f27⟩)]) 0 (subc (code Tryz.f9) [1, 1, 0, 0, 0]) .nil (stof f9_l0_ins v) (around 0 f9_l0_ins f9_l0_outs) = F9_l0 f24 f25 f26 f27 v := by kernel_rfl
def C9_l0 (v : List UInt8 × List (Int) × Unit) : Option ((List (Int) × Unit) ⊕ (List UInt8 × Bool × Unit)) := loopN (F9_l0 C24 C25 C26 C27) big v
theorem k9_l0 : FragOk Tryz.prog 0 (fun Q a w => (Code.loop (subc (code Tryz.f9) [1, 1, 0, 0, 0])).wp Tryz.prog Q a w) ⟨f9_l0_ins, f9_l0_outs, C9_l0⟩ :=
 frag_loop (ins := f9_l0_ins) (os := f9_l0_outs) (np := 0) (n := .nil) (F := F9_l0 C24 C25 C26 C27) hm hΓ (K := (fun f => Ae.lookA f [(24, ⟨f24_ins, f24_outs, C24⟩), (25, ⟨f25_ins, f25_outs, C25⟩), (26, ⟨f26_ins, f26_outs, C26⟩), (27, ⟨f27_ins, f27_outs, C27⟩)])) (kok_cons ok24 (kok_cons ok25 (kok_cons ok26 (kok_cons ok27 (kok_nil _))))) (fun _ => big)
 (ann_nil _) (fun v => h9_l0 C24 C25 C26 C27 v)
def F9 (f28 : List (Int) × Unit → Option (List UInt8 × Bool × Unit)) (f9_l0 : List UInt8 × List (Int) × Unit → Option ((List (Int) × Unit) ⊕ (List UInt8 × Bool × Unit))) : List UInt8 × Unit → Option (List UInt8 × Bool × Unit) := fun (x0, _) =>
 (f9_l0 (x0, [], ())).bind fun val =>
 Sum.elim (fun val => (f28 (val.1, ())).bind fun val => some (val.1, val.2.1, ()))
 (fun val => some (val.1, val.2.1, ())) val
theorem h9 (f28 : HS f28_ins → Option (OTy f28_outs)) (f9_l0 : HS f9_l0_ins → Option (OTy f9_l0_outs)) (v : HS f9_ins) : afun Γ (fun f => Ae.lookA f [(28, ⟨f28_ins, f28_outs, f28⟩)]) 0 Tryz.f9.ntmps Tryz.f9.results.toList (code Tryz.f9) (.seq .nil (.seq .nil (.seq (.blk (.loop ⟨f9_l0_ins, f9_l0_outs, f9_l0⟩)) .nil))) (em id f9_ins v).1 (em id f9_ins v).2 (ofin 0 f9_outs) = F9 f28 f9_l0 v := by kernel_rfl
def C9 (v : List UInt8 × Unit) : Option (List UInt8 × Bool × Unit) := F9 C28 C9_l0 v
theorem ok9 : FnOk Tryz.prog 9 ⟨f9_ins, f9_outs, C9⟩ :=
 fn_ok (np := 0) (n := (.seq .nil (.seq .nil (.seq (.blk (.loop ⟨f9_l0_ins, f9_l0_outs, C9_l0⟩)) .nil)))) hm hΓ (K := (fun f => Ae.lookA f [(28, ⟨f28_ins, f28_outs, C28⟩)])) (kok_cons ok28 (kok_nil _)) Tryz.func9 (c := code Tryz.f9) (by kernel_rfl) (name_ne (by kernel_rfl))
 (ann_seq (a := (subc (code Tryz.f9) [0])) (b := (subc (code Tryz.f9) [1])) (by kernel_rfl) (ann_nil _) (ann_seq (a := (subc (code Tryz.f9) [1, 0])) (b := (subc (code Tryz.f9) [1, 1])) (by kernel_rfl) (ann_nil _) (ann_seq (a := (subc (code Tryz.f9) [1, 1, 0])) (b := (subc (code Tryz.f9) [1, 1, 1])) (by kernel_rfl) (ann_blk (x := (subc (code Tryz.f9) [1, 1, 0, 0])) (by kernel_rfl) (ann_loop (x := (subc (code Tryz.f9) [1, 1, 0, 0, 0])) (by kernel_rfl) k9_l0)) (ann_nil _)))) (fun v => Nat.le_of_ble_eq_true (by kernel_rfl)) (fun v => h9 C28 C9_l0 v)
def F57_c0  : Int × Bool × Unit → Option ((Int × Int × Unit) ⊕ Unit) := fun (x0, x1, _) =>
 bif x1 then some (Sum.inl (2, IntKind.i32.wrap (intBits BinOp.and IntKind.u8 x0 15), ()))
 else
 bif decide (x0 ≥ 240) then
 bif decide (x0 < 245) then some (Sum.inl (3, IntKind.i32.wrap (intBits BinOp.and IntKind.u8 x0 7), ()))
 else some (Sum.inr ())
 else some (Sum.inr ())
theorem h57_c0  (v : HS f57_c0_ins) : aev Γ (fun f => Ae.lookA f []) 0 (subc (code Tryz.f57) [1, 0, 0, 1, 1, 1, 1, 1]) .nil (stof f57_c0_ins v) (oout 0 f57_c0_outs) = F57_c0 v := by kernel_rfl
def C57_c0 (v : Int × Bool × Unit) : Option ((Int × Int × Unit) ⊕ Unit) := F57_c0 v
theorem k57_c0 : FragOk Tryz.prog 0 (fun Q a w => ((subc (code Tryz.f57) [1, 0, 0, 1, 1, 1, 1, 1])).wp Tryz.prog Q a w) ⟨f57_c0_ins, f57_c0_outs, C57_c0⟩ :=
 frag_code (ins := f57_c0_ins) (os := f57_c0_outs) (np := 0) (n := .nil) (F := C57_c0) hm hΓ (K := (fun f => Ae.lookA f [])) (kok_nil _)
 (ann_nil _) (fun v => h57_c0 v)
def F57_c1 (f57_c0 : Int × Bool × Unit → Option ((Int × Int × Unit) ⊕ Unit)) : Int × Bool × Unit → Option ((Int × Int × Unit) ⊕ Unit) := fun (x0, x1, _) =>
 bif x1 then some (Sum.inl (1, IntKind.i32.wrap (intBits BinOp.and IntKind.u8 x0 31), ()))
 else
 bif decide (x0 ≥ 224) then
 (f57_c0 (x0, decide (x0 < 240), ())).bind fun val =>
 Sum.elim (fun val => some (Sum.inl (val.1, val.2.1, ()))) (fun val => some (Sum.inr ())) val
 else
 (f57_c0 (x0, false, ())).bind fun val =>
 Sum.elim (fun val => some (Sum.inl (val.1, val.2.1, ()))) (fun val => some (Sum.inr ())) val
theorem h57_c1 (f57_c0 : HS f57_c0_ins → Option (OTy f57_c0_outs)) (v : HS f57_c1_ins) : aev Γ (fun f => Ae.lookA f []) 0 (subc (code Tryz.f57) [1, 0, 0, 1, 1, 1]) (.cond .nil (.cut .nil ⟨f57_c0_ins, f57_c0_outs, f57_c0⟩)) (stof f57_c1_ins v) (oout 0 f57_c1_outs) = F57_c1 f57_c0 v := by kernel_rfl
def C57_c1 (v : Int × Bool × Unit) : Option ((Int × Int × Unit) ⊕ Unit) := F57_c1 C57_c0 v
theorem k57_c1 : FragOk Tryz.prog 0 (fun Q a w => ((subc (code Tryz.f57) [1, 0, 0, 1, 1, 1])).wp Tryz.prog Q a w) ⟨f57_c1_ins, f57_c1_outs, C57_c1⟩ :=
 frag_code (ins := f57_c1_ins) (os := f57_c1_outs) (np := 0) (n := (.cond .nil (.cut .nil ⟨f57_c0_ins, f57_c0_outs, C57_c0⟩))) (F := C57_c1) hm hΓ (K := (fun f => Ae.lookA f [])) (kok_nil _)
 (ann_cond (x := (subc (code Tryz.f57) [1, 0, 0, 1, 1, 1, 0])) (y := (subc (code Tryz.f57) [1, 0, 0, 1, 1, 1, 1])) (by kernel_rfl) (ann_nil _) (ann_cut (a := (subc (code Tryz.f57) [1, 0, 0, 1, 1, 1, 1, 0])) (b := (subc (code Tryz.f57) [1, 0, 0, 1, 1, 1, 1, 1])) (by kernel_rfl) (ann_nil _) k57_c0)) (fun v => h57_c1 C57_c0 v)
def F57 (f57_c1 : Int × Bool × Unit → Option ((Int × Int × Unit) ⊕ Unit)) : Int × Unit → Option (Int × Int × Unit) := fun (x0, _) =>
 bif decide (x0 < 128) then some (0, IntKind.i32.wrap x0, ())
 else
 bif decide (x0 ≥ 194) then
 (f57_c1 (x0, decide (x0 < 224), ())).bind fun val =>
 Sum.elim (fun val => some (val.1, val.2.1, ())) (fun val => some (-1, 0, ())) val
 else
 (f57_c1 (x0, false, ())).bind fun val =>
 Sum.elim (fun val => some (val.1, val.2.1, ())) (fun val => some (-1, 0, ())) val
theorem h57 (f57_c1 : HS f57_c1_ins → Option (OTy f57_c1_outs)) (v : HS f57_ins) : afun Γ (fun f => Ae.lookA f []) 0 Tryz.f57.ntmps Tryz.f57.results.toList (code Tryz.f57) (.seq .nil (.seq (.blk (.seq .nil (.cond .nil (.cut .nil ⟨f57_c1_ins, f57_c1_outs, f57_c1⟩)))) .nil)) (em id f57_ins v).1 (em id f57_ins v).2 (ofin 0 f57_outs) = F57 f57_c1 v := by kernel_rfl
def C57 (v : Int × Unit) : Option (Int × Int × Unit) := F57 C57_c1 v
theorem ok57 : FnOk Tryz.prog 57 ⟨f57_ins, f57_outs, C57⟩ :=
 fn_ok (np := 0) (n := (.seq .nil (.seq (.blk (.seq .nil (.cond .nil (.cut .nil ⟨f57_c1_ins, f57_c1_outs, C57_c1⟩)))) .nil))) hm hΓ (K := (fun f => Ae.lookA f [])) (kok_nil _) Tryz.func57 (c := code Tryz.f57) (by kernel_rfl) (name_ne (by kernel_rfl))
 (ann_seq (a := (subc (code Tryz.f57) [0])) (b := (subc (code Tryz.f57) [1])) (by kernel_rfl) (ann_nil _) (ann_seq (a := (subc (code Tryz.f57) [1, 0])) (b := (subc (code Tryz.f57) [1, 1])) (by kernel_rfl) (ann_blk (x := (subc (code Tryz.f57) [1, 0, 0])) (by kernel_rfl) (ann_seq (a := (subc (code Tryz.f57) [1, 0, 0, 0])) (b := (subc (code Tryz.f57) [1, 0, 0, 1])) (by kernel_rfl) (ann_nil _) (ann_cond (x := (subc (code Tryz.f57) [1, 0, 0, 1, 0])) (y := (subc (code Tryz.f57) [1, 0, 0, 1, 1])) (by kernel_rfl) (ann_nil _) (ann_cut (a := (subc (code Tryz.f57) [1, 0, 0, 1, 1, 0])) (b := (subc (code Tryz.f57) [1, 0, 0, 1, 1, 1])) (by kernel_rfl) (ann_nil _) k57_c1)))) (ann_nil _))) (fun v => Nat.le_of_ble_eq_true (by kernel_rfl)) (fun v => h57 C57_c1 v)
def F21_l0  : List UInt8 × Int × Int × Int × Int × List (Int) × Unit → Option ((List UInt8 × Int × Int × Int × Int × List (Int) × Unit) ⊕ ((List UInt8 × Int × Int × Int × List (Int) × Unit) ⊕ (Int × List (Int) × Unit))) := fun (x0, x1, x2, x3, x4, x5, _) =>
 bif decide (x4 ≤ IntKind.i64.wrap (x3 + x1)) then
 bif decide (0 ≤ x4) && decide (x4 < (↑x0.length : Int)) then
 bif intBits BinOp.andNot IntKind.u8 (↑(x0.getD x4.toNat 0).toNat : Int) 63 != 128 then
 some (Sum.inr (Sum.inr (x3, x5, ())))
 else
 bif decide (0 ≤ x4) && decide (x4 < (↑x0.length : Int)) then
 some
 (Sum.inl
 (x0, x1,
 intBits BinOp.or IntKind.i32 (IntKind.i32.wrap (x2 * 2 ^ min 6 IntKind.i32.bits))
 (IntKind.i32.wrap (intBits BinOp.and IntKind.u8 (↑(x0.getD x4.toNat 0).toNat : Int) 63)),
 x3, IntKind.i64.wrap (x4 + 1), x5, ()))
 else none
 else none
 else some (Sum.inr (Sum.inl (x0, x1, x2, x3, x5, ())))
theorem h21_l0  (v : HS f21_l0_ins) : aev Γ (fun f => Ae.lookA f []) 0 (subc (code Tryz.f21) [1, 0, 1, 1, 1, 1, 0, 0, 0, 1, 0, 1, 1, 0, 1, 0, 0]) .nil (stof f21_l0_ins v) (around 0 f21_l0_ins f21_l0_outs) = F21_l0 v := by kernel_rfl
def C21_l0 (v : List UInt8 × Int × Int × Int × Int × List (Int) × Unit) : Option ((List UInt8 × Int × Int × Int × List (Int) × Unit) ⊕ (Int × List (Int) × Unit)) := loopN (F21_l0) big v
theorem k21_l0 : FragOk Tryz.prog 0 (fun Q a w => (Code.loop (subc (code Tryz.f21) [1, 0, 1, 1, 1, 1, 0, 0, 0, 1, 0, 1, 1, 0, 1, 0, 0])).wp Tryz.prog Q a w) ⟨f21_l0_ins, f21_l0_outs, C21_l0⟩ :=
 frag_loop (ins := f21_l0_ins) (os := f21_l0_outs) (np := 0) (n := .nil) (F := F21_l0) hm hΓ (K := (fun f => Ae.lookA f [])) (kok_nil _) (fun _ => big)
 (ann_nil _) (fun v => h21_l0 v)
end Go.Proofs.YtmfcepdbpdihgaaGreatDoor.W
set_option maxRecDepth 100000
set_option linter.unusedVariables false
namespace Go.Proofs.YtmfcepdbpdihgaaGreatDoor.W
open Go Go.Ae
def F21_l1 (f57 : Int × Unit → Option (Int × Int × Unit)) (f58 : Int × Unit → Option (Int × Unit)) (f21_l0 : List UInt8 × Int × Int × Int × Int × List (Int) × Unit → Option ((List UInt8 × Int × Int × Int × List (Int) × Unit) ⊕ (Int × List (Int) × Unit))) : List UInt8 × Int × List (Int) × Unit → Option ((List UInt8 × Int × List (Int) × Unit) ⊕ ((List (Int) × Unit) ⊕ (Int × List (Int) × Unit))) := fun (x0, x1, x2, _) =>
 bif decide (x1 < (↑x0.length : Int)) then
 bif decide (0 ≤ x1) && decide (x1 < (↑x0.length : Int)) then
 (f57 ((↑(x0.getD x1.toNat 0).toNat : Int), ())).bind fun val =>
 bif decide (val.1 < 0) then some (Sum.inr (Sum.inr (x1, x2, ())))
 else
 bif decide (IntKind.i64.wrap ((↑x0.length : Int) - x1) ≤ val.1) then
 some (Sum.inr (Sum.inr (x1, x2, ())))
 else
 (f21_l0 (x0, val.1, val.2.1, x1, IntKind.i64.wrap (x1 + 1), x2, ())).bind fun val =>
 Sum.elim
 (fun val =>
 (f58 (val.2.2.1, ())).bind fun val_1 =>
 bif val_1.1 != IntKind.i64.wrap (val.2.1 + 1) then
 some (Sum.inr (Sum.inr (val.2.2.2.1, val.2.2.2.2.1, ())))
 else
 bif
 decide
 (List.length val.2.2.2.2.1 + [val.2.2.1].length ≤ 140737488355328 / 4) then
 some
 (Sum.inl
 (val.1, IntKind.i64.wrap (val.2.2.2.1 + IntKind.i64.wrap (val.2.1 + 1)),
 val.2.2.2.2.1 ++ [val.2.2.1], ()))
 else none)
 (fun val => some (Sum.inr (Sum.inr (val.1, val.2.1, ())))) val
 else none
 else some (Sum.inr (Sum.inl (x2, ())))
theorem h21_l1 (f57 : HS f57_ins → Option (OTy f57_outs)) (f58 : HS f58_ins → Option (OTy f58_outs)) (f21_l0 : HS f21_l0_ins → Option (OTy f21_l0_outs)) (v : HS f21_l1_ins) : aev Γ (fun f => Ae.lookA f [(57, ⟨f57_ins, f57_outs, f57⟩), (58, ⟨f58_ins, f58_outs, f58⟩)]) 0 (subc (code Tryz.f21) [1, 0, 1, 1, 1, 1, 0, 0, 0]) (.seq .nil (.blk (.seq .nil (.seq .nil (.seq (.seq .nil (.blk (.loop ⟨f21_l0_ins, f21_l0_outs, f21_l0⟩))) .nil))))) (stof f21_l1_ins v) (around 0 f21_l1_ins f21_l1_outs) = F21_l1 f57 f58 f21_l0 v := by kernel_rfl
def C21_l1 (v : List UInt8 × Int × List (Int) × Unit) : Option ((List (Int) × Unit) ⊕ (Int × List (Int) × Unit)) := loopN (F21_l1 C57 C58 C21_l0) big v
theorem k21_l1 : FragOk Tryz.prog 0 (fun Q a w => (Code.loop (subc (code Tryz.f21) [1, 0, 1, 1, 1, 1, 0, 0, 0])).wp Tryz.prog Q a w) ⟨f21_l1_ins, f21_l1_outs, C21_l1⟩ :=
 frag_loop (ins := f21_l1_ins) (os := f21_l1_outs) (np := 0) (n := (.seq .nil (.blk (.seq .nil (.seq .nil (.seq (.seq .nil (.blk (.loop ⟨f21_l0_ins, f21_l0_outs, C21_l0⟩))) .nil)))))) (F := F21_l1 C57 C58 C21_l0) hm hΓ (K := (fun f => Ae.lookA f [(57, ⟨f57_ins, f57_outs, C57⟩), (58, ⟨f58_ins, f58_outs, C58⟩)])) (kok_cons ok57 (kok_cons ok58 (kok_nil _))) (fun _ => big)
 (ann_seq (a := (subc (code Tryz.f21) [1, 0, 1, 1, 1, 1, 0, 0, 0, 0])) (b := (subc (code Tryz.f21) [1, 0, 1, 1, 1, 1, 0, 0, 0, 1])) (by kernel_rfl) (ann_nil _) (ann_blk (x := (subc (code Tryz.f21) [1, 0, 1, 1, 1, 1, 0, 0, 0, 1, 0])) (by kernel_rfl) (ann_seq (a := (subc (code Tryz.f21) [1, 0, 1, 1, 1, 1, 0, 0, 0, 1, 0, 0])) (b := (subc (code Tryz.f21) [1, 0, 1, 1, 1, 1, 0, 0, 0, 1, 0, 1])) (by kernel_rfl) (ann_nil _) (ann_seq (a := (subc (code Tryz.f21) [1, 0, 1, 1, 1, 1, 0, 0, 0, 1, 0, 1, 0])) (b := (subc (code Tryz.f21) [1, 0, 1, 1, 1, 1, 0, 0, 0, 1, 0, 1, 1])) (by kernel_rfl) (ann_nil _) (ann_seq (a := (subc (code Tryz.f21) [1, 0, 1, 1, 1, 1, 0, 0, 0, 1, 0, 1, 1, 0])) (b := (subc (code Tryz.f21) [1, 0, 1, 1, 1, 1, 0, 0, 0, 1, 0, 1, 1, 1])) (by kernel_rfl) (ann_seq (a := (subc (code Tryz.f21) [1, 0, 1, 1, 1, 1, 0, 0, 0, 1, 0, 1, 1, 0, 0])) (b := (subc (code Tryz.f21) [1, 0, 1, 1, 1, 1, 0, 0, 0, 1, 0, 1, 1, 0, 1])) (by kernel_rfl) (ann_nil _) (ann_blk (x := (subc (code Tryz.f21) [1, 0, 1, 1, 1, 1, 0, 0, 0, 1, 0, 1, 1, 0, 1, 0])) (by kernel_rfl) (ann_loop (x := (subc (code Tryz.f21) [1, 0, 1, 1, 1, 1, 0, 0, 0, 1, 0, 1, 1, 0, 1, 0, 0])) (by kernel_rfl) k21_l0))) (ann_nil _)))))) (fun v => h21_l1 C57 C58 C21_l0 v)
def F21_g0  : Int × List (Int) × Unit → Option ((Int × List (Int) × Unit) ⊕ (Int × List (Int) × Unit)) := fun (x0, x1, _) =>
 some (Sum.inr (x0, x1, ()))
theorem h21_g0  (v : HS f21_g0_ins) : aev Γ (fun f => Ae.lookA f []) 0 ((findLabel (subc (code Tryz.f21) [1, 0]) 0).getD .skip) .nil (stof f21_g0_ins v) (aroundL 0 0 [] f21_g0_ins f21_g0_outs) = F21_g0 v := by kernel_rfl
def C21_g0 (v : Int × List (Int) × Unit) : Option (Int × List (Int) × Unit) := loopN (F21_g0) big v
theorem k21_g0 : FragOk Tryz.prog 0 (ScopeFrom Tryz.prog (subc (code Tryz.f21) [1, 0]) 0) ⟨f21_g0_ins, f21_g0_outs, C21_g0⟩ :=
 frag_label (ins := f21_g0_ins) (os := f21_g0_outs) (np := 0) (n := .nil) (ls := []) (F := F21_g0) (rest := (findLabel (subc (code Tryz.f21) [1, 0]) 0).getD .skip) hm hΓ (K := (fun f => Ae.lookA f [])) (kok_nil _) (fun _ => big) (by kernel_rfl)
 (ann_nil _) find_nil (fun v => h21_g0 v)
def F21 (f21_g0 : Int × List (Int) × Unit → Option (Int × List (Int) × Unit)) (f21_l1 : List UInt8 × Int × List (Int) × Unit → Option ((List (Int) × Unit) ⊕ (Int × List (Int) × Unit))) : List UInt8 × Unit → Option (List (Int) × Int × Unit) := fun (x0, _) =>
 (f21_l1 (x0, 0, [], ())).bind fun val =>
 Sum.elim (fun val => some (val.1, -1, ()))
 (fun val => (f21_g0 (val.1, val.2.1, ())).bind fun val => some (val.2.1, val.1, ())) val
theorem h21 (f21_g0 : HS f21_g0_ins → Option (OTy f21_g0_outs)) (f21_l1 : HS f21_l1_ins → Option (OTy f21_l1_outs)) (v : HS f21_ins) : afun Γ (fun f => Ae.lookA f []) 0 Tryz.f21.ntmps Tryz.f21.results.toList (code Tryz.f21) (.seq .nil (.scope (.seq .nil (.seq .nil (.seq .nil (.seq .nil (.seq (.blk (.loop ⟨f21_l1_ins, f21_l1_outs, f21_l1⟩)) .nil))))) [(0, ⟨f21_g0_ins, f21_g0_outs, f21_g0⟩)])) (em id f21_ins v).1 (em id f21_ins v).2 (ofin 0 f21_outs) = F21 f21_g0 f21_l1 v := by kernel_rfl
def C21 (v : List UInt8 × Unit) : Option (List (Int) × Int × Unit) := F21 C21_g0 C21_l1 v
theorem ok21 : FnOk Tryz.prog 21 ⟨f21_ins, f21_outs, C21⟩ :=
 fn_ok (np := 0) (n := (.seq .nil (.scope (.seq .nil (.seq .nil (.seq .nil (.seq .nil (.seq (.blk (.loop ⟨f21_l1_ins, f21_l1_outs, C21_l1⟩)) .nil))))) [(0, ⟨f21_g0_ins, f21_g0_outs, C21_g0⟩)]))) hm hΓ (K := (fun f => Ae.lookA f [])) (kok_nil _) Tryz.func21 (c := code Tryz.f21) (by kernel_rfl) (name_ne (by kernel_rfl))
 (ann_seq (a := (subc (code Tryz.f21) [0])) (b := (subc (code Tryz.f21) [1])) (by kernel_rfl) (ann_nil _) (ann_scope (x := (subc (code Tryz.f21) [1, 0])) (by kernel_rfl) (ann_seq (a := (subc (code Tryz.f21) [1, 0, 0])) (b := (subc (code Tryz.f21) [1, 0, 1])) (by kernel_rfl) (ann_nil _) (ann_seq (a := (subc (code Tryz.f21) [1, 0, 1, 0])) (b := (subc (code Tryz.f21) [1, 0, 1, 1])) (by kernel_rfl) (ann_nil _) (ann_seq (a := (subc (code Tryz.f21) [1, 0, 1, 1, 0])) (b := (subc (code Tryz.f21) [1, 0, 1, 1, 1])) (by kernel_rfl) (ann_nil _) (ann_seq (a := (subc (code Tryz.f21) [1, 0, 1, 1, 1, 0])) (b := (subc (code Tryz.f21) [1, 0, 1, 1, 1, 1])) (by kernel_rfl) (ann_nil _) (ann_seq (a := (subc (code Tryz.f21) [1, 0, 1, 1, 1, 1, 0])) (b := (subc (code Tryz.f21) [1, 0, 1, 1, 1, 1, 1])) (by kernel_rfl) (ann_blk (x := (subc (code Tryz.f21) [1, 0, 1, 1, 1, 1, 0, 0])) (by kernel_rfl) (ann_loop (x := (subc (code Tryz.f21) [1, 0, 1, 1, 1, 1, 0, 0, 0])) (by kernel_rfl) k21_l1)) (ann_nil _)))))) (find_cons k21_g0 find_nil))) (fun v => Nat.le_of_ble_eq_true (by kernel_rfl)) (fun v => h21 C21_g0 C21_l1 v)
def F32 (f66 : List (UInt8) × Unit → Option (List (UInt8) × Unit)) : Int × List UInt8 × Unit → Option (List UInt8 × Unit) := fun (x0, x1, _) =>
 (f66 (x1, ())).bind fun val =>
 bif decide (List.length val.1 + [UInt8.ofNat x0.toNat].length ≤ 140737488355328 / 1) then
 some (val.1 ++ [UInt8.ofNat x0.toNat], ())
 else none
theorem h32 (f66 : HS f66_ins → Option (OTy f66_outs)) (v : HS f32_ins) : afun Γ (fun f => Ae.lookA f [(66, ⟨f66_ins, f66_outs, f66⟩)]) 2 Tryz.f32.ntmps Tryz.f32.results.toList (code Tryz.f32) .nil (em id f32_ins v).1 (em id f32_ins v).2 (ofin 2 f32_outs) = F32 f66 v := by kernel_rfl
def C32 (v : Int × List UInt8 × Unit) : Option (List UInt8 × Unit) := F32 C66 v
theorem ok32 : FnOk Tryz.prog 32 ⟨f32_ins, f32_outs, C32⟩ :=
 fn_ok (np := 2) (n := .nil) hm hΓ (K := (fun f => Ae.lookA f [(66, ⟨f66_ins, f66_outs, C66⟩)])) (kok_cons ok66 (kok_nil _)) Tryz.func32 (c := code Tryz.f32) (by kernel_rfl) (name_ne (by kernel_rfl))
 (ann_nil _) (fun v => Nat.le_of_ble_eq_true (by kernel_rfl)) (fun v => h32 C66 v)
def F33 (f66 : List (UInt8) × Unit → Option (List (UInt8) × Unit)) : List UInt8 × List UInt8 × Unit → Option (Int × List UInt8 × Unit) := fun (x0, x1, _) =>
 (f66 (x1, ())).bind fun val =>
 bif decide (List.length val.1 + x0.length ≤ 140737488355328 / 1) then
 some ((↑x0.length : Int), val.1 ++ x0, ())
 else none
theorem h33 (f66 : HS f66_ins → Option (OTy f66_outs)) (v : HS f33_ins) : afun Γ (fun f => Ae.lookA f [(66, ⟨f66_ins, f66_outs, f66⟩)]) 2 Tryz.f33.ntmps Tryz.f33.results.toList (code Tryz.f33) .nil (em id f33_ins v).1 (em id f33_ins v).2 (ofin 2 f33_outs) = F33 f66 v := by kernel_rfl
def C33 (v : List UInt8 × List UInt8 × Unit) : Option (Int × List UInt8 × Unit) := F33 C66 v
theorem ok33 : FnOk Tryz.prog 33 ⟨f33_ins, f33_outs, C33⟩ :=
 fn_ok (np := 2) (n := .nil) hm hΓ (K := (fun f => Ae.lookA f [(66, ⟨f66_ins, f66_outs, C66⟩)])) (kok_cons ok66 (kok_nil _)) Tryz.func33 (c := code Tryz.f33) (by kernel_rfl) (name_ne (by kernel_rfl))
 (ann_nil _) (fun v => Nat.le_of_ble_eq_true (by kernel_rfl)) (fun v => h33 C66 v)
def F11_l0 (f24 : Int × Unit → Option (Bool × Unit)) (f32 : Int × List UInt8 × Unit → Option (List UInt8 × Unit)) (f33 : List UInt8 × List UInt8 × Unit → Option (Int × List UInt8 × Unit)) (f34 : Int × Unit → Option (List UInt8 × Unit)) : List UInt8 × Int × List (Int) × Int × Int × List UInt8 × Unit → Option ((List UInt8 × Int × List (Int) × Int × Int × List UInt8 × Unit) ⊕ (List UInt8 × Int × List UInt8 × Unit)) := fun (x0, x1, x2, x3, x4, x5, _) =>
 bif decide (x4 < x3) then
 bif decide (0 ≤ x4) && decide (x4 < (↑x2.length : Int)) then
 (f24 (x2.getD x4.toNat 0, ())).bind fun val =>
 bif val.1 then
 (f32 (IntKind.u8.wrap (x2.getD x4.toNat 0), x5, ())).bind fun val =>
 some (Sum.inl (x0, x1, x2, x3, IntKind.i64.wrap (x4 + 1), val.1, ()))
 else
 (f34 (IntKind.i64.wrap (x2.getD x4.toNat 0), ())).bind fun val =>
 bif decide ([92, 120, 123].length + List.length val.1 ≤ 9223372036854775807) then
 bif decide (([92, 120, 123] ++ val.1).length + [125].length ≤ 9223372036854775807) then
 (f33 ([92, 120, 123] ++ val.1 ++ [125], x5, ())).bind fun val =>
 some (Sum.inl (x0, x1, x2, x3, IntKind.i64.wrap (x4 + 1), val.2.1, ()))
 else none
 else none
 else none
 else some (Sum.inr (x0, x1, x5, ()))
theorem h11_l0 (f24 : HS f24_ins → Option (OTy f24_outs)) (f32 : HS f32_ins → Option (OTy f32_outs)) (f33 : HS f33_ins → Option (OTy f33_outs)) (f34 : HS f34_ins → Option (OTy f34_outs)) (v : HS f11_l0_ins) : aev Γ (fun f => Ae.lookA f [(24, ⟨f24_ins, f24_outs, f24⟩), (32, ⟨f32_ins, f32_outs, f32⟩), (33, ⟨f33_ins, f33_outs, f33⟩), (34, ⟨f34_ins, f34_outs, f34⟩)]) 0 (subc (code Tryz.f11) [1, 1, 1, 0, 1, 0, 0]) .nil (stof f11_l0_ins v) (around 0 f11_l0_ins f11_l0_outs) = F11_l0 f24 f32 f33 f34 v := by kernel_rfl
def C11_l0 (v : List UInt8 × Int × List (Int) × Int × Int × List UInt8 × Unit) : Option (List UInt8 × Int × List UInt8 × Unit) := loopN (F11_l0 C24 C32 C33 C34) big v
theorem k11_l0 : FragOk Tryz.prog 0 (fun Q a w => (Code.loop (subc (code Tryz.f11) [1, 1, 1, 0, 1, 0, 0])).wp Tryz.prog Q a w) ⟨f11_l0_ins, f11_l0_outs, C11_l0⟩ :=
 frag_loop (ins := f11_l0_ins) (os := f11_l0_outs) (np := 0) (n := .nil) (F := F11_l0 C24 C32 C33 C34) hm hΓ (K := (fun f => Ae.lookA f [(24, ⟨f24_ins, f24_outs, C24⟩), (32, ⟨f32_ins, f32_outs, C32⟩), (33, ⟨f33_ins, f33_outs, C33⟩), (34, ⟨f34_ins, f34_outs, C34⟩)])) (kok_cons ok24 (kok_cons ok32 (kok_cons ok33 (kok_cons ok34 (kok_nil _))))) (fun _ => big)
 (ann_nil _) (fun v => h11_l0 C24 C32 C33 C34 v)
def F11_l1 (f33 : List UInt8 × List UInt8 × Unit → Option (Int × List UInt8 × Unit)) (f34 : Int × Unit → Option (List UInt8 × Unit)) : List UInt8 × Int × Int × List UInt8 × Unit → Option ((List UInt8 × Int × Int × List UInt8 × Unit) ⊕ (List UInt8 × Unit)) := fun (x0, x1, x2, x3, _) =>
 bif decide (x2 < x1) then
 bif decide (0 ≤ x2) && decide (x2 < (↑x0.length : Int)) then
 (f34 (IntKind.i64.wrap (↑(UInt8.toNat (x0.getD x2.toNat 0)) : Int), ())).bind fun val =>
 bif decide ([92, 120, 123, 48, 48].length + List.length val.1 ≤ 9223372036854775807) then
 bif
 decide
 (([92, 120, 123, 48, 48] ++ val.1).length + [125].length ≤ 9223372036854775807) then
 (f33 ([92, 120, 123, 48, 48] ++ val.1 ++ [125], x3, ())).bind fun val =>
 some (Sum.inl (x0, x1, IntKind.i64.wrap (x2 + 1), val.2.1, ()))
 else none
 else none
 else none
 else some (Sum.inr (x3, ()))
theorem h11_l1 (f33 : HS f33_ins → Option (OTy f33_outs)) (f34 : HS f34_ins → Option (OTy f34_outs)) (v : HS f11_l1_ins) : aev Γ (fun f => Ae.lookA f [(33, ⟨f33_ins, f33_outs, f33⟩), (34, ⟨f34_ins, f34_outs, f34⟩)]) 0 (subc (code Tryz.f11) [1, 1, 1, 1, 0, 1, 0, 1, 0, 0]) .nil (stof f11_l1_ins v) (around 0 f11_l1_ins f11_l1_outs) = F11_l1 f33 f34 v := by kernel_rfl
def C11_l1 (v : List UInt8 × Int × Int × List UInt8 × Unit) : Option (List UInt8 × Unit) := loopN (F11_l1 C33 C34) big v
theorem k11_l1 : FragOk Tryz.prog 0 (fun Q a w => (Code.loop (subc (code Tryz.f11) [1, 1, 1, 1, 0, 1, 0, 1, 0, 0])).wp Tryz.prog Q a w) ⟨f11_l1_ins, f11_l1_outs, C11_l1⟩ :=
 frag_loop (ins := f11_l1_ins) (os := f11_l1_outs) (np := 0) (n := .nil) (F := F11_l1 C33 C34) hm hΓ (K := (fun f => Ae.lookA f [(33, ⟨f33_ins, f33_outs, C33⟩), (34, ⟨f34_ins, f34_outs, C34⟩)])) (kok_cons ok33 (kok_cons ok34 (kok_nil _))) (fun _ => big)
 (ann_nil _) (fun v => h11_l1 C33 C34 v)
def F11 (f21 : List UInt8 × Unit → Option (List (Int) × Int × Unit)) (f35 : List (UInt8) × Unit → Option (List UInt8 × Unit)) (f11_l0 : List UInt8 × Int × List (Int) × Int × Int × List UInt8 × Unit → Option (List UInt8 × Int × List UInt8 × Unit)) (f11_l1 : List UInt8 × Int × Int × List UInt8 × Unit → Option (List UInt8 × Unit)) : List UInt8 × Unit → Option (List UInt8 × Unit) := fun (x0, _) =>
 (f21 (x0, ())).bind fun val =>
 (f11_l0 (x0, val.2.1, val.1, (↑(List.length val.1) : Int), 0, [], ())).bind fun val =>
 bif decide (val.2.1 ≥ 0) then
 bif decide (0 ≤ val.2.1) && decide (val.2.1 ≤ (↑(List.length val.1) : Int)) then
 bif decide ((List.drop (Int.toNat val.2.1) val.1).length ≤ 9223372036854775807) then
 (f11_l1
 (List.drop (Int.toNat val.2.1) val.1, (↑(List.drop (Int.toNat val.2.1) val.1).length : Int),
 0, val.2.2.1, ())).bind
 fun val => (f35 (val.1, ())).bind fun val => some (val.1, ())
 else none
 else none
 else (f35 (val.2.2.1, ())).bind fun val => some (val.1, ())
theorem h11 (f21 : HS f21_ins → Option (OTy f21_outs)) (f35 : HS f35_ins → Option (OTy f35_outs)) (f11_l0 : HS f11_l0_ins → Option (OTy f11_l0_outs)) (f11_l1 : HS f11_l1_ins → Option (OTy f11_l1_outs)) (v : HS f11_ins) : afun Γ (fun f => Ae.lookA f [(21, ⟨f21_ins, f21_outs, f21⟩), (35, ⟨f35_ins, f35_outs, f35⟩)]) 0 Tryz.f11.ntmps Tryz.f11.results.toList (code Tryz.f11) (.seq .nil (.seq .nil (.seq .nil (.seq (.seq .nil (.blk (.loop ⟨f11_l0_ins, f11_l0_outs, f11_l0⟩))) (.seq (.seq .nil (.cond (.seq .nil (.blk (.loop ⟨f11_l1_ins, f11_l1_outs, f11_l1⟩))) .nil)) .nil))))) (em id f11_ins v).1 (em id f11_ins v).2 (ofin 0 f11_outs) = F11 f21 f35 f11_l0 f11_l1 v := by kernel_rfl
def C11 (v : List UInt8 × Unit) : Option (List UInt8 × Unit) := F11 C21 C35 C11_l0 C11_l1 v
theorem ok11 : FnOk Tryz.prog 11 ⟨f11_ins, f11_outs, C11⟩ :=
 fn_ok (np := 0) (n := (.seq .nil (.seq .nil (.seq .nil (.seq (.seq .nil (.blk (.loop ⟨f11_l0_ins, f11_l0_outs, C11_l0⟩))) (.seq (.seq .nil (.cond (.seq .nil (.blk (.loop ⟨f11_l1_ins, f11_l1_outs, C11_l1⟩))) .nil)) .nil)))))) hm hΓ (K := (fun f => Ae.lookA f [(21, ⟨f21_ins, f21_outs, C21⟩), (35, ⟨f35_ins, f35_outs, C35⟩)])) (kok_cons ok21 (kok_cons ok35 (kok_nil _))) Tryz.func11 (c := code Tryz.f11) (by kernel_rfl) (name_ne (by kernel_rfl))
 (ann_seq (a := (subc (code Tryz.f11) [0])) (b := (subc (code Tryz.f11) [1])) (by kernel_rfl) (ann_nil _) (ann_seq (a := (subc (code Tryz.f11) [1, 0])) (b := (subc (code Tryz.f11) [1, 1])) (by kernel_rfl) (ann_nil _) (ann_seq (a := (subc (code Tryz.f11) [1, 1, 0])) (b := (subc (code Tryz.f11) [1, 1, 1])) (by kernel_rfl) (ann_nil _) (ann_seq (a := (subc (code Tryz.f11) [1, 1, 1, 0])) (b := (subc (code Tryz.f11) [1, 1, 1, 1])) (by kernel_rfl) (ann_seq (a := (subc (code Tryz.f11) [1, 1, 1, 0, 0])) (b := (subc (code Tryz.f11) [1, 1, 1, 0, 1])) (by kernel_rfl) (ann_nil _) (ann_blk (x := (subc (code Tryz.f11) [1, 1, 1, 0, 1, 0])) (by kernel_rfl) (ann_loop (x := (subc (code Tryz.f11) [1, 1, 1, 0, 1, 0, 0])) (by kernel_rfl) k11_l0))) (ann_seq (a := (subc (code Tryz.f11) [1, 1, 1, 1, 0])) (b := (subc (code Tryz.f11) [1, 1, 1, 1, 1])) (by kernel_rfl) (ann_seq (a := (subc (code Tryz.f11) [1, 1, 1, 1, 0, 0])) (b := (subc (code Tryz.f11) [1, 1, 1, 1, 0, 1])) (by kernel_rfl) (ann_nil _) (ann_cond (x := (subc (code Tryz.f11) [1, 1, 1, 1, 0, 1, 0])) (y := (subc (code Tryz.f11) [1, 1, 1, 1, 0, 1, 1])) (by kernel_rfl) (ann_seq (a := (subc (code Tryz.f11) [1, 1, 1, 1, 0, 1, 0, 0])) (b := (subc (code Tryz.f11) [1, 1, 1, 1, 0, 1, 0, 1])) (by kernel_rfl) (ann_nil _) (ann_blk (x := (subc (code Tryz.f11) [1, 1, 1, 1, 0, 1, 0, 1, 0])) (by kernel_rfl) (ann_loop (x := (subc (code Tryz.f11) [1, 1, 1, 1, 0, 1, 0, 1, 0, 0])) (by kernel_rfl) k11_l1))) (ann_nil _))) (ann_nil _)))))) (fun v => Nat.le_of_ble_eq_true (by kernel_rfl)) (fun v => h11 C21 C35 C11_l0 C11_l1 v)
def F111  : Int × Unit → Option (Int × Unit) := fun (x0, _) =>
 bif decide (x0 ≥ 65) then
 bif decide (x0 ≤ 90) then some (IntKind.u8.wrap (IntKind.u8.wrap (x0 - 65) + 97), ())
 else some (x0, ())
 else some (x0, ())
theorem h111  (v : HS f111_ins) : afun Γ (fun f => Ae.lookA f []) 0 Tryz.f111.ntmps Tryz.f111.results.toList (code Tryz.f111) .nil (em id f111_ins v).1 (em id f111_ins v).2 (ofin 0 f111_outs) = F111 v := by kernel_rfl
def C111 (v : Int × Unit) : Option (Int × Unit) := F111 v
theorem ok111 : FnOk Tryz.prog 111 ⟨f111_ins, f111_outs, C111⟩ :=
 fn_ok (np := 0) (n := .nil) hm hΓ (K := (fun f => Ae.lookA f [])) (kok_nil _) Tryz.func111 (c := code Tryz.f111) (by kernel_rfl) (name_ne (by kernel_rfl))
 (ann_nil _) (fun v => Nat.le_of_ble_eq_true (by kernel_rfl)) (fun v => h111 v)
def F110_l0 (f111 : Int × Unit → Option (Int × Unit)) : List UInt8 × Int × Int × List UInt8 × Unit → Option ((List UInt8 × Int × Int × List UInt8 × Unit) ⊕ (List UInt8 × Unit)) := fun (x0, x1, x2, x3, _) =>
 bif decide (x2 < x1) then
 bif decide (0 ≤ x2) && decide (x2 < (↑x0.length : Int)) then
 (f111 ((↑(UInt8.toNat (x0.getD x2.toNat 0)) : Int), ())).bind fun val =>
 bif decide (x3.length + [UInt8.ofNat (Int.toNat val.1)].length ≤ 140737488355328 / 1) then
 some (Sum.inl (x0, x1, IntKind.i64.wrap (x2 + 1), x3 ++ [UInt8.ofNat (Int.toNat val.1)], ()))
 else none
 else none
 else some (Sum.inr (x3, ()))
theorem h110_l0 (f111 : HS f111_ins → Option (OTy f111_outs)) (v : HS f110_l0_ins) : aev Γ (fun f => Ae.lookA f [(111, ⟨f111_ins, f111_outs, f111⟩)]) 0 (subc (code Tryz.f110) [1, 1, 0, 1, 0, 0]) .nil (stof f110_l0_ins v) (around 0 f110_l0_ins f110_l0_outs) = F110_l0 f111 v := by kernel_rfl
def C110_l0 (v : List UInt8 × Int × Int × List UInt8 × Unit) : Option (List UInt8 × Unit) := loopN (F110_l0 C111) big v
theorem k110_l0 : FragOk Tryz.prog 0 (fun Q a w => (Code.loop (subc (code Tryz.f110) [1, 1, 0, 1, 0, 0])).wp Tryz.prog Q a w) ⟨f110_l0_ins, f110_l0_outs, C110_l0⟩ :=
 frag_loop (ins := f110_l0_ins) (os := f110_l0_outs) (np := 0) (n := .nil) (F := F110_l0 C111) hm hΓ (K := (fun f => Ae.lookA f [(111, ⟨f111_ins, f111_outs, C111⟩)])) (kok_cons ok111 (kok_nil _)) (fun _ => big)
 (ann_nil _) (fun v => h110_l0 C111 v)
def F110 (f110_l0 : List UInt8 × Int × Int × List UInt8 × Unit → Option (List UInt8 × Unit)) : List UInt8 × Unit → Option (List UInt8 × Unit) := fun (x0, _) =>
 (f110_l0 (x0, (↑x0.length : Int), 0, [], ())).bind fun val => some (val.1, ())
theorem h110 (f110_l0 : HS f110_l0_ins → Option (OTy f110_l0_outs)) (v : HS f110_ins) : afun Γ (fun f => Ae.lookA f []) 0 Tryz.f110.ntmps Tryz.f110.results.toList (code Tryz.f110) (.seq .nil (.seq .nil (.seq (.seq .nil (.blk (.loop ⟨f110_l0_ins, f110_l0_outs, f110_l0⟩))) .nil))) (em id f110_ins v).1 (em id f110_ins v).2 (ofin 0 f110_outs) = F110 f110_l0 v := by kernel_rfl
def C110 (v : List UInt8 × Unit) : Option (List UInt8 × Unit) := F110 C110_l0 v
theorem ok110 : FnOk Tryz.prog 110 ⟨f110_ins, f110_outs, C110⟩ :=
 fn_ok (np := 0) (n := (.seq .nil (.seq .nil (.seq (.seq .nil (.blk (.loop ⟨f110_l0_ins, f110_l0_outs, C110_l0⟩))) .nil)))) hm hΓ (K := (fun f => Ae.lookA f [])) (kok_nil _) Tryz.func110 (c := code Tryz.f110) (by kernel_rfl) (name_ne (by kernel_rfl))
 (ann_seq (a := (subc (code Tryz.f110) [0])) (b := (subc (code Tryz.f110) [1])) (by kernel_rfl) (ann_nil _) (ann_seq (a := (subc (code Tryz.f110) [1, 0])) (b := (subc (code Tryz.f110) [1, 1])) (by kernel_rfl) (ann_nil _) (ann_seq (a := (subc (code Tryz.f110) [1, 1, 0])) (b := (subc (code Tryz.f110) [1, 1, 1])) (by kernel_rfl) (ann_seq (a := (subc (code Tryz.f110) [1, 1, 0, 0])) (b := (subc (code Tryz.f110) [1, 1, 0, 1])) (by kernel_rfl) (ann_nil _) (ann_blk (x := (subc (code Tryz.f110) [1, 1, 0, 1, 0])) (by kernel_rfl) (ann_loop (x := (subc (code Tryz.f110) [1, 1, 0, 1, 0, 0])) (by kernel_rfl) k110_l0))) (ann_nil _)))) (fun v => Nat.le_of_ble_eq_true (by kernel_rfl)) (fun v => h110 C110_l0 v)
def F86 (f110 : List UInt8 × Unit → Option (List UInt8 × Unit)) : List UInt8 × Unit → Option (List UInt8 × Unit) := fun (x0, _) =>
 bif decide (x0.length ≤ 9223372036854775807) then (f110 (x0, ())).bind fun val => some (val.1, ()) else none
theorem h86 (f110 : HS f110_ins → Option (OTy f110_outs)) (v : HS f86_ins) : afun Γ (fun f => Ae.lookA f [(110, ⟨f110_ins, f110_outs, f110⟩)]) 0 Tryz.f86.ntmps Tryz.f86.results.toList (code Tryz.f86) .nil (em id f86_ins v).1 (em id f86_ins v).2 (ofin 0 f86_outs) = F86 f110 v := by kernel_rfl
def C86 (v : List UInt8 × Unit) : Option (List UInt8 × Unit) := F86 C110 v
theorem ok86 : FnOk Tryz.prog 86 ⟨f86_ins, f86_outs, C86⟩ :=
 fn_ok (np := 0) (n := .nil) hm hΓ (K := (fun f => Ae.lookA f [(110, ⟨f110_ins, f110_outs, C110⟩)])) (kok_cons ok110 (kok_nil _)) Tryz.func86 (c := code Tryz.f86) (by kernel_rfl) (name_ne (by kernel_rfl))
 (ann_nil _) (fun v => Nat.le_of_ble_eq_true (by kernel_rfl)) (fun v => h86 C110 v)
def F59 (f86 : List UInt8 × Unit → Option (List UInt8 × Unit)) : Bool × List UInt8 × List UInt8 × Unit → Option (Bool × Unit) := fun (x0, x1, x2, _) =>
 bif !x0 then
 bif x2 == [] then
 (f86 (x1, ())).bind fun val =>
 some (val.1 == [112, 111, 115, 116, 109, 97, 115, 116, 101, 114], ())
 else some (false, ())
 else some (false, ())
theorem h59 (f86 : HS f86_ins → Option (OTy f86_outs)) (v : HS f59_ins) : afun Γ (fun f => Ae.lookA f [(86, ⟨f86_ins, f86_outs, f86⟩)]) 0 Tryz.f59.ntmps Tryz.f59.results.toList (code Tryz.f59) .nil (em id f59_ins v).1 (em id f59_ins v).2 (ofin 0 f59_outs) = F59 f86 v := by kernel_rfl
def C59 (v : Bool × List UInt8 × List UInt8 × Unit) : Option (Bool × Unit) := F59 C86 v
theorem ok59 : FnOk Tryz.prog 59 ⟨f59_ins, f59_outs, C59⟩ :=
 fn_ok (np := 0) (n := .nil) hm hΓ (K := (fun f => Ae.lookA f [(86, ⟨f86_ins, f86_outs, C86⟩)])) (kok_cons ok86 (kok_nil _)) Tryz.func59 (c := code Tryz.f59) (by kernel_rfl) (name_ne (by kernel_rfl))
 (ann_nil _) (fun v => Nat.le_of_ble_eq_true (by kernel_rfl)) (fun v => h59 C86 v)
def F168_l0  : Int × (List UInt8 × Int) × Unit → Option ((Int × (List UInt8 × Int) × Unit) ⊕ (Int × Unit)) := fun (x0, x1, _) =>
 bif decide (Int.toNat x1.2 < List.length x1.1) then
 some
 (Sum.inl
 (IntKind.i64.wrap (x0 + 1), (x1.1, (↑(Int.toNat x1.2 + (decR x1.1 (Int.toNat x1.2)).2) : Int)),
 ()))
 else some (Sum.inr (x0, ()))
theorem h168_l0  (v : HS f168_l0_ins) : aev Γ (fun f => Ae.lookA f []) 0 (subc (code Tryz.f168) [1, 0, 1, 0, 0]) .nil (stof f168_l0_ins v) (around 0 f168_l0_ins f168_l0_outs) = F168_l0 v := by kernel_rfl
def C168_l0 (v : Int × (List UInt8 × Int) × Unit) : Option (Int × Unit) := loopN (F168_l0) big v
theorem k168_l0 : FragOk Tryz.prog 0 (fun Q a w => (Code.loop (subc (code Tryz.f168) [1, 0, 1, 0, 0])).wp Tryz.prog Q a w) ⟨f168_l0_ins, f168_l0_outs, C168_l0⟩ :=
 frag_loop (ins := f168_l0_ins) (os := f168_l0_outs) (np := 0) (n := .nil) (F := F168_l0) hm hΓ (K := (fun f => Ae.lookA f [])) (kok_nil _) (fun _ => big)
 (ann_nil _) (fun v => h168_l0 v)
def F168 (f168_l0 : Int × (List UInt8 × Int) × Unit → Option (Int × Unit)) : List UInt8 × Unit → Option (Int × Unit) := fun (x0, _) =>
 (f168_l0 (0, (x0, (↑0 : Int)), ())).bind fun val => some (val.1, ())
theorem h168 (f168_l0 : HS f168_l0_ins → Option (OTy f168_l0_outs)) (v : HS f168_ins) : afun Γ (fun f => Ae.lookA f []) 0 Tryz.f168.ntmps Tryz.f168.results.toList (code Tryz.f168) (.seq .nil (.seq (.seq .nil (.blk (.loop ⟨f168_l0_ins, f168_l0_outs, f168_l0⟩))) .nil)) (em id f168_ins v).1 (em id f168_ins v).2 (ofin 0 f168_outs) = F168 f168_l0 v := by kernel_rfl
def C168 (v : List UInt8 × Unit) : Option (Int × Unit) := F168 C168_l0 v
theorem ok168 : FnOk Tryz.prog 168 ⟨f168_ins, f168_outs, C168⟩ :=
 fn_ok (np := 0) (n := (.seq .nil (.seq (.seq .nil (.blk (.loop ⟨f168_l0_ins, f168_l0_outs, C168_l0⟩))) .nil))) hm hΓ (K := (fun f => Ae.lookA f [])) (kok_nil _) Tryz.func168 (c := code Tryz.f168) (by kernel_rfl) (name_ne (by kernel_rfl))
 (ann_seq (a := (subc (code Tryz.f168) [0])) (b := (subc (code Tryz.f168) [1])) (by kernel_rfl) (ann_nil _) (ann_seq (a := (subc (code Tryz.f168) [1, 0])) (b := (subc (code Tryz.f168) [1, 1])) (by kernel_rfl) (ann_seq (a := (subc (code Tryz.f168) [1, 0, 0])) (b := (subc (code Tryz.f168) [1, 0, 1])) (by kernel_rfl) (ann_nil _) (ann_blk (x := (subc (code Tryz.f168) [1, 0, 1, 0])) (by kernel_rfl) (ann_loop (x := (subc (code Tryz.f168) [1, 0, 1, 0, 0])) (by kernel_rfl) k168_l0))) (ann_nil _))) (fun v => Nat.le_of_ble_eq_true (by kernel_rfl)) (fun v => h168 C168_l0 v)
def F155  : List UInt8 × Unit → Option (Int × Int × Unit) := fun (x0, _) =>
 bif decide ((↑x0.length : Int) < 1) then some (65533, 0, ())
 else bif decide (0 < (↑x0.length : Int)) then none else none
theorem h155  (v : HS f155_ins) : afun Γ (fun f => Ae.lookA f []) 0 Tryz.f155.ntmps Tryz.f155.results.toList (code Tryz.f155) .nil (em id f155_ins v).1 (em id f155_ins v).2 (ofin 0 f155_outs) = F155 v := by kernel_rfl
def C155 (v : List UInt8 × Unit) : Option (Int × Int × Unit) := F155 v
theorem ok155 : FnOk Tryz.prog 155 ⟨f155_ins, f155_outs, C155⟩ :=
 fn_ok (np := 0) (n := .nil) hm hΓ (K := (fun f => Ae.lookA f [])) (kok_nil _) Tryz.func155 (c := code Tryz.f155) (by kernel_rfl) (name_ne (by kernel_rfl))
 (ann_nil _) (fun v => Nat.le_of_ble_eq_true (by kernel_rfl)) (fun v => h155 v)
def F125_c0 (f155 : List UInt8 × Unit → Option (Int × Int × Unit)) : List UInt8 × Bool × Unit → Option ((Int × Int × Unit) ⊕ (Int × Int × Unit)) := fun (x0, x1, _) =>
 bif x1 then
 bif decide (0 < (↑x0.length : Int)) then
 some (Sum.inl (IntKind.i32.wrap (↑(x0.getD 0 0).toNat : Int), 1, ()))
 else none
 else (f155 (x0, ())).bind fun val => some (Sum.inr (val.1, val.2.1, ()))
theorem h125_c0 (f155 : HS f155_ins → Option (OTy f155_outs)) (v : HS f125_c0_ins) : aev Γ (fun f => Ae.lookA f [(155, ⟨f155_ins, f155_outs, f155⟩)]) 0 (subc (code Tryz.f125) [1, 0, 1]) .nil (stof f125_c0_ins v) (oout 0 f125_c0_outs) = F125_c0 f155 v := by kernel_rfl
def C125_c0 (v : List UInt8 × Bool × Unit) : Option ((Int × Int × Unit) ⊕ (Int × Int × Unit)) := F125_c0 C155 v
theorem k125_c0 : FragOk Tryz.prog 0 (fun Q a w => ((subc (code Tryz.f125) [1, 0, 1])).wp Tryz.prog Q a w) ⟨f125_c0_ins, f125_c0_outs, C125_c0⟩ :=
 frag_code (ins := f125_c0_ins) (os := f125_c0_outs) (np := 0) (n := .nil) (F := C125_c0) hm hΓ (K := (fun f => Ae.lookA f [(155, ⟨f155_ins, f155_outs, C155⟩)])) (kok_cons ok155 (kok_nil _))
 (ann_nil _) (fun v => h125_c0 C155 v)
def F125 (f125_c0 : List UInt8 × Bool × Unit → Option ((Int × Int × Unit) ⊕ (Int × Int × Unit))) : List UInt8 × Unit → Option (Int × Int × Unit) := fun (x0, _) =>
 bif !x0 == [] then
 bif decide (0 < (↑x0.length : Int)) then
 (f125_c0 (x0, decide ((↑(x0.getD 0 0).toNat : Int) < 128), ())).bind fun val =>
 Sum.elim (fun val => some (val.1, val.2.1, ())) (fun val => some (val.1, val.2.1, ()))
 val
 else none
 else
 (f125_c0 (x0, false, ())).bind fun val =>
 Sum.elim (fun val => some (val.1, val.2.1, ())) (fun val => some (val.1, val.2.1, ()))
 val
theorem h125 (f125_c0 : HS f125_c0_ins → Option (OTy f125_c0_outs)) (v : HS f125_ins) : afun Γ (fun f => Ae.lookA f []) 0 Tryz.f125.ntmps Tryz.f125.results.toList (code Tryz.f125) (.seq .nil (.seq (.cut .nil ⟨f125_c0_ins, f125_c0_outs, f125_c0⟩) .nil)) (em id f125_ins v).1 (em id f125_ins v).2 (ofin 0 f125_outs) = F125 f125_c0 v := by kernel_rfl
def C125 (v : List UInt8 × Unit) : Option (Int × Int × Unit) := F125 C125_c0 v
theorem ok125 : FnOk Tryz.prog 125 ⟨f125_ins, f125_outs, C125⟩ :=
 fn_ok (np := 0) (n := (.seq .nil (.seq (.cut .nil ⟨f125_c0_ins, f125_c0_outs, C125_c0⟩) .nil))) hm hΓ (K := (fun f => Ae.lookA f [])) (kok_nil _) Tryz.func125 (c := code Tryz.f125) (by kernel_rfl) (name_ne (by kernel_rfl))
 (ann_seq (a := (subc (code Tryz.f125) [0])) (b := (subc (code Tryz.f125) [1])) (by kernel_rfl) (ann_nil _) (ann_seq (a := (subc (code Tryz.f125) [1, 0])) (b := (subc (code Tryz.f125) [1, 1])) (by kernel_rfl) (ann_cut (a := (subc (code Tryz.f125) [1, 0, 0])) (b := (subc (code Tryz.f125) [1, 0, 1])) (by kernel_rfl) (ann_nil _) k125_c0) (ann_nil _))) (fun v => Nat.le_of_ble_eq_true (by kernel_rfl)) (fun v => h125 C125_c0 v)
def F170_l0 (f125 : List UInt8 × Unit → Option (Int × Int × Unit)) : List UInt8 × Int × Int × List (List UInt8) × Unit → Option ((List UInt8 × Int × Int × List (List UInt8) × Unit) ⊕ (List UInt8 × Int × List (List UInt8) × Unit)) := fun (x0, x1, x2, x3, _) =>
 bif decide (x2 < IntKind.i64.wrap (x1 - 1)) then
 (f125 (x0, ())).bind fun val =>
 bif decide (0 ≤ val.2.1) && decide (val.2.1 ≤ (↑x0.length : Int)) then
 bif decide (0 ≤ x2) && decide (x2 < (↑x3.length : Int)) then
 bif decide (0 ≤ val.2.1) && decide (val.2.1 ≤ (↑x0.length : Int)) then
 some
 (Sum.inl
 (List.drop (Int.toNat val.2.1) x0, x1, IntKind.i64.wrap (x2 + 1),
 x3.set x2.toNat (List.take (Int.toNat val.2.1) x0), ()))
 else none
 else none
 else none
 else some (Sum.inr (x0, x1, x3, ()))
theorem h170_l0 (f125 : HS f125_ins → Option (OTy f125_outs)) (v : HS f170_l0_ins) : aev Γ (fun f => Ae.lookA f [(125, ⟨f125_ins, f125_outs, f125⟩)]) 0 (subc (code Tryz.f170) [1, 1, 1, 1, 0, 1, 0, 0]) .nil (stof f170_l0_ins v) (around 0 f170_l0_ins f170_l0_outs) = F170_l0 f125 v := by kernel_rfl
def C170_l0 (v : List UInt8 × Int × Int × List (List UInt8) × Unit) : Option (List UInt8 × Int × List (List UInt8) × Unit) := loopN (F170_l0 C125) big v
theorem k170_l0 : FragOk Tryz.prog 0 (fun Q a w => (Code.loop (subc (code Tryz.f170) [1, 1, 1, 1, 0, 1, 0, 0])).wp Tryz.prog Q a w) ⟨f170_l0_ins, f170_l0_outs, C170_l0⟩ :=
 frag_loop (ins := f170_l0_ins) (os := f170_l0_outs) (np := 0) (n := .nil) (F := F170_l0 C125) hm hΓ (K := (fun f => Ae.lookA f [(125, ⟨f125_ins, f125_outs, C125⟩)])) (kok_cons ok125 (kok_nil _)) (fun _ => big)
 (ann_nil _) (fun v => h170_l0 C125 v)
def F170_c0 (f170_l0 : List UInt8 × Int × Int × List (List UInt8) × Unit → Option (List UInt8 × Int × List (List UInt8) × Unit)) : List UInt8 × Int × Unit → Option (List (List UInt8) × Unit) := fun (x0, x1, _) =>
 bif
 decide (0 ≤ x1) &&
 (decide (x1 = x1) && (decide ((↑16 : Int) * x1 ≤ 281474976710656) && decide (x1 ≤ 140737488355328))) then
 (f170_l0 (x0, x1, 0, List.replicate x1.toNat [], ())).bind fun val =>
 bif decide (val.2.1 > 0) then
 bif
 decide (0 ≤ IntKind.i64.wrap (val.2.1 - 1)) &&
 decide (IntKind.i64.wrap (val.2.1 - 1) < (↑(List.length val.2.2.1) : Int)) then
 some (List.set val.2.2.1 (IntKind.i64.wrap (val.2.1 - 1)).toNat val.1, ())
 else none
 else some (val.2.2.1, ())
 else none
theorem h170_c0 (f170_l0 : HS f170_l0_ins → Option (OTy f170_l0_outs)) (v : HS f170_c0_ins) : aev Γ (fun f => Ae.lookA f []) 0 (subc (code Tryz.f170) [1, 1, 1]) (.seq .nil (.seq (.seq .nil (.blk (.loop ⟨f170_l0_ins, f170_l0_outs, f170_l0⟩))) .nil)) (stof f170_c0_ins v) (oout 0 f170_c0_outs) = F170_c0 f170_l0 v := by kernel_rfl
def C170_c0 (v : List UInt8 × Int × Unit) : Option (List (List UInt8) × Unit) := F170_c0 C170_l0 v
theorem k170_c0 : FragOk Tryz.prog 0 (fun Q a w => ((subc (code Tryz.f170) [1, 1, 1])).wp Tryz.prog Q a w) ⟨f170_c0_ins, f170_c0_outs, C170_c0⟩ :=
 frag_code (ins := f170_c0_ins) (os := f170_c0_outs) (np := 0) (n := (.seq .nil (.seq (.seq .nil (.blk (.loop ⟨f170_l0_ins, f170_l0_outs, C170_l0⟩))) .nil))) (F := C170_c0) hm hΓ (K := (fun f => Ae.lookA f [])) (kok_nil _)
 (ann_seq (a := (subc (code Tryz.f170) [1, 1, 1, 0])) (b := (subc (code Tryz.f170) [1, 1, 1, 1])) (by kernel_rfl) (ann_nil _) (ann_seq (a := (subc (code Tryz.f170) [1, 1, 1, 1, 0])) (b := (subc (code Tryz.f170) [1, 1, 1, 1, 1])) (by kernel_rfl) (ann_seq (a := (subc (code Tryz.f170) [1, 1, 1, 1, 0, 0])) (b := (subc (code Tryz.f170) [1, 1, 1, 1, 0, 1])) (by kernel_rfl) (ann_nil _) (ann_blk (x := (subc (code Tryz.f170) [1, 1, 1, 1, 0, 1, 0])) (by kernel_rfl) (ann_loop (x := (subc (code Tryz.f170) [1, 1, 1, 1, 0, 1, 0, 0])) (by kernel_rfl) k170_l0))) (ann_nil _))) (fun v => h170_c0 C170_l0 v)
def F170 (f168 : List UInt8 × Unit → Option (Int × Unit)) (f170_c0 : List UInt8 × Int × Unit → Option (List (List UInt8) × Unit)) : List UInt8 × Int × Unit → Option (List (List UInt8) × Unit) := fun (x0, x1, _) =>
 (f168 (x0, ())).bind fun val =>
 bif decide (x1 < 0) then (f170_c0 (x0, val.1, ())).bind fun val => some (val.1, ())
 else
 bif decide (x1 > val.1) then (f170_c0 (x0, val.1, ())).bind fun val => some (val.1, ())
 else (f170_c0 (x0, x1, ())).bind fun val => some (val.1, ())
theorem h170 (f168 : HS f168_ins → Option (OTy f168_outs)) (f170_c0 : HS f170_c0_ins → Option (OTy f170_c0_outs)) (v : HS f170_ins) : afun Γ (fun f => Ae.lookA f [(168, ⟨f168_ins, f168_outs, f168⟩)]) 0 Tryz.f170.ntmps Tryz.f170.results.toList (code Tryz.f170) (.seq .nil (.seq .nil (.cut .nil ⟨f170_c0_ins, f170_c0_outs, f170_c0⟩))) (em id f170_ins v).1 (em id f170_ins v).2 (ofin 0 f170_outs) = F170 f168 f170_c0 v := by kernel_rfl
def C170 (v : List UInt8 × Int × Unit) : Option (List (List UInt8) × Unit) := F170 C168 C170_c0 v
theorem ok170 : FnOk Tryz.prog 170 ⟨f170_ins, f170_outs, C170⟩ :=
 fn_ok (np := 0) (n := (.seq .nil (.seq .nil (.cut .nil ⟨f170_c0_ins, f170_c0_outs, C170_c0⟩)))) hm hΓ (K := (fun f => Ae.lookA f [(168, ⟨f168_ins, f168_outs, C168⟩)])) (kok_cons ok168 (kok_nil _)) Tryz.func170 (c := code Tryz.f170) (by kernel_rfl) (name_ne (by kernel_rfl))
 (ann_seq (a := (subc (code Tryz.f170) [0])) (b := (subc (code Tryz.f170) [1])) (by kernel_rfl) (ann_nil _) (ann_seq (a := (subc (code Tryz.f170) [1, 0])) (b := (subc (code Tryz.f170) [1, 1])) (by kernel_rfl) (ann_nil _) (ann_cut (a := (subc (code Tryz.f170) [1, 1, 0])) (b := (subc (code Tryz.f170) [1, 1, 1])) (by kernel_rfl) (ann_nil _) k170_c0))) (fun v => Nat.le_of_ble_eq_true (by kernel_rfl)) (fun v => h170 C168 C170_c0 v)
def F145 (f89 : List UInt8 × List UInt8 × Unit → Option (Int × Unit)) : List UInt8 × List UInt8 × Unit → Option (Int × Unit) := fun (x0, x1, _) =>
 (f89 (x0, x1, ())).bind fun val => some (val.1, ())
theorem h145 (f89 : HS f89_ins → Option (OTy f89_outs)) (v : HS f145_ins) : afun Γ (fun f => Ae.lookA f [(89, ⟨f89_ins, f89_outs, f89⟩)]) 0 Tryz.f145.ntmps Tryz.f145.results.toList (code Tryz.f145) .nil (em id f145_ins v).1 (em id f145_ins v).2 (ofin 0 f145_outs) = F145 f89 v := by kernel_rfl
def C145 (v : List UInt8 × List UInt8 × Unit) : Option (Int × Unit) := F145 C89 v
theorem ok145 : FnOk Tryz.prog 145 ⟨f145_ins, f145_outs, C145⟩ :=
 fn_ok (np := 0) (n := .nil) hm hΓ (K := (fun f => Ae.lookA f [(89, ⟨f89_ins, f89_outs, C89⟩)])) (kok_cons ok89 (kok_nil _)) Tryz.func145 (c := code Tryz.f145) (by kernel_rfl) (name_ne (by kernel_rfl))
 (ann_nil _) (fun v => Nat.le_of_ble_eq_true (by kernel_rfl)) (fun v => h145 C89 v)
def F144_l0 (f145 : List UInt8 × List UInt8 × Unit → Option (Int × Unit)) : List UInt8 × List UInt8 × Int × Unit → Option ((List UInt8 × List UInt8 × Int × Unit) ⊕ (Int × Unit)) := fun (x0, x1, x2, _) =>
 (f145 (x0, x1, ())).bind fun val =>
 bif val.1 == -1 then some (Sum.inr (x2, ()))
 else
 bif
 decide (0 ≤ IntKind.i64.wrap (val.1 + (↑x1.length : Int))) &&
 decide (IntKind.i64.wrap (val.1 + (↑x1.length : Int)) ≤ (↑x0.length : Int)) then
 some
 (Sum.inl
 (List.drop (IntKind.i64.wrap (val.1 + (↑x1.length : Int))).toNat x0, x1, IntKind.i64.wrap (x2 + 1),
 ()))
 else none
theorem h144_l0 (f145 : HS f145_ins → Option (OTy f145_outs)) (v : HS f144_l0_ins) : aev Γ (fun f => Ae.lookA f [(145, ⟨f145_ins, f145_outs, f145⟩)]) 0 (subc (code Tryz.f144) [1, 1, 1, 1, 0, 0]) .nil (stof f144_l0_ins v) (around 0 f144_l0_ins f144_l0_outs) = F144_l0 f145 v := by kernel_rfl
def C144_l0 (v : List UInt8 × List UInt8 × Int × Unit) : Option (Int × Unit) := loopN (F144_l0 C145) big v
theorem k144_l0 : FragOk Tryz.prog 0 (fun Q a w => (Code.loop (subc (code Tryz.f144) [1, 1, 1, 1, 0, 0])).wp Tryz.prog Q a w) ⟨f144_l0_ins, f144_l0_outs, C144_l0⟩ :=
 frag_loop (ins := f144_l0_ins) (os := f144_l0_outs) (np := 0) (n := .nil) (F := F144_l0 C145) hm hΓ (K := (fun f => Ae.lookA f [(145, ⟨f145_ins, f145_outs, C145⟩)])) (kok_cons ok145 (kok_nil _)) (fun _ => big)
 (ann_nil _) (fun v => h144_l0 C145 v)
def F144 (f168 : List UInt8 × Unit → Option (Int × Unit)) (f169 : List UInt8 × Int × Unit → Option (Int × Unit)) (f144_l0 : List UInt8 × List UInt8 × Int × Unit → Option (Int × Unit)) : List UInt8 × List UInt8 × Unit → Option (Int × Unit) := fun (x0, x1, _) =>
 bif (↑x1.length : Int) == 0 then (f168 (x0, ())).bind fun val => some (IntKind.i64.wrap (val.1 + 1), ())
 else
 bif (↑x1.length : Int) == 1 then
 bif decide (0 < (↑x1.length : Int)) then
 (f169 (x0, (↑(x1.getD 0 0).toNat : Int), ())).bind fun val => some (val.1, ())
 else none
 else (f144_l0 (x0, x1, 0, ())).bind fun val => some (val.1, ())
theorem h144 (f168 : HS f168_ins → Option (OTy f168_outs)) (f169 : HS f169_ins → Option (OTy f169_outs)) (f144_l0 : HS f144_l0_ins → Option (OTy f144_l0_outs)) (v : HS f144_ins) : afun Γ (fun f => Ae.lookA f [(168, ⟨f168_ins, f168_outs, f168⟩), (169, ⟨f169_ins, f169_outs, f169⟩)]) 0 Tryz.f144.ntmps Tryz.f144.results.toList (code Tryz.f144) (.seq .nil (.seq .nil (.seq .nil (.seq .nil (.blk (.loop ⟨f144_l0_ins, f144_l0_outs, f144_l0⟩)))))) (em id f144_ins v).1 (em id f144_ins v).2 (ofin 0 f144_outs) = F144 f168 f169 f144_l0 v := by kernel_rfl
def C144 (v : List UInt8 × List UInt8 × Unit) : Option (Int × Unit) := F144 C168 C169 C144_l0 v
theorem ok144 : FnOk Tryz.prog 144 ⟨f144_ins, f144_outs, C144⟩ :=
 fn_ok (np := 0) (n := (.seq .nil (.seq .nil (.seq .nil (.seq .nil (.blk (.loop ⟨f144_l0_ins, f144_l0_outs, C144_l0⟩))))))) hm hΓ (K := (fun f => Ae.lookA f [(168, ⟨f168_ins, f168_outs, C168⟩), (169, ⟨f169_ins, f169_outs, C169⟩)])) (kok_cons ok168 (kok_cons ok169 (kok_nil _))) Tryz.func144 (c := code Tryz.f144) (by kernel_rfl) (name_ne (by kernel_rfl))
 (ann_seq (a := (subc (code Tryz.f144) [0])) (b := (subc (code Tryz.f144) [1])) (by kernel_rfl) (ann_nil _) (ann_seq (a := (subc (code Tryz.f144) [1, 0])) (b := (subc (code Tryz.f144) [1, 1])) (by kernel_rfl) (ann_nil _) (ann_seq (a := (subc (code Tryz.f144) [1, 1, 0])) (b := (subc (code Tryz.f144) [1, 1, 1])) (by kernel_rfl) (ann_nil _) (ann_seq (a := (subc (code Tryz.f144) [1, 1, 1, 0])) (b := (subc (code Tryz.f144) [1, 1, 1, 1])) (by kernel_rfl) (ann_nil _) (ann_blk (x := (subc (code Tryz.f144) [1, 1, 1, 1, 0])) (by kernel_rfl) (ann_loop (x := (subc (code Tryz.f144) [1, 1, 1, 1, 0, 0])) (by kernel_rfl) k144_l0)))))) (fun v => Nat.le_of_ble_eq_true (by kernel_rfl)) (fun v => h144 C168 C169 C144_l0 v)
def F146_l0 (f145 : List UInt8 × List UInt8 × Unit → Option (Int × Unit)) : List UInt8 × List UInt8 × Int × Int × Int × List (List UInt8) × Unit → Option ((List UInt8 × List UInt8 × Int × Int × Int × List (List UInt8) × Unit) ⊕ (List UInt8 × Int × List (List UInt8) × Unit)) := fun (x0, x1, x2, x3, x4, x5, _) =>
 bif decide (x4 < x3) then
 (f145 (x0, x1, ())).bind fun val =>
 bif decide (val.1 < 0) then some (Sum.inr (x0, x4, x5, ()))
 else
 bif
 decide (0 ≤ IntKind.i64.wrap (val.1 + x2)) &&
 decide (IntKind.i64.wrap (val.1 + x2) ≤ (↑x0.length : Int)) then
 bif decide (0 ≤ x4) && decide (x4 < (↑x5.length : Int)) then
 bif
 decide (0 ≤ IntKind.i64.wrap (val.1 + (↑x1.length : Int))) &&
 decide (IntKind.i64.wrap (val.1 + (↑x1.length : Int)) ≤ (↑x0.length : Int)) then
 some
 (Sum.inl
 (List.drop (IntKind.i64.wrap (val.1 + (↑x1.length : Int))).toNat x0, x1, x2, x3,
 IntKind.i64.wrap (x4 + 1), x5.set x4.toNat (List.take (IntKind.i64.wrap (val.1 + x2)).toNat x0),
 ()))
 else none
 else none
 else none
 else some (Sum.inr (x0, x4, x5, ()))
theorem h146_l0 (f145 : HS f145_ins → Option (OTy f145_outs)) (v : HS f146_l0_ins) : aev Γ (fun f => Ae.lookA f [(145, ⟨f145_ins, f145_outs, f145⟩)]) 0 (subc (code Tryz.f146) [1, 1, 1, 1, 1, 1, 1, 1, 0, 0, 0]) .nil (stof f146_l0_ins v) (around 0 f146_l0_ins f146_l0_outs) = F146_l0 f145 v := by kernel_rfl
def C146_l0 (v : List UInt8 × List UInt8 × Int × Int × Int × List (List UInt8) × Unit) : Option (List UInt8 × Int × List (List UInt8) × Unit) := loopN (F146_l0 C145) big v
theorem k146_l0 : FragOk Tryz.prog 0 (fun Q a w => (Code.loop (subc (code Tryz.f146) [1, 1, 1, 1, 1, 1, 1, 1, 0, 0, 0])).wp Tryz.prog Q a w) ⟨f146_l0_ins, f146_l0_outs, C146_l0⟩ :=
 frag_loop (ins := f146_l0_ins) (os := f146_l0_outs) (np := 0) (n := .nil) (F := F146_l0 C145) hm hΓ (K := (fun f => Ae.lookA f [(145, ⟨f145_ins, f145_outs, C145⟩)])) (kok_cons ok145 (kok_nil _)) (fun _ => big)
 (ann_nil _) (fun v => h146_l0 C145 v)
def F146_c0 (f146_l0 : List UInt8 × List UInt8 × Int × Int × Int × List (List UInt8) × Unit → Option (List UInt8 × Int × List (List UInt8) × Unit)) : List UInt8 × List UInt8 × Int × Int × Unit → Option (List (List UInt8) × Unit) := fun (x0, x1, x2, x3, _) =>
 bif
 decide
 (0 ≤
 if IntKind.i64.wrap ((↑x0.length : Int) + 1) < x3 then IntKind.i64.wrap ((↑x0.length : Int) + 1) else x3) &&
 (decide
 ((if IntKind.i64.wrap ((↑x0.length : Int) + 1) < x3 then IntKind.i64.wrap ((↑x0.length : Int) + 1) else x3) =
 if IntKind.i64.wrap ((↑x0.length : Int) + 1) < x3 then IntKind.i64.wrap ((↑x0.length : Int) + 1) else x3) &&
 (decide
 (((↑16 : Int) *
 if IntKind.i64.wrap ((↑x0.length : Int) + 1) < x3 then IntKind.i64.wrap ((↑x0.length : Int) + 1)
 else x3) ≤
 281474976710656) &&
 decide
 ((if IntKind.i64.wrap ((↑x0.length : Int) + 1) < x3 then IntKind.i64.wrap ((↑x0.length : Int) + 1)
 else x3) ≤
 140737488355328))) then
 (f146_l0
 (x0, x1, x2,
 IntKind.i64.wrap
 ((if IntKind.i64.wrap ((↑x0.length : Int) + 1) < x3 then IntKind.i64.wrap ((↑x0.length : Int) + 1)
 else x3) -
 1),
 0,
 List.replicate
 (if IntKind.i64.wrap ((↑x0.length : Int) + 1) < x3 then IntKind.i64.wrap ((↑x0.length : Int) + 1)
 else x3).toNat
 [],
 ())).bind
 fun val =>
 bif decide (0 ≤ val.2.1) && decide (val.2.1 < (↑(List.length val.2.2.1) : Int)) then
 bif
 decide (0 ≤ IntKind.i64.wrap (val.2.1 + 1)) &&
 decide
 (IntKind.i64.wrap (val.2.1 + 1) ≤
 (↑(List.set val.2.2.1 (Int.toNat val.2.1) val.1).length : Int)) then
 some
 (List.take (IntKind.i64.wrap (val.2.1 + 1)).toNat
 (List.set val.2.2.1 (Int.toNat val.2.1) val.1),
 ())
 else none
 else none
 else none
theorem h146_c0 (f146_l0 : HS f146_l0_ins → Option (OTy f146_l0_outs)) (v : HS f146_c0_ins) : aev Γ (fun f => Ae.lookA f []) 0 (subc (code Tryz.f146) [1, 1, 1, 1]) (.seq .nil (.seq .nil (.seq .nil (.seq .nil (.seq (.blk (.loop ⟨f146_l0_ins, f146_l0_outs, f146_l0⟩)) .nil))))) (stof f146_c0_ins v) (oout 0 f146_c0_outs) = F146_c0 f146_l0 v := by kernel_rfl
def C146_c0 (v : List UInt8 × List UInt8 × Int × Int × Unit) : Option (List (List UInt8) × Unit) := F146_c0 C146_l0 v
theorem k146_c0 : FragOk Tryz.prog 0 (fun Q a w => ((subc (code Tryz.f146) [1, 1, 1, 1])).wp Tryz.prog Q a w) ⟨f146_c0_ins, f146_c0_outs, C146_c0⟩ :=
 frag_code (ins := f146_c0_ins) (os := f146_c0_outs) (np := 0) (n := (.seq .nil (.seq .nil (.seq .nil (.seq .nil (.seq (.blk (.loop ⟨f146_l0_ins, f146_l0_outs, C146_l0⟩)) .nil)))))) (F := C146_c0) hm hΓ (K := (fun f => Ae.lookA f [])) (kok_nil _)
 (ann_seq (a := (subc (code Tryz.f146) [1, 1, 1, 1, 0])) (b := (subc (code Tryz.f146) [1, 1, 1, 1, 1])) (by kernel_rfl) (ann_nil _) (ann_seq (a := (subc (code Tryz.f146) [1, 1, 1, 1, 1, 0])) (b := (subc (code Tryz.f146) [1, 1, 1, 1, 1, 1])) (by kernel_rfl) (ann_nil _) (ann_seq (a := (subc (code Tryz.f146) [1, 1, 1, 1, 1, 1, 0])) (b := (subc (code Tryz.f146) [1, 1, 1, 1, 1, 1, 1])) (by kernel_rfl) (ann_nil _) (ann_seq (a := (subc (code Tryz.f146) [1, 1, 1, 1, 1, 1, 1, 0])) (b := (subc (code Tryz.f146) [1, 1, 1, 1, 1, 1, 1, 1])) (by kernel_rfl) (ann_nil _) (ann_seq (a := (subc (code Tryz.f146) [1, 1, 1, 1, 1, 1, 1, 1, 0])) (b := (subc (code Tryz.f146) [1, 1, 1, 1, 1, 1, 1, 1, 1])) (by kernel_rfl) (ann_blk (x := (subc (code Tryz.f146) [1, 1, 1, 1, 1, 1, 1, 1, 0, 0])) (by kernel_rfl) (ann_loop (x := (subc (code Tryz.f146) [1, 1, 1, 1, 1, 1, 1, 1, 0, 0, 0])) (by kernel_rfl) k146_l0)) (ann_nil _)))))) (fun v => h146_c0 C146_l0 v)
def F146 (f144 : List UInt8 × List UInt8 × Unit → Option (Int × Unit)) (f170 : List UInt8 × Int × Unit → Option (List (List UInt8) × Unit)) (f146_c0 : List UInt8 × List UInt8 × Int × Int × Unit → Option (List (List UInt8) × Unit)) : List UInt8 × List UInt8 × Int × Int × Unit → Option (List (List UInt8) × Unit) := fun (x0, x1, x2, x3, _) =>
 bif x3 == 0 then some ([], ())
 else
 bif x1 == [] then (f170 (x0, x3, ())).bind fun val => some (val.1, ())
 else
 bif decide (x3 < 0) then
 (f144 (x0, x1, ())).bind fun val =>
 (f146_c0 (x0, x1, x2, IntKind.i64.wrap (val.1 + 1), ())).bind fun val => some (val.1, ())
 else (f146_c0 (x0, x1, x2, x3, ())).bind fun val => some (val.1, ())
theorem h146 (f144 : HS f144_ins → Option (OTy f144_outs)) (f170 : HS f170_ins → Option (OTy f170_outs)) (f146_c0 : HS f146_c0_ins → Option (OTy f146_c0_outs)) (v : HS f146_ins) : afun Γ (fun f => Ae.lookA f [(144, ⟨f144_ins, f144_outs, f144⟩), (170, ⟨f170_ins, f170_outs, f170⟩)]) 0 Tryz.f146.ntmps Tryz.f146.results.toList (code Tryz.f146) (.seq .nil (.seq .nil (.seq .nil (.cut .nil ⟨f146_c0_ins, f146_c0_outs, f146_c0⟩)))) (em id f146_ins v).1 (em id f146_ins v).2 (ofin 0 f146_outs) = F146 f144 f170 f146_c0 v := by kernel_rfl
def C146 (v : List UInt8 × List UInt8 × Int × Int × Unit) : Option (List (List UInt8) × Unit) := F146 C144 C170 C146_c0 v
theorem ok146 : FnOk Tryz.prog 146 ⟨f146_ins, f146_outs, C146⟩ :=
 fn_ok (np := 0) (n := (.seq .nil (.seq .nil (.seq .nil (.cut .nil ⟨f146_c0_ins, f146_c0_outs, C146_c0⟩))))) hm hΓ (K := (fun f => Ae.lookA f [(144, ⟨f144_ins, f144_outs, C144⟩), (170, ⟨f170_ins, f170_outs, C170⟩)])) (kok_cons ok144 (kok_cons ok170 (kok_nil _))) Tryz.func146 (c := code Tryz.f146) (by kernel_rfl) (name_ne (by kernel_rfl))
 (ann_seq (a := (subc (code Tryz.f146) [0])) (b := (subc (code Tryz.f146) [1])) (by kernel_rfl) (ann_nil _) (ann_seq (a := (subc (code Tryz.f146) [1, 0])) (b := (subc (code Tryz.f146) [1, 1])) (by kernel_rfl) (ann_nil _) (ann_seq (a := (subc (code Tryz.f146) [1, 1, 0])) (b := (subc (code Tryz.f146) [1, 1, 1])) (by kernel_rfl) (ann_nil _) (ann_cut (a := (subc (code Tryz.f146) [1, 1, 1, 0])) (b := (subc (code Tryz.f146) [1, 1, 1, 1])) (by kernel_rfl) (ann_nil _) k146_c0)))) (fun v => Nat.le_of_ble_eq_true (by kernel_rfl)) (fun v => h146 C144 C170 C146_c0 v)
def F112 (f146 : List UInt8 × List UInt8 × Int × Int × Unit → Option (List (List UInt8) × Unit)) : List UInt8 × List UInt8 × Unit → Option (List (List UInt8) × Unit) := fun (x0, x1, _) =>
 (f146 (x0, x1, 0, -1, ())).bind fun val => some (val.1, ())
theorem h112 (f146 : HS f146_ins → Option (OTy f146_outs)) (v : HS f112_ins) : afun Γ (fun f => Ae.lookA f [(146, ⟨f146_ins, f146_outs, f146⟩)]) 0 Tryz.f112.ntmps Tryz.f112.results.toList (code Tryz.f112) .nil (em id f112_ins v).1 (em id f112_ins v).2 (ofin 0 f112_outs) = F112 f146 v := by kernel_rfl
def C112 (v : List UInt8 × List UInt8 × Unit) : Option (List (List UInt8) × Unit) := F112 C146 v
theorem ok112 : FnOk Tryz.prog 112 ⟨f112_ins, f112_outs, C112⟩ :=
 fn_ok (np := 0) (n := .nil) hm hΓ (K := (fun f => Ae.lookA f [(146, ⟨f146_ins, f146_outs, C146⟩)])) (kok_cons ok146 (kok_nil _)) Tryz.func112 (c := code Tryz.f112) (by kernel_rfl) (name_ne (by kernel_rfl))
 (ann_nil _) (fun v => Nat.le_of_ble_eq_true (by kernel_rfl)) (fun v => h112 C146 v)
end Go.Proofs.YtmfcepdbpdihgaaGreatDoor.W
set_option maxRecDepth 100000
set_option linter.unusedVariables false
namespace Go.Proofs.YtmfcepdbpdihgaaGreatDoor.W
open Go Go.Ae
def F99 (f115 : List UInt8 × Int × Unit → Option (Int × Unit)) : List UInt8 × Int × Unit → Option (Int × Unit) := fun (x0, x1, _) =>
 (f115 (x0, x1, ())).bind fun val => some (val.1, ())
theorem h99 (f115 : HS f115_ins → Option (OTy f115_outs)) (v : HS f99_ins) : afun Γ (fun f => Ae.lookA f [(115, ⟨f115_ins, f115_outs, f115⟩)]) 0 Tryz.f99.ntmps Tryz.f99.results.toList (code Tryz.f99) .nil (em id f99_ins v).1 (em id f99_ins v).2 (ofin 0 f99_outs) = F99 f115 v := by kernel_rfl
def C99 (v : List UInt8 × Int × Unit) : Option (Int × Unit) := F99 C115 v
theorem ok99 : FnOk Tryz.prog 99 ⟨f99_ins, f99_outs, C99⟩ :=
 fn_ok (np := 0) (n := .nil) hm hΓ (K := (fun f => Ae.lookA f [(115, ⟨f115_ins, f115_outs, C115⟩)])) (kok_cons ok115 (kok_nil _)) Tryz.func99 (c := code Tryz.f99) (by kernel_rfl) (name_ne (by kernel_rfl))
 (ann_nil _) (fun v => Nat.le_of_ble_eq_true (by kernel_rfl)) (fun v => h99 C115 v)
def F147_c0  : Int × Bool × Unit → Option (Int × Bool × Unit) := fun (x0, x1, _) =>
 bif x1 then some (x0, true, ())
 else
 bif decide (x0 ≥ 48) then
 bif decide (x0 ≤ 57) then some (x0, true, ()) else some (x0, decide (x0 ≥ 128), ())
 else some (x0, decide (x0 ≥ 128), ())
theorem h147_c0  (v : HS f147_c0_ins) : aev Γ (fun f => Ae.lookA f []) 0 (subc (code Tryz.f147) [1, 0, 0, 0, 1, 1, 1]) .nil (stof f147_c0_ins v) (oout 0 f147_c0_outs) = F147_c0 v := by kernel_rfl
def C147_c0 (v : Int × Bool × Unit) : Option (Int × Bool × Unit) := F147_c0 v
theorem k147_c0 : FragOk Tryz.prog 0 (fun Q a w => ((subc (code Tryz.f147) [1, 0, 0, 0, 1, 1, 1])).wp Tryz.prog Q a w) ⟨f147_c0_ins, f147_c0_outs, C147_c0⟩ :=
 frag_code (ins := f147_c0_ins) (os := f147_c0_outs) (np := 0) (n := .nil) (F := C147_c0) hm hΓ (K := (fun f => Ae.lookA f [])) (kok_nil _)
 (ann_nil _) (fun v => h147_c0 v)
def F147_c1 (f147_c0 : Int × Bool × Unit → Option (Int × Bool × Unit)) : Int × Bool × Unit → Option (Int × Bool × Unit) := fun (x0, x1, _) =>
 bif x1 then some (x0, true, ())
 else
 bif decide (x0 ≥ 65) then (f147_c0 (x0, decide (x0 ≤ 90), ())).bind fun val => some (val.1, val.2.1, ())
 else (f147_c0 (x0, false, ())).bind fun val => some (val.1, val.2.1, ())
theorem h147_c1 (f147_c0 : HS f147_c0_ins → Option (OTy f147_c0_outs)) (v : HS f147_c1_ins) : aev Γ (fun f => Ae.lookA f []) 0 (subc (code Tryz.f147) [1, 0, 0, 0, 1]) (.cond .nil (.cut .nil ⟨f147_c0_ins, f147_c0_outs, f147_c0⟩)) (stof f147_c1_ins v) (oout 0 f147_c1_outs) = F147_c1 f147_c0 v := by kernel_rfl
def C147_c1 (v : Int × Bool × Unit) : Option (Int × Bool × Unit) := F147_c1 C147_c0 v
theorem k147_c1 : FragOk Tryz.prog 0 (fun Q a w => ((subc (code Tryz.f147) [1, 0, 0, 0, 1])).wp Tryz.prog Q a w) ⟨f147_c1_ins, f147_c1_outs, C147_c1⟩ :=
 frag_code (ins := f147_c1_ins) (os := f147_c1_outs) (np := 0) (n := (.cond .nil (.cut .nil ⟨f147_c0_ins, f147_c0_outs, C147_c0⟩))) (F := C147_c1) hm hΓ (K := (fun f => Ae.lookA f [])) (kok_nil _)
 (ann_cond (x := (subc (code Tryz.f147) [1, 0, 0, 0, 1, 0])) (y := (subc (code Tryz.f147) [1, 0, 0, 0, 1, 1])) (by kernel_rfl) (ann_nil _) (ann_cut (a := (subc (code Tryz.f147) [1, 0, 0, 0, 1, 1, 0])) (b := (subc (code Tryz.f147) [1, 0, 0, 0, 1, 1, 1])) (by kernel_rfl) (ann_nil _) k147_c0)) (fun v => h147_c1 C147_c0 v)
def F147 (f99 : List UInt8 × Int × Unit → Option (Int × Unit)) (f147_c1 : Int × Bool × Unit → Option (Int × Bool × Unit)) : Int × Unit → Option (Bool × Unit) := fun (x0, _) =>
 bif decide (x0 ≥ 97) then
 (f147_c1 (x0, decide (x0 ≤ 122), ())).bind fun val =>
 bif val.2.1 then some (true, ())
 else
 (f99 ([33, 35, 36, 37, 38, 39, 42, 43, 45, 47, 61, 63, 94, 95, 96, 123, 124, 125, 126], val.1, ())).bind
 fun val => some (decide (val.1 ≥ 0), ())
 else
 (f147_c1 (x0, false, ())).bind fun val =>
 bif val.2.1 then some (true, ())
 else
 (f99 ([33, 35, 36, 37, 38, 39, 42, 43, 45, 47, 61, 63, 94, 95, 96, 123, 124, 125, 126], val.1, ())).bind
 fun val => some (decide (val.1 ≥ 0), ())
theorem h147 (f99 : HS f99_ins → Option (OTy f99_outs)) (f147_c1 : HS f147_c1_ins → Option (OTy f147_c1_outs)) (v : HS f147_ins) : afun Γ (fun f => Ae.lookA f [(99, ⟨f99_ins, f99_outs, f99⟩)]) 0 Tryz.f147.ntmps Tryz.f147.results.toList (code Tryz.f147) (.seq .nil (.seq (.blk (.seq (.cut .nil ⟨f147_c1_ins, f147_c1_outs, f147_c1⟩) .nil)) .nil)) (em id f147_ins v).1 (em id f147_ins v).2 (ofin 0 f147_outs) = F147 f99 f147_c1 v := by kernel_rfl
def C147 (v : Int × Unit) : Option (Bool × Unit) := F147 C99 C147_c1 v
theorem ok147 : FnOk Tryz.prog 147 ⟨f147_ins, f147_outs, C147⟩ :=
 fn_ok (np := 0) (n := (.seq .nil (.seq (.blk (.seq (.cut .nil ⟨f147_c1_ins, f147_c1_outs, C147_c1⟩) .nil)) .nil))) hm hΓ (K := (fun f => Ae.lookA f [(99, ⟨f99_ins, f99_outs, C99⟩)])) (kok_cons ok99 (kok_nil _)) Tryz.func147 (c := code Tryz.f147) (by kernel_rfl) (name_ne (by kernel_rfl))
 (ann_seq (a := (subc (code Tryz.f147) [0])) (b := (subc (code Tryz.f147) [1])) (by kernel_rfl) (ann_nil _) (ann_seq (a := (subc (code Tryz.f147) [1, 0])) (b := (subc (code Tryz.f147) [1, 1])) (by kernel_rfl) (ann_blk (x := (subc (code Tryz.f147) [1, 0, 0])) (by kernel_rfl) (ann_seq (a := (subc (code Tryz.f147) [1, 0, 0, 0])) (b := (subc (code Tryz.f147) [1, 0, 0, 1])) (by kernel_rfl) (ann_cut (a := (subc (code Tryz.f147) [1, 0, 0, 0, 0])) (b := (subc (code Tryz.f147) [1, 0, 0, 0, 1])) (by kernel_rfl) (ann_nil _) k147_c1) (ann_nil _))) (ann_nil _))) (fun v => Nat.le_of_ble_eq_true (by kernel_rfl)) (fun v => h147 C99 C147_c1 v)
def F113_l0 (f147 : Int × Unit → Option (Bool × Unit)) : List UInt8 × Int × Int × Unit → Option ((List UInt8 × Int × Int × Unit) ⊕ ((List UInt8 × Unit) ⊕ (Bool × Unit))) := fun (x0, x1, x2, _) =>
 bif decide (x2 < x1) then
 bif decide (0 ≤ x2) && decide (x2 < (↑x0.length : Int)) then
 (f147 ((↑(x0.getD x2.toNat 0).toNat : Int), ())).bind fun val =>
 bif !val.1 then some (Sum.inr (Sum.inr (false, ())))
 else some (Sum.inl (x0, x1, IntKind.i64.wrap (x2 + 1), ()))
 else none
 else some (Sum.inr (Sum.inl (x0, ())))
theorem h113_l0 (f147 : HS f147_ins → Option (OTy f147_outs)) (v : HS f113_l0_ins) : aev Γ (fun f => Ae.lookA f [(147, ⟨f147_ins, f147_outs, f147⟩)]) 0 (subc (code Tryz.f113) [1, 0, 1, 0, 0]) .nil (stof f113_l0_ins v) (around 0 f113_l0_ins f113_l0_outs) = F113_l0 f147 v := by kernel_rfl
def C113_l0 (v : List UInt8 × Int × Int × Unit) : Option ((List UInt8 × Unit) ⊕ (Bool × Unit)) := loopN (F113_l0 C147) big v
theorem k113_l0 : FragOk Tryz.prog 0 (fun Q a w => (Code.loop (subc (code Tryz.f113) [1, 0, 1, 0, 0])).wp Tryz.prog Q a w) ⟨f113_l0_ins, f113_l0_outs, C113_l0⟩ :=
 frag_loop (ins := f113_l0_ins) (os := f113_l0_outs) (np := 0) (n := .nil) (F := F113_l0 C147) hm hΓ (K := (fun f => Ae.lookA f [(147, ⟨f147_ins, f147_outs, C147⟩)])) (kok_cons ok147 (kok_nil _)) (fun _ => big)
 (ann_nil _) (fun v => h113_l0 C147 v)
def F113 (f113_l0 : List UInt8 × Int × Int × Unit → Option ((List UInt8 × Unit) ⊕ (Bool × Unit))) : List UInt8 × Unit → Option (Bool × Unit) := fun (x0, _) =>
 (f113_l0 (x0, (↑x0.length : Int), 0, ())).bind fun val =>
 Sum.elim (fun val => some (bif val.1 == [] then false else true, ()))
 (fun val => some (val.1, ())) val
theorem h113 (f113_l0 : HS f113_l0_ins → Option (OTy f113_l0_outs)) (v : HS f113_ins) : afun Γ (fun f => Ae.lookA f []) 0 Tryz.f113.ntmps Tryz.f113.results.toList (code Tryz.f113) (.seq .nil (.seq (.seq .nil (.blk (.loop ⟨f113_l0_ins, f113_l0_outs, f113_l0⟩))) .nil)) (em id f113_ins v).1 (em id f113_ins v).2 (ofin 0 f113_outs) = F113 f113_l0 v := by kernel_rfl
def C113 (v : List UInt8 × Unit) : Option (Bool × Unit) := F113 C113_l0 v
theorem ok113 : FnOk Tryz.prog 113 ⟨f113_ins, f113_outs, C113⟩ :=
 fn_ok (np := 0) (n := (.seq .nil (.seq (.seq .nil (.blk (.loop ⟨f113_l0_ins, f113_l0_outs, C113_l0⟩))) .nil))) hm hΓ (K := (fun f => Ae.lookA f [])) (kok_nil _) Tryz.func113 (c := code Tryz.f113) (by kernel_rfl) (name_ne (by kernel_rfl))
 (ann_seq (a := (subc (code Tryz.f113) [0])) (b := (subc (code Tryz.f113) [1])) (by kernel_rfl) (ann_nil _) (ann_seq (a := (subc (code Tryz.f113) [1, 0])) (b := (subc (code Tryz.f113) [1, 1])) (by kernel_rfl) (ann_seq (a := (subc (code Tryz.f113) [1, 0, 0])) (b := (subc (code Tryz.f113) [1, 0, 1])) (by kernel_rfl) (ann_nil _) (ann_blk (x := (subc (code Tryz.f113) [1, 0, 1, 0])) (by kernel_rfl) (ann_loop (x := (subc (code Tryz.f113) [1, 0, 1, 0, 0])) (by kernel_rfl) k113_l0))) (ann_nil _))) (fun v => Nat.le_of_ble_eq_true (by kernel_rfl)) (fun v => h113 C113_l0 v)
def F87_l0 (f113 : List UInt8 × Unit → Option (Bool × Unit)) : List (List UInt8) × Int × Int × Unit → Option ((List (List UInt8) × Int × Int × Unit) ⊕ (Unit ⊕ (Bool × Unit))) := fun (x0, x1, x2, _) =>
 bif decide (x2 < x1) then
 bif decide (0 ≤ x2) && decide (x2 < (↑x0.length : Int)) then
 (f113 (x0.getD x2.toNat [], ())).bind fun val =>
 bif !val.1 then some (Sum.inr (Sum.inr (false, ())))
 else some (Sum.inl (x0, x1, IntKind.i64.wrap (x2 + 1), ()))
 else none
 else some (Sum.inr (Sum.inl ()))
theorem h87_l0 (f113 : HS f113_ins → Option (OTy f113_outs)) (v : HS f87_l0_ins) : aev Γ (fun f => Ae.lookA f [(113, ⟨f113_ins, f113_outs, f113⟩)]) 0 (subc (code Tryz.f87) [1, 0, 1, 0, 0]) .nil (stof f87_l0_ins v) (around 0 f87_l0_ins f87_l0_outs) = F87_l0 f113 v := by kernel_rfl
def C87_l0 (v : List (List UInt8) × Int × Int × Unit) : Option (Unit ⊕ (Bool × Unit)) := loopN (F87_l0 C113) big v
theorem k87_l0 : FragOk Tryz.prog 0 (fun Q a w => (Code.loop (subc (code Tryz.f87) [1, 0, 1, 0, 0])).wp Tryz.prog Q a w) ⟨f87_l0_ins, f87_l0_outs, C87_l0⟩ :=
 frag_loop (ins := f87_l0_ins) (os := f87_l0_outs) (np := 0) (n := .nil) (F := F87_l0 C113) hm hΓ (K := (fun f => Ae.lookA f [(113, ⟨f113_ins, f113_outs, C113⟩)])) (kok_cons ok113 (kok_nil _)) (fun _ => big)
 (ann_nil _) (fun v => h87_l0 C113 v)
def F87 (f112 : List UInt8 × List UInt8 × Unit → Option (List (List UInt8) × Unit)) (f87_l0 : List (List UInt8) × Int × Int × Unit → Option (Unit ⊕ (Bool × Unit))) : List UInt8 × Unit → Option (Bool × Unit) := fun (x0, _) =>
 (f112 (x0, [46], ())).bind fun val =>
 (f87_l0 (val.1, (↑(List.length val.1) : Int), 0, ())).bind fun val =>
 Sum.elim (fun val => some (true, ())) (fun val => some (val.1, ())) val
theorem h87 (f112 : HS f112_ins → Option (OTy f112_outs)) (f87_l0 : HS f87_l0_ins → Option (OTy f87_l0_outs)) (v : HS f87_ins) : afun Γ (fun f => Ae.lookA f [(112, ⟨f112_ins, f112_outs, f112⟩)]) 0 Tryz.f87.ntmps Tryz.f87.results.toList (code Tryz.f87) (.seq .nil (.seq (.seq .nil (.blk (.loop ⟨f87_l0_ins, f87_l0_outs, f87_l0⟩))) .nil)) (em id f87_ins v).1 (em id f87_ins v).2 (ofin 0 f87_outs) = F87 f112 f87_l0 v := by kernel_rfl
def C87 (v : List UInt8 × Unit) : Option (Bool × Unit) := F87 C112 C87_l0 v
theorem ok87 : FnOk Tryz.prog 87 ⟨f87_ins, f87_outs, C87⟩ :=
 fn_ok (np := 0) (n := (.seq .nil (.seq (.seq .nil (.blk (.loop ⟨f87_l0_ins, f87_l0_outs, C87_l0⟩))) .nil))) hm hΓ (K := (fun f => Ae.lookA f [(112, ⟨f112_ins, f112_outs, C112⟩)])) (kok_cons ok112 (kok_nil _)) Tryz.func87 (c := code Tryz.f87) (by kernel_rfl) (name_ne (by kernel_rfl))
 (ann_seq (a := (subc (code Tryz.f87) [0])) (b := (subc (code Tryz.f87) [1])) (by kernel_rfl) (ann_nil _) (ann_seq (a := (subc (code Tryz.f87) [1, 0])) (b := (subc (code Tryz.f87) [1, 1])) (by kernel_rfl) (ann_seq (a := (subc (code Tryz.f87) [1, 0, 0])) (b := (subc (code Tryz.f87) [1, 0, 1])) (by kernel_rfl) (ann_nil _) (ann_blk (x := (subc (code Tryz.f87) [1, 0, 1, 0])) (by kernel_rfl) (ann_loop (x := (subc (code Tryz.f87) [1, 0, 1, 0, 0])) (by kernel_rfl) k87_l0))) (ann_nil _))) (fun v => Nat.le_of_ble_eq_true (by kernel_rfl)) (fun v => h87 C112 C87_l0 v)
def F114_l0  : List UInt8 × Int × Int × List UInt8 × Unit → Option ((List UInt8 × Int × Int × List UInt8 × Unit) ⊕ (List UInt8 × Unit)) := fun (x0, x1, x2, x3, _) =>
 bif decide (x2 < x1) then
 bif decide (0 ≤ x2) && decide (x2 < (↑x0.length : Int)) then
 bif (↑(x0.getD x2.toNat 0).toNat : Int) == 34 then
 bif decide (x3.length + [92].length ≤ 140737488355328 / 1) then
 bif decide (0 ≤ x2) && decide (x2 < (↑x0.length : Int)) then
 bif
 decide
 ((x3 ++ [92]).length +
 [UInt8.ofNat (↑(x0.getD x2.toNat 0).toNat : Int).toNat].length ≤
 140737488355328 / 1) then
 some
 (Sum.inl
 (x0, x1, IntKind.i64.wrap (x2 + 1),
 x3 ++ [92] ++ [UInt8.ofNat (↑(x0.getD x2.toNat 0).toNat : Int).toNat],
 ()))
 else none
 else none
 else none
 else
 bif decide (0 ≤ x2) && decide (x2 < (↑x0.length : Int)) then
 bif (↑(x0.getD x2.toNat 0).toNat : Int) == 92 then
 bif decide (x3.length + [92].length ≤ 140737488355328 / 1) then
 bif decide (0 ≤ x2) && decide (x2 < (↑x0.length : Int)) then
 bif
 decide
 ((x3 ++ [92]).length +
 [UInt8.ofNat (↑(x0.getD x2.toNat 0).toNat : Int).toNat].length ≤
 140737488355328 / 1) then
 some
 (Sum.inl
 (x0, x1, IntKind.i64.wrap (x2 + 1),
 x3 ++ [92] ++ [UInt8.ofNat (↑(x0.getD x2.toNat 0).toNat : Int).toNat],
 ()))
 else none
 else none
 else none
 else
 bif decide (0 ≤ x2) && decide (x2 < (↑x0.length : Int)) then
 bif
 decide
 (x3.length + [UInt8.ofNat (↑(x0.getD x2.toNat 0).toNat : Int).toNat].length ≤
 140737488355328 / 1) then
 some
 (Sum.inl
 (x0, x1, IntKind.i64.wrap (x2 + 1), x3 ++ [UInt8.ofNat (↑(x0.getD x2.toNat 0).toNat : Int).toNat],
 ()))
 else none
 else none
 else none
 else none
 else some (Sum.inr (x3, ()))
theorem h114_l0  (v : HS f114_l0_ins) : aev Γ (fun f => Ae.lookA f []) 0 (subc (code Tryz.f114) [1, 1, 0, 1, 0, 0]) .nil (stof f114_l0_ins v) (around 0 f114_l0_ins f114_l0_outs) = F114_l0 v := by kernel_rfl
def C114_l0 (v : List UInt8 × Int × Int × List UInt8 × Unit) : Option (List UInt8 × Unit) := loopN (F114_l0) big v
theorem k114_l0 : FragOk Tryz.prog 0 (fun Q a w => (Code.loop (subc (code Tryz.f114) [1, 1, 0, 1, 0, 0])).wp Tryz.prog Q a w) ⟨f114_l0_ins, f114_l0_outs, C114_l0⟩ :=
 frag_loop (ins := f114_l0_ins) (os := f114_l0_outs) (np := 0) (n := .nil) (F := F114_l0) hm hΓ (K := (fun f => Ae.lookA f [])) (kok_nil _) (fun _ => big)
 (ann_nil _) (fun v => h114_l0 v)
def F114 (f114_l0 : List UInt8 × Int × Int × List UInt8 × Unit → Option (List UInt8 × Unit)) : List UInt8 × Unit → Option (List UInt8 × Unit) := fun (x0, _) =>
 (f114_l0 (x0, (↑x0.length : Int), 0, [], ())).bind fun val => some (val.1, ())
theorem h114 (f114_l0 : HS f114_l0_ins → Option (OTy f114_l0_outs)) (v : HS f114_ins) : afun Γ (fun f => Ae.lookA f []) 0 Tryz.f114.ntmps Tryz.f114.results.toList (code Tryz.f114) (.seq .nil (.seq .nil (.seq (.seq .nil (.blk (.loop ⟨f114_l0_ins, f114_l0_outs, f114_l0⟩))) .nil))) (em id f114_ins v).1 (em id f114_ins v).2 (ofin 0 f114_outs) = F114 f114_l0 v := by kernel_rfl
def C114 (v : List UInt8 × Unit) : Option (List UInt8 × Unit) := F114 C114_l0 v
theorem ok114 : FnOk Tryz.prog 114 ⟨f114_ins, f114_outs, C114⟩ :=
 fn_ok (np := 0) (n := (.seq .nil (.seq .nil (.seq (.seq .nil (.blk (.loop ⟨f114_l0_ins, f114_l0_outs, C114_l0⟩))) .nil)))) hm hΓ (K := (fun f => Ae.lookA f [])) (kok_nil _) Tryz.func114 (c := code Tryz.f114) (by kernel_rfl) (name_ne (by kernel_rfl))
 (ann_seq (a := (subc (code Tryz.f114) [0])) (b := (subc (code Tryz.f114) [1])) (by kernel_rfl) (ann_nil _) (ann_seq (a := (subc (code Tryz.f114) [1, 0])) (b := (subc (code Tryz.f114) [1, 1])) (by kernel_rfl) (ann_nil _) (ann_seq (a := (subc (code Tryz.f114) [1, 1, 0])) (b := (subc (code Tryz.f114) [1, 1, 1])) (by kernel_rfl) (ann_seq (a := (subc (code Tryz.f114) [1, 1, 0, 0])) (b := (subc (code Tryz.f114) [1, 1, 0, 1])) (by kernel_rfl) (ann_nil _) (ann_blk (x := (subc (code Tryz.f114) [1, 1, 0, 1, 0])) (by kernel_rfl) (ann_loop (x := (subc (code Tryz.f114) [1, 1, 0, 1, 0, 0])) (by kernel_rfl) k114_l0))) (ann_nil _)))) (fun v => Nat.le_of_ble_eq_true (by kernel_rfl)) (fun v => h114 C114_l0 v)
def F88 (f114 : List UInt8 × Unit → Option (List UInt8 × Unit)) : Int × List UInt8 × Int × Unit → Option (List UInt8 × Unit) := fun (x0, x1, x2, _) =>
 bif x0 == 1 then
 (f114 (x1, ())).bind fun val =>
 bif decide ([34].length + List.length val.1 ≤ 9223372036854775807) then
 bif decide (([34] ++ val.1).length + [34].length ≤ 9223372036854775807) then
 some ([34] ++ val.1 ++ [34], ())
 else none
 else none
 else
 bif x0 == 3 then
 bif decide ([40].length + x1.length ≤ 9223372036854775807) then
 bif decide (([40] ++ x1).length + [41].length ≤ 9223372036854775807) then
 some ([40] ++ x1 ++ [41], ())
 else none
 else none
 else
 bif x0 == 5 then
 bif decide ([91].length + x1.length ≤ 9223372036854775807) then
 bif decide (([91] ++ x1).length + [93].length ≤ 9223372036854775807) then
 some ([91] ++ x1 ++ [93], ())
 else none
 else none
 else some (x1, ())
theorem h88 (f114 : HS f114_ins → Option (OTy f114_outs)) (v : HS f88_ins) : afun Γ (fun f => Ae.lookA f [(114, ⟨f114_ins, f114_outs, f114⟩)]) 0 Tryz.f88.ntmps Tryz.f88.results.toList (code Tryz.f88) .nil (em id f88_ins v).1 (em id f88_ins v).2 (ofin 0 f88_outs) = F88 f114 v := by kernel_rfl
def C88 (v : Int × List UInt8 × Int × Unit) : Option (List UInt8 × Unit) := F88 C114 v
theorem ok88 : FnOk Tryz.prog 88 ⟨f88_ins, f88_outs, C88⟩ :=
 fn_ok (np := 0) (n := .nil) hm hΓ (K := (fun f => Ae.lookA f [(114, ⟨f114_ins, f114_outs, C114⟩)])) (kok_cons ok114 (kok_nil _)) Tryz.func88 (c := code Tryz.f88) (by kernel_rfl) (name_ne (by kernel_rfl))
 (ann_nil _) (fun v => Nat.le_of_ble_eq_true (by kernel_rfl)) (fun v => h88 C114 v)
def F60 (f87 : List UInt8 × Unit → Option (Bool × Unit)) (f88 : Int × List UInt8 × Int × Unit → Option (List UInt8 × Unit)) : List UInt8 × List UInt8 × Unit → Option (List UInt8 × Unit) := fun (x0, x1, _) =>
 (f87 (x0, ())).bind fun val =>
 bif !val.1 then
 (f88 (1, x0, 0, ())).bind fun val =>
 bif decide (List.length val.1 + [64].length ≤ 9223372036854775807) then
 bif decide ((val.1 ++ [64]).length + x1.length ≤ 9223372036854775807) then
 some (val.1 ++ [64] ++ x1, ())
 else none
 else none
 else
 bif decide (x0.length + [64].length ≤ 9223372036854775807) then
 bif decide ((x0 ++ [64]).length + x1.length ≤ 9223372036854775807) then
 some (x0 ++ [64] ++ x1, ())
 else none
 else none
theorem h60 (f87 : HS f87_ins → Option (OTy f87_outs)) (f88 : HS f88_ins → Option (OTy f88_outs)) (v : HS f60_ins) : afun Γ (fun f => Ae.lookA f [(87, ⟨f87_ins, f87_outs, f87⟩), (88, ⟨f88_ins, f88_outs, f88⟩)]) 0 Tryz.f60.ntmps Tryz.f60.results.toList (code Tryz.f60) .nil (em id f60_ins v).1 (em id f60_ins v).2 (ofin 0 f60_outs) = F60 f87 f88 v := by kernel_rfl
def C60 (v : List UInt8 × List UInt8 × Unit) : Option (List UInt8 × Unit) := F60 C87 C88 v
theorem ok60 : FnOk Tryz.prog 60 ⟨f60_ins, f60_outs, C60⟩ :=
 fn_ok (np := 0) (n := .nil) hm hΓ (K := (fun f => Ae.lookA f [(87, ⟨f87_ins, f87_outs, C87⟩), (88, ⟨f88_ins, f88_outs, C88⟩)])) (kok_cons ok87 (kok_cons ok88 (kok_nil _))) Tryz.func60 (c := code Tryz.f60) (by kernel_rfl) (name_ne (by kernel_rfl))
 (ann_nil _) (fun v => Nat.le_of_ble_eq_true (by kernel_rfl)) (fun v => h60 C87 C88 v)
def F23 (f59 : Bool × List UInt8 × List UInt8 × Unit → Option (Bool × Unit)) (f60 : List UInt8 × List UInt8 × Unit → Option (List UInt8 × Unit)) : Bool × List UInt8 × List UInt8 × Unit → Option (List UInt8 × Unit) := fun (x0, x1, x2, _) =>
 bif x0 then some ([60, 62], ())
 else
 (f59 (x0, x1, x2, ())).bind fun val =>
 bif val.1 then
 bif decide ([60].length + x1.length ≤ 9223372036854775807) then
 bif decide (([60] ++ x1).length + [62].length ≤ 9223372036854775807) then
 some ([60] ++ x1 ++ [62], ())
 else none
 else none
 else
 (f60 (x1, x2, ())).bind fun val =>
 bif decide ([60].length + List.length val.1 ≤ 9223372036854775807) then
 bif decide (([60] ++ val.1).length + [62].length ≤ 9223372036854775807) then
 some ([60] ++ val.1 ++ [62], ())
 else none
 else none
theorem h23 (f59 : HS f59_ins → Option (OTy f59_outs)) (f60 : HS f60_ins → Option (OTy f60_outs)) (v : HS f23_ins) : afun Γ (fun f => Ae.lookA f [(59, ⟨f59_ins, f59_outs, f59⟩), (60, ⟨f60_ins, f60_outs, f60⟩)]) 0 Tryz.f23.ntmps Tryz.f23.results.toList (code Tryz.f23) .nil (em id f23_ins v).1 (em id f23_ins v).2 (ofin 0 f23_outs) = F23 f59 f60 v := by kernel_rfl
def C23 (v : Bool × List UInt8 × List UInt8 × Unit) : Option (List UInt8 × Unit) := F23 C59 C60 v
theorem ok23 : FnOk Tryz.prog 23 ⟨f23_ins, f23_outs, C23⟩ :=
 fn_ok (np := 0) (n := .nil) hm hΓ (K := (fun f => Ae.lookA f [(59, ⟨f59_ins, f59_outs, C59⟩), (60, ⟨f60_ins, f60_outs, C60⟩)])) (kok_cons ok59 (kok_cons ok60 (kok_nil _))) Tryz.func23 (c := code Tryz.f23) (by kernel_rfl) (name_ne (by kernel_rfl))
 (ann_nil _) (fun v => Nat.le_of_ble_eq_true (by kernel_rfl)) (fun v => h23 C59 C60 v)
def F13 (f38 : Int × Unit → Option (List UInt8 × Unit)) : Int × Unit → Option (List UInt8 × Unit) := fun (x0, _) =>
 bif decide (x0 < 100) then some ([53, 46, 48, 46, 48], ())
 else
 bif decide (x0 > 999) then some ([53, 46, 48, 46, 48], ())
 else
 (f38 (x0, ())).bind fun val =>
 bif decide (1 ≤ (↑(List.length val.1) : Int)) then
 bif decide ((List.take 1 val.1).length + [46].length ≤ 9223372036854775807) then
 bif decide (2 ≤ (↑(List.length val.1) : Int)) then
 bif
 decide
 ((List.take 1 val.1 ++ [46]).length +
 (List.drop 1 (List.take 2 val.1)).length ≤
 9223372036854775807) then
 bif
 decide
 ((List.take 1 val.1 ++ [46] ++
 List.drop 1 (List.take 2 val.1)).length +
 [46].length ≤
 9223372036854775807) then
 bif decide (2 ≤ (↑(List.length val.1) : Int)) then
 bif
 decide
 ((List.take 1 val.1 ++ [46] ++
 List.drop 1 (List.take 2 val.1) ++
 [46]).length +
 (List.drop 2 val.1).length ≤
 9223372036854775807) then
 some
 (List.take 1 val.1 ++ [46] ++
 List.drop 1 (List.take 2 val.1) ++
 [46] ++
 List.drop 2 val.1,
 ())
 else none
 else none
 else none
 else none
 else none
 else none
 else none
theorem h13 (f38 : HS f38_ins → Option (OTy f38_outs)) (v : HS f13_ins) : afun Γ (fun f => Ae.lookA f [(38, ⟨f38_ins, f38_outs, f38⟩)]) 0 Tryz.f13.ntmps Tryz.f13.results.toList (code Tryz.f13) .nil (em id f13_ins v).1 (em id f13_ins v).2 (ofin 0 f13_outs) = F13 f38 v := by kernel_rfl
def C13 (v : Int × Unit) : Option (List UInt8 × Unit) := F13 C38 v
theorem ok13 : FnOk Tryz.prog 13 ⟨f13_ins, f13_outs, C13⟩ :=
 fn_ok (np := 0) (n := .nil) hm hΓ (K := (fun f => Ae.lookA f [(38, ⟨f38_ins, f38_outs, C38⟩)])) (kok_cons ok38 (kok_nil _)) Tryz.func13 (c := code Tryz.f13) (by kernel_rfl) (name_ne (by kernel_rfl))
 (ann_nil _) (fun v => Nat.le_of_ble_eq_true (by kernel_rfl)) (fun v => h13 C38 v)
def F71_g0  : List (List UInt8) × Int × Unit → Option ((List (List UInt8) × Int × Unit) ⊕ (Int × Unit)) := fun (x0, x1, _) =>
 bif x1 == (↑x0.length : Int) then some (Sum.inr (x1, ()))
 else
 bif decide (0 ≤ x1) && decide (x1 < (↑x0.length : Int)) then
 bif x0.getD x1.toNat [] == [] then some (Sum.inr (x1, ()))
 else some (Sum.inl (x0, IntKind.i64.wrap (x1 + 1), ()))
 else none
theorem h71_g0  (v : HS f71_g0_ins) : aev Γ (fun f => Ae.lookA f []) 0 ((findLabel (subc (code Tryz.f71) [1, 0]) 0).getD .skip) .nil (stof f71_g0_ins v) (aroundL 0 0 [] f71_g0_ins f71_g0_outs) = F71_g0 v := by kernel_rfl
def C71_g0 (v : List (List UInt8) × Int × Unit) : Option (Int × Unit) := loopN (F71_g0) big v
theorem k71_g0 : FragOk Tryz.prog 0 (ScopeFrom Tryz.prog (subc (code Tryz.f71) [1, 0]) 0) ⟨f71_g0_ins, f71_g0_outs, C71_g0⟩ :=
 frag_label (ins := f71_g0_ins) (os := f71_g0_outs) (np := 0) (n := .nil) (ls := []) (F := F71_g0) (rest := (findLabel (subc (code Tryz.f71) [1, 0]) 0).getD .skip) hm hΓ (K := (fun f => Ae.lookA f [])) (kok_nil _) (fun _ => big) (by kernel_rfl)
 (ann_nil _) find_nil (fun v => h71_g0 v)
def F71 (f71_g0 : List (List UInt8) × Int × Unit → Option (Int × Unit)) : List (List UInt8) × Unit → Option (Int × Unit) := fun (x0, _) =>
 bif 0 == (↑x0.length : Int) then some (0, ())
 else
 bif decide (0 < (↑x0.length : Int)) then
 bif x0.getD 0 [] == [] then some (0, ())
 else (f71_g0 (x0, IntKind.i64.wrap (0 + 1), ())).bind fun val => some (val.1, ())
 else none
theorem h71 (f71_g0 : HS f71_g0_ins → Option (OTy f71_g0_outs)) (v : HS f71_ins) : afun Γ (fun f => Ae.lookA f []) 0 Tryz.f71.ntmps Tryz.f71.results.toList (code Tryz.f71) (.seq .nil (.scope .nil [(0, ⟨f71_g0_ins, f71_g0_outs, f71_g0⟩)])) (em id f71_ins v).1 (em id f71_ins v).2 (ofin 0 f71_outs) = F71 f71_g0 v := by kernel_rfl
def C71 (v : List (List UInt8) × Unit) : Option (Int × Unit) := F71 C71_g0 v
theorem ok71 : FnOk Tryz.prog 71 ⟨f71_ins, f71_outs, C71⟩ :=
 fn_ok (np := 0) (n := (.seq .nil (.scope .nil [(0, ⟨f71_g0_ins, f71_g0_outs, C71_g0⟩)]))) hm hΓ (K := (fun f => Ae.lookA f [])) (kok_nil _) Tryz.func71 (c := code Tryz.f71) (by kernel_rfl) (name_ne (by kernel_rfl))
 (ann_seq (a := (subc (code Tryz.f71) [0])) (b := (subc (code Tryz.f71) [1])) (by kernel_rfl) (ann_nil _) (ann_scope (x := (subc (code Tryz.f71) [1, 0])) (by kernel_rfl) (ann_nil _) (find_cons k71_g0 find_nil))) (fun v => Nat.le_of_ble_eq_true (by kernel_rfl)) (fun v => h71 C71_g0 v)
def F22_l0  : List UInt8 × Int × Int × Unit → Option ((List UInt8 × Int × Int × Unit) ⊕ (Unit ⊕ (Int × Unit))) := fun (x0, x1, x2, _) =>
 bif decide (x2 < x1) then
 bif decide (0 ≤ x2) && decide (x2 < (↑x0.length : Int)) then
 bif decide ((↑(x0.getD x2.toNat 0).toNat : Int) ≥ 128) then some (Sum.inr (Sum.inr (x2, ())))
 else some (Sum.inl (x0, x1, IntKind.i64.wrap (x2 + 1), ()))
 else none
 else some (Sum.inr (Sum.inl ()))
theorem h22_l0  (v : HS f22_l0_ins) : aev Γ (fun f => Ae.lookA f []) 0 (subc (code Tryz.f22) [1, 0, 1, 0, 0]) .nil (stof f22_l0_ins v) (around 0 f22_l0_ins f22_l0_outs) = F22_l0 v := by kernel_rfl
def C22_l0 (v : List UInt8 × Int × Int × Unit) : Option (Unit ⊕ (Int × Unit)) := loopN (F22_l0) big v
theorem k22_l0 : FragOk Tryz.prog 0 (fun Q a w => (Code.loop (subc (code Tryz.f22) [1, 0, 1, 0, 0])).wp Tryz.prog Q a w) ⟨f22_l0_ins, f22_l0_outs, C22_l0⟩ :=
 frag_loop (ins := f22_l0_ins) (os := f22_l0_outs) (np := 0) (n := .nil) (F := F22_l0) hm hΓ (K := (fun f => Ae.lookA f [])) (kok_nil _) (fun _ => big)
 (ann_nil _) (fun v => h22_l0 v)
def F22 (f22_l0 : List UInt8 × Int × Int × Unit → Option (Unit ⊕ (Int × Unit))) : List UInt8 × Unit → Option (Int × Unit) := fun (x0, _) =>
 (f22_l0 (x0, (↑x0.length : Int), 0, ())).bind fun val =>
 Sum.elim (fun val => some (-1, ())) (fun val => some (val.1, ())) val
theorem h22 (f22_l0 : HS f22_l0_ins → Option (OTy f22_l0_outs)) (v : HS f22_ins) : afun Γ (fun f => Ae.lookA f []) 0 Tryz.f22.ntmps Tryz.f22.results.toList (code Tryz.f22) (.seq .nil (.seq (.seq .nil (.blk (.loop ⟨f22_l0_ins, f22_l0_outs, f22_l0⟩))) .nil)) (em id f22_ins v).1 (em id f22_ins v).2 (ofin 0 f22_outs) = F22 f22_l0 v := by kernel_rfl
def C22 (v : List UInt8 × Unit) : Option (Int × Unit) := F22 C22_l0 v
theorem ok22 : FnOk Tryz.prog 22 ⟨f22_ins, f22_outs, C22⟩ :=
 fn_ok (np := 0) (n := (.seq .nil (.seq (.seq .nil (.blk (.loop ⟨f22_l0_ins, f22_l0_outs, C22_l0⟩))) .nil))) hm hΓ (K := (fun f => Ae.lookA f [])) (kok_nil _) Tryz.func22 (c := code Tryz.f22) (by kernel_rfl) (name_ne (by kernel_rfl))
 (ann_seq (a := (subc (code Tryz.f22) [0])) (b := (subc (code Tryz.f22) [1])) (by kernel_rfl) (ann_nil _) (ann_seq (a := (subc (code Tryz.f22) [1, 0])) (b := (subc (code Tryz.f22) [1, 1])) (by kernel_rfl) (ann_seq (a := (subc (code Tryz.f22) [1, 0, 0])) (b := (subc (code Tryz.f22) [1, 0, 1])) (by kernel_rfl) (ann_nil _) (ann_blk (x := (subc (code Tryz.f22) [1, 0, 1, 0])) (by kernel_rfl) (ann_loop (x := (subc (code Tryz.f22) [1, 0, 1, 0, 0])) (by kernel_rfl) k22_l0))) (ann_nil _))) (fun v => Nat.le_of_ble_eq_true (by kernel_rfl)) (fun v => h22 C22_l0 v)
def F73 (f22 : List UInt8 × Unit → Option (Int × Unit)) : List UInt8 × Unit → Option (Bool × Unit) := fun (x0, _) =>
 (f22 (x0, ())).bind fun val => some (decide (val.1 ≥ 0), ())
theorem h73 (f22 : HS f22_ins → Option (OTy f22_outs)) (v : HS f73_ins) : afun Γ (fun f => Ae.lookA f [(22, ⟨f22_ins, f22_outs, f22⟩)]) 0 Tryz.f73.ntmps Tryz.f73.results.toList (code Tryz.f73) .nil (em id f73_ins v).1 (em id f73_ins v).2 (ofin 0 f73_outs) = F73 f22 v := by kernel_rfl
def C73 (v : List UInt8 × Unit) : Option (Bool × Unit) := F73 C22 v
theorem ok73 : FnOk Tryz.prog 73 ⟨f73_ins, f73_outs, C73⟩ :=
 fn_ok (np := 0) (n := .nil) hm hΓ (K := (fun f => Ae.lookA f [(22, ⟨f22_ins, f22_outs, C22⟩)])) (kok_cons ok22 (kok_nil _)) Tryz.func73 (c := code Tryz.f73) (by kernel_rfl) (name_ne (by kernel_rfl))
 (ann_nil _) (fun v => Nat.le_of_ble_eq_true (by kernel_rfl)) (fun v => h73 C22 v)
def F98_l0 (f73 : List UInt8 × Unit → Option (Bool × Unit)) : List (List UInt8) × Int × Int × Unit → Option ((List (List UInt8) × Int × Int × Unit) ⊕ (Unit ⊕ (Int × Unit))) := fun (x0, x1, x2, _) =>
 bif decide (x2 < x1) then
 bif decide (0 ≤ x2) && decide (x2 < (↑x0.length : Int)) then
 (f73 (x0.getD x2.toNat [], ())).bind fun val =>
 bif val.1 then some (Sum.inr (Sum.inr (x2, ())))
 else some (Sum.inl (x0, x1, IntKind.i64.wrap (x2 + 1), ()))
 else none
 else some (Sum.inr (Sum.inl ()))
theorem h98_l0 (f73 : HS f73_ins → Option (OTy f73_outs)) (v : HS f98_l0_ins) : aev Γ (fun f => Ae.lookA f [(73, ⟨f73_ins, f73_outs, f73⟩)]) 0 (subc (code Tryz.f98) [1, 0, 1, 0, 0]) .nil (stof f98_l0_ins v) (around 0 f98_l0_ins f98_l0_outs) = F98_l0 f73 v := by kernel_rfl
def C98_l0 (v : List (List UInt8) × Int × Int × Unit) : Option (Unit ⊕ (Int × Unit)) := loopN (F98_l0 C73) big v
theorem k98_l0 : FragOk Tryz.prog 0 (fun Q a w => (Code.loop (subc (code Tryz.f98) [1, 0, 1, 0, 0])).wp Tryz.prog Q a w) ⟨f98_l0_ins, f98_l0_outs, C98_l0⟩ :=
 frag_loop (ins := f98_l0_ins) (os := f98_l0_outs) (np := 0) (n := .nil) (F := F98_l0 C73) hm hΓ (K := (fun f => Ae.lookA f [(73, ⟨f73_ins, f73_outs, C73⟩)])) (kok_cons ok73 (kok_nil _)) (fun _ => big)
 (ann_nil _) (fun v => h98_l0 C73 v)
def F98 (f98_l0 : List (List UInt8) × Int × Int × Unit → Option (Unit ⊕ (Int × Unit))) : List (List UInt8) × Unit → Option (Int × Unit) := fun (x0, _) =>
 (f98_l0 (x0, (↑x0.length : Int), 0, ())).bind fun val =>
 Sum.elim (fun val => some (-1, ())) (fun val => some (val.1, ())) val
theorem h98 (f98_l0 : HS f98_l0_ins → Option (OTy f98_l0_outs)) (v : HS f98_ins) : afun Γ (fun f => Ae.lookA f []) 0 Tryz.f98.ntmps Tryz.f98.results.toList (code Tryz.f98) (.seq .nil (.seq (.seq .nil (.blk (.loop ⟨f98_l0_ins, f98_l0_outs, f98_l0⟩))) .nil)) (em id f98_ins v).1 (em id f98_ins v).2 (ofin 0 f98_outs) = F98 f98_l0 v := by kernel_rfl
def C98 (v : List (List UInt8) × Unit) : Option (Int × Unit) := F98 C98_l0 v
theorem ok98 : FnOk Tryz.prog 98 ⟨f98_ins, f98_outs, C98⟩ :=
 fn_ok (np := 0) (n := (.seq .nil (.seq (.seq .nil (.blk (.loop ⟨f98_l0_ins, f98_l0_outs, C98_l0⟩))) .nil))) hm hΓ (K := (fun f => Ae.lookA f [])) (kok_nil _) Tryz.func98 (c := code Tryz.f98) (by kernel_rfl) (name_ne (by kernel_rfl))
 (ann_seq (a := (subc (code Tryz.f98) [0])) (b := (subc (code Tryz.f98) [1])) (by kernel_rfl) (ann_nil _) (ann_seq (a := (subc (code Tryz.f98) [1, 0])) (b := (subc (code Tryz.f98) [1, 1])) (by kernel_rfl) (ann_seq (a := (subc (code Tryz.f98) [1, 0, 0])) (b := (subc (code Tryz.f98) [1, 0, 1])) (by kernel_rfl) (ann_nil _) (ann_blk (x := (subc (code Tryz.f98) [1, 0, 1, 0])) (by kernel_rfl) (ann_loop (x := (subc (code Tryz.f98) [1, 0, 1, 0, 0])) (by kernel_rfl) k98_l0))) (ann_nil _))) (fun v => Nat.le_of_ble_eq_true (by kernel_rfl)) (fun v => h98 C98_l0 v)
def F72 (f98 : List (List UInt8) × Unit → Option (Int × Unit)) : List (List UInt8) × Unit → Option (Bool × Unit) := fun (x0, _) =>
 (f98 (x0, ())).bind fun val => some (decide (val.1 ≥ 0), ())
theorem h72 (f98 : HS f98_ins → Option (OTy f98_outs)) (v : HS f72_ins) : afun Γ (fun f => Ae.lookA f [(98, ⟨f98_ins, f98_outs, f98⟩)]) 0 Tryz.f72.ntmps Tryz.f72.results.toList (code Tryz.f72) .nil (em id f72_ins v).1 (em id f72_ins v).2 (ofin 0 f72_outs) = F72 f98 v := by kernel_rfl
def C72 (v : List (List UInt8) × Unit) : Option (Bool × Unit) := F72 C98 v
theorem ok72 : FnOk Tryz.prog 72 ⟨f72_ins, f72_outs, C72⟩ :=
 fn_ok (np := 0) (n := .nil) hm hΓ (K := (fun f => Ae.lookA f [(98, ⟨f98_ins, f98_outs, C98⟩)])) (kok_cons ok98 (kok_nil _)) Tryz.func72 (c := code Tryz.f72) (by kernel_rfl) (name_ne (by kernel_rfl))
 (ann_nil _) (fun v => Nat.le_of_ble_eq_true (by kernel_rfl)) (fun v => h72 C98 v)
def F74 (f21 : List UInt8 × Unit → Option (List (Int) × Int × Unit)) : List UInt8 × Unit → Option (Bool × Unit) := fun (x0, _) =>
 (f21 (x0, ())).bind fun val => some (decide (val.2.1 ≥ 0), ())
theorem h74 (f21 : HS f21_ins → Option (OTy f21_outs)) (v : HS f74_ins) : afun Γ (fun f => Ae.lookA f [(21, ⟨f21_ins, f21_outs, f21⟩)]) 0 Tryz.f74.ntmps Tryz.f74.results.toList (code Tryz.f74) .nil (em id f74_ins v).1 (em id f74_ins v).2 (ofin 0 f74_outs) = F74 f21 v := by kernel_rfl
def C74 (v : List UInt8 × Unit) : Option (Bool × Unit) := F74 C21 v
theorem ok74 : FnOk Tryz.prog 74 ⟨f74_ins, f74_outs, C74⟩ :=
 fn_ok (np := 0) (n := .nil) hm hΓ (K := (fun f => Ae.lookA f [(21, ⟨f21_ins, f21_outs, C21⟩)])) (kok_cons ok21 (kok_nil _)) Tryz.func74 (c := code Tryz.f74) (by kernel_rfl) (name_ne (by kernel_rfl))
 (ann_nil _) (fun v => Nat.le_of_ble_eq_true (by kernel_rfl)) (fun v => h74 C21 v)
def F98v1_l0 (f74 : List UInt8 × Unit → Option (Bool × Unit)) : List (List UInt8) × Int × Int × Unit → Option ((List (List UInt8) × Int × Int × Unit) ⊕ (Unit ⊕ (Int × Unit))) := fun (x0, x1, x2, _) =>
 bif decide (x2 < x1) then
 bif decide (0 ≤ x2) && decide (x2 < (↑x0.length : Int)) then
 (f74 (x0.getD x2.toNat [], ())).bind fun val =>
 bif val.1 then some (Sum.inr (Sum.inr (x2, ())))
 else some (Sum.inl (x0, x1, IntKind.i64.wrap (x2 + 1), ()))
 else none
 else some (Sum.inr (Sum.inl ()))
theorem h98v1_l0 (f74 : HS f74_ins → Option (OTy f74_outs)) (v : HS f98v1_l0_ins) : aev Γ (fun f => Ae.lookA f [(74, ⟨f74_ins, f74_outs, f74⟩)]) 0 (subc (code Tryz.f98) [1, 0, 1, 0, 0]) .nil (stof f98v1_l0_ins v) (around 0 f98v1_l0_ins f98v1_l0_outs) = F98v1_l0 f74 v := by kernel_rfl
def C98v1_l0 (v : List (List UInt8) × Int × Int × Unit) : Option (Unit ⊕ (Int × Unit)) := loopN (F98v1_l0 C74) big v
theorem k98v1_l0 : FragOk Tryz.prog 0 (fun Q a w => (Code.loop (subc (code Tryz.f98) [1, 0, 1, 0, 0])).wp Tryz.prog Q a w) ⟨f98v1_l0_ins, f98v1_l0_outs, C98v1_l0⟩ :=
 frag_loop (ins := f98v1_l0_ins) (os := f98v1_l0_outs) (np := 0) (n := .nil) (F := F98v1_l0 C74) hm hΓ (K := (fun f => Ae.lookA f [(74, ⟨f74_ins, f74_outs, C74⟩)])) (kok_cons ok74 (kok_nil _)) (fun _ => big)
 (ann_nil _) (fun v => h98v1_l0 C74 v)
def F98v1 (f98v1_l0 : List (List UInt8) × Int × Int × Unit → Option (Unit ⊕ (Int × Unit))) : List (List UInt8) × Unit → Option (Int × Unit) := fun (x0, _) =>
 (f98v1_l0 (x0, (↑x0.length : Int), 0, ())).bind fun val =>
 Sum.elim (fun val => some (-1, ())) (fun val => some (val.1, ())) val
theorem h98v1 (f98v1_l0 : HS f98v1_l0_ins → Option (OTy f98v1_l0_outs)) (v : HS f98v1_ins) : afun Γ (fun f => Ae.lookA f []) 0 Tryz.f98.ntmps Tryz.f98.results.toList (code Tryz.f98) (.seq .nil (.seq (.seq .nil (.blk (.loop ⟨f98v1_l0_ins, f98v1_l0_outs, f98v1_l0⟩))) .nil)) (em id f98v1_ins v).1 (em id f98v1_ins v).2 (ofin 0 f98v1_outs) = F98v1 f98v1_l0 v := by kernel_rfl
def C98v1 (v : List (List UInt8) × Unit) : Option (Int × Unit) := F98v1 C98v1_l0 v
theorem ok98v1 : FnOk Tryz.prog 98 ⟨f98v1_ins, f98v1_outs, C98v1⟩ :=
 fn_ok (np := 0) (n := (.seq .nil (.seq (.seq .nil (.blk (.loop ⟨f98v1_l0_ins, f98v1_l0_outs, C98v1_l0⟩))) .nil))) hm hΓ (K := (fun f => Ae.lookA f [])) (kok_nil _) Tryz.func98 (c := code Tryz.f98) (by kernel_rfl) (name_ne (by kernel_rfl))
 (ann_seq (a := (subc (code Tryz.f98) [0])) (b := (subc (code Tryz.f98) [1])) (by kernel_rfl) (ann_nil _) (ann_seq (a := (subc (code Tryz.f98) [1, 0])) (b := (subc (code Tryz.f98) [1, 1])) (by kernel_rfl) (ann_seq (a := (subc (code Tryz.f98) [1, 0, 0])) (b := (subc (code Tryz.f98) [1, 0, 1])) (by kernel_rfl) (ann_nil _) (ann_blk (x := (subc (code Tryz.f98) [1, 0, 1, 0])) (by kernel_rfl) (ann_loop (x := (subc (code Tryz.f98) [1, 0, 1, 0, 0])) (by kernel_rfl) k98v1_l0))) (ann_nil _))) (fun v => Nat.le_of_ble_eq_true (by kernel_rfl)) (fun v => h98v1 C98v1_l0 v)
def F72v1 (f98v1 : List (List UInt8) × Unit → Option (Int × Unit)) : List (List UInt8) × Unit → Option (Bool × Unit) := fun (x0, _) =>
 (f98v1 (x0, ())).bind fun val => some (decide (val.1 ≥ 0), ())
theorem h72v1 (f98v1 : HS f98v1_ins → Option (OTy f98v1_outs)) (v : HS f72v1_ins) : afun Γ (fun f => Ae.lookA f [(98, ⟨f98v1_ins, f98v1_outs, f98v1⟩)]) 0 Tryz.f72.ntmps Tryz.f72.results.toList (code Tryz.f72) .nil (em id f72v1_ins v).1 (em id f72v1_ins v).2 (ofin 0 f72v1_outs) = F72v1 f98v1 v := by kernel_rfl
def C72v1 (v : List (List UInt8) × Unit) : Option (Bool × Unit) := F72v1 C98v1 v
theorem ok72v1 : FnOk Tryz.prog 72 ⟨f72v1_ins, f72v1_outs, C72v1⟩ :=
 fn_ok (np := 0) (n := .nil) hm hΓ (K := (fun f => Ae.lookA f [(98, ⟨f98v1_ins, f98v1_outs, C98v1⟩)])) (kok_cons ok98v1 (kok_nil _)) Tryz.func72 (c := code Tryz.f72) (by kernel_rfl) (name_ne (by kernel_rfl))
 (ann_nil _) (fun v => Nat.le_of_ble_eq_true (by kernel_rfl)) (fun v => h72v1 C98v1 v)
def F134  : Int × Unit → Option (Bool × Unit) := fun (x0, _) =>
 bif decide (x0 ≤ 32) then some (true, ()) else some (decide (x0 > 126), ())
theorem h134  (v : HS f134_ins) : afun Γ (fun f => Ae.lookA f []) 0 Tryz.f134.ntmps Tryz.f134.results.toList (code Tryz.f134) .nil (em id f134_ins v).1 (em id f134_ins v).2 (ofin 0 f134_outs) = F134 v := by kernel_rfl
def C134 (v : Int × Unit) : Option (Bool × Unit) := F134 v
theorem ok134 : FnOk Tryz.prog 134 ⟨f134_ins, f134_outs, C134⟩ :=
 fn_ok (np := 0) (n := .nil) hm hΓ (K := (fun f => Ae.lookA f [])) (kok_nil _) Tryz.func134 (c := code Tryz.f134) (by kernel_rfl) (name_ne (by kernel_rfl))
 (ann_nil _) (fun v => Nat.le_of_ble_eq_true (by kernel_rfl)) (fun v => h134 v)
def F176_l0 (f134 : Int × Unit → Option (Bool × Unit)) : Bool × (List UInt8 × Int) × Unit → Option ((Bool × (List UInt8 × Int) × Unit) ⊕ ((Int × Unit) ⊕ Unit)) := fun (x0, x1, _) =>
 bif decide (Int.toNat x1.2 < List.length x1.1) then
 (f134 ((↑(decR x1.1 (Int.toNat x1.2)).1 : Int), ())).bind fun val =>
 bif val.1 == x0 then some (Sum.inr (Sum.inl ((↑(Int.toNat x1.2) : Int), ())))
 else some (Sum.inl (x0, (x1.1, (↑(Int.toNat x1.2 + (decR x1.1 (Int.toNat x1.2)).2) : Int)), ()))
 else some (Sum.inr (Sum.inr ()))
theorem h176_l0 (f134 : HS f134_ins → Option (OTy f134_outs)) (v : HS f176_l0_ins) : aev Γ (fun f => Ae.lookA f [(134, ⟨f134_ins, f134_outs, f134⟩)]) 0 (subc (code Tryz.f176) [1, 0, 1, 0, 0]) .nil (stof f176_l0_ins v) (around 0 f176_l0_ins f176_l0_outs) = F176_l0 f134 v := by kernel_rfl
def C176_l0 (v : Bool × (List UInt8 × Int) × Unit) : Option ((Int × Unit) ⊕ Unit) := loopN (F176_l0 C134) big v
theorem k176_l0 : FragOk Tryz.prog 0 (fun Q a w => (Code.loop (subc (code Tryz.f176) [1, 0, 1, 0, 0])).wp Tryz.prog Q a w) ⟨f176_l0_ins, f176_l0_outs, C176_l0⟩ :=
 frag_loop (ins := f176_l0_ins) (os := f176_l0_outs) (np := 0) (n := .nil) (F := F176_l0 C134) hm hΓ (K := (fun f => Ae.lookA f [(134, ⟨f134_ins, f134_outs, C134⟩)])) (kok_cons ok134 (kok_nil _)) (fun _ => big)
 (ann_nil _) (fun v => h176_l0 C134 v)
end Go.Proofs.YtmfcepdbpdihgaaGreatDoor.W
set_option maxRecDepth 100000
set_option linter.unusedVariables false
namespace Go.Proofs.YtmfcepdbpdihgaaGreatDoor.W
open Go Go.Ae
def F176 (f176_l0 : Bool × (List UInt8 × Int) × Unit → Option ((Int × Unit) ⊕ Unit)) : List UInt8 × Bool × Unit → Option (Int × Unit) := fun (x0, x1, _) =>
 (f176_l0 (x1, (x0, (↑0 : Int)), ())).bind fun val =>
 Sum.elim (fun val => some (val.1, ())) (fun val => some (-1, ())) val
theorem h176 (f176_l0 : HS f176_l0_ins → Option (OTy f176_l0_outs)) (v : HS f176_ins) : afun Γ (fun f => Ae.lookA f []) 0 Tryz.f176.ntmps Tryz.f176.results.toList (code Tryz.f176) (.seq .nil (.seq (.seq .nil (.blk (.loop ⟨f176_l0_ins, f176_l0_outs, f176_l0⟩))) .nil)) (em id f176_ins v).1 (em id f176_ins v).2 (ofin 0 f176_outs) = F176 f176_l0 v := by kernel_rfl
def C176 (v : List UInt8 × Bool × Unit) : Option (Int × Unit) := F176 C176_l0 v
theorem ok176 : FnOk Tryz.prog 176 ⟨f176_ins, f176_outs, C176⟩ :=
 fn_ok (np := 0) (n := (.seq .nil (.seq (.seq .nil (.blk (.loop ⟨f176_l0_ins, f176_l0_outs, C176_l0⟩))) .nil))) hm hΓ (K := (fun f => Ae.lookA f [])) (kok_nil _) Tryz.func176 (c := code Tryz.f176) (by kernel_rfl) (name_ne (by kernel_rfl))
 (ann_seq (a := (subc (code Tryz.f176) [0])) (b := (subc (code Tryz.f176) [1])) (by kernel_rfl) (ann_nil _) (ann_seq (a := (subc (code Tryz.f176) [1, 0])) (b := (subc (code Tryz.f176) [1, 1])) (by kernel_rfl) (ann_seq (a := (subc (code Tryz.f176) [1, 0, 0])) (b := (subc (code Tryz.f176) [1, 0, 1])) (by kernel_rfl) (ann_nil _) (ann_blk (x := (subc (code Tryz.f176) [1, 0, 1, 0])) (by kernel_rfl) (ann_loop (x := (subc (code Tryz.f176) [1, 0, 1, 0, 0])) (by kernel_rfl) k176_l0))) (ann_nil _))) (fun v => Nat.le_of_ble_eq_true (by kernel_rfl)) (fun v => h176 C176_l0 v)
def F163 (f176 : List UInt8 × Bool × Unit → Option (Int × Unit)) : List UInt8 × Unit → Option (Int × Unit) := fun (x0, _) =>
 (f176 (x0, true, ())).bind fun val => some (val.1, ())
theorem h163 (f176 : HS f176_ins → Option (OTy f176_outs)) (v : HS f163_ins) : afun Γ (fun f => Ae.lookA f [(176, ⟨f176_ins, f176_outs, f176⟩)]) 0 Tryz.f163.ntmps Tryz.f163.results.toList (code Tryz.f163) .nil (em id f163_ins v).1 (em id f163_ins v).2 (ofin 0 f163_outs) = F163 f176 v := by kernel_rfl
def C163 (v : List UInt8 × Unit) : Option (Int × Unit) := F163 C176 v
theorem ok163 : FnOk Tryz.prog 163 ⟨f163_ins, f163_outs, C163⟩ :=
 fn_ok (np := 0) (n := .nil) hm hΓ (K := (fun f => Ae.lookA f [(176, ⟨f176_ins, f176_outs, C176⟩)])) (kok_cons ok176 (kok_nil _)) Tryz.func163 (c := code Tryz.f163) (by kernel_rfl) (name_ne (by kernel_rfl))
 (ann_nil _) (fun v => Nat.le_of_ble_eq_true (by kernel_rfl)) (fun v => h163 C176 v)
def F135 (f163 : List UInt8 × Unit → Option (Int × Unit)) : List UInt8 × Unit → Option (Bool × Unit) := fun (x0, _) =>
 (f163 (x0, ())).bind fun val => some (decide (val.1 ≥ 0), ())
theorem h135 (f163 : HS f163_ins → Option (OTy f163_outs)) (v : HS f135_ins) : afun Γ (fun f => Ae.lookA f [(163, ⟨f163_ins, f163_outs, f163⟩)]) 0 Tryz.f135.ntmps Tryz.f135.results.toList (code Tryz.f135) .nil (em id f135_ins v).1 (em id f135_ins v).2 (ofin 0 f135_outs) = F135 f163 v := by kernel_rfl
def C135 (v : List UInt8 × Unit) : Option (Bool × Unit) := F135 C163 v
theorem ok135 : FnOk Tryz.prog 135 ⟨f135_ins, f135_outs, C135⟩ :=
 fn_ok (np := 0) (n := .nil) hm hΓ (K := (fun f => Ae.lookA f [(163, ⟨f163_ins, f163_outs, C163⟩)])) (kok_cons ok163 (kok_nil _)) Tryz.func135 (c := code Tryz.f135) (by kernel_rfl) (name_ne (by kernel_rfl))
 (ann_nil _) (fun v => Nat.le_of_ble_eq_true (by kernel_rfl)) (fun v => h135 C163 v)
def F100 (f26 : List UInt8 × List UInt8 × Unit → Option (List UInt8 × List UInt8 × Bool × Unit)) (f86 : List UInt8 × Unit → Option (List UInt8 × Unit)) (f135 : List UInt8 × Unit → Option (Bool × Unit)) : List UInt8 × Unit → Option (List UInt8 × List UInt8 × Bool × Unit) := fun (x0, _) =>
 (f26 (x0, [58], ())).bind fun val =>
 (f86 (val.1, ())).bind fun val_1 =>
 bif val.2.2.1 then
 bif !val.1 == [] then
 (f135 (val.1, ())).bind fun val_2 =>
 some (val_1.1, val.2.1, bif val_2.1 then false else true, ())
 else some (val_1.1, val.2.1, false, ())
 else some (val_1.1, val.2.1, false, ())
theorem h100 (f26 : HS f26_ins → Option (OTy f26_outs)) (f86 : HS f86_ins → Option (OTy f86_outs)) (f135 : HS f135_ins → Option (OTy f135_outs)) (v : HS f100_ins) : afun Γ (fun f => Ae.lookA f [(26, ⟨f26_ins, f26_outs, f26⟩), (86, ⟨f86_ins, f86_outs, f86⟩), (135, ⟨f135_ins, f135_outs, f135⟩)]) 0 Tryz.f100.ntmps Tryz.f100.results.toList (code Tryz.f100) .nil (em id f100_ins v).1 (em id f100_ins v).2 (ofin 0 f100_outs) = F100 f26 f86 f135 v := by kernel_rfl
def C100 (v : List UInt8 × Unit) : Option (List UInt8 × List UInt8 × Bool × Unit) := F100 C26 C86 C135 v
theorem ok100 : FnOk Tryz.prog 100 ⟨f100_ins, f100_outs, C100⟩ :=
 fn_ok (np := 0) (n := .nil) hm hΓ (K := (fun f => Ae.lookA f [(26, ⟨f26_ins, f26_outs, C26⟩), (86, ⟨f86_ins, f86_outs, C86⟩), (135, ⟨f135_ins, f135_outs, C135⟩)])) (kok_cons ok26 (kok_cons ok86 (kok_cons ok135 (kok_nil _)))) Tryz.func100 (c := code Tryz.f100) (by kernel_rfl) (name_ne (by kernel_rfl))
 (ann_nil _) (fun v => Nat.le_of_ble_eq_true (by kernel_rfl)) (fun v => h100 C26 C86 C135 v)
def F75_l0 (f99 : List UInt8 × Int × Unit → Option (Int × Unit)) (f100 : List UInt8 × Unit → Option (List UInt8 × List UInt8 × Bool × Unit)) : Bool × List (List UInt8) × Int × Int × List ((List UInt8 × List UInt8)) × Unit → Option ((Bool × List (List UInt8) × Int × Int × List ((List UInt8 × List UInt8)) × Unit) ⊕ (List ((List UInt8 × List UInt8)) × Unit)) := fun (x0, x1, x2, x3, x4, _) =>
 bif decide (x3 < x2) then
 bif decide (0 ≤ x3) && decide (x3 < (↑x1.length : Int)) then
 bif decide (0 < (↑(List.length (x1.getD x3.toNat [])) : Int)) then
 (f99 ([32, 9], (↑(List.getD (x1.getD x3.toNat []) 0 0).toNat : Int), ())).bind
 fun val =>
 bif decide (val.1 ≥ 0) then
 bif x0 then
 bif
 decide (0 ≤ IntKind.i64.wrap ((↑x4.length : Int) - 1)) &&
 decide (IntKind.i64.wrap ((↑x4.length : Int) - 1) < (↑x4.length : Int)) then
 bif
 decide
 (List.length
 (x4.getD (IntKind.i64.wrap ((↑x4.length : Int) - 1)).toNat ([], [])).2 +
 List.length (x1.getD x3.toNat []) ≤
 9223372036854775807) then
 bif
 decide (0 ≤ IntKind.i64.wrap ((↑x4.length : Int) - 1)) &&
 decide (IntKind.i64.wrap ((↑x4.length : Int) - 1) < (↑x4.length : Int)) then
 some
 (Sum.inl
 (x0, x1, x2, IntKind.i64.wrap (x3 + 1),
 x4.set (IntKind.i64.wrap ((↑x4.length : Int) - 1)).toNat
 ((x4.getD (IntKind.i64.wrap ((↑x4.length : Int) - 1)).toNat ([], [])).1,
 (x4.getD (IntKind.i64.wrap ((↑x4.length : Int) - 1)).toNat ([], [])).2 ++
 x1.getD x3.toNat []),
 ()))
 else none
 else none
 else none
 else some (Sum.inl (x0, x1, x2, IntKind.i64.wrap (x3 + 1), x4, ()))
 else
 (f100 (x1.getD x3.toNat [], ())).bind fun val =>
 bif val.2.2.1 then
 bif decide (x4.length + [(val.1, val.2.1)].length ≤ 140737488355328 / 32) then
 some
 (Sum.inl
 (val.2.2.1, x1, x2, IntKind.i64.wrap (x3 + 1), x4 ++ [(val.1, val.2.1)], ()))
 else none
 else some (Sum.inl (val.2.2.1, x1, x2, IntKind.i64.wrap (x3 + 1), x4, ()))
 else none
 else none
 else some (Sum.inr (x4, ()))
theorem h75_l0 (f99 : HS f99_ins → Option (OTy f99_outs)) (f100 : HS f100_ins → Option (OTy f100_outs)) (v : HS f75_l0_ins) : aev Γ (fun f => Ae.lookA f [(99, ⟨f99_ins, f99_outs, f99⟩), (100, ⟨f100_ins, f100_outs, f100⟩)]) 0 (subc (code Tryz.f75) [1, 1, 1, 0, 1, 0, 0]) .nil (stof f75_l0_ins v) (around 0 f75_l0_ins f75_l0_outs) = F75_l0 f99 f100 v := by kernel_rfl
def C75_l0 (v : Bool × List (List UInt8) × Int × Int × List ((List UInt8 × List UInt8)) × Unit) : Option (List ((List UInt8 × List UInt8)) × Unit) := loopN (F75_l0 C99 C100) big v
theorem k75_l0 : FragOk Tryz.prog 0 (fun Q a w => (Code.loop (subc (code Tryz.f75) [1, 1, 1, 0, 1, 0, 0])).wp Tryz.prog Q a w) ⟨f75_l0_ins, f75_l0_outs, C75_l0⟩ :=
 frag_loop (ins := f75_l0_ins) (os := f75_l0_outs) (np := 0) (n := .nil) (F := F75_l0 C99 C100) hm hΓ (K := (fun f => Ae.lookA f [(99, ⟨f99_ins, f99_outs, C99⟩), (100, ⟨f100_ins, f100_outs, C100⟩)])) (kok_cons ok99 (kok_cons ok100 (kok_nil _))) (fun _ => big)
 (ann_nil _) (fun v => h75_l0 C99 C100 v)
def F75_l1 (f101 : List UInt8 × List UInt8 × Unit → Option (List UInt8 × Unit)) : Int × Int × List ((List UInt8 × List UInt8)) × Unit → Option ((Int × Int × List ((List UInt8 × List UInt8)) × Unit) ⊕ (List ((List UInt8 × List UInt8)) × Unit)) := fun (x0, x1, x2, _) =>
 bif decide (x1 < x0) then
 bif decide (0 ≤ x1) && decide (x1 < (↑x2.length : Int)) then
 (f101 ((x2.getD x1.toNat ([], [])).2, [32, 9], ())).bind fun val =>
 bif decide (0 ≤ x1) && decide (x1 < (↑x2.length : Int)) then
 some
 (Sum.inl
 (x0, IntKind.i64.wrap (x1 + 1), x2.set x1.toNat ((x2.getD x1.toNat ([], [])).1, val.1),
 ()))
 else none
 else none
 else some (Sum.inr (x2, ()))
theorem h75_l1 (f101 : HS f101_ins → Option (OTy f101_outs)) (v : HS f75_l1_ins) : aev Γ (fun f => Ae.lookA f [(101, ⟨f101_ins, f101_outs, f101⟩)]) 0 (subc (code Tryz.f75) [1, 1, 1, 1, 0, 1, 0, 0]) .nil (stof f75_l1_ins v) (around 0 f75_l1_ins f75_l1_outs) = F75_l1 f101 v := by kernel_rfl
def C75_l1 (v : Int × Int × List ((List UInt8 × List UInt8)) × Unit) : Option (List ((List UInt8 × List UInt8)) × Unit) := loopN (F75_l1 C101) big v
theorem k75_l1 : FragOk Tryz.prog 0 (fun Q a w => (Code.loop (subc (code Tryz.f75) [1, 1, 1, 1, 0, 1, 0, 0])).wp Tryz.prog Q a w) ⟨f75_l1_ins, f75_l1_outs, C75_l1⟩ :=
 frag_loop (ins := f75_l1_ins) (os := f75_l1_outs) (np := 0) (n := .nil) (F := F75_l1 C101) hm hΓ (K := (fun f => Ae.lookA f [(101, ⟨f101_ins, f101_outs, C101⟩)])) (kok_cons ok101 (kok_nil _)) (fun _ => big)
 (ann_nil _) (fun v => h75_l1 C101 v)
def F75 (f71 : List (List UInt8) × Unit → Option (Int × Unit)) (f75_l0 : Bool × List (List UInt8) × Int × Int × List ((List UInt8 × List UInt8)) × Unit → Option (List ((List UInt8 × List UInt8)) × Unit)) (f75_l1 : Int × Int × List ((List UInt8 × List UInt8)) × Unit → Option (List ((List UInt8 × List UInt8)) × Unit)) : List (List UInt8) × Unit → Option (List ((List UInt8 × List UInt8)) × Unit) := fun (x0, _) =>
 (f71 (x0, ())).bind fun val =>
 bif decide (0 ≤ val.1) && decide (val.1 ≤ (↑x0.length : Int)) then
 (f75_l0
 (false, List.take (Int.toNat val.1) x0, (↑(List.take (Int.toNat val.1) x0).length : Int), 0, [], ())).bind
 fun val => (f75_l1 ((↑(List.length val.1) : Int), 0, val.1, ())).bind fun val => some (val.1, ())
 else none
theorem h75 (f71 : HS f71_ins → Option (OTy f71_outs)) (f75_l0 : HS f75_l0_ins → Option (OTy f75_l0_outs)) (f75_l1 : HS f75_l1_ins → Option (OTy f75_l1_outs)) (v : HS f75_ins) : afun Γ (fun f => Ae.lookA f [(71, ⟨f71_ins, f71_outs, f71⟩)]) 0 Tryz.f75.ntmps Tryz.f75.results.toList (code Tryz.f75) (.seq .nil (.seq .nil (.seq .nil (.seq (.seq .nil (.blk (.loop ⟨f75_l0_ins, f75_l0_outs, f75_l0⟩))) (.seq (.seq .nil (.blk (.loop ⟨f75_l1_ins, f75_l1_outs, f75_l1⟩))) .nil))))) (em id f75_ins v).1 (em id f75_ins v).2 (ofin 0 f75_outs) = F75 f71 f75_l0 f75_l1 v := by kernel_rfl
def C75 (v : List (List UInt8) × Unit) : Option (List ((List UInt8 × List UInt8)) × Unit) := F75 C71 C75_l0 C75_l1 v
theorem ok75 : FnOk Tryz.prog 75 ⟨f75_ins, f75_outs, C75⟩ :=
 fn_ok (np := 0) (n := (.seq .nil (.seq .nil (.seq .nil (.seq (.seq .nil (.blk (.loop ⟨f75_l0_ins, f75_l0_outs, C75_l0⟩))) (.seq (.seq .nil (.blk (.loop ⟨f75_l1_ins, f75_l1_outs, C75_l1⟩))) .nil)))))) hm hΓ (K := (fun f => Ae.lookA f [(71, ⟨f71_ins, f71_outs, C71⟩)])) (kok_cons ok71 (kok_nil _)) Tryz.func75 (c := code Tryz.f75) (by kernel_rfl) (name_ne (by kernel_rfl))
 (ann_seq (a := (subc (code Tryz.f75) [0])) (b := (subc (code Tryz.f75) [1])) (by kernel_rfl) (ann_nil _) (ann_seq (a := (subc (code Tryz.f75) [1, 0])) (b := (subc (code Tryz.f75) [1, 1])) (by kernel_rfl) (ann_nil _) (ann_seq (a := (subc (code Tryz.f75) [1, 1, 0])) (b := (subc (code Tryz.f75) [1, 1, 1])) (by kernel_rfl) (ann_nil _) (ann_seq (a := (subc (code Tryz.f75) [1, 1, 1, 0])) (b := (subc (code Tryz.f75) [1, 1, 1, 1])) (by kernel_rfl) (ann_seq (a := (subc (code Tryz.f75) [1, 1, 1, 0, 0])) (b := (subc (code Tryz.f75) [1, 1, 1, 0, 1])) (by kernel_rfl) (ann_nil _) (ann_blk (x := (subc (code Tryz.f75) [1, 1, 1, 0, 1, 0])) (by kernel_rfl) (ann_loop (x := (subc (code Tryz.f75) [1, 1, 1, 0, 1, 0, 0])) (by kernel_rfl) k75_l0))) (ann_seq (a := (subc (code Tryz.f75) [1, 1, 1, 1, 0])) (b := (subc (code Tryz.f75) [1, 1, 1, 1, 1])) (by kernel_rfl) (ann_seq (a := (subc (code Tryz.f75) [1, 1, 1, 1, 0, 0])) (b := (subc (code Tryz.f75) [1, 1, 1, 1, 0, 1])) (by kernel_rfl) (ann_nil _) (ann_blk (x := (subc (code Tryz.f75) [1, 1, 1, 1, 0, 1, 0])) (by kernel_rfl) (ann_loop (x := (subc (code Tryz.f75) [1, 1, 1, 1, 0, 1, 0, 0])) (by kernel_rfl) k75_l1))) (ann_nil _)))))) (fun v => Nat.le_of_ble_eq_true (by kernel_rfl)) (fun v => h75 C71 C75_l0 C75_l1 v)
def F41_l0  : List ((List UInt8 × List UInt8)) × Int × Int × Bool × Bool × Bool × Int × Int × Bool × Bool × Bool × Int × Int × Unit → Option ((List ((List UInt8 × List UInt8)) × Int × Int × Bool × Bool × Bool × Int × Int × Bool × Bool × Bool × Int × Int × Unit) ⊕ (Bool × Bool × Bool × Int × Int × Bool × Bool × Bool × Int × Int × Unit)) := fun (x0, x1, x2, x3, x4, x5, x6, x7, x8, x9, x10, x11, x12, _) =>
 bif decide (x2 < x1) then
 bif decide (0 ≤ x2) && decide (x2 < (↑x0.length : Int)) then
 bif (x0.getD x2.toNat ([], [])).1 == [114, 101, 99, 101, 105, 118, 101, 100] then
 some
 (Sum.inl
 (x0, x1, IntKind.i64.wrap (x2 + 1), x3, x4, x5, x6, x7, x8, x9, x10, x11, IntKind.i64.wrap (x12 + 1),
 ()))
 else some (Sum.inl (x0, x1, IntKind.i64.wrap (x2 + 1), x3, x4, x5, x6, x7, x8, x9, x10, x11, x12, ()))
 else none
 else some (Sum.inr (x3, x4, x5, x6, x7, x8, x9, x10, x11, x12, ()))
theorem h41_l0  (v : HS f41_l0_ins) : aev Γ (fun f => Ae.lookA f []) 0 (subc (code Tryz.f41) [1, 1, 1, 1, 0, 1, 0, 0]) .nil (stof f41_l0_ins v) (around 0 f41_l0_ins f41_l0_outs) = F41_l0 v := by kernel_rfl
def C41_l0 (v : List ((List UInt8 × List UInt8)) × Int × Int × Bool × Bool × Bool × Int × Int × Bool × Bool × Bool × Int × Int × Unit) : Option (Bool × Bool × Bool × Int × Int × Bool × Bool × Bool × Int × Int × Unit) := loopN (F41_l0) big v
theorem k41_l0 : FragOk Tryz.prog 0 (fun Q a w => (Code.loop (subc (code Tryz.f41) [1, 1, 1, 1, 0, 1, 0, 0])).wp Tryz.prog Q a w) ⟨f41_l0_ins, f41_l0_outs, C41_l0⟩ :=
 frag_loop (ins := f41_l0_ins) (os := f41_l0_outs) (np := 0) (n := .nil) (F := F41_l0) hm hΓ (K := (fun f => Ae.lookA f [])) (kok_nil _) (fun _ => big)
 (ann_nil _) (fun v => h41_l0 v)
def F41 (f71 : List (List UInt8) × Unit → Option (Int × Unit)) (f72 : List (List UInt8) × Unit → Option (Bool × Unit)) (f72v1 : List (List UInt8) × Unit → Option (Bool × Unit)) (f75 : List (List UInt8) × Unit → Option (List ((List UInt8 × List UInt8)) × Unit)) (f41_l0 : List ((List UInt8 × List UInt8)) × Int × Int × Bool × Bool × Bool × Int × Int × Bool × Bool × Bool × Int × Int × Unit → Option (Bool × Bool × Bool × Int × Int × Bool × Bool × Bool × Int × Int × Unit)) : List (List UInt8) × Unit → Option (Bool × Bool × Bool × Int × Int × Unit) := fun (x0, _) =>
 (f71 (x0, ())).bind fun val =>
 bif decide (0 ≤ val.1) && decide (val.1 ≤ (↑x0.length : Int)) then
 bif decide (0 ≤ val.1) && decide (val.1 ≤ (↑x0.length : Int)) then
 (f72 (List.take (Int.toNat val.1) x0, ())).bind fun val_1 =>
 (f72 (List.drop (Int.toNat val.1) x0, ())).bind fun val_2 =>
 (f72v1 (List.take (Int.toNat val.1) x0, ())).bind fun val_3 =>
 (f75 (x0, ())).bind fun val_4 =>
 (f41_l0
 (val_4.1, (↑(List.length val_4.1) : Int), 0, false, false, false, 0, 0, val_1.1, val_2.1,
 val_3.1, val.1, 0, ())).bind
 fun val =>
 some
 (val.2.2.2.2.2.1, val.2.2.2.2.2.2.1, val.2.2.2.2.2.2.2.1,
 val.2.2.2.2.2.2.2.2.1, val.2.2.2.2.2.2.2.2.2.1, ())
 else none
 else none
theorem h41 (f71 : HS f71_ins → Option (OTy f71_outs)) (f72 : HS f72_ins → Option (OTy f72_outs)) (f72v1 : HS f72v1_ins → Option (OTy f72v1_outs)) (f75 : HS f75_ins → Option (OTy f75_outs)) (f41_l0 : HS f41_l0_ins → Option (OTy f41_l0_outs)) (v : HS f41_ins) : afun Γ (fun f => Ae.lookA f [(71, ⟨f71_ins, f71_outs, f71⟩), (72, ⟨f72_ins, f72_outs, f72⟩), (72, ⟨f72v1_ins, f72v1_outs, f72v1⟩), (75, ⟨f75_ins, f75_outs, f75⟩)]) 0 Tryz.f41.ntmps Tryz.f41.results.toList (code Tryz.f41) (.seq .nil (.seq .nil (.seq .nil (.seq .nil (.seq (.seq .nil (.blk (.loop ⟨f41_l0_ins, f41_l0_outs, f41_l0⟩))) .nil))))) (em id f41_ins v).1 (em id f41_ins v).2 (ofin 0 f41_outs) = F41 f71 f72 f72v1 f75 f41_l0 v := by kernel_rfl
def C41 (v : List (List UInt8) × Unit) : Option (Bool × Bool × Bool × Int × Int × Unit) := F41 C71 C72 C72v1 C75 C41_l0 v
theorem ok41 : FnOk Tryz.prog 41 ⟨f41_ins, f41_outs, C41⟩ :=
 fn_ok (np := 0) (n := (.seq .nil (.seq .nil (.seq .nil (.seq .nil (.seq (.seq .nil (.blk (.loop ⟨f41_l0_ins, f41_l0_outs, C41_l0⟩))) .nil)))))) hm hΓ (K := (fun f => Ae.lookA f [(71, ⟨f71_ins, f71_outs, C71⟩), (72, ⟨f72_ins, f72_outs, C72⟩), (72, ⟨f72v1_ins, f72v1_outs, C72v1⟩), (75, ⟨f75_ins, f75_outs, C75⟩)])) (kok_cons ok71 (kok_cons ok72 (kok_cons ok72v1 (kok_cons ok75 (kok_nil _))))) Tryz.func41 (c := code Tryz.f41) (by kernel_rfl) (name_ne (by kernel_rfl))
 (ann_seq (a := (subc (code Tryz.f41) [0])) (b := (subc (code Tryz.f41) [1])) (by kernel_rfl) (ann_nil _) (ann_seq (a := (subc (code Tryz.f41) [1, 0])) (b := (subc (code Tryz.f41) [1, 1])) (by kernel_rfl) (ann_nil _) (ann_seq (a := (subc (code Tryz.f41) [1, 1, 0])) (b := (subc (code Tryz.f41) [1, 1, 1])) (by kernel_rfl) (ann_nil _) (ann_seq (a := (subc (code Tryz.f41) [1, 1, 1, 0])) (b := (subc (code Tryz.f41) [1, 1, 1, 1])) (by kernel_rfl) (ann_nil _) (ann_seq (a := (subc (code Tryz.f41) [1, 1, 1, 1, 0])) (b := (subc (code Tryz.f41) [1, 1, 1, 1, 1])) (by kernel_rfl) (ann_seq (a := (subc (code Tryz.f41) [1, 1, 1, 1, 0, 0])) (b := (subc (code Tryz.f41) [1, 1, 1, 1, 0, 1])) (by kernel_rfl) (ann_nil _) (ann_blk (x := (subc (code Tryz.f41) [1, 1, 1, 1, 0, 1, 0])) (by kernel_rfl) (ann_loop (x := (subc (code Tryz.f41) [1, 1, 1, 1, 0, 1, 0, 0])) (by kernel_rfl) k41_l0))) (ann_nil _)))))) (fun v => Nat.le_of_ble_eq_true (by kernel_rfl)) (fun v => h41 C71 C72 C72v1 C75 C41_l0 v)
def F16_l0  : Int × Int × Bool × List UInt8 × List UInt8 × Bool × Bool × Bool × Int × Int × Int × Bool × List UInt8 × List UInt8 × Bool × Bool × Bool × Int × Int × Int × List (List UInt8) × List ((Bool × (List UInt8 × List UInt8))) × Unit → Option ((Int × Int × Bool × List UInt8 × List UInt8 × Bool × Bool × Bool × Int × Int × Int × Bool × List UInt8 × List UInt8 × Bool × Bool × Bool × Int × Int × Int × List (List UInt8) × List ((Bool × (List UInt8 × List UInt8))) × Unit) ⊕ (Bool × List UInt8 × List UInt8 × Bool × Bool × Bool × Int × Int × Int × Bool × List UInt8 × List UInt8 × Bool × Bool × Bool × Int × Int × Int × List ((Bool × (List UInt8 × List UInt8))) × List (List UInt8) × Unit)) := fun (x0, x1, x2, x3, x4, x5, x6, x7, x8, x9, x10, x11, x12, x13, x14, x15, x16, x17, x18, x19, x20, x21, _) =>
 bif decide (x1 < x0) then
 bif decide (0 ≤ x1) && decide (x1 < (↑x20.length : Int)) then
 some
 (Sum.inl
 (x0, IntKind.i64.wrap (x1 + 1), x2, x3, x4, x5, x6, x7, x8, x9, x10, x11, x12, x13, x14, x15, x16, x17, x18,
 IntKind.i64.wrap (x19 + IntKind.i64.wrap ((↑(List.length (x20.getD x1.toNat [])) : Int) + 2)), x20,
 x21, ()))
 else none
 else
 some
 (Sum.inr (x2, x3, x4, x5, x6, x7, x8, x9, x10, x11, x12, x13, x14, x15, x16, x17, x18, x19, x21, x20, ()))
theorem h16_l0  (v : HS f16_l0_ins) : aev Γ (fun f => Ae.lookA f []) 0 (subc (code Tryz.f16) [1, 1, 1, 1, 1, 0, 1, 0, 0]) .nil (stof f16_l0_ins v) (around 0 f16_l0_ins f16_l0_outs) = F16_l0 v := by kernel_rfl
def C16_l0 (v : Int × Int × Bool × List UInt8 × List UInt8 × Bool × Bool × Bool × Int × Int × Int × Bool × List UInt8 × List UInt8 × Bool × Bool × Bool × Int × Int × Int × List (List UInt8) × List ((Bool × (List UInt8 × List UInt8))) × Unit) : Option (Bool × List UInt8 × List UInt8 × Bool × Bool × Bool × Int × Int × Int × Bool × List UInt8 × List UInt8 × Bool × Bool × Bool × Int × Int × Int × List ((Bool × (List UInt8 × List UInt8))) × List (List UInt8) × Unit) := loopN (F16_l0) big v
theorem k16_l0 : FragOk Tryz.prog 0 (fun Q a w => (Code.loop (subc (code Tryz.f16) [1, 1, 1, 1, 1, 0, 1, 0, 0])).wp Tryz.prog Q a w) ⟨f16_l0_ins, f16_l0_outs, C16_l0⟩ :=
 frag_loop (ins := f16_l0_ins) (os := f16_l0_outs) (np := 0) (n := .nil) (F := F16_l0) hm hΓ (K := (fun f => Ae.lookA f [])) (kok_nil _) (fun _ => big)
 (ann_nil _) (fun v => h16_l0 v)
def F16_c0 (f41 : List (List UInt8) × Unit → Option (Bool × Bool × Bool × Int × Int × Unit)) (f16_l0 : Int × Int × Bool × List UInt8 × List UInt8 × Bool × Bool × Bool × Int × Int × Int × Bool × List UInt8 × List UInt8 × Bool × Bool × Bool × Int × Int × Int × List (List UInt8) × List ((Bool × (List UInt8 × List UInt8))) × Unit → Option (Bool × List UInt8 × List UInt8 × Bool × Bool × Bool × Int × Int × Int × Bool × List UInt8 × List UInt8 × Bool × Bool × Bool × Int × Int × Int × List ((Bool × (List UInt8 × List UInt8))) × List (List UInt8) × Unit)) : Int × Bool × List UInt8 × List UInt8 × List (((Bool × (List UInt8 × List UInt8)) × (Int × (Int × (Int × Int))))) × List (List UInt8) × Bool × Bool × Bool × Int × Int × Int × Bool × List UInt8 × List UInt8 × Bool × Bool × Bool × Int × Int × Int × List (List UInt8) × Unit → Option (Bool × Bool × List UInt8 × List UInt8 × Bool × Bool × Bool × Int × Int × Int × List ((Bool × (List UInt8 × List UInt8))) × List (List UInt8) × Unit) := fun (x0, x1, x2, x3, x4, x5, x6, x7, x8, x9, x10, x11, x12, x13, x14, x15, x16, x17, x18, x19, x20, x21, _) =>
 (f41 (x21, ())).bind fun val =>
 (f16_l0
 ((↑x21.length : Int), 0, x12, x13, x14, x15, x16, x17, x18, x19, x20, true, [], [], val.1, val.2.1,
 val.2.2.1, val.2.2.2.1, val.2.2.2.2.1, 0, x21, [(x1, x2, x3)], ())).bind
 fun val =>
 some
 (true, val.2.2.2.2.2.2.2.2.2.1, val.2.2.2.2.2.2.2.2.2.2.1,
 val.2.2.2.2.2.2.2.2.2.2.2.1, val.2.2.2.2.2.2.2.2.2.2.2.2.1,
 val.2.2.2.2.2.2.2.2.2.2.2.2.2.1,
 val.2.2.2.2.2.2.2.2.2.2.2.2.2.2.1,
 val.2.2.2.2.2.2.2.2.2.2.2.2.2.2.2.1,
 val.2.2.2.2.2.2.2.2.2.2.2.2.2.2.2.2.1,
 val.2.2.2.2.2.2.2.2.2.2.2.2.2.2.2.2.2.1,
 val.2.2.2.2.2.2.2.2.2.2.2.2.2.2.2.2.2.2.1,
 val.2.2.2.2.2.2.2.2.2.2.2.2.2.2.2.2.2.2.2.1, ())
theorem h16_c0 (f41 : HS f41_ins → Option (OTy f41_outs)) (f16_l0 : HS f16_l0_ins → Option (OTy f16_l0_outs)) (v : HS f16_c0_ins) : aev Γ (fun f => Ae.lookA f [(41, ⟨f41_ins, f41_outs, f41⟩)]) 0 (subc (code Tryz.f16) [1, 1, 1, 1]) (.seq .nil (.seq (.seq .nil (.blk (.loop ⟨f16_l0_ins, f16_l0_outs, f16_l0⟩))) .nil)) (stof f16_c0_ins v) (oout 0 f16_c0_outs) = F16_c0 f41 f16_l0 v := by kernel_rfl
def C16_c0 (v : Int × Bool × List UInt8 × List UInt8 × List (((Bool × (List UInt8 × List UInt8)) × (Int × (Int × (Int × Int))))) × List (List UInt8) × Bool × Bool × Bool × Int × Int × Int × Bool × List UInt8 × List UInt8 × Bool × Bool × Bool × Int × Int × Int × List (List UInt8) × Unit) : Option (Bool × Bool × List UInt8 × List UInt8 × Bool × Bool × Bool × Int × Int × Int × List ((Bool × (List UInt8 × List UInt8))) × List (List UInt8) × Unit) := F16_c0 C41 C16_l0 v
theorem k16_c0 : FragOk Tryz.prog 0 (fun Q a w => ((subc (code Tryz.f16) [1, 1, 1, 1])).wp Tryz.prog Q a w) ⟨f16_c0_ins, f16_c0_outs, C16_c0⟩ :=
 frag_code (ins := f16_c0_ins) (os := f16_c0_outs) (np := 0) (n := (.seq .nil (.seq (.seq .nil (.blk (.loop ⟨f16_l0_ins, f16_l0_outs, C16_l0⟩))) .nil))) (F := C16_c0) hm hΓ (K := (fun f => Ae.lookA f [(41, ⟨f41_ins, f41_outs, C41⟩)])) (kok_cons ok41 (kok_nil _))
 (ann_seq (a := (subc (code Tryz.f16) [1, 1, 1, 1, 0])) (b := (subc (code Tryz.f16) [1, 1, 1, 1, 1])) (by kernel_rfl) (ann_nil _) (ann_seq (a := (subc (code Tryz.f16) [1, 1, 1, 1, 1, 0])) (b := (subc (code Tryz.f16) [1, 1, 1, 1, 1, 1])) (by kernel_rfl) (ann_seq (a := (subc (code Tryz.f16) [1, 1, 1, 1, 1, 0, 0])) (b := (subc (code Tryz.f16) [1, 1, 1, 1, 1, 0, 1])) (by kernel_rfl) (ann_nil _) (ann_blk (x := (subc (code Tryz.f16) [1, 1, 1, 1, 1, 0, 1, 0])) (by kernel_rfl) (ann_loop (x := (subc (code Tryz.f16) [1, 1, 1, 1, 1, 0, 1, 0, 0])) (by kernel_rfl) k16_l0))) (ann_nil _))) (fun v => h16_c0 C41 C16_l0 v)
def F16_c1 (f11 : List UInt8 × Unit → Option (List UInt8 × Unit)) (f13 : Int × Unit → Option (List UInt8 × Unit)) (f23 : Bool × List UInt8 × List UInt8 × Unit → Option (List UInt8 × Unit)) (f38 : Int × Unit → Option (List UInt8 × Unit)) (f16_c0 : Int × Bool × List UInt8 × List UInt8 × List (((Bool × (List UInt8 × List UInt8)) × (Int × (Int × (Int × Int))))) × List (List UInt8) × Bool × Bool × Bool × Int × Int × Int × Bool × List UInt8 × List UInt8 × Bool × Bool × Bool × Int × Int × Int × List (List UInt8) × Unit → Option (Bool × Bool × List UInt8 × List UInt8 × Bool × Bool × Bool × Int × Int × Int × List ((Bool × (List UInt8 × List UInt8))) × List (List UInt8) × Unit)) : List UInt8 × Int × Int × Bool × List UInt8 × List UInt8 × List (((Bool × (List UInt8 × List UInt8)) × (Int × (Int × (Int × Int))))) × List (List UInt8) × Bool × Bool × Bool × Int × Int × Int × Bool × List UInt8 × List UInt8 × Bool × Bool × Bool × Int × Int × Int × Unit → Option (Bool × Bool × List UInt8 × List UInt8 × Bool × Bool × Bool × Int × Int × Int × List ((Bool × (List UInt8 × List UInt8))) × List (List UInt8) × Unit) := fun (x0, x1, x2, x3, x4, x5, x6, x7, x8, x9, x10, x11, x12, x13, x14, x15, x16, x17, x18, x19, x20, x21, x22, _) =>
 bif decide (0 ≤ x1) && decide (x1 < (↑x6.length : Int)) then
 (f11 (x0, ())).bind fun val =>
 bif
 decide
 ([82, 101, 112, 111, 114, 116, 105, 110, 103, 45, 77, 84, 65, 58, 32, 100, 110, 115, 59, 32].length +
 List.length val.1 ≤
 9223372036854775807) then
 (f38 (x2, ())).bind fun val_1 =>
 bif
 decide
 ([79, 114, 105, 103, 105, 110, 97, 108, 45, 73, 68, 58, 32].length + List.length val_1.1 ≤
 9223372036854775807) then
 (f23
 ((x6.getD x1.toNat
 ((false, ([], [])), (0, (0, (0, 0))))).1.1,
 (x6.getD x1.toNat
 ((false, ([], [])), (0, (0, (0, 0))))).1.2.1,
 (x6.getD x1.toNat
 ((false, ([], [])), (0, (0, (0, 0))))).1.2.2,
 ())).bind
 fun val_2 =>
 (f11 (val_2.1, ())).bind fun val_3 =>
 bif
 decide
 ([70, 105, 110, 97, 108, 45, 82, 101, 99, 105, 112, 105, 101, 110, 116, 58, 32, 117, 116, 102, 45,
 56, 59, 32].length +
 List.length val_3.1 ≤
 9223372036854775807) then
 (f13
 ((x6.getD x1.toNat
 ((false, ([], [])), (0, (0, (0, 0))))).2.2.2.2,
 ())).bind
 fun val_4 =>
 bif
 decide
 ([83, 116, 97, 116, 117, 115, 58, 32].length + List.length val_4.1 ≤
 9223372036854775807) then
 (f16_c0
 (x2, x3, x4, x5, x6, x7, x8, x9, x10, x11, x12, x13, x14, x15, x16, x17, x18, x19, x20, x21,
 x22,
 [[83, 117, 98, 106, 101, 99, 116, 58, 32, 110, 111, 116, 32, 100, 101, 108, 105, 118, 101,
 114, 101, 100],
 [77, 73, 77, 69, 45, 86, 101, 114, 115, 105, 111, 110, 58, 32, 49, 46, 48],
 [67, 111, 110, 116, 101, 110, 116, 45, 84, 121, 112, 101, 58, 32, 109, 101, 115, 115, 97,
 103, 101, 47, 103, 108, 111, 98, 97, 108, 45, 100, 101, 108, 105, 118, 101, 114, 121,
 45, 115, 116, 97, 116, 117, 115],
 [],
 [82, 101, 112, 111, 114, 116, 105, 110, 103, 45, 77, 84, 65, 58, 32, 100, 110, 115, 59,
 32] ++
 val.1,
 [],
 [79, 114, 105, 103, 105, 110, 97, 108, 45, 73, 68, 58, 32] ++ val_1.1,
 [70, 105, 110, 97, 108, 45, 82, 101, 99, 105, 112, 105, 101, 110, 116, 58, 32, 117, 116,
 102, 45, 56, 59, 32] ++
 val_3.1,
 [65, 99, 116, 105, 111, 110, 58, 32, 102, 97, 105, 108, 101, 100],
 [83, 116, 97, 116, 117, 115, 58, 32] ++ val_4.1],
 ())).bind
 fun val =>
 some
 (val.1, val.2.1, val.2.2.1, val.2.2.2.1, val.2.2.2.2.1,
 val.2.2.2.2.2.1, val.2.2.2.2.2.2.1,
 val.2.2.2.2.2.2.2.1, val.2.2.2.2.2.2.2.2.1,
 val.2.2.2.2.2.2.2.2.2.1, val.2.2.2.2.2.2.2.2.2.2.1,
 val.2.2.2.2.2.2.2.2.2.2.2.1, ())
 else none
 else none
 else none
 else none
 else none
theorem h16_c1 (f11 : HS f11_ins → Option (OTy f11_outs)) (f13 : HS f13_ins → Option (OTy f13_outs)) (f23 : HS f23_ins → Option (OTy f23_outs)) (f38 : HS f38_ins → Option (OTy f38_outs)) (f16_c0 : HS f16_c0_ins → Option (OTy f16_c0_outs)) (v : HS f16_c1_ins) : aev Γ (fun f => Ae.lookA f [(11, ⟨f11_ins, f11_outs, f11⟩), (13, ⟨f13_ins, f13_outs, f13⟩), (23, ⟨f23_ins, f23_outs, f23⟩), (38, ⟨f38_ins, f38_outs, f38⟩)]) 0 (subc (code Tryz.f16) [1, 1]) (.seq .nil (.cut .nil ⟨f16_c0_ins, f16_c0_outs, f16_c0⟩)) (stof f16_c1_ins v) (oout 0 f16_c1_outs) = F16_c1 f11 f13 f23 f38 f16_c0 v := by kernel_rfl
def C16_c1 (v : List UInt8 × Int × Int × Bool × List UInt8 × List UInt8 × List (((Bool × (List UInt8 × List UInt8)) × (Int × (Int × (Int × Int))))) × List (List UInt8) × Bool × Bool × Bool × Int × Int × Int × Bool × List UInt8 × List UInt8 × Bool × Bool × Bool × Int × Int × Int × Unit) : Option (Bool × Bool × List UInt8 × List UInt8 × Bool × Bool × Bool × Int × Int × Int × List ((Bool × (List UInt8 × List UInt8))) × List (List UInt8) × Unit) := F16_c1 C11 C13 C23 C38 C16_c0 v
theorem k16_c1 : FragOk Tryz.prog 0 (fun Q a w => ((subc (code Tryz.f16) [1, 1])).wp Tryz.prog Q a w) ⟨f16_c1_ins, f16_c1_outs, C16_c1⟩ :=
 frag_code (ins := f16_c1_ins) (os := f16_c1_outs) (np := 0) (n := (.seq .nil (.cut .nil ⟨f16_c0_ins, f16_c0_outs, C16_c0⟩))) (F := C16_c1) hm hΓ (K := (fun f => Ae.lookA f [(11, ⟨f11_ins, f11_outs, C11⟩), (13, ⟨f13_ins, f13_outs, C13⟩), (23, ⟨f23_ins, f23_outs, C23⟩), (38, ⟨f38_ins, f38_outs, C38⟩)])) (kok_cons ok11 (kok_cons ok13 (kok_cons ok23 (kok_cons ok38 (kok_nil _)))))
 (ann_seq (a := (subc (code Tryz.f16) [1, 1, 0])) (b := (subc (code Tryz.f16) [1, 1, 1])) (by kernel_rfl) (ann_nil _) (ann_cut (a := (subc (code Tryz.f16) [1, 1, 1, 0])) (b := (subc (code Tryz.f16) [1, 1, 1, 1])) (by kernel_rfl) (ann_nil _) k16_c0)) (fun v => h16_c1 C11 C13 C23 C38 C16_c0 v)
def F16 (f16_c1 : List UInt8 × Int × Int × Bool × List UInt8 × List UInt8 × List (((Bool × (List UInt8 × List UInt8)) × (Int × (Int × (Int × Int))))) × List (List UInt8) × Bool × Bool × Bool × Int × Int × Int × Bool × List UInt8 × List UInt8 × Bool × Bool × Bool × Int × Int × Int × Unit → Option (Bool × Bool × List UInt8 × List UInt8 × Bool × Bool × Bool × Int × Int × Int × List ((Bool × (List UInt8 × List UInt8))) × List (List UInt8) × Unit)) : List UInt8 × Int × Bool × List UInt8 × List UInt8 × List (((Bool × (List UInt8 × List UInt8)) × (Int × (Int × (Int × Int))))) × List (List UInt8) × Bool × Bool × Bool × Int × Int × Int × Int × Unit → Option (Bool × List UInt8 × List UInt8 × List ((Bool × (List UInt8 × List UInt8))) × List (List UInt8) × Bool × Bool × Bool × Int × Int × Int × Bool × Unit) := fun (x0, x1, x2, x3, x4, x5, x6, x7, x8, x9, x10, x11, x12, x13, _) =>
 bif x2 then some (false, [], [], [], [], false, false, false, 0, 0, 0, false, ())
 else
 bif decide (x13 < 0) then some (false, [], [], [], [], false, false, false, 0, 0, 0, false, ())
 else
 bif decide (x13 ≥ (↑x5.length : Int)) then
 some (false, [], [], [], [], false, false, false, 0, 0, 0, false, ())
 else
 bif decide (0 ≤ x13) && decide (x13 < (↑x5.length : Int)) then
 bif
 (x5.getD x13.toNat
 ((false, ([], [])), (0, (0, (0, 0))))).2.1 !=
 3 then
 some (false, [], [], [], [], false, false, false, 0, 0, 0, false, ())
 else
 (f16_c1
 (x0, x13, x1, x2, x3, x4, x5, x6, x7, x8, x9, x10, x11, x12, false, [], [], false, false, false, 0, 0,
 0, ())).bind
 fun val =>
 some
 (val.2.1, val.2.2.1, val.2.2.2.1, val.2.2.2.2.2.2.2.2.2.2.1,
 val.2.2.2.2.2.2.2.2.2.2.2.1, val.2.2.2.2.1,
 val.2.2.2.2.2.1, val.2.2.2.2.2.2.1, val.2.2.2.2.2.2.2.1,
 val.2.2.2.2.2.2.2.2.1, val.2.2.2.2.2.2.2.2.2.1, val.1,
 ())
 else none
theorem h16 (f16_c1 : HS f16_c1_ins → Option (OTy f16_c1_outs)) (v : HS f16_ins) : afun Γ (fun f => Ae.lookA f []) 0 Tryz.f16.ntmps Tryz.f16.results.toList (code Tryz.f16) (.seq .nil (.cut .nil ⟨f16_c1_ins, f16_c1_outs, f16_c1⟩)) (em id f16_ins v).1 (em id f16_ins v).2 (ofin 0 f16_outs) = F16 f16_c1 v := by kernel_rfl
def C16 (v : List UInt8 × Int × Bool × List UInt8 × List UInt8 × List (((Bool × (List UInt8 × List UInt8)) × (Int × (Int × (Int × Int))))) × List (List UInt8) × Bool × Bool × Bool × Int × Int × Int × Int × Unit) : Option (Bool × List UInt8 × List UInt8 × List ((Bool × (List UInt8 × List UInt8))) × List (List UInt8) × Bool × Bool × Bool × Int × Int × Int × Bool × Unit) := F16 C16_c1 v
theorem ok16 : FnOk Tryz.prog 16 ⟨f16_ins, f16_outs, C16⟩ :=
 fn_ok (np := 0) (n := (.seq .nil (.cut .nil ⟨f16_c1_ins, f16_c1_outs, C16_c1⟩))) hm hΓ (K := (fun f => Ae.lookA f [])) (kok_nil _) Tryz.func16 (c := code Tryz.f16) (by kernel_rfl) (name_ne (by kernel_rfl))
 (ann_seq (a := (subc (code Tryz.f16) [0])) (b := (subc (code Tryz.f16) [1])) (by kernel_rfl) (ann_nil _) (ann_cut (a := (subc (code Tryz.f16) [1, 0])) (b := (subc (code Tryz.f16) [1, 1])) (by kernel_rfl) (ann_nil _) k16_c1)) (fun v => Nat.le_of_ble_eq_true (by kernel_rfl)) (fun v => h16 C16_c1 v)
def F48  : List (List UInt8) × Unit → Option (Bool × List (List UInt8) × Unit) := fun (x0, _) =>
 some ((↑x0.length : Int) == 10, x0, ())
theorem h48  (v : HS f48_ins) : afun Γ (fun f => Ae.lookA f []) 1 Tryz.f48.ntmps Tryz.f48.results.toList (code Tryz.f48) .nil (em id f48_ins v).1 (em id f48_ins v).2 (ofin 1 f48_outs) = F48 v := by kernel_rfl
def C48 (v : List (List UInt8) × Unit) : Option (Bool × List (List UInt8) × Unit) := F48 v
theorem ok48 : FnOk Tryz.prog 48 ⟨f48_ins, f48_outs, C48⟩ :=
 fn_ok (np := 1) (n := .nil) hm hΓ (K := (fun f => Ae.lookA f [])) (kok_nil _) Tryz.func48 (c := code Tryz.f48) (by kernel_rfl) (name_ne (by kernel_rfl))
 (ann_nil _) (fun v => Nat.le_of_ble_eq_true (by kernel_rfl)) (fun v => h48 v)
def F49  : List (List UInt8) × Unit → Option (Bool × List (List UInt8) × Unit) := fun (x0, _) =>
 bif decide (0 < (↑x0.length : Int)) then
 bif
 x0.getD 0 [] ==
 [83, 117, 98, 106, 101, 99, 116, 58, 32, 110, 111, 116, 32, 100, 101, 108, 105, 118, 101, 114, 101,
 100] then
 bif decide (1 < (↑x0.length : Int)) then
 some
 (x0.getD 1 [] ==
 [77, 73, 77, 69, 45, 86, 101, 114, 115, 105, 111, 110, 58, 32, 49, 46, 48],
 x0, ())
 else none
 else some (false, x0, ())
 else none
theorem h49  (v : HS f49_ins) : afun Γ (fun f => Ae.lookA f []) 1 Tryz.f49.ntmps Tryz.f49.results.toList (code Tryz.f49) .nil (em id f49_ins v).1 (em id f49_ins v).2 (ofin 1 f49_outs) = F49 v := by kernel_rfl
def C49 (v : List (List UInt8) × Unit) : Option (Bool × List (List UInt8) × Unit) := F49 v
theorem ok49 : FnOk Tryz.prog 49 ⟨f49_ins, f49_outs, C49⟩ :=
 fn_ok (np := 1) (n := .nil) hm hΓ (K := (fun f => Ae.lookA f [])) (kok_nil _) Tryz.func49 (c := code Tryz.f49) (by kernel_rfl) (name_ne (by kernel_rfl))
 (ann_nil _) (fun v => Nat.le_of_ble_eq_true (by kernel_rfl)) (fun v => h49 v)
def F50  : List (List UInt8) × Unit → Option (Bool × List (List UInt8) × Unit) := fun (x0, _) =>
 bif decide (2 < (↑x0.length : Int)) then
 bif
 x0.getD 2 [] ==
 [67, 111, 110, 116, 101, 110, 116, 45, 84, 121, 112, 101, 58, 32, 109, 101, 115, 115, 97, 103, 101, 47, 103,
 108, 111, 98, 97, 108, 45, 100, 101, 108, 105, 118, 101, 114, 121, 45, 115, 116, 97, 116, 117,
 115] then
 bif decide (3 < (↑x0.length : Int)) then
 bif x0.getD 3 [] == [] then
 bif decide (5 < (↑x0.length : Int)) then
 some (x0.getD 5 [] == [], x0, ())
 else none
 else some (false, x0, ())
 else none
 else some (false, x0, ())
 else none
theorem h50  (v : HS f50_ins) : afun Γ (fun f => Ae.lookA f []) 1 Tryz.f50.ntmps Tryz.f50.results.toList (code Tryz.f50) .nil (em id f50_ins v).1 (em id f50_ins v).2 (ofin 1 f50_outs) = F50 v := by kernel_rfl
def C50 (v : List (List UInt8) × Unit) : Option (Bool × List (List UInt8) × Unit) := F50 v
theorem ok50 : FnOk Tryz.prog 50 ⟨f50_ins, f50_outs, C50⟩ :=
 fn_ok (np := 1) (n := .nil) hm hΓ (K := (fun f => Ae.lookA f [])) (kok_nil _) Tryz.func50 (c := code Tryz.f50) (by kernel_rfl) (name_ne (by kernel_rfl))
 (ann_nil _) (fun v => Nat.le_of_ble_eq_true (by kernel_rfl)) (fun v => h50 v)
def F52 (f82 : List UInt8 × List UInt8 × Unit → Option (Bool × Unit)) : List UInt8 × List UInt8 × Unit → Option (Bool × Unit) := fun (x0, x1, _) =>
 (f82 (x0, x1, ())).bind fun val => some (val.1, ())
theorem h52 (f82 : HS f82_ins → Option (OTy f82_outs)) (v : HS f52_ins) : afun Γ (fun f => Ae.lookA f [(82, ⟨f82_ins, f82_outs, f82⟩)]) 0 Tryz.f52.ntmps Tryz.f52.results.toList (code Tryz.f52) .nil (em id f52_ins v).1 (em id f52_ins v).2 (ofin 0 f52_outs) = F52 f82 v := by kernel_rfl
def C52 (v : List UInt8 × List UInt8 × Unit) : Option (Bool × Unit) := F52 C82 v
theorem ok52 : FnOk Tryz.prog 52 ⟨f52_ins, f52_outs, C52⟩ :=
 fn_ok (np := 0) (n := .nil) hm hΓ (K := (fun f => Ae.lookA f [(82, ⟨f82_ins, f82_outs, C82⟩)])) (kok_cons ok82 (kok_nil _)) Tryz.func52 (c := code Tryz.f52) (by kernel_rfl) (name_ne (by kernel_rfl))
 (ann_nil _) (fun v => Nat.le_of_ble_eq_true (by kernel_rfl)) (fun v => h52 C82 v)
def F51 (f52 : List UInt8 × List UInt8 × Unit → Option (Bool × Unit)) : List (List UInt8) × Unit → Option (Bool × List (List UInt8) × Unit) := fun (x0, _) =>
 bif decide (4 < (↑x0.length : Int)) then
 (f52
 (x0.getD 4 [],
 [82, 101, 112, 111, 114, 116, 105, 110, 103, 45, 77, 84, 65, 58, 32, 100, 110, 115, 59, 32], ())).bind
 fun val =>
 bif val.1 then
 bif decide (6 < (↑x0.length : Int)) then
 (f52
 (x0.getD 6 [], [79, 114, 105, 103, 105, 110, 97, 108, 45, 73, 68, 58, 32],
 ())).bind
 fun val => some (val.1, x0, ())
 else none
 else some (false, x0, ())
 else none
theorem h51 (f52 : HS f52_ins → Option (OTy f52_outs)) (v : HS f51_ins) : afun Γ (fun f => Ae.lookA f [(52, ⟨f52_ins, f52_outs, f52⟩)]) 1 Tryz.f51.ntmps Tryz.f51.results.toList (code Tryz.f51) .nil (em id f51_ins v).1 (em id f51_ins v).2 (ofin 1 f51_outs) = F51 f52 v := by kernel_rfl
def C51 (v : List (List UInt8) × Unit) : Option (Bool × List (List UInt8) × Unit) := F51 C52 v
theorem ok51 : FnOk Tryz.prog 51 ⟨f51_ins, f51_outs, C51⟩ :=
 fn_ok (np := 1) (n := .nil) hm hΓ (K := (fun f => Ae.lookA f [(52, ⟨f52_ins, f52_outs, C52⟩)])) (kok_cons ok52 (kok_nil _)) Tryz.func51 (c := code Tryz.f51) (by kernel_rfl) (name_ne (by kernel_rfl))
 (ann_nil _) (fun v => Nat.le_of_ble_eq_true (by kernel_rfl)) (fun v => h51 C52 v)
def F53 (f9 : List UInt8 × Unit → Option (List UInt8 × Bool × Unit)) (f25 : List UInt8 × List UInt8 × Unit → Option (List UInt8 × Bool × Unit)) : List (List UInt8) × List UInt8 × Unit → Option (Bool × List (List UInt8) × List UInt8 × Unit) := fun (x0, x1, _) =>
 bif decide (7 < (↑x0.length : Int)) then
 (f25
 (x0.getD 7 [],
 [70, 105, 110, 97, 108, 45, 82, 101, 99, 105, 112, 105, 101, 110, 116, 58, 32, 117, 116, 102, 45, 56, 59,
 32],
 ())).bind
 fun val =>
 (f9 (val.1, ())).bind fun val_1 =>
 bif val.2.1 then some (val_1.2.1, x0, val_1.1, ()) else some (false, x0, val_1.1, ())
 else none
theorem h53 (f9 : HS f9_ins → Option (OTy f9_outs)) (f25 : HS f25_ins → Option (OTy f25_outs)) (v : HS f53_ins) : afun Γ (fun f => Ae.lookA f [(9, ⟨f9_ins, f9_outs, f9⟩), (25, ⟨f25_ins, f25_outs, f25⟩)]) 2 Tryz.f53.ntmps Tryz.f53.results.toList (code Tryz.f53) .nil (em id f53_ins v).1 (em id f53_ins v).2 (ofin 2 f53_outs) = F53 f9 f25 v := by kernel_rfl
def C53 (v : List (List UInt8) × List UInt8 × Unit) : Option (Bool × List (List UInt8) × List UInt8 × Unit) := F53 C9 C25 v
theorem ok53 : FnOk Tryz.prog 53 ⟨f53_ins, f53_outs, C53⟩ :=
 fn_ok (np := 2) (n := .nil) hm hΓ (K := (fun f => Ae.lookA f [(9, ⟨f9_ins, f9_outs, C9⟩), (25, ⟨f25_ins, f25_outs, C25⟩)])) (kok_cons ok9 (kok_cons ok25 (kok_nil _))) Tryz.func53 (c := code Tryz.f53) (by kernel_rfl) (name_ne (by kernel_rfl))
 (ann_nil _) (fun v => Nat.le_of_ble_eq_true (by kernel_rfl)) (fun v => h53 C9 C25 v)
def F55 (f13 : Int × Unit → Option (List UInt8 × Unit)) (f83 : List UInt8 × Unit → Option ((Int × Unit) ⊕ (Int × Unit))) (f84 : List UInt8 × List UInt8 × List UInt8 × Unit → Option (List UInt8 × Unit)) : List UInt8 × Unit → Option (Int × Unit) := fun (x0, _) =>
 (f84 (x0, [46], [], ())).bind fun val =>
 (f83 (val.1, ())).bind fun val =>
 Sum.elim
 (fun val =>
 (f13 (val.1, ())).bind fun val_1 =>
 bif !val_1.1 == x0 then some (-1, ())
 else bif decide (val.1 < 100) then some (-1, ()) else some (val.1, ()))
 (fun val => some (-1, ())) val
theorem h55 (f13 : HS f13_ins → Option (OTy f13_outs)) (f83 : HS f83_ins → Option (OTy f83_outs)) (f84 : HS f84_ins → Option (OTy f84_outs)) (v : HS f55_ins) : afun Γ (fun f => Ae.lookA f [(13, ⟨f13_ins, f13_outs, f13⟩), (83, ⟨f83_ins, f83_outs, f83⟩), (84, ⟨f84_ins, f84_outs, f84⟩)]) 0 Tryz.f55.ntmps Tryz.f55.results.toList (code Tryz.f55) .nil (em id f55_ins v).1 (em id f55_ins v).2 (ofin 0 f55_outs) = F55 f13 f83 f84 v := by kernel_rfl
def C55 (v : List UInt8 × Unit) : Option (Int × Unit) := F55 C13 C83 C84 v
theorem ok55 : FnOk Tryz.prog 55 ⟨f55_ins, f55_outs, C55⟩ :=
 fn_ok (np := 0) (n := .nil) hm hΓ (K := (fun f => Ae.lookA f [(13, ⟨f13_ins, f13_outs, C13⟩), (83, ⟨f83_ins, f83_outs, C83⟩), (84, ⟨f84_ins, f84_outs, C84⟩)])) (kok_cons ok13 (kok_cons ok83 (kok_cons ok84 (kok_nil _)))) Tryz.func55 (c := code Tryz.f55) (by kernel_rfl) (name_ne (by kernel_rfl))
 (ann_nil _) (fun v => Nat.le_of_ble_eq_true (by kernel_rfl)) (fun v => h55 C13 C83 C84 v)
def F54 (f25 : List UInt8 × List UInt8 × Unit → Option (List UInt8 × Bool × Unit)) (f55 : List UInt8 × Unit → Option (Int × Unit)) : List (List UInt8) × Int × Unit → Option (Bool × List (List UInt8) × Int × Unit) := fun (x0, x1, _) =>
 bif decide (9 < (↑x0.length : Int)) then
 (f25 (x0.getD 9 [], [83, 116, 97, 116, 117, 115, 58, 32], ())).bind fun val =>
 (f55 (val.1, ())).bind fun val_1 =>
 bif val.2.1 then
 bif decide (val_1.1 > 0) then
 bif decide (8 < (↑x0.length : Int)) then
 some
 (x0.getD 8 [] ==
 [65, 99, 116, 105, 111, 110, 58, 32, 102, 97, 105, 108, 101, 100],
 x0, val_1.1, ())
 else none
 else some (false, x0, val_1.1, ())
 else some (false, x0, val_1.1, ())
 else none
theorem h54 (f25 : HS f25_ins → Option (OTy f25_outs)) (f55 : HS f55_ins → Option (OTy f55_outs)) (v : HS f54_ins) : afun Γ (fun f => Ae.lookA f [(25, ⟨f25_ins, f25_outs, f25⟩), (55, ⟨f55_ins, f55_outs, f55⟩)]) 2 Tryz.f54.ntmps Tryz.f54.results.toList (code Tryz.f54) .nil (em id f54_ins v).1 (em id f54_ins v).2 (ofin 2 f54_outs) = F54 f25 f55 v := by kernel_rfl
def C54 (v : List (List UInt8) × Int × Unit) : Option (Bool × List (List UInt8) × Int × Unit) := F54 C25 C55 v
theorem ok54 : FnOk Tryz.prog 54 ⟨f54_ins, f54_outs, C54⟩ :=
 fn_ok (np := 2) (n := .nil) hm hΓ (K := (fun f => Ae.lookA f [(25, ⟨f25_ins, f25_outs, C25⟩), (55, ⟨f55_ins, f55_outs, C55⟩)])) (kok_cons ok25 (kok_cons ok55 (kok_nil _))) Tryz.func54 (c := code Tryz.f54) (by kernel_rfl) (name_ne (by kernel_rfl))
 (ann_nil _) (fun v => Nat.le_of_ble_eq_true (by kernel_rfl)) (fun v => h54 C25 C55 v)
def F47 (f48 : List (List UInt8) × Unit → Option (Bool × List (List UInt8) × Unit)) (f49 : List (List UInt8) × Unit → Option (Bool × List (List UInt8) × Unit)) (f50 : List (List UInt8) × Unit → Option (Bool × List (List UInt8) × Unit)) (f51 : List (List UInt8) × Unit → Option (Bool × List (List UInt8) × Unit)) (f53 : List (List UInt8) × List UInt8 × Unit → Option (Bool × List (List UInt8) × List UInt8 × Unit)) (f54 : List (List UInt8) × Int × Unit → Option (Bool × List (List UInt8) × Int × Unit)) : List (List UInt8) × List UInt8 × Int × Unit → Option (Bool × List (List UInt8) × List UInt8 × Int × Unit) := fun (x0, x1, x2, _) =>
 (f48 (x0, ())).bind fun val =>
 bif !val.1 then some (false, val.2.1, x1, x2, ())
 else
 (f49 (val.2.1, ())).bind fun val =>
 bif !val.1 then some (false, val.2.1, x1, x2, ())
 else
 (f50 (val.2.1, ())).bind fun val =>
 bif !val.1 then some (false, val.2.1, x1, x2, ())
 else
 (f51 (val.2.1, ())).bind fun val =>
 bif !val.1 then some (false, val.2.1, x1, x2, ())
 else
 (f53 (val.2.1, x1, ())).bind fun val =>
 bif !val.1 then some (false, val.2.1, val.2.2.1, x2, ())
 else
 (f54 (val.2.1, x2, ())).bind fun val_1 =>
 bif !val_1.1 then some (false, val_1.2.1, val.2.2.1, val_1.2.2.1, ())
 else some (true, val_1.2.1, val.2.2.1, val_1.2.2.1, ())
theorem h47 (f48 : HS f48_ins → Option (OTy f48_outs)) (f49 : HS f49_ins → Option (OTy f49_outs)) (f50 : HS f50_ins → Option (OTy f50_outs)) (f51 : HS f51_ins → Option (OTy f51_outs)) (f53 : HS f53_ins → Option (OTy f53_outs)) (f54 : HS f54_ins → Option (OTy f54_outs)) (v : HS f47_ins) : afun Γ (fun f => Ae.lookA f [(48, ⟨f48_ins, f48_outs, f48⟩), (49, ⟨f49_ins, f49_outs, f49⟩), (50, ⟨f50_ins, f50_outs, f50⟩), (51, ⟨f51_ins, f51_outs, f51⟩), (53, ⟨f53_ins, f53_outs, f53⟩), (54, ⟨f54_ins, f54_outs, f54⟩)]) 4 Tryz.f47.ntmps Tryz.f47.results.toList (code Tryz.f47) (.seq .nil (.seq (.seq .nil (.blk (.unroll 8 .nil))) .nil)) (em id f47_ins v).1 (em id f47_ins v).2 (ofin 4 f47_outs) = F47 f48 f49 f50 f51 f53 f54 v := by kernel_rfl
def C47 (v : List (List UInt8) × List UInt8 × Int × Unit) : Option (Bool × List (List UInt8) × List UInt8 × Int × Unit) := F47 C48 C49 C50 C51 C53 C54 v
theorem ok47 : FnOk Tryz.prog 47 ⟨f47_ins, f47_outs, C47⟩ :=
 fn_ok (np := 4) (n := (.seq .nil (.seq (.seq .nil (.blk (.unroll 8 .nil))) .nil))) hm hΓ (K := (fun f => Ae.lookA f [(48, ⟨f48_ins, f48_outs, C48⟩), (49, ⟨f49_ins, f49_outs, C49⟩), (50, ⟨f50_ins, f50_outs, C50⟩), (51, ⟨f51_ins, f51_outs, C51⟩), (53, ⟨f53_ins, f53_outs, C53⟩), (54, ⟨f54_ins, f54_outs, C54⟩)])) (kok_cons ok48 (kok_cons ok49 (kok_cons ok50 (kok_cons ok51 (kok_cons ok53 (kok_cons ok54 (kok_nil _))))))) Tryz.func47 (c := code Tryz.f47) (by kernel_rfl) (name_ne (by kernel_rfl))
 (ann_seq (a := (subc (code Tryz.f47) [0])) (b := (subc (code Tryz.f47) [1])) (by kernel_rfl) (ann_nil _) (ann_seq (a := (subc (code Tryz.f47) [1, 0])) (b := (subc (code Tryz.f47) [1, 1])) (by kernel_rfl) (ann_seq (a := (subc (code Tryz.f47) [1, 0, 0])) (b := (subc (code Tryz.f47) [1, 0, 1])) (by kernel_rfl) (ann_nil _) (ann_blk (x := (subc (code Tryz.f47) [1, 0, 1, 0])) (by kernel_rfl) (ann_unroll (x := (subc (code Tryz.f47) [1, 0, 1, 0, 0])) (by kernel_rfl) (ann_nil _)))) (ann_nil _))) (fun v => Nat.le_of_ble_eq_true (by kernel_rfl)) (fun v => h47 C48 C49 C50 C51 C53 C54 v)
def F19 (f47 : List (List UInt8) × List UInt8 × Int × Unit → Option (Bool × List (List UInt8) × List UInt8 × Int × Unit)) : List (List UInt8) × Unit → Option (List UInt8 × Int × Bool × Unit) := fun (x0, _) =>
 (f47 (x0, [], 0, ())).bind fun val =>
 bif !val.1 then some ([], 0, false, ())
 else some (val.2.2.1, val.2.2.2.1, true, ())
theorem h19 (f47 : HS f47_ins → Option (OTy f47_outs)) (v : HS f19_ins) : afun Γ (fun f => Ae.lookA f [(47, ⟨f47_ins, f47_outs, f47⟩)]) 0 Tryz.f19.ntmps Tryz.f19.results.toList (code Tryz.f19) .nil (em id f19_ins v).1 (em id f19_ins v).2 (ofin 0 f19_outs) = F19 f47 v := by kernel_rfl
def C19 (v : List (List UInt8) × Unit) : Option (List UInt8 × Int × Bool × Unit) := F19 C47 v
theorem ok19 : FnOk Tryz.prog 19 ⟨f19_ins, f19_outs, C19⟩ :=
 fn_ok (np := 0) (n := .nil) hm hΓ (K := (fun f => Ae.lookA f [(47, ⟨f47_ins, f47_outs, C47⟩)])) (kok_cons ok47 (kok_nil _)) Tryz.func19 (c := code Tryz.f19) (by kernel_rfl) (name_ne (by kernel_rfl))
 (ann_nil _) (fun v => Nat.le_of_ble_eq_true (by kernel_rfl)) (fun v => h19 C47 v)
def C8 (v : Unit) : Option (Bool × Unit) := some (true, ())
theorem h8 : afun Γ (fun f => Ae.lookA f [(9, ⟨f9_ins, f9_outs, C9⟩), (11, ⟨f11_ins, f11_outs, C11⟩), (13, ⟨f13_ins, f13_outs, C13⟩), (16, ⟨f16_ins, f16_outs, C16⟩), (19, ⟨f19_ins, f19_outs, C19⟩)]) 0 Tryz.f8.ntmps Tryz.f8.results.toList (code Tryz.f8) .nil (em id f8_ins ()).1 (em id f8_ins ()).2 (ofin 0 f8_outs) = some (true, ()) := by kernel_rfl
theorem ok8 : FnOk Tryz.prog 8 ⟨f8_ins, f8_outs, C8⟩ :=
 fn_ok (np := 0) (n := .nil) hm hΓ (K := (fun f => Ae.lookA f [(9, ⟨f9_ins, f9_outs, C9⟩), (11, ⟨f11_ins, f11_outs, C11⟩), (13, ⟨f13_ins, f13_outs, C13⟩), (16, ⟨f16_ins, f16_outs, C16⟩), (19, ⟨f19_ins, f19_outs, C19⟩)])) (kok_cons ok9 (kok_cons ok11 (kok_cons ok13 (kok_cons ok16 (kok_cons ok19 (kok_nil _)))))) Tryz.func8 (c := code Tryz.f8) (by kernel_rfl) (name_ne (by kernel_rfl))
 (ann_nil _) (fun v => Nat.le_of_ble_eq_true (by kernel_rfl)) (fun v => h8)
def F29  : Int × Unit → Option (Bool × Unit) := fun (x0, _) =>
 bif decide (x0 ≥ 32) then
 bif decide (x0 ≤ 126) then some (bif x0 == 92 then false else true, ()) else some (false, ())
 else some (false, ())
theorem h29  (v : HS f29_ins) : afun Γ (fun f => Ae.lookA f []) 0 Tryz.f29.ntmps Tryz.f29.results.toList (code Tryz.f29) .nil (em id f29_ins v).1 (em id f29_ins v).2 (ofin 0 f29_outs) = F29 v := by kernel_rfl
def C29 (v : Int × Unit) : Option (Bool × Unit) := F29 v
theorem ok29 : FnOk Tryz.prog 29 ⟨f29_ins, f29_outs, C29⟩ :=
 fn_ok (np := 0) (n := .nil) hm hΓ (K := (fun f => Ae.lookA f [])) (kok_nil _) Tryz.func29 (c := code Tryz.f29) (by kernel_rfl) (name_ne (by kernel_rfl))
 (ann_nil _) (fun v => Nat.le_of_ble_eq_true (by kernel_rfl)) (fun v => h29 v)
def F30_c0  : List UInt8 × Int × Int × Bool × Unit → Option ((List UInt8 × Int × Int × Unit) ⊕ (Int × Unit)) := fun (x0, x1, x2, x3, _) =>
 bif x3 then
 bif decide (0 ≤ x2) && decide (x2 < (↑x0.length : Int)) then
 some
 (Sum.inl
 (x0,
 IntKind.i64.wrap
 (IntKind.i64.wrap
 (IntKind.i64.wrap (16 * x1) +
 IntKind.i64.wrap (IntKind.u8.wrap ((↑(x0.getD x2.toNat 0).toNat : Int) - 65))) +
 10),
 x2, ()))
 else none
 else some (Sum.inr (-1, ()))
theorem h30_c0  (v : HS f30_c0_ins) : aev Γ (fun f => Ae.lookA f []) 0 (subc (code Tryz.f30) [1, 1, 1, 0, 1, 0, 0, 1, 0, 0, 0, 1, 1, 1]) .nil (stof f30_c0_ins v) (oout 0 f30_c0_outs) = F30_c0 v := by kernel_rfl
def C30_c0 (v : List UInt8 × Int × Int × Bool × Unit) : Option ((List UInt8 × Int × Int × Unit) ⊕ (Int × Unit)) := F30_c0 v
theorem k30_c0 : FragOk Tryz.prog 0 (fun Q a w => ((subc (code Tryz.f30) [1, 1, 1, 0, 1, 0, 0, 1, 0, 0, 0, 1, 1, 1])).wp Tryz.prog Q a w) ⟨f30_c0_ins, f30_c0_outs, C30_c0⟩ :=
 frag_code (ins := f30_c0_ins) (os := f30_c0_outs) (np := 0) (n := .nil) (F := C30_c0) hm hΓ (K := (fun f => Ae.lookA f [])) (kok_nil _)
 (ann_nil _) (fun v => h30_c0 v)
def F30_c1 (f30_c0 : List UInt8 × Int × Int × Bool × Unit → Option ((List UInt8 × Int × Int × Unit) ⊕ (Int × Unit))) : List UInt8 × Int × Int × Bool × Unit → Option ((List UInt8 × Int × Int × Unit) ⊕ (Int × Unit)) := fun (x0, x1, x2, x3, _) =>
 bif x3 then
 bif decide (0 ≤ x2) && decide (x2 < (↑x0.length : Int)) then
 some
 (Sum.inl
 (x0,
 IntKind.i64.wrap
 (IntKind.i64.wrap (16 * x1) +
 IntKind.i64.wrap (IntKind.u8.wrap ((↑(x0.getD x2.toNat 0).toNat : Int) - 48))),
 x2, ()))
 else none
 else
 bif decide (0 ≤ x2) && decide (x2 < (↑x0.length : Int)) then
 bif decide ((↑(x0.getD x2.toNat 0).toNat : Int) ≥ 65) then
 bif decide (0 ≤ x2) && decide (x2 < (↑x0.length : Int)) then
 (f30_c0 (x0, x1, x2, decide ((↑(x0.getD x2.toNat 0).toNat : Int) ≤ 70), ())).bind fun val =>
 Sum.elim (fun val => some (Sum.inl (val.1, val.2.1, val.2.2.1, ())))
 (fun val => some (Sum.inr (val.1, ()))) val
 else none
 else
 (f30_c0 (x0, x1, x2, false, ())).bind fun val =>
 Sum.elim (fun val => some (Sum.inl (val.1, val.2.1, val.2.2.1, ())))
 (fun val => some (Sum.inr (val.1, ()))) val
 else none
theorem h30_c1 (f30_c0 : HS f30_c0_ins → Option (OTy f30_c0_outs)) (v : HS f30_c1_ins) : aev Γ (fun f => Ae.lookA f []) 0 (subc (code Tryz.f30) [1, 1, 1, 0, 1, 0, 0, 1, 0, 0, 0, 1]) (.cond .nil (.cut .nil ⟨f30_c0_ins, f30_c0_outs, f30_c0⟩)) (stof f30_c1_ins v) (oout 0 f30_c1_outs) = F30_c1 f30_c0 v := by kernel_rfl
def C30_c1 (v : List UInt8 × Int × Int × Bool × Unit) : Option ((List UInt8 × Int × Int × Unit) ⊕ (Int × Unit)) := F30_c1 C30_c0 v
theorem k30_c1 : FragOk Tryz.prog 0 (fun Q a w => ((subc (code Tryz.f30) [1, 1, 1, 0, 1, 0, 0, 1, 0, 0, 0, 1])).wp Tryz.prog Q a w) ⟨f30_c1_ins, f30_c1_outs, C30_c1⟩ :=
 frag_code (ins := f30_c1_ins) (os := f30_c1_outs) (np := 0) (n := (.cond .nil (.cut .nil ⟨f30_c0_ins, f30_c0_outs, C30_c0⟩))) (F := C30_c1) hm hΓ (K := (fun f => Ae.lookA f [])) (kok_nil _)
 (ann_cond (x := (subc (code Tryz.f30) [1, 1, 1, 0, 1, 0, 0, 1, 0, 0, 0, 1, 0])) (y := (subc (code Tryz.f30) [1, 1, 1, 0, 1, 0, 0, 1, 0, 0, 0, 1, 1])) (by kernel_rfl) (ann_nil _) (ann_cut (a := (subc (code Tryz.f30) [1, 1, 1, 0, 1, 0, 0, 1, 0, 0, 0, 1, 1, 0])) (b := (subc (code Tryz.f30) [1, 1, 1, 0, 1, 0, 0, 1, 0, 0, 0, 1, 1, 1])) (by kernel_rfl) (ann_nil _) k30_c0)) (fun v => h30_c1 C30_c0 v)
def F30_l0 (f30_c1 : List UInt8 × Int × Int × Bool × Unit → Option ((List UInt8 × Int × Int × Unit) ⊕ (Int × Unit))) : List UInt8 × Int × Int × Unit → Option ((List UInt8 × Int × Int × Unit) ⊕ ((Int × Unit) ⊕ (Int × Unit))) := fun (x0, x1, x2, _) =>
 bif decide (x2 < (↑x0.length : Int)) then
 bif decide (0 ≤ x2) && decide (x2 < (↑x0.length : Int)) then
 bif decide ((↑(x0.getD x2.toNat 0).toNat : Int) ≥ 48) then
 bif decide (0 ≤ x2) && decide (x2 < (↑x0.length : Int)) then
 (f30_c1 (x0, x1, x2, decide ((↑(x0.getD x2.toNat 0).toNat : Int) ≤ 57), ())).bind fun val =>
 Sum.elim
 (fun val => some (Sum.inl (val.1, val.2.1, IntKind.i64.wrap (val.2.2.1 + 1), ())))
 (fun val => some (Sum.inr (Sum.inr (val.1, ())))) val
 else none
 else
 (f30_c1 (x0, x1, x2, false, ())).bind fun val =>
 Sum.elim (fun val => some (Sum.inl (val.1, val.2.1, IntKind.i64.wrap (val.2.2.1 + 1), ())))
 (fun val => some (Sum.inr (Sum.inr (val.1, ())))) val
 else none
 else some (Sum.inr (Sum.inl (x1, ())))
theorem h30_l0 (f30_c1 : HS f30_c1_ins → Option (OTy f30_c1_outs)) (v : HS f30_l0_ins) : aev Γ (fun f => Ae.lookA f []) 0 (subc (code Tryz.f30) [1, 1, 1, 0, 1, 0, 0]) (.seq .nil (.seq (.blk (.blk (.cut .nil ⟨f30_c1_ins, f30_c1_outs, f30_c1⟩))) .nil)) (stof f30_l0_ins v) (around 0 f30_l0_ins f30_l0_outs) = F30_l0 f30_c1 v := by kernel_rfl
def C30_l0 (v : List UInt8 × Int × Int × Unit) : Option ((Int × Unit) ⊕ (Int × Unit)) := loopN (F30_l0 C30_c1) big v
theorem k30_l0 : FragOk Tryz.prog 0 (fun Q a w => (Code.loop (subc (code Tryz.f30) [1, 1, 1, 0, 1, 0, 0])).wp Tryz.prog Q a w) ⟨f30_l0_ins, f30_l0_outs, C30_l0⟩ :=
 frag_loop (ins := f30_l0_ins) (os := f30_l0_outs) (np := 0) (n := (.seq .nil (.seq (.blk (.blk (.cut .nil ⟨f30_c1_ins, f30_c1_outs, C30_c1⟩))) .nil))) (F := F30_l0 C30_c1) hm hΓ (K := (fun f => Ae.lookA f [])) (kok_nil _) (fun _ => big)
 (ann_seq (a := (subc (code Tryz.f30) [1, 1, 1, 0, 1, 0, 0, 0])) (b := (subc (code Tryz.f30) [1, 1, 1, 0, 1, 0, 0, 1])) (by kernel_rfl) (ann_nil _) (ann_seq (a := (subc (code Tryz.f30) [1, 1, 1, 0, 1, 0, 0, 1, 0])) (b := (subc (code Tryz.f30) [1, 1, 1, 0, 1, 0, 0, 1, 1])) (by kernel_rfl) (ann_blk (x := (subc (code Tryz.f30) [1, 1, 1, 0, 1, 0, 0, 1, 0, 0])) (by kernel_rfl) (ann_blk (x := (subc (code Tryz.f30) [1, 1, 1, 0, 1, 0, 0, 1, 0, 0, 0])) (by kernel_rfl) (ann_cut (a := (subc (code Tryz.f30) [1, 1, 1, 0, 1, 0, 0, 1, 0, 0, 0, 0])) (b := (subc (code Tryz.f30) [1, 1, 1, 0, 1, 0, 0, 1, 0, 0, 0, 1])) (by kernel_rfl) (ann_nil _) k30_c1))) (ann_nil _))) (fun v => h30_l0 C30_c1 v)
end Go.Proofs.YtmfcepdbpdihgaaGreatDoor.W
set_option maxRecDepth 100000
set_option linter.unusedVariables false
namespace Go.Proofs.YtmfcepdbpdihgaaGreatDoor.W
open Go Go.Ae
def F30_c2 (f30_l0 : List UInt8 × Int × Int × Unit → Option ((Int × Unit) ⊕ (Int × Unit))) : List UInt8 × Unit → Option (Int × Unit) := fun (x0, _) =>
 (f30_l0 (x0, 0, 0, ())).bind fun val =>
 Sum.elim (fun val => some (val.1, ())) (fun val => some (val.1, ())) val
theorem h30_c2 (f30_l0 : HS f30_l0_ins → Option (OTy f30_l0_outs)) (v : HS f30_c2_ins) : aev Γ (fun f => Ae.lookA f []) 0 (subc (code Tryz.f30) [1, 1]) (.seq .nil (.seq (.seq .nil (.blk (.loop ⟨f30_l0_ins, f30_l0_outs, f30_l0⟩))) .nil)) (stof f30_c2_ins v) (oout 0 f30_c2_outs) = F30_c2 f30_l0 v := by kernel_rfl
def C30_c2 (v : List UInt8 × Unit) : Option (Int × Unit) := F30_c2 C30_l0 v
theorem k30_c2 : FragOk Tryz.prog 0 (fun Q a w => ((subc (code Tryz.f30) [1, 1])).wp Tryz.prog Q a w) ⟨f30_c2_ins, f30_c2_outs, C30_c2⟩ :=
 frag_code (ins := f30_c2_ins) (os := f30_c2_outs) (np := 0) (n := (.seq .nil (.seq (.seq .nil (.blk (.loop ⟨f30_l0_ins, f30_l0_outs, C30_l0⟩))) .nil))) (F := C30_c2) hm hΓ (K := (fun f => Ae.lookA f [])) (kok_nil _)
 (ann_seq (a := (subc (code Tryz.f30) [1, 1, 0])) (b := (subc (code Tryz.f30) [1, 1, 1])) (by kernel_rfl) (ann_nil _) (ann_seq (a := (subc (code Tryz.f30) [1, 1, 1, 0])) (b := (subc (code Tryz.f30) [1, 1, 1, 1])) (by kernel_rfl) (ann_seq (a := (subc (code Tryz.f30) [1, 1, 1, 0, 0])) (b := (subc (code Tryz.f30) [1, 1, 1, 0, 1])) (by kernel_rfl) (ann_nil _) (ann_blk (x := (subc (code Tryz.f30) [1, 1, 1, 0, 1, 0])) (by kernel_rfl) (ann_loop (x := (subc (code Tryz.f30) [1, 1, 1, 0, 1, 0, 0])) (by kernel_rfl) k30_l0))) (ann_nil _))) (fun v => h30_c2 C30_l0 v)
def F30 (f30_c2 : List UInt8 × Unit → Option (Int × Unit)) : List UInt8 × Unit → Option (Int × Unit) := fun (x0, _) =>
 bif decide ((↑x0.length : Int) < 1) then some (-1, ())
 else
 bif decide ((↑x0.length : Int) > 6) then some (-1, ())
 else
 bif decide ((↑x0.length : Int) > 1) then
 bif decide (0 < (↑x0.length : Int)) then
 bif (↑(x0.getD 0 0).toNat : Int) == 48 then some (-1, ())
 else (f30_c2 (x0, ())).bind fun val => some (val.1, ())
 else none
 else (f30_c2 (x0, ())).bind fun val => some (val.1, ())
theorem h30 (f30_c2 : HS f30_c2_ins → Option (OTy f30_c2_outs)) (v : HS f30_ins) : afun Γ (fun f => Ae.lookA f []) 0 Tryz.f30.ntmps Tryz.f30.results.toList (code Tryz.f30) (.seq .nil (.cut .nil ⟨f30_c2_ins, f30_c2_outs, f30_c2⟩)) (em id f30_ins v).1 (em id f30_ins v).2 (ofin 0 f30_outs) = F30 f30_c2 v := by kernel_rfl
def C30 (v : List UInt8 × Unit) : Option (Int × Unit) := F30 C30_c2 v
theorem ok30 : FnOk Tryz.prog 30 ⟨f30_ins, f30_outs, C30⟩ :=
 fn_ok (np := 0) (n := (.seq .nil (.cut .nil ⟨f30_c2_ins, f30_c2_outs, C30_c2⟩))) hm hΓ (K := (fun f => Ae.lookA f [])) (kok_nil _) Tryz.func30 (c := code Tryz.f30) (by kernel_rfl) (name_ne (by kernel_rfl))
 (ann_seq (a := (subc (code Tryz.f30) [0])) (b := (subc (code Tryz.f30) [1])) (by kernel_rfl) (ann_nil _) (ann_cut (a := (subc (code Tryz.f30) [1, 0])) (b := (subc (code Tryz.f30) [1, 1])) (by kernel_rfl) (ann_nil _) k30_c2)) (fun v => Nat.le_of_ble_eq_true (by kernel_rfl)) (fun v => h30 C30_c2 v)
def F64  : Int × Unit → Option (Bool × Unit) := fun (x0, _) =>
 bif decide (x0 ≥ 0) then
 bif decide (x0 ≤ 1114111) then
 bif decide (x0 < 55296) then some (true, ()) else some (decide (x0 > 57343), ())
 else some (false, ())
 else some (false, ())
theorem h64  (v : HS f64_ins) : afun Γ (fun f => Ae.lookA f []) 0 Tryz.f64.ntmps Tryz.f64.results.toList (code Tryz.f64) .nil (em id f64_ins v).1 (em id f64_ins v).2 (ofin 0 f64_outs) = F64 v := by kernel_rfl
def C64 (v : Int × Unit) : Option (Bool × Unit) := F64 v
theorem ok64 : FnOk Tryz.prog 64 ⟨f64_ins, f64_outs, C64⟩ :=
 fn_ok (np := 0) (n := .nil) hm hΓ (K := (fun f => Ae.lookA f [])) (kok_nil _) Tryz.func64 (c := code Tryz.f64) (by kernel_rfl) (name_ne (by kernel_rfl))
 (ann_nil _) (fun v => Nat.le_of_ble_eq_true (by kernel_rfl)) (fun v => h64 v)
def F92 (f64 : Int × Unit → Option (Bool × Unit)) : Int × Unit → Option (Int × Unit) := fun (x0, _) =>
 (f64 (x0, ())).bind fun val =>
 bif !val.1 then some (0, ())
 else
 bif decide (x0 ≤ 127) then some (1, ())
 else
 bif decide (x0 ≤ 2047) then some (2, ())
 else bif decide (x0 ≤ 65535) then some (3, ()) else some (4, ())
theorem h92 (f64 : HS f64_ins → Option (OTy f64_outs)) (v : HS f92_ins) : afun Γ (fun f => Ae.lookA f [(64, ⟨f64_ins, f64_outs, f64⟩)]) 0 Tryz.f92.ntmps Tryz.f92.results.toList (code Tryz.f92) .nil (em id f92_ins v).1 (em id f92_ins v).2 (ofin 0 f92_outs) = F92 f64 v := by kernel_rfl
def C92 (v : Int × Unit) : Option (Int × Unit) := F92 C64 v
theorem ok92 : FnOk Tryz.prog 92 ⟨f92_ins, f92_outs, C92⟩ :=
 fn_ok (np := 0) (n := .nil) hm hΓ (K := (fun f => Ae.lookA f [(64, ⟨f64_ins, f64_outs, C64⟩)])) (kok_cons ok64 (kok_nil _)) Tryz.func92 (c := code Tryz.f92) (by kernel_rfl) (name_ne (by kernel_rfl))
 (ann_nil _) (fun v => Nat.le_of_ble_eq_true (by kernel_rfl)) (fun v => h92 C64 v)
def F65 (f92 : Int × Unit → Option (Int × Unit)) : Int × Unit → Option (List UInt8 × Unit) := fun (x0, _) =>
 (f92 (x0, ())).bind fun val =>
 bif val.1 == 1 then some ([UInt8.ofNat (IntKind.u8.wrap x0).toNat], ())
 else
 bif val.1 == 2 then
 some
 ([UInt8.ofNat (IntKind.u8.wrap (IntKind.i32.wrap (192 + IntKind.i32.wrap (x0.tdiv 64)))).toNat,
 UInt8.ofNat (IntKind.u8.wrap (IntKind.i32.wrap (128 + x0.tmod 64))).toNat],
 ())
 else
 bif val.1 == 3 then
 some
 ([UInt8.ofNat (IntKind.u8.wrap (IntKind.i32.wrap (224 + IntKind.i32.wrap (x0.tdiv 4096)))).toNat,
 UInt8.ofNat (IntKind.u8.wrap (IntKind.i32.wrap (128 + (IntKind.i32.wrap (x0.tdiv 64)).tmod 64))).toNat,
 UInt8.ofNat (IntKind.u8.wrap (IntKind.i32.wrap (128 + x0.tmod 64))).toNat],
 ())
 else
 bif val.1 == 4 then
 some
 ([UInt8.ofNat (IntKind.u8.wrap (IntKind.i32.wrap (240 + IntKind.i32.wrap (x0.tdiv 262144)))).toNat,
 UInt8.ofNat
 (IntKind.u8.wrap (IntKind.i32.wrap (128 + (IntKind.i32.wrap (x0.tdiv 4096)).tmod 64))).toNat,
 UInt8.ofNat (IntKind.u8.wrap (IntKind.i32.wrap (128 + (IntKind.i32.wrap (x0.tdiv 64)).tmod 64))).toNat,
 UInt8.ofNat (IntKind.u8.wrap (IntKind.i32.wrap (128 + x0.tmod 64))).toNat],
 ())
 else some ([], ())
theorem h65 (f92 : HS f92_ins → Option (OTy f92_outs)) (v : HS f65_ins) : afun Γ (fun f => Ae.lookA f [(92, ⟨f92_ins, f92_outs, f92⟩)]) 0 Tryz.f65.ntmps Tryz.f65.results.toList (code Tryz.f65) .nil (em id f65_ins v).1 (em id f65_ins v).2 (ofin 0 f65_outs) = F65 f92 v := by kernel_rfl
def C65 (v : Int × Unit) : Option (List UInt8 × Unit) := F65 C92 v
theorem ok65 : FnOk Tryz.prog 65 ⟨f65_ins, f65_outs, C65⟩ :=
 fn_ok (np := 0) (n := .nil) hm hΓ (K := (fun f => Ae.lookA f [(92, ⟨f92_ins, f92_outs, C92⟩)])) (kok_cons ok92 (kok_nil _)) Tryz.func65 (c := code Tryz.f65) (by kernel_rfl) (name_ne (by kernel_rfl))
 (ann_nil _) (fun v => Nat.le_of_ble_eq_true (by kernel_rfl)) (fun v => h65 C92 v)
def F31_l0 (f64 : Int × Unit → Option (Bool × Unit)) (f65 : Int × Unit → Option (List UInt8 × Unit)) : List (Int) × Int × List UInt8 × Unit → Option ((List (Int) × Int × List UInt8 × Unit) ⊕ ((List UInt8 × Unit) ⊕ (List UInt8 × Bool × Unit))) := fun (x0, x1, x2, _) =>
 bif decide (x1 < (↑x0.length : Int)) then
 bif decide (0 ≤ x1) && decide (x1 < (↑x0.length : Int)) then
 (f64 (x0.getD x1.toNat 0, ())).bind fun val =>
 bif !val.1 then some (Sum.inr (Sum.inr ([], false, ())))
 else
 bif decide (0 ≤ x1) && decide (x1 < (↑x0.length : Int)) then
 (f65 (x0.getD x1.toNat 0, ())).bind fun val =>
 bif decide (x2.length + List.length val.1 ≤ 140737488355328 / 1) then
 some (Sum.inl (x0, IntKind.i64.wrap (x1 + 1), x2 ++ val.1, ()))
 else none
 else none
 else none
 else some (Sum.inr (Sum.inl (x2, ())))
theorem h31_l0 (f64 : HS f64_ins → Option (OTy f64_outs)) (f65 : HS f65_ins → Option (OTy f65_outs)) (v : HS f31_l0_ins) : aev Γ (fun f => Ae.lookA f [(64, ⟨f64_ins, f64_outs, f64⟩), (65, ⟨f65_ins, f65_outs, f65⟩)]) 0 (subc (code Tryz.f31) [1, 1, 0, 1, 0, 0]) .nil (stof f31_l0_ins v) (around 0 f31_l0_ins f31_l0_outs) = F31_l0 f64 f65 v := by kernel_rfl
def C31_l0 (v : List (Int) × Int × List UInt8 × Unit) : Option ((List UInt8 × Unit) ⊕ (List UInt8 × Bool × Unit)) := loopN (F31_l0 C64 C65) big v
theorem k31_l0 : FragOk Tryz.prog 0 (fun Q a w => (Code.loop (subc (code Tryz.f31) [1, 1, 0, 1, 0, 0])).wp Tryz.prog Q a w) ⟨f31_l0_ins, f31_l0_outs, C31_l0⟩ :=
 frag_loop (ins := f31_l0_ins) (os := f31_l0_outs) (np := 0) (n := .nil) (F := F31_l0 C64 C65) hm hΓ (K := (fun f => Ae.lookA f [(64, ⟨f64_ins, f64_outs, C64⟩), (65, ⟨f65_ins, f65_outs, C65⟩)])) (kok_cons ok64 (kok_cons ok65 (kok_nil _))) (fun _ => big)
 (ann_nil _) (fun v => h31_l0 C64 C65 v)
def F31 (f31_l0 : List (Int) × Int × List UInt8 × Unit → Option ((List UInt8 × Unit) ⊕ (List UInt8 × Bool × Unit))) : List (Int) × Unit → Option (List UInt8 × Bool × Unit) := fun (x0, _) =>
 (f31_l0 (x0, 0, [], ())).bind fun val =>
 Sum.elim (fun val => some (val.1, true, ())) (fun val => some (val.1, val.2.1, ())) val
theorem h31 (f31_l0 : HS f31_l0_ins → Option (OTy f31_l0_outs)) (v : HS f31_ins) : afun Γ (fun f => Ae.lookA f []) 0 Tryz.f31.ntmps Tryz.f31.results.toList (code Tryz.f31) (.seq .nil (.seq .nil (.seq (.seq .nil (.blk (.loop ⟨f31_l0_ins, f31_l0_outs, f31_l0⟩))) .nil))) (em id f31_ins v).1 (em id f31_ins v).2 (ofin 0 f31_outs) = F31 f31_l0 v := by kernel_rfl
def C31 (v : List (Int) × Unit) : Option (List UInt8 × Bool × Unit) := F31 C31_l0 v
theorem ok31 : FnOk Tryz.prog 31 ⟨f31_ins, f31_outs, C31⟩ :=
 fn_ok (np := 0) (n := (.seq .nil (.seq .nil (.seq (.seq .nil (.blk (.loop ⟨f31_l0_ins, f31_l0_outs, C31_l0⟩))) .nil)))) hm hΓ (K := (fun f => Ae.lookA f [])) (kok_nil _) Tryz.func31 (c := code Tryz.f31) (by kernel_rfl) (name_ne (by kernel_rfl))
 (ann_seq (a := (subc (code Tryz.f31) [0])) (b := (subc (code Tryz.f31) [1])) (by kernel_rfl) (ann_nil _) (ann_seq (a := (subc (code Tryz.f31) [1, 0])) (b := (subc (code Tryz.f31) [1, 1])) (by kernel_rfl) (ann_nil _) (ann_seq (a := (subc (code Tryz.f31) [1, 1, 0])) (b := (subc (code Tryz.f31) [1, 1, 1])) (by kernel_rfl) (ann_seq (a := (subc (code Tryz.f31) [1, 1, 0, 0])) (b := (subc (code Tryz.f31) [1, 1, 0, 1])) (by kernel_rfl) (ann_nil _) (ann_blk (x := (subc (code Tryz.f31) [1, 1, 0, 1, 0])) (by kernel_rfl) (ann_loop (x := (subc (code Tryz.f31) [1, 1, 0, 1, 0, 0])) (by kernel_rfl) k31_l0))) (ann_nil _)))) (fun v => Nat.le_of_ble_eq_true (by kernel_rfl)) (fun v => h31 C31_l0 v)
def F10_l0  : List UInt8 × Int × Int × List (Int) × Unit → Option ((List UInt8 × Int × Int × List (Int) × Unit) ⊕ (List UInt8 × Int × Int × List (Int) × Unit)) := fun (x0, x1, x2, x3, _) =>
 bif decide (x2 < (↑x0.length : Int)) then
 bif decide (0 ≤ x2) && decide (x2 < (↑x0.length : Int)) then
 bif (↑(x0.getD x2.toNat 0).toNat : Int) != 125 then
 some (Sum.inl (x0, x1, IntKind.i64.wrap (x2 + 1), x3, ()))
 else some (Sum.inr (x0, x1, x2, x3, ()))
 else none
 else some (Sum.inr (x0, x1, x2, x3, ()))
theorem h10_l0  (v : HS f10_l0_ins) : aev Γ (fun f => Ae.lookA f []) 0 (subc (code Tryz.f10) [1, 1, 0, 1, 0, 0, 1, 0, 0, 1, 1, 1, 0, 0, 0]) .nil (stof f10_l0_ins v) (around 0 f10_l0_ins f10_l0_outs) = F10_l0 v := by kernel_rfl
def C10_l0 (v : List UInt8 × Int × Int × List (Int) × Unit) : Option (List UInt8 × Int × Int × List (Int) × Unit) := loopN (F10_l0) big v
theorem k10_l0 : FragOk Tryz.prog 0 (fun Q a w => (Code.loop (subc (code Tryz.f10) [1, 1, 0, 1, 0, 0, 1, 0, 0, 1, 1, 1, 0, 0, 0])).wp Tryz.prog Q a w) ⟨f10_l0_ins, f10_l0_outs, C10_l0⟩ :=
 frag_loop (ins := f10_l0_ins) (os := f10_l0_outs) (np := 0) (n := .nil) (F := F10_l0) hm hΓ (K := (fun f => Ae.lookA f [])) (kok_nil _) (fun _ => big)
 (ann_nil _) (fun v => h10_l0 v)
def F10_c0 (f29 : Int × Unit → Option (Bool × Unit)) (f30 : List UInt8 × Unit → Option (Int × Unit)) (f10_l0 : List UInt8 × Int × Int × List (Int) × Unit → Option (List UInt8 × Int × Int × List (Int) × Unit)) : List UInt8 × Int × List (Int) × Unit → Option ((List UInt8 × Bool × Unit) ⊕ (List UInt8 × Int × List (Int) × Unit)) := fun (x0, x1, x2, _) =>
 (f10_l0 (x0, x1, IntKind.i64.wrap (x1 + 3), x2, ())).bind fun val =>
 bif val.2.2.1 == (↑(List.length val.1) : Int) then some (Sum.inl ([], false, ()))
 else
 bif decide (0 ≤ val.2.2.1) && decide (val.2.2.1 ≤ (↑(List.length val.1) : Int)) then
 bif
 decide (0 ≤ IntKind.i64.wrap (val.2.1 + 3)) &&
 decide (IntKind.i64.wrap (val.2.1 + 3) ≤ val.2.2.1) then
 (f30
 (List.drop (IntKind.i64.wrap (val.2.1 + 3)).toNat (List.take (Int.toNat val.2.2.1) val.1),
 ())).bind
 fun val_1 =>
 bif decide (val_1.1 < 0) then some (Sum.inl ([], false, ()))
 else
 bif decide (val_1.1 > 1114111) then some (Sum.inl ([], false, ()))
 else
 (f29 (IntKind.i32.wrap val_1.1, ())).bind fun val_2 =>
 bif val_2.1 then some (Sum.inl ([], false, ()))
 else
 bif
 decide
 (List.length val.2.2.2.1 + [IntKind.i32.wrap val_1.1].length ≤
 140737488355328 / 4) then
 some
 (Sum.inr
 (val.1, val.2.2.1, val.2.2.2.1 ++ [IntKind.i32.wrap val_1.1], ()))
 else none
 else none
 else none
theorem h10_c0 (f29 : HS f29_ins → Option (OTy f29_outs)) (f30 : HS f30_ins → Option (OTy f30_outs)) (f10_l0 : HS f10_l0_ins → Option (OTy f10_l0_outs)) (v : HS f10_c0_ins) : aev Γ (fun f => Ae.lookA f [(29, ⟨f29_ins, f29_outs, f29⟩), (30, ⟨f30_ins, f30_outs, f30⟩)]) 0 (subc (code Tryz.f10) [1, 1, 0, 1, 0, 0, 1, 0, 0, 1, 1]) (.seq .nil (.seq (.blk (.loop ⟨f10_l0_ins, f10_l0_outs, f10_l0⟩)) .nil)) (stof f10_c0_ins v) (oout 0 f10_c0_outs) = F10_c0 f29 f30 f10_l0 v := by kernel_rfl
def C10_c0 (v : List UInt8 × Int × List (Int) × Unit) : Option ((List UInt8 × Bool × Unit) ⊕ (List UInt8 × Int × List (Int) × Unit)) := F10_c0 C29 C30 C10_l0 v
theorem k10_c0 : FragOk Tryz.prog 0 (fun Q a w => ((subc (code Tryz.f10) [1, 1, 0, 1, 0, 0, 1, 0, 0, 1, 1])).wp Tryz.prog Q a w) ⟨f10_c0_ins, f10_c0_outs, C10_c0⟩ :=
 frag_code (ins := f10_c0_ins) (os := f10_c0_outs) (np := 0) (n := (.seq .nil (.seq (.blk (.loop ⟨f10_l0_ins, f10_l0_outs, C10_l0⟩)) .nil))) (F := C10_c0) hm hΓ (K := (fun f => Ae.lookA f [(29, ⟨f29_ins, f29_outs, C29⟩), (30, ⟨f30_ins, f30_outs, C30⟩)])) (kok_cons ok29 (kok_cons ok30 (kok_nil _)))
 (ann_seq (a := (subc (code Tryz.f10) [1, 1, 0, 1, 0, 0, 1, 0, 0, 1, 1, 0])) (b := (subc (code Tryz.f10) [1, 1, 0, 1, 0, 0, 1, 0, 0, 1, 1, 1])) (by kernel_rfl) (ann_nil _) (ann_seq (a := (subc (code Tryz.f10) [1, 1, 0, 1, 0, 0, 1, 0, 0, 1, 1, 1, 0])) (b := (subc (code Tryz.f10) [1, 1, 0, 1, 0, 0, 1, 0, 0, 1, 1, 1, 1])) (by kernel_rfl) (ann_blk (x := (subc (code Tryz.f10) [1, 1, 0, 1, 0, 0, 1, 0, 0, 1, 1, 1, 0, 0])) (by kernel_rfl) (ann_loop (x := (subc (code Tryz.f10) [1, 1, 0, 1, 0, 0, 1, 0, 0, 1, 1, 1, 0, 0, 0])) (by kernel_rfl) k10_l0)) (ann_nil _))) (fun v => h10_c0 C29 C30 C10_l0 v)
def F10_l1 (f29 : Int × Unit → Option (Bool × Unit)) (f10_c0 : List UInt8 × Int × List (Int) × Unit → Option ((List UInt8 × Bool × Unit) ⊕ (List UInt8 × Int × List (Int) × Unit))) : List UInt8 × Int × List (Int) × Unit → Option ((List UInt8 × Int × List (Int) × Unit) ⊕ ((List (Int) × Unit) ⊕ (List UInt8 × Bool × Unit))) := fun (x0, x1, x2, _) =>
 bif decide (x1 < (↑x0.length : Int)) then
 bif decide (0 ≤ x1) && decide (x1 < (↑x0.length : Int)) then
 (f29 (IntKind.i32.wrap (↑(x0.getD x1.toNat 0).toNat : Int), ())).bind fun val =>
 bif val.1 then
 bif decide (0 ≤ x1) && decide (x1 < (↑x0.length : Int)) then
 bif
 decide
 (x2.length + [IntKind.i32.wrap (↑(x0.getD x1.toNat 0).toNat : Int)].length ≤ 140737488355328 / 4) then
 some
 (Sum.inl
 (x0, IntKind.i64.wrap (x1 + 1), x2 ++ [IntKind.i32.wrap (↑(x0.getD x1.toNat 0).toNat : Int)],
 ()))
 else none
 else none
 else
 bif decide (IntKind.i64.wrap ((↑x0.length : Int) - x1) < 4) then
 some (Sum.inr (Sum.inr ([], false, ())))
 else
 bif decide (0 ≤ x1) && decide (x1 < (↑x0.length : Int)) then
 bif (↑(x0.getD x1.toNat 0).toNat : Int) != 92 then some (Sum.inr (Sum.inr ([], false, ())))
 else
 bif decide (0 ≤ IntKind.i64.wrap (x1 + 1)) && decide (IntKind.i64.wrap (x1 + 1) < (↑x0.length : Int)) then
 bif (↑(x0.getD (IntKind.i64.wrap (x1 + 1)).toNat 0).toNat : Int) != 120 then
 some (Sum.inr (Sum.inr ([], false, ())))
 else
 bif
 decide (0 ≤ IntKind.i64.wrap (x1 + 2)) &&
 decide (IntKind.i64.wrap (x1 + 2) < (↑x0.length : Int)) then
 bif (↑(x0.getD (IntKind.i64.wrap (x1 + 2)).toNat 0).toNat : Int) != 123 then
 some (Sum.inr (Sum.inr ([], false, ())))
 else
 (f10_c0 (x0, x1, x2, ())).bind fun val =>
 Sum.elim (fun val => some (Sum.inr (Sum.inr (val.1, val.2.1, ()))))
 (fun val =>
 some (Sum.inl (val.1, IntKind.i64.wrap (val.2.1 + 1), val.2.2.1, ())))
 val
 else none
 else none
 else none
 else none
 else some (Sum.inr (Sum.inl (x2, ())))
theorem h10_l1 (f29 : HS f29_ins → Option (OTy f29_outs)) (f10_c0 : HS f10_c0_ins → Option (OTy f10_c0_outs)) (v : HS f10_l1_ins) : aev Γ (fun f => Ae.lookA f [(29, ⟨f29_ins, f29_outs, f29⟩)]) 0 (subc (code Tryz.f10) [1, 1, 0, 1, 0, 0]) (.seq .nil (.seq (.blk (.seq .nil (.cut .nil ⟨f10_c0_ins, f10_c0_outs, f10_c0⟩))) .nil)) (stof f10_l1_ins v) (around 0 f10_l1_ins f10_l1_outs) = F10_l1 f29 f10_c0 v := by kernel_rfl
def C10_l1 (v : List UInt8 × Int × List (Int) × Unit) : Option ((List (Int) × Unit) ⊕ (List UInt8 × Bool × Unit)) := loopN (F10_l1 C29 C10_c0) big v
theorem k10_l1 : FragOk Tryz.prog 0 (fun Q a w => (Code.loop (subc (code Tryz.f10) [1, 1, 0, 1, 0, 0])).wp Tryz.prog Q a w) ⟨f10_l1_ins, f10_l1_outs, C10_l1⟩ :=
 frag_loop (ins := f10_l1_ins) (os := f10_l1_outs) (np := 0) (n := (.seq .nil (.seq (.blk (.seq .nil (.cut .nil ⟨f10_c0_ins, f10_c0_outs, C10_c0⟩))) .nil))) (F := F10_l1 C29 C10_c0) hm hΓ (K := (fun f => Ae.lookA f [(29, ⟨f29_ins, f29_outs, C29⟩)])) (kok_cons ok29 (kok_nil _)) (fun _ => big)
 (ann_seq (a := (subc (code Tryz.f10) [1, 1, 0, 1, 0, 0, 0])) (b := (subc (code Tryz.f10) [1, 1, 0, 1, 0, 0, 1])) (by kernel_rfl) (ann_nil _) (ann_seq (a := (subc (code Tryz.f10) [1, 1, 0, 1, 0, 0, 1, 0])) (b := (subc (code Tryz.f10) [1, 1, 0, 1, 0, 0, 1, 1])) (by kernel_rfl) (ann_blk (x := (subc (code Tryz.f10) [1, 1, 0, 1, 0, 0, 1, 0, 0])) (by kernel_rfl) (ann_seq (a := (subc (code Tryz.f10) [1, 1, 0, 1, 0, 0, 1, 0, 0, 0])) (b := (subc (code Tryz.f10) [1, 1, 0, 1, 0, 0, 1, 0, 0, 1])) (by kernel_rfl) (ann_nil _) (ann_cut (a := (subc (code Tryz.f10) [1, 1, 0, 1, 0, 0, 1, 0, 0, 1, 0])) (b := (subc (code Tryz.f10) [1, 1, 0, 1, 0, 0, 1, 0, 0, 1, 1])) (by kernel_rfl) (ann_nil _) k10_c0))) (ann_nil _))) (fun v => h10_l1 C29 C10_c0 v)
def F10 (f31 : List (Int) × Unit → Option (List UInt8 × Bool × Unit)) (f10_l1 : List UInt8 × Int × List (Int) × Unit → Option ((List (Int) × Unit) ⊕ (List UInt8 × Bool × Unit))) : List UInt8 × Unit → Option (List UInt8 × Bool × Unit) := fun (x0, _) =>
 (f10_l1 (x0, 0, [], ())).bind fun val =>
 Sum.elim (fun val => (f31 (val.1, ())).bind fun val => some (val.1, val.2.1, ()))
 (fun val => some (val.1, val.2.1, ())) val
theorem h10 (f31 : HS f31_ins → Option (OTy f31_outs)) (f10_l1 : HS f10_l1_ins → Option (OTy f10_l1_outs)) (v : HS f10_ins) : afun Γ (fun f => Ae.lookA f [(31, ⟨f31_ins, f31_outs, f31⟩)]) 0 Tryz.f10.ntmps Tryz.f10.results.toList (code Tryz.f10) (.seq .nil (.seq .nil (.seq (.seq .nil (.blk (.loop ⟨f10_l1_ins, f10_l1_outs, f10_l1⟩))) .nil))) (em id f10_ins v).1 (em id f10_ins v).2 (ofin 0 f10_outs) = F10 f31 f10_l1 v := by kernel_rfl
def C10 (v : List UInt8 × Unit) : Option (List UInt8 × Bool × Unit) := F10 C31 C10_l1 v
theorem ok10 : FnOk Tryz.prog 10 ⟨f10_ins, f10_outs, C10⟩ :=
 fn_ok (np := 0) (n := (.seq .nil (.seq .nil (.seq (.seq .nil (.blk (.loop ⟨f10_l1_ins, f10_l1_outs, C10_l1⟩))) .nil)))) hm hΓ (K := (fun f => Ae.lookA f [(31, ⟨f31_ins, f31_outs, C31⟩)])) (kok_cons ok31 (kok_nil _)) Tryz.func10 (c := code Tryz.f10) (by kernel_rfl) (name_ne (by kernel_rfl))
 (ann_seq (a := (subc (code Tryz.f10) [0])) (b := (subc (code Tryz.f10) [1])) (by kernel_rfl) (ann_nil _) (ann_seq (a := (subc (code Tryz.f10) [1, 0])) (b := (subc (code Tryz.f10) [1, 1])) (by kernel_rfl) (ann_nil _) (ann_seq (a := (subc (code Tryz.f10) [1, 1, 0])) (b := (subc (code Tryz.f10) [1, 1, 1])) (by kernel_rfl) (ann_seq (a := (subc (code Tryz.f10) [1, 1, 0, 0])) (b := (subc (code Tryz.f10) [1, 1, 0, 1])) (by kernel_rfl) (ann_nil _) (ann_blk (x := (subc (code Tryz.f10) [1, 1, 0, 1, 0])) (by kernel_rfl) (ann_loop (x := (subc (code Tryz.f10) [1, 1, 0, 1, 0, 0])) (by kernel_rfl) k10_l1))) (ann_nil _)))) (fun v => Nat.le_of_ble_eq_true (by kernel_rfl)) (fun v => h10 C31 C10_l1 v)
def F69_c0 (f65 : Int × Unit → Option (List UInt8 × Unit)) (f92 : Int × Unit → Option (Int × Unit)) : List UInt8 × Int × Int × Unit → Option ((Int × Int × Unit) ⊕ (List UInt8 × Int × Unit)) := fun (x0, x1, x2, _) =>
 (f92 (x2, ())).bind fun val =>
 bif val.1 == x1 then
 (f65 (x2, ())).bind fun val =>
 bif decide (0 ≤ x1) && decide (x1 ≤ (↑x0.length : Int)) then
 bif val.1 == List.take x1.toNat x0 then some (Sum.inl (x2, x1, ()))
 else some (Sum.inr (x0, x1, ()))
 else none
 else some (Sum.inr (x0, x1, ()))
theorem h69_c0 (f65 : HS f65_ins → Option (OTy f65_outs)) (f92 : HS f92_ins → Option (OTy f92_outs)) (v : HS f69_c0_ins) : aev Γ (fun f => Ae.lookA f [(65, ⟨f65_ins, f65_outs, f65⟩), (92, ⟨f92_ins, f92_outs, f92⟩)]) 0 (subc (code Tryz.f69) [1, 0, 1, 0, 0, 1, 0, 0, 1, 1]) .nil (stof f69_c0_ins v) (oout 0 f69_c0_outs) = F69_c0 f65 f92 v := by kernel_rfl
def C69_c0 (v : List UInt8 × Int × Int × Unit) : Option ((Int × Int × Unit) ⊕ (List UInt8 × Int × Unit)) := F69_c0 C65 C92 v
theorem k69_c0 : FragOk Tryz.prog 0 (fun Q a w => ((subc (code Tryz.f69) [1, 0, 1, 0, 0, 1, 0, 0, 1, 1])).wp Tryz.prog Q a w) ⟨f69_c0_ins, f69_c0_outs, C69_c0⟩ :=
 frag_code (ins := f69_c0_ins) (os := f69_c0_outs) (np := 0) (n := .nil) (F := C69_c0) hm hΓ (K := (fun f => Ae.lookA f [(65, ⟨f65_ins, f65_outs, C65⟩), (92, ⟨f92_ins, f92_outs, C92⟩)])) (kok_cons ok65 (kok_cons ok92 (kok_nil _)))
 (ann_nil _) (fun v => h69_c0 C65 C92 v)
def F69_l0 (f69_c0 : List UInt8 × Int × Int × Unit → Option ((Int × Int × Unit) ⊕ (List UInt8 × Int × Unit))) : List UInt8 × Int × Unit → Option ((List UInt8 × Int × Unit) ⊕ (Unit ⊕ (Int × Int × Unit))) := fun (x0, x1, _) =>
 bif decide (x1 ≤ 4) then
 bif decide (x1 ≤ (↑x0.length : Int)) then
 bif decide (0 < (↑x0.length : Int)) then
 bif x1 == 2 then
 bif decide (0 < (↑x0.length : Int)) then
 bif decide (1 < (↑x0.length : Int)) then
 (f69_c0
 (x0, x1,
 IntKind.i32.wrap
 (IntKind.i32.wrap ((IntKind.i32.wrap (↑(x0.getD 0 0).toNat : Int)).tmod 32 * 64) +
 (IntKind.i32.wrap (↑(x0.getD 1 0).toNat : Int)).tmod 64),
 ())).bind
 fun val =>
 Sum.elim (fun val => some (Sum.inr (Sum.inr (val.1, val.2.1, ()))))
 (fun val => some (Sum.inl (val.1, IntKind.i64.wrap (val.2.1 + 1), ()))) val
 else none
 else none
 else
 bif x1 == 3 then
 bif decide (0 < (↑x0.length : Int)) then
 bif decide (1 < (↑x0.length : Int)) then
 bif decide (2 < (↑x0.length : Int)) then
 (f69_c0
 (x0, x1,
 IntKind.i32.wrap
 (IntKind.i32.wrap
 (IntKind.i32.wrap
 ((IntKind.i32.wrap (↑(x0.getD 0 0).toNat : Int)).tmod 16 * 4096) +
 IntKind.i32.wrap
 ((IntKind.i32.wrap (↑(x0.getD 1 0).toNat : Int)).tmod 64 * 64)) +
 (IntKind.i32.wrap (↑(x0.getD 2 0).toNat : Int)).tmod 64),
 ())).bind
 fun val =>
 Sum.elim (fun val => some (Sum.inr (Sum.inr (val.1, val.2.1, ()))))
 (fun val => some (Sum.inl (val.1, IntKind.i64.wrap (val.2.1 + 1), ()))) val
 else none
 else none
 else none
 else
 bif x1 == 4 then
 bif decide (0 < (↑x0.length : Int)) then
 bif decide (1 < (↑x0.length : Int)) then
 bif decide (2 < (↑x0.length : Int)) then
 bif decide (3 < (↑x0.length : Int)) then
 (f69_c0
 (x0, x1,
 IntKind.i32.wrap
 (IntKind.i32.wrap
 (IntKind.i32.wrap
 (IntKind.i32.wrap
 ((IntKind.i32.wrap (↑(x0.getD 0 0).toNat : Int)).tmod 8 *
 262144) +
 IntKind.i32.wrap
 ((IntKind.i32.wrap (↑(x0.getD 1 0).toNat : Int)).tmod 64 *
 4096)) +
 IntKind.i32.wrap
 ((IntKind.i32.wrap (↑(x0.getD 2 0).toNat : Int)).tmod 64 * 64)) +
 (IntKind.i32.wrap (↑(x0.getD 3 0).toNat : Int)).tmod 64),
 ())).bind
 fun val =>
 Sum.elim (fun val => some (Sum.inr (Sum.inr (val.1, val.2.1, ()))))
 (fun val => some (Sum.inl (val.1, IntKind.i64.wrap (val.2.1 + 1), ()))) val
 else none
 else none
 else none
 else none
 else
 (f69_c0 (x0, x1, IntKind.i32.wrap (↑(x0.getD 0 0).toNat : Int), ())).bind fun val =>
 Sum.elim (fun val => some (Sum.inr (Sum.inr (val.1, val.2.1, ()))))
 (fun val => some (Sum.inl (val.1, IntKind.i64.wrap (val.2.1 + 1), ()))) val
 else none
 else some (Sum.inr (Sum.inl ()))
 else some (Sum.inr (Sum.inl ()))
theorem h69_l0 (f69_c0 : HS f69_c0_ins → Option (OTy f69_c0_outs)) (v : HS f69_l0_ins) : aev Γ (fun f => Ae.lookA f []) 0 (subc (code Tryz.f69) [1, 0, 1, 0, 0]) (.seq .nil (.seq (.blk (.seq .nil (.cut .nil ⟨f69_c0_ins, f69_c0_outs, f69_c0⟩))) .nil)) (stof f69_l0_ins v) (around 0 f69_l0_ins f69_l0_outs) = F69_l0 f69_c0 v := by kernel_rfl
def C69_l0 (v : List UInt8 × Int × Unit) : Option (Unit ⊕ (Int × Int × Unit)) := loopN (F69_l0 C69_c0) big v
theorem k69_l0 : FragOk Tryz.prog 0 (fun Q a w => (Code.loop (subc (code Tryz.f69) [1, 0, 1, 0, 0])).wp Tryz.prog Q a w) ⟨f69_l0_ins, f69_l0_outs, C69_l0⟩ :=
 frag_loop (ins := f69_l0_ins) (os := f69_l0_outs) (np := 0) (n := (.seq .nil (.seq (.blk (.seq .nil (.cut .nil ⟨f69_c0_ins, f69_c0_outs, C69_c0⟩))) .nil))) (F := F69_l0 C69_c0) hm hΓ (K := (fun f => Ae.lookA f [])) (kok_nil _) (fun _ => big)
 (ann_seq (a := (subc (code Tryz.f69) [1, 0, 1, 0, 0, 0])) (b := (subc (code Tryz.f69) [1, 0, 1, 0, 0, 1])) (by kernel_rfl) (ann_nil _) (ann_seq (a := (subc (code Tryz.f69) [1, 0, 1, 0, 0, 1, 0])) (b := (subc (code Tryz.f69) [1, 0, 1, 0, 0, 1, 1])) (by kernel_rfl) (ann_blk (x := (subc (code Tryz.f69) [1, 0, 1, 0, 0, 1, 0, 0])) (by kernel_rfl) (ann_seq (a := (subc (code Tryz.f69) [1, 0, 1, 0, 0, 1, 0, 0, 0])) (b := (subc (code Tryz.f69) [1, 0, 1, 0, 0, 1, 0, 0, 1])) (by kernel_rfl) (ann_nil _) (ann_cut (a := (subc (code Tryz.f69) [1, 0, 1, 0, 0, 1, 0, 0, 1, 0])) (b := (subc (code Tryz.f69) [1, 0, 1, 0, 0, 1, 0, 0, 1, 1])) (by kernel_rfl) (ann_nil _) k69_c0))) (ann_nil _))) (fun v => h69_l0 C69_c0 v)
def F69 (f69_l0 : List UInt8 × Int × Unit → Option (Unit ⊕ (Int × Int × Unit))) : List UInt8 × Unit → Option (Int × Int × Unit) := fun (x0, _) =>
 (f69_l0 (x0, 1, ())).bind fun val =>
 Sum.elim (fun val => some (0, 0, ())) (fun val => some (val.1, val.2.1, ())) val
theorem h69 (f69_l0 : HS f69_l0_ins → Option (OTy f69_l0_outs)) (v : HS f69_ins) : afun Γ (fun f => Ae.lookA f []) 0 Tryz.f69.ntmps Tryz.f69.results.toList (code Tryz.f69) (.seq .nil (.seq (.seq .nil (.blk (.loop ⟨f69_l0_ins, f69_l0_outs, f69_l0⟩))) .nil)) (em id f69_ins v).1 (em id f69_ins v).2 (ofin 0 f69_outs) = F69 f69_l0 v := by kernel_rfl
def C69 (v : List UInt8 × Unit) : Option (Int × Int × Unit) := F69 C69_l0 v
theorem ok69 : FnOk Tryz.prog 69 ⟨f69_ins, f69_outs, C69⟩ :=
 fn_ok (np := 0) (n := (.seq .nil (.seq (.seq .nil (.blk (.loop ⟨f69_l0_ins, f69_l0_outs, C69_l0⟩))) .nil))) hm hΓ (K := (fun f => Ae.lookA f [])) (kok_nil _) Tryz.func69 (c := code Tryz.f69) (by kernel_rfl) (name_ne (by kernel_rfl))
 (ann_seq (a := (subc (code Tryz.f69) [0])) (b := (subc (code Tryz.f69) [1])) (by kernel_rfl) (ann_nil _) (ann_seq (a := (subc (code Tryz.f69) [1, 0])) (b := (subc (code Tryz.f69) [1, 1])) (by kernel_rfl) (ann_seq (a := (subc (code Tryz.f69) [1, 0, 0])) (b := (subc (code Tryz.f69) [1, 0, 1])) (by kernel_rfl) (ann_nil _) (ann_blk (x := (subc (code Tryz.f69) [1, 0, 1, 0])) (by kernel_rfl) (ann_loop (x := (subc (code Tryz.f69) [1, 0, 1, 0, 0])) (by kernel_rfl) k69_l0))) (ann_nil _))) (fun v => Nat.le_of_ble_eq_true (by kernel_rfl)) (fun v => h69 C69_l0 v)
def F36_l0 (f69 : List UInt8 × Unit → Option (Int × Int × Unit)) : List UInt8 × Int × List (Int) × Unit → Option ((List UInt8 × Int × List (Int) × Unit) ⊕ ((List (Int) × Unit) ⊕ (Int × List (Int) × Unit))) := fun (x0, x1, x2, _) =>
 bif decide (x1 < (↑x0.length : Int)) then
 bif decide (0 ≤ x1) && decide (x1 ≤ (↑x0.length : Int)) then
 (f69 (List.drop x1.toNat x0, ())).bind fun val =>
 bif val.2.1 == 0 then some (Sum.inr (Sum.inr (x1, x2, ())))
 else
 bif decide (x2.length + [val.1].length ≤ 140737488355328 / 4) then
 some (Sum.inl (x0, IntKind.i64.wrap (x1 + val.2.1), x2 ++ [val.1], ()))
 else none
 else none
 else some (Sum.inr (Sum.inl (x2, ())))
theorem h36_l0 (f69 : HS f69_ins → Option (OTy f69_outs)) (v : HS f36_l0_ins) : aev Γ (fun f => Ae.lookA f [(69, ⟨f69_ins, f69_outs, f69⟩)]) 0 (subc (code Tryz.f36) [1, 1, 1, 0, 0, 0]) .nil (stof f36_l0_ins v) (around 0 f36_l0_ins f36_l0_outs) = F36_l0 f69 v := by kernel_rfl
def C36_l0 (v : List UInt8 × Int × List (Int) × Unit) : Option ((List (Int) × Unit) ⊕ (Int × List (Int) × Unit)) := loopN (F36_l0 C69) big v
theorem k36_l0 : FragOk Tryz.prog 0 (fun Q a w => (Code.loop (subc (code Tryz.f36) [1, 1, 1, 0, 0, 0])).wp Tryz.prog Q a w) ⟨f36_l0_ins, f36_l0_outs, C36_l0⟩ :=
 frag_loop (ins := f36_l0_ins) (os := f36_l0_outs) (np := 0) (n := .nil) (F := F36_l0 C69) hm hΓ (K := (fun f => Ae.lookA f [(69, ⟨f69_ins, f69_outs, C69⟩)])) (kok_cons ok69 (kok_nil _)) (fun _ => big)
 (ann_nil _) (fun v => h36_l0 C69 v)
def F36 (f36_l0 : List UInt8 × Int × List (Int) × Unit → Option ((List (Int) × Unit) ⊕ (Int × List (Int) × Unit))) : List UInt8 × Unit → Option (List (Int) × Int × Unit) := fun (x0, _) =>
 (f36_l0 (x0, 0, [], ())).bind fun val =>
 Sum.elim (fun val => some (val.1, -1, ())) (fun val => some (val.2.1, val.1, ())) val
theorem h36 (f36_l0 : HS f36_l0_ins → Option (OTy f36_l0_outs)) (v : HS f36_ins) : afun Γ (fun f => Ae.lookA f []) 0 Tryz.f36.ntmps Tryz.f36.results.toList (code Tryz.f36) (.seq .nil (.seq .nil (.seq .nil (.seq (.blk (.loop ⟨f36_l0_ins, f36_l0_outs, f36_l0⟩)) .nil)))) (em id f36_ins v).1 (em id f36_ins v).2 (ofin 0 f36_outs) = F36 f36_l0 v := by kernel_rfl
def C36 (v : List UInt8 × Unit) : Option (List (Int) × Int × Unit) := F36 C36_l0 v
theorem ok36 : FnOk Tryz.prog 36 ⟨f36_ins, f36_outs, C36⟩ :=
 fn_ok (np := 0) (n := (.seq .nil (.seq .nil (.seq .nil (.seq (.blk (.loop ⟨f36_l0_ins, f36_l0_outs, C36_l0⟩)) .nil))))) hm hΓ (K := (fun f => Ae.lookA f [])) (kok_nil _) Tryz.func36 (c := code Tryz.f36) (by kernel_rfl) (name_ne (by kernel_rfl))
 (ann_seq (a := (subc (code Tryz.f36) [0])) (b := (subc (code Tryz.f36) [1])) (by kernel_rfl) (ann_nil _) (ann_seq (a := (subc (code Tryz.f36) [1, 0])) (b := (subc (code Tryz.f36) [1, 1])) (by kernel_rfl) (ann_nil _) (ann_seq (a := (subc (code Tryz.f36) [1, 1, 0])) (b := (subc (code Tryz.f36) [1, 1, 1])) (by kernel_rfl) (ann_nil _) (ann_seq (a := (subc (code Tryz.f36) [1, 1, 1, 0])) (b := (subc (code Tryz.f36) [1, 1, 1, 1])) (by kernel_rfl) (ann_blk (x := (subc (code Tryz.f36) [1, 1, 1, 0, 0])) (by kernel_rfl) (ann_loop (x := (subc (code Tryz.f36) [1, 1, 1, 0, 0, 0])) (by kernel_rfl) k36_l0)) (ann_nil _))))) (fun v => Nat.le_of_ble_eq_true (by kernel_rfl)) (fun v => h36 C36_l0 v)
def F37 (f37 : Int × Unit → Option (List UInt8 × Unit)) : Int × Unit → Option (List UInt8 × Unit) := fun (x0, _) =>
 bif decide (x0 < 16) then
 bif
 decide (0 ≤ IntKind.i64.wrap (x0 + 1)) &&
 decide
 (IntKind.i64.wrap (x0 + 1) ≤
 (↑[48, 49, 50, 51, 52, 53, 54, 55, 56, 57, 65, 66, 67, 68, 69, 70].length : Int)) then
 bif decide (0 ≤ x0) && decide (x0 ≤ IntKind.i64.wrap (x0 + 1)) then
 some
 (List.drop x0.toNat
 (List.take (IntKind.i64.wrap (x0 + 1)).toNat
 [48, 49, 50, 51, 52, 53, 54, 55, 56, 57, 65, 66, 67, 68, 69, 70]),
 ())
 else none
 else none
 else
 (f37 (IntKind.i64.wrap (x0.tdiv 16), ())).bind fun val =>
 (f37 (x0.tmod 16, ())).bind fun val_1 =>
 bif decide (List.length val.1 + List.length val_1.1 ≤ 9223372036854775807) then
 some (val.1 ++ val_1.1, ())
 else none
theorem h37 (f37 : HS f37_ins → Option (OTy f37_outs)) (v : HS f37_ins) : afun Γ (fun f => Ae.lookA f [(37, ⟨f37_ins, f37_outs, f37⟩)]) 0 Tryz.f37.ntmps Tryz.f37.results.toList (code Tryz.f37) .nil (em id f37_ins v).1 (em id f37_ins v).2 (ofin 0 f37_outs) = F37 f37 v := by kernel_rfl
def C37 (v : Int × Unit) : Option (List UInt8 × Unit) := recN (fun G => F37 G) big v
theorem ok37 : FnOk Tryz.prog 37 ⟨f37_ins, f37_outs, C37⟩ := by
 have hC : C37 = recN (fun G => F37 G) big := funext fun v => by rw [C37]
 rw [hC]
 exact fn_rec (ins := f37_ins) (os := f37_outs) (F := fun G => F37 G) (fun G hG => fn_ok (np := 0) (n := .nil) hm hΓ (K := (fun f => Ae.lookA f [(37, ⟨f37_ins, f37_outs, G⟩)])) (kok_cons hG (kok_nil _)) Tryz.func37 (c := code Tryz.f37) (by kernel_rfl) (name_ne (by kernel_rfl))
 (ann_nil _) (fun v => Nat.le_of_ble_eq_true (by kernel_rfl)) (fun v => h37 G v)) big
def F12_l0 (f29 : Int × Unit → Option (Bool × Unit)) (f37 : Int × Unit → Option (List UInt8 × Unit)) : List UInt8 × List (Int) × Int × List UInt8 × Int × Unit → Option ((List UInt8 × List (Int) × Int × List UInt8 × Int × Unit) ⊕ (List UInt8 × Int × List UInt8 × Unit)) := fun (x0, x1, x2, x3, x4, _) =>
 bif decide (x4 < (↑x1.length : Int)) then
 bif decide (0 ≤ x4) && decide (x4 < (↑x1.length : Int)) then
 (f29 (x1.getD x4.toNat 0, ())).bind fun val =>
 bif val.1 then
 bif decide (0 ≤ x4) && decide (x4 < (↑x1.length : Int)) then
 bif
 decide
 (x3.length + [UInt8.ofNat (IntKind.u8.wrap (x1.getD x4.toNat 0)).toNat].length ≤
 9223372036854775807) then
 some
 (Sum.inl
 (x0, x1, x2, x3 ++ [UInt8.ofNat (IntKind.u8.wrap (x1.getD x4.toNat 0)).toNat],
 IntKind.i64.wrap (x4 + 1), ()))
 else none
 else none
 else
 bif decide (x3.length + [92].length ≤ 9223372036854775807) then
 bif
 decide
 ((x3 ++ [92]).length + [120, 123].length ≤ 9223372036854775807) then
 bif decide (0 ≤ x4) && decide (x4 < (↑x1.length : Int)) then
 (f37 (IntKind.i64.wrap (x1.getD x4.toNat 0), ())).bind fun val =>
 bif
 decide
 ((x3 ++ [92] ++ [120, 123]).length + List.length val.1 ≤
 9223372036854775807) then
 bif
 decide
 ((x3 ++ [92] ++ [120, 123] ++ val.1).length +
 [125].length ≤
 9223372036854775807) then
 some
 (Sum.inl
 (x0, x1, x2,
 x3 ++ [92] ++ [120, 123] ++ val.1 ++ [125],
 IntKind.i64.wrap (x4 + 1), ()))
 else none
 else none
 else none
 else none
 else none
 else none
 else some (Sum.inr (x0, x2, x3, ()))
theorem h12_l0 (f29 : HS f29_ins → Option (OTy f29_outs)) (f37 : HS f37_ins → Option (OTy f37_outs)) (v : HS f12_l0_ins) : aev Γ (fun f => Ae.lookA f [(29, ⟨f29_ins, f29_outs, f29⟩), (37, ⟨f37_ins, f37_outs, f37⟩)]) 0 (subc (code Tryz.f12) [1, 1, 1, 0, 1, 0, 0]) .nil (stof f12_l0_ins v) (around 0 f12_l0_ins f12_l0_outs) = F12_l0 f29 f37 v := by kernel_rfl
def C12_l0 (v : List UInt8 × List (Int) × Int × List UInt8 × Int × Unit) : Option (List UInt8 × Int × List UInt8 × Unit) := loopN (F12_l0 C29 C37) big v
theorem k12_l0 : FragOk Tryz.prog 0 (fun Q a w => (Code.loop (subc (code Tryz.f12) [1, 1, 1, 0, 1, 0, 0])).wp Tryz.prog Q a w) ⟨f12_l0_ins, f12_l0_outs, C12_l0⟩ :=
 frag_loop (ins := f12_l0_ins) (os := f12_l0_outs) (np := 0) (n := .nil) (F := F12_l0 C29 C37) hm hΓ (K := (fun f => Ae.lookA f [(29, ⟨f29_ins, f29_outs, C29⟩), (37, ⟨f37_ins, f37_outs, C37⟩)])) (kok_cons ok29 (kok_cons ok37 (kok_nil _))) (fun _ => big)
 (ann_nil _) (fun v => h12_l0 C29 C37 v)
def F12_l1 (f37 : Int × Unit → Option (List UInt8 × Unit)) : List UInt8 × Int × List UInt8 × Int × Unit → Option ((List UInt8 × Int × List UInt8 × Int × Unit) ⊕ (List UInt8 × Unit)) := fun (x0, x1, x2, x3, _) =>
 bif decide (x1 ≥ 0) then
 bif decide (x3 < (↑x0.length : Int)) then
 bif decide (x2.length + [92].length ≤ 9223372036854775807) then
 bif
 decide
 ((x2 ++ [92]).length + [120, 123, 48, 48].length ≤ 9223372036854775807) then
 bif decide (0 ≤ x3) && decide (x3 < (↑x0.length : Int)) then
 (f37 (IntKind.i64.wrap (↑(x0.getD x3.toNat 0).toNat : Int), ())).bind fun val =>
 bif
 decide
 ((x2 ++ [92] ++ [120, 123, 48, 48]).length + List.length val.1 ≤
 9223372036854775807) then
 bif
 decide
 ((x2 ++ [92] ++ [120, 123, 48, 48] ++ val.1).length +
 [125].length ≤
 9223372036854775807) then
 some
 (Sum.inl
 (x0, x1,
 x2 ++ [92] ++ [120, 123, 48, 48] ++ val.1 ++ [125],
 IntKind.i64.wrap (x3 + 1), ()))
 else none
 else none
 else none
 else none
 else none
 else some (Sum.inr (x2, ()))
 else some (Sum.inr (x2, ()))
theorem h12_l1 (f37 : HS f37_ins → Option (OTy f37_outs)) (v : HS f12_l1_ins) : aev Γ (fun f => Ae.lookA f [(37, ⟨f37_ins, f37_outs, f37⟩)]) 0 (subc (code Tryz.f12) [1, 1, 1, 1, 0, 1, 0, 0]) .nil (stof f12_l1_ins v) (around 0 f12_l1_ins f12_l1_outs) = F12_l1 f37 v := by kernel_rfl
def C12_l1 (v : List UInt8 × Int × List UInt8 × Int × Unit) : Option (List UInt8 × Unit) := loopN (F12_l1 C37) big v
theorem k12_l1 : FragOk Tryz.prog 0 (fun Q a w => (Code.loop (subc (code Tryz.f12) [1, 1, 1, 1, 0, 1, 0, 0])).wp Tryz.prog Q a w) ⟨f12_l1_ins, f12_l1_outs, C12_l1⟩ :=
 frag_loop (ins := f12_l1_ins) (os := f12_l1_outs) (np := 0) (n := .nil) (F := F12_l1 C37) hm hΓ (K := (fun f => Ae.lookA f [(37, ⟨f37_ins, f37_outs, C37⟩)])) (kok_cons ok37 (kok_nil _)) (fun _ => big)
 (ann_nil _) (fun v => h12_l1 C37 v)
def F12 (f36 : List UInt8 × Unit → Option (List (Int) × Int × Unit)) (f12_l0 : List UInt8 × List (Int) × Int × List UInt8 × Int × Unit → Option (List UInt8 × Int × List UInt8 × Unit)) (f12_l1 : List UInt8 × Int × List UInt8 × Int × Unit → Option (List UInt8 × Unit)) : List UInt8 × Unit → Option (List UInt8 × Unit) := fun (x0, _) =>
 (f36 (x0, ())).bind fun val =>
 (f12_l0 (x0, val.1, val.2.1, [], 0, ())).bind fun val =>
 (f12_l1 (val.1, val.2.1, val.2.2.1, val.2.1, ())).bind fun val => some (val.1, ())
theorem h12 (f36 : HS f36_ins → Option (OTy f36_outs)) (f12_l0 : HS f12_l0_ins → Option (OTy f12_l0_outs)) (f12_l1 : HS f12_l1_ins → Option (OTy f12_l1_outs)) (v : HS f12_ins) : afun Γ (fun f => Ae.lookA f [(36, ⟨f36_ins, f36_outs, f36⟩)]) 0 Tryz.f12.ntmps Tryz.f12.results.toList (code Tryz.f12) (.seq .nil (.seq .nil (.seq .nil (.seq (.seq .nil (.blk (.loop ⟨f12_l0_ins, f12_l0_outs, f12_l0⟩))) (.seq (.seq .nil (.blk (.loop ⟨f12_l1_ins, f12_l1_outs, f12_l1⟩))) .nil))))) (em id f12_ins v).1 (em id f12_ins v).2 (ofin 0 f12_outs) = F12 f36 f12_l0 f12_l1 v := by kernel_rfl
def C12 (v : List UInt8 × Unit) : Option (List UInt8 × Unit) := F12 C36 C12_l0 C12_l1 v
theorem ok12 : FnOk Tryz.prog 12 ⟨f12_ins, f12_outs, C12⟩ :=
 fn_ok (np := 0) (n := (.seq .nil (.seq .nil (.seq .nil (.seq (.seq .nil (.blk (.loop ⟨f12_l0_ins, f12_l0_outs, C12_l0⟩))) (.seq (.seq .nil (.blk (.loop ⟨f12_l1_ins, f12_l1_outs, C12_l1⟩))) .nil)))))) hm hΓ (K := (fun f => Ae.lookA f [(36, ⟨f36_ins, f36_outs, C36⟩)])) (kok_cons ok36 (kok_nil _)) Tryz.func12 (c := code Tryz.f12) (by kernel_rfl) (name_ne (by kernel_rfl))
 (ann_seq (a := (subc (code Tryz.f12) [0])) (b := (subc (code Tryz.f12) [1])) (by kernel_rfl) (ann_nil _) (ann_seq (a := (subc (code Tryz.f12) [1, 0])) (b := (subc (code Tryz.f12) [1, 1])) (by kernel_rfl) (ann_nil _) (ann_seq (a := (subc (code Tryz.f12) [1, 1, 0])) (b := (subc (code Tryz.f12) [1, 1, 1])) (by kernel_rfl) (ann_nil _) (ann_seq (a := (subc (code Tryz.f12) [1, 1, 1, 0])) (b := (subc (code Tryz.f12) [1, 1, 1, 1])) (by kernel_rfl) (ann_seq (a := (subc (code Tryz.f12) [1, 1, 1, 0, 0])) (b := (subc (code Tryz.f12) [1, 1, 1, 0, 1])) (by kernel_rfl) (ann_nil _) (ann_blk (x := (subc (code Tryz.f12) [1, 1, 1, 0, 1, 0])) (by kernel_rfl) (ann_loop (x := (subc (code Tryz.f12) [1, 1, 1, 0, 1, 0, 0])) (by kernel_rfl) k12_l0))) (ann_seq (a := (subc (code Tryz.f12) [1, 1, 1, 1, 0])) (b := (subc (code Tryz.f12) [1, 1, 1, 1, 1])) (by kernel_rfl) (ann_seq (a := (subc (code Tryz.f12) [1, 1, 1, 1, 0, 0])) (b := (subc (code Tryz.f12) [1, 1, 1, 1, 0, 1])) (by kernel_rfl) (ann_nil _) (ann_blk (x := (subc (code Tryz.f12) [1, 1, 1, 1, 0, 1, 0])) (by kernel_rfl) (ann_loop (x := (subc (code Tryz.f12) [1, 1, 1, 1, 0, 1, 0, 0])) (by kernel_rfl) k12_l1))) (ann_nil _)))))) (fun v => Nat.le_of_ble_eq_true (by kernel_rfl)) (fun v => h12 C36 C12_l0 C12_l1 v)
def F39 (f39 : Int × Unit → Option (List UInt8 × Unit)) : Int × Unit → Option (List UInt8 × Unit) := fun (x0, _) =>
 bif decide (x0 < 10) then
 bif
 decide (0 ≤ IntKind.i64.wrap (x0 + 1)) &&
 decide (IntKind.i64.wrap (x0 + 1) ≤ (↑[48, 49, 50, 51, 52, 53, 54, 55, 56, 57].length : Int)) then
 bif decide (0 ≤ x0) && decide (x0 ≤ IntKind.i64.wrap (x0 + 1)) then
 some
 (List.drop x0.toNat
 (List.take (IntKind.i64.wrap (x0 + 1)).toNat [48, 49, 50, 51, 52, 53, 54, 55, 56, 57]),
 ())
 else none
 else none
 else
 (f39 (IntKind.i64.wrap (x0.tdiv 10), ())).bind fun val =>
 (f39 (x0.tmod 10, ())).bind fun val_1 =>
 bif decide (List.length val.1 + List.length val_1.1 ≤ 9223372036854775807) then
 some (val.1 ++ val_1.1, ())
 else none
theorem h39 (f39 : HS f39_ins → Option (OTy f39_outs)) (v : HS f39_ins) : afun Γ (fun f => Ae.lookA f [(39, ⟨f39_ins, f39_outs, f39⟩)]) 0 Tryz.f39.ntmps Tryz.f39.results.toList (code Tryz.f39) .nil (em id f39_ins v).1 (em id f39_ins v).2 (ofin 0 f39_outs) = F39 f39 v := by kernel_rfl
def C39 (v : Int × Unit) : Option (List UInt8 × Unit) := recN (fun G => F39 G) big v
theorem ok39 : FnOk Tryz.prog 39 ⟨f39_ins, f39_outs, C39⟩ := by
 have hC : C39 = recN (fun G => F39 G) big := funext fun v => by rw [C39]
 rw [hC]
 exact fn_rec (ins := f39_ins) (os := f39_outs) (F := fun G => F39 G) (fun G hG => fn_ok (np := 0) (n := .nil) hm hΓ (K := (fun f => Ae.lookA f [(39, ⟨f39_ins, f39_outs, G⟩)])) (kok_cons hG (kok_nil _)) Tryz.func39 (c := code Tryz.f39) (by kernel_rfl) (name_ne (by kernel_rfl))
 (ann_nil _) (fun v => Nat.le_of_ble_eq_true (by kernel_rfl)) (fun v => h39 G v)) big
def F14 (f39 : Int × Unit → Option (List UInt8 × Unit)) : Int × Unit → Option (List UInt8 × Unit) := fun (x0, _) =>
 bif decide (x0 < 100) then some ([53, 46, 48, 46, 48], ())
 else
 bif decide (x0 > 999) then some ([53, 46, 48, 46, 48], ())
 else
 (f39 (IntKind.i64.wrap (x0.tdiv 100), ())).bind fun val =>
 bif decide (List.length val.1 + [46].length ≤ 9223372036854775807) then
 (f39 ((IntKind.i64.wrap (x0.tdiv 10)).tmod 10, ())).bind fun val_1 =>
 bif decide ((val.1 ++ [46]).length + List.length val_1.1 ≤ 9223372036854775807) then
 bif decide ((val.1 ++ [46] ++ val_1.1).length + [46].length ≤ 9223372036854775807) then
 (f39 (x0.tmod 10, ())).bind fun val_2 =>
 bif
 decide
 ((val.1 ++ [46] ++ val_1.1 ++ [46]).length + List.length val_2.1 ≤
 9223372036854775807) then
 some (val.1 ++ [46] ++ val_1.1 ++ [46] ++ val_2.1, ())
 else none
 else none
 else none
 else none
theorem h14 (f39 : HS f39_ins → Option (OTy f39_outs)) (v : HS f14_ins) : afun Γ (fun f => Ae.lookA f [(39, ⟨f39_ins, f39_outs, f39⟩)]) 0 Tryz.f14.ntmps Tryz.f14.results.toList (code Tryz.f14) .nil (em id f14_ins v).1 (em id f14_ins v).2 (ofin 0 f14_outs) = F14 f39 v := by kernel_rfl
def C14 (v : Int × Unit) : Option (List UInt8 × Unit) := F14 C39 v
theorem ok14 : FnOk Tryz.prog 14 ⟨f14_ins, f14_outs, C14⟩ :=
 fn_ok (np := 0) (n := .nil) hm hΓ (K := (fun f => Ae.lookA f [(39, ⟨f39_ins, f39_outs, C39⟩)])) (kok_cons ok39 (kok_nil _)) Tryz.func14 (c := code Tryz.f14) (by kernel_rfl) (name_ne (by kernel_rfl))
 (ann_nil _) (fun v => Nat.le_of_ble_eq_true (by kernel_rfl)) (fun v => h14 C39 v)
def F3 (f8 : Unit → Option (Bool × Unit)) (f9 : List UInt8 × Unit → Option (List UInt8 × Bool × Unit)) (f10 : List UInt8 × Unit → Option (List UInt8 × Bool × Unit)) (f11 : List UInt8 × Unit → Option (List UInt8 × Unit)) (f12 : List UInt8 × Unit → Option (List UInt8 × Unit)) (f13 : Int × Unit → Option (List UInt8 × Unit)) (f14 : Int × Unit → Option (List UInt8 × Unit)) : List UInt8 × Int × Unit → Option (Bool × Unit) := fun (x0, x1, _) =>
 (f8 ()).bind fun val =>
 bif decide ((↑x0.length : Int) > 500) then some (val.1, ())
 else
 (f9 (x0, ())).bind fun val_1 =>
 (f10 (x0, ())).bind fun val_2 =>
 bif val.1 then
 (f11 (x0, ())).bind fun val =>
 (f12 (x0, ())).bind fun val_3 =>
 bif val.1 == val_3.1 then
 bif val_1.1 == val_2.1 then
 bif val_1.2.1 == val_2.2.1 then
 (f13 (x1, ())).bind fun val =>
 (f14 (x1, ())).bind fun val_4 => some (val.1 == val_4.1, ())
 else some (false, ())
 else some (false, ())
 else some (false, ())
 else some (false, ())
theorem h3 (f8 : HS f8_ins → Option (OTy f8_outs)) (f9 : HS f9_ins → Option (OTy f9_outs)) (f10 : HS f10_ins → Option (OTy f10_outs)) (f11 : HS f11_ins → Option (OTy f11_outs)) (f12 : HS f12_ins → Option (OTy f12_outs)) (f13 : HS f13_ins → Option (OTy f13_outs)) (f14 : HS f14_ins → Option (OTy f14_outs)) (v : HS f3_ins) : afun Γ (fun f => Ae.lookA f [(8, ⟨f8_ins, f8_outs, f8⟩), (9, ⟨f9_ins, f9_outs, f9⟩), (10, ⟨f10_ins, f10_outs, f10⟩), (11, ⟨f11_ins, f11_outs, f11⟩), (12, ⟨f12_ins, f12_outs, f12⟩), (13, ⟨f13_ins, f13_outs, f13⟩), (14, ⟨f14_ins, f14_outs, f14⟩)]) 0 Tryz.f3.ntmps Tryz.f3.results.toList (code Tryz.f3) .nil (em id f3_ins v).1 (em id f3_ins v).2 (ofin 0 f3_outs) = F3 f8 f9 f10 f11 f12 f13 f14 v := by kernel_rfl
def F40  : List UInt8 × List UInt8 × Unit → Option (Bool × Unit) := fun (x0, x1, _) =>
 bif decide ((↑x0.length : Int) ≤ 150) then some (decide ((↑x1.length : Int) ≤ 200), ())
 else some (false, ())
theorem h40  (v : HS f40_ins) : afun Γ (fun f => Ae.lookA f []) 0 Tryz.f40.ntmps Tryz.f40.results.toList (code Tryz.f40) .nil (em id f40_ins v).1 (em id f40_ins v).2 (ofin 0 f40_outs) = F40 v := by kernel_rfl
def C40 (v : List UInt8 × List UInt8 × Unit) : Option (Bool × Unit) := F40 v
theorem ok40 : FnOk Tryz.prog 40 ⟨f40_ins, f40_outs, C40⟩ :=
 fn_ok (np := 0) (n := .nil) hm hΓ (K := (fun f => Ae.lookA f [])) (kok_nil _) Tryz.func40 (c := code Tryz.f40) (by kernel_rfl) (name_ne (by kernel_rfl))
 (ann_nil _) (fun v => Nat.le_of_ble_eq_true (by kernel_rfl)) (fun v => h40 v)
def F15_l0 (f40 : List UInt8 × List UInt8 × Unit → Option (Bool × Unit)) : Int × Int × Bool × List UInt8 × List UInt8 × List (((Bool × (List UInt8 × List UInt8)) × (Int × (Int × (Int × Int))))) × List (List UInt8) × Bool × Bool × Bool × Int × Int × Int × Unit → Option ((Int × Int × Bool × List UInt8 × List UInt8 × List (((Bool × (List UInt8 × List UInt8)) × (Int × (Int × (Int × Int))))) × List (List UInt8) × Bool × Bool × Bool × Int × Int × Int × Unit) ⊕ ((Int × Bool × List UInt8 × List UInt8 × List (((Bool × (List UInt8 × List UInt8)) × (Int × (Int × (Int × Int))))) × List (List UInt8) × Bool × Bool × Bool × Int × Int × Int × Unit) ⊕ (Bool × Unit))) := fun (x0, x1, x2, x3, x4, x5, x6, x7, x8, x9, x10, x11, x12, _) =>
 bif decide (x0 < (↑x5.length : Int)) then
 bif decide (0 ≤ x0) && decide (x0 < (↑x5.length : Int)) then
 (f40
 ((x5.getD x0.toNat
 ((false, ([], [])), (0, (0, (0, 0))))).1.2.1,
 (x5.getD x0.toNat
 ((false, ([], [])), (0, (0, (0, 0))))).1.2.2,
 ())).bind
 fun val =>
 bif !val.1 then some (Sum.inr (Sum.inr (false, ())))
 else some (Sum.inl (IntKind.i64.wrap (x0 + 1), x1, x2, x3, x4, x5, x6, x7, x8, x9, x10, x11, x12, ()))
 else none
 else some (Sum.inr (Sum.inl (x1, x2, x3, x4, x5, x6, x7, x8, x9, x10, x11, x12, ())))
theorem h15_l0 (f40 : HS f40_ins → Option (OTy f40_outs)) (v : HS f15_l0_ins) : aev Γ (fun f => Ae.lookA f [(40, ⟨f40_ins, f40_outs, f40⟩)]) 0 (subc (code Tryz.f15) [1, 0, 1, 0, 0]) .nil (stof f15_l0_ins v) (around 0 f15_l0_ins f15_l0_outs) = F15_l0 f40 v := by kernel_rfl
def C15_l0 (v : Int × Int × Bool × List UInt8 × List UInt8 × List (((Bool × (List UInt8 × List UInt8)) × (Int × (Int × (Int × Int))))) × List (List UInt8) × Bool × Bool × Bool × Int × Int × Int × Unit) : Option ((Int × Bool × List UInt8 × List UInt8 × List (((Bool × (List UInt8 × List UInt8)) × (Int × (Int × (Int × Int))))) × List (List UInt8) × Bool × Bool × Bool × Int × Int × Int × Unit) ⊕ (Bool × Unit)) := loopN (F15_l0 C40) big v
theorem k15_l0 : FragOk Tryz.prog 0 (fun Q a w => (Code.loop (subc (code Tryz.f15) [1, 0, 1, 0, 0])).wp Tryz.prog Q a w) ⟨f15_l0_ins, f15_l0_outs, C15_l0⟩ :=
 frag_loop (ins := f15_l0_ins) (os := f15_l0_outs) (np := 0) (n := .nil) (F := F15_l0 C40) hm hΓ (K := (fun f => Ae.lookA f [(40, ⟨f40_ins, f40_outs, C40⟩)])) (kok_cons ok40 (kok_nil _)) (fun _ => big)
 (ann_nil _) (fun v => h15_l0 C40 v)
def F15 (f40 : List UInt8 × List UInt8 × Unit → Option (Bool × Unit)) (f15_l0 : Int × Int × Bool × List UInt8 × List UInt8 × List (((Bool × (List UInt8 × List UInt8)) × (Int × (Int × (Int × Int))))) × List (List UInt8) × Bool × Bool × Bool × Int × Int × Int × Unit → Option ((Int × Bool × List UInt8 × List UInt8 × List (((Bool × (List UInt8 × List UInt8)) × (Int × (Int × (Int × Int))))) × List (List UInt8) × Bool × Bool × Bool × Int × Int × Int × Unit) ⊕ (Bool × Unit))) : Int × Bool × List UInt8 × List UInt8 × List (((Bool × (List UInt8 × List UInt8)) × (Int × (Int × (Int × Int))))) × List (List UInt8) × Bool × Bool × Bool × Int × Int × Int × Unit → Option (Bool × Unit) := fun (x0, x1, x2, x3, x4, x5, x6, x7, x8, x9, x10, x11, _) =>
 (f15_l0 (0, x0, x1, x2, x3, x4, x5, x6, x7, x8, x9, x10, x11, ())).bind fun val =>
 Sum.elim
 (fun val =>
 (f40 (val.2.2.1, val.2.2.2.1, ())).bind fun val_1 =>
 bif val_1.1 then some (decide ((↑(List.length val.2.2.2.2.1) : Int) ≤ 120), ())
 else some (false, ()))
 (fun val => some (val.1, ())) val
theorem h15 (f40 : HS f40_ins → Option (OTy f40_outs)) (f15_l0 : HS f15_l0_ins → Option (OTy f15_l0_outs)) (v : HS f15_ins) : afun Γ (fun f => Ae.lookA f [(40, ⟨f40_ins, f40_outs, f40⟩)]) 0 Tryz.f15.ntmps Tryz.f15.results.toList (code Tryz.f15) (.seq .nil (.seq (.seq .nil (.blk (.loop ⟨f15_l0_ins, f15_l0_outs, f15_l0⟩))) .nil)) (em id f15_ins v).1 (em id f15_ins v).2 (ofin 0 f15_outs) = F15 f40 f15_l0 v := by kernel_rfl
def C15 (v : Int × Bool × List UInt8 × List UInt8 × List (((Bool × (List UInt8 × List UInt8)) × (Int × (Int × (Int × Int))))) × List (List UInt8) × Bool × Bool × Bool × Int × Int × Int × Unit) : Option (Bool × Unit) := F15 C40 C15_l0 v
theorem ok15 : FnOk Tryz.prog 15 ⟨f15_ins, f15_outs, C15⟩ :=
 fn_ok (np := 0) (n := (.seq .nil (.seq (.seq .nil (.blk (.loop ⟨f15_l0_ins, f15_l0_outs, C15_l0⟩))) .nil))) hm hΓ (K := (fun f => Ae.lookA f [(40, ⟨f40_ins, f40_outs, C40⟩)])) (kok_cons ok40 (kok_nil _)) Tryz.func15 (c := code Tryz.f15) (by kernel_rfl) (name_ne (by kernel_rfl))
 (ann_seq (a := (subc (code Tryz.f15) [0])) (b := (subc (code Tryz.f15) [1])) (by kernel_rfl) (ann_nil _) (ann_seq (a := (subc (code Tryz.f15) [1, 0])) (b := (subc (code Tryz.f15) [1, 1])) (by kernel_rfl) (ann_seq (a := (subc (code Tryz.f15) [1, 0, 0])) (b := (subc (code Tryz.f15) [1, 0, 1])) (by kernel_rfl) (ann_nil _) (ann_blk (x := (subc (code Tryz.f15) [1, 0, 1, 0])) (by kernel_rfl) (ann_loop (x := (subc (code Tryz.f15) [1, 0, 1, 0, 0])) (by kernel_rfl) k15_l0))) (ann_nil _))) (fun v => Nat.le_of_ble_eq_true (by kernel_rfl)) (fun v => h15 C40 C15_l0 v)
def F43 (f43 : Int × Unit → Option (List UInt8 × Unit)) : Int × Unit → Option (List UInt8 × Unit) := fun (x0, _) =>
 bif decide (x0 < 10) then
 bif
 decide (0 ≤ IntKind.u64.wrap (x0 + 1)) &&
 decide (IntKind.u64.wrap (x0 + 1) ≤ (↑[48, 49, 50, 51, 52, 53, 54, 55, 56, 57].length : Int)) then
 bif decide (0 ≤ x0) && decide (x0 ≤ IntKind.u64.wrap (x0 + 1)) then
 some
 (List.drop x0.toNat
 (List.take (IntKind.u64.wrap (x0 + 1)).toNat [48, 49, 50, 51, 52, 53, 54, 55, 56, 57]),
 ())
 else none
 else none
 else
 (f43 (IntKind.u64.wrap (x0.tdiv 10), ())).bind fun val =>
 (f43 (x0.tmod 10, ())).bind fun val_1 =>
 bif decide (List.length val.1 + List.length val_1.1 ≤ 9223372036854775807) then
 some (val.1 ++ val_1.1, ())
 else none
theorem h43 (f43 : HS f43_ins → Option (OTy f43_outs)) (v : HS f43_ins) : afun Γ (fun f => Ae.lookA f [(43, ⟨f43_ins, f43_outs, f43⟩)]) 0 Tryz.f43.ntmps Tryz.f43.results.toList (code Tryz.f43) .nil (em id f43_ins v).1 (em id f43_ins v).2 (ofin 0 f43_outs) = F43 f43 v := by kernel_rfl
def C43 (v : Int × Unit) : Option (List UInt8 × Unit) := recN (fun G => F43 G) big v
theorem ok43 : FnOk Tryz.prog 43 ⟨f43_ins, f43_outs, C43⟩ := by
 have hC : C43 = recN (fun G => F43 G) big := funext fun v => by rw [C43]
 rw [hC]
 exact fn_rec (ins := f43_ins) (os := f43_outs) (F := fun G => F43 G) (fun G hG => fn_ok (np := 0) (n := .nil) hm hΓ (K := (fun f => Ae.lookA f [(43, ⟨f43_ins, f43_outs, G⟩)])) (kok_cons hG (kok_nil _)) Tryz.func43 (c := code Tryz.f43) (by kernel_rfl) (name_ne (by kernel_rfl))
 (ann_nil _) (fun v => Nat.le_of_ble_eq_true (by kernel_rfl)) (fun v => h43 G v)) big
def F76 (f102 : List UInt8 × Unit → Option (List UInt8 × Unit)) : Bool × List UInt8 × List UInt8 × Unit → Option (Bool × Unit) := fun (x0, x1, x2, _) =>
 bif !x0 then
 bif x2 == [] then
 (f102 (x1, ())).bind fun val =>
 some (val.1 == [112, 111, 115, 116, 109, 97, 115, 116, 101, 114], ())
 else some (false, ())
 else some (false, ())
theorem h76 (f102 : HS f102_ins → Option (OTy f102_outs)) (v : HS f76_ins) : afun Γ (fun f => Ae.lookA f [(102, ⟨f102_ins, f102_outs, f102⟩)]) 0 Tryz.f76.ntmps Tryz.f76.results.toList (code Tryz.f76) .nil (em id f76_ins v).1 (em id f76_ins v).2 (ofin 0 f76_outs) = F76 f102 v := by kernel_rfl
def C76 (v : Bool × List UInt8 × List UInt8 × Unit) : Option (Bool × Unit) := F76 C102 v
theorem ok76 : FnOk Tryz.prog 76 ⟨f76_ins, f76_outs, C76⟩ :=
 fn_ok (np := 0) (n := .nil) hm hΓ (K := (fun f => Ae.lookA f [(102, ⟨f102_ins, f102_outs, C102⟩)])) (kok_cons ok102 (kok_nil _)) Tryz.func76 (c := code Tryz.f76) (by kernel_rfl) (name_ne (by kernel_rfl))
 (ann_nil _) (fun v => Nat.le_of_ble_eq_true (by kernel_rfl)) (fun v => h76 C102 v)
end Go.Proofs.YtmfcepdbpdihgaaGreatDoor.W
