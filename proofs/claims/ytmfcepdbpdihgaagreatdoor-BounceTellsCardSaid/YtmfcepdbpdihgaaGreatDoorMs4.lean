/- The texts of the proof, one behind the other: W3, W4, W5, W6, W7, W8, PUtf, PEnc, PEnc2, PHex, PStat, PEsc. -/
import Derived.Test.YtmfcepdbpdihgaaGreatDoorMs3
import Derived.Test.YtmfcepdbpdihgaaGreatDoorMs2
set_option maxRecDepth 100000
set_option linter.unusedVariables false
namespace Go.Proofs.YtmfcepdbpdihgaaGreatDoor.W
open Go Go.Ae
def F21_l1 (f57 : Int × Unit → Option (Int × Int × Unit)) (f58 : Int × Unit → Option (Int × Unit)) (f21_l0 : List UInt8 × Int × Int × Int × Int × List (Int) × Unit → Option ((List UInt8 × Int × Int × Int × List (Int) × Unit) ⊕ (Int × List (Int) × Unit))) : List UInt8 × Int × List (Int) × Unit → Option ((List UInt8 × Int × List (Int) × Unit) ⊕ ((List (Int) × Unit) ⊕ (Int × List (Int) × Unit))) := fun (x0, x1, x2, _) =>
 bif decide (x1 < (↑x0.length : Int)) then
 bif decide (0 ≤ x1) && decide (x1 < (↑x0.length : Int)) then
 (f57 ((↑(x0.getD x1.toNat 0).toNat : Int), ())).bind fun val =>
 bif decide (val.1 < 0) then some (Sum.inr (Sum.inr (x1, x2, ())))
 else
 bif decide (IntKind.i64.wrap ((↑x0.length : Int) - x1) ≤ val.1) then
 some (Sum.inr (Sum.inr (x1, x2, ())))
 else
 (f21_l0 (x0, val.1, val.2.1, x1, IntKind.i64.wrap (x1 + 1), x2, ())).bind fun val =>
 Sum.elim
 (fun val =>
 (f58 (val.2.2.1, ())).bind fun val_1 =>
 bif val_1.1 != IntKind.i64.wrap (val.2.1 + 1) then
 some (Sum.inr (Sum.inr (val.2.2.2.1, val.2.2.2.2.1, ())))
 else
 bif
 decide
 (List.length val.2.2.2.2.1 + [val.2.2.1].length ≤ 140737488355328 / 4) then
 some
 (Sum.inl
 (val.1, IntKind.i64.wrap (val.2.2.2.1 + IntKind.i64.wrap (val.2.1 + 1)),
 val.2.2.2.2.1 ++ [val.2.2.1], ()))
 else none)
 (fun val => some (Sum.inr (Sum.inr (val.1, val.2.1, ())))) val
 else none
 else some (Sum.inr (Sum.inl (x2, ())))
theorem h21_l1 (f57 : HS f57_ins → Option (OTy f57_outs)) (f58 : HS f58_ins → Option (OTy f58_outs)) (f21_l0 : HS f21_l0_ins → Option (OTy f21_l0_outs)) (v : HS f21_l1_ins) : aev Γ (fun f => Ae.lookA f [(57, ⟨f57_ins, f57_outs, f57⟩), (58, ⟨f58_ins, f58_outs, f58⟩)]) 0 (subc (code Tryz.f21) [1, 0, 1, 1, 1, 1, 0, 0, 0]) (.seq .nil (.blk (.seq .nil (.seq .nil (.seq (.seq .nil (.blk (.loop ⟨f21_l0_ins, f21_l0_outs, f21_l0⟩))) .nil))))) (stof f21_l1_ins v) (around 0 f21_l1_ins f21_l1_outs) = F21_l1 f57 f58 f21_l0 v := by kernel_rfl
def C21_l1 (v : List UInt8 × Int × List (Int) × Unit) : Option ((List (Int) × Unit) ⊕ (Int × List (Int) × Unit)) := loopN (F21_l1 C57 C58 C21_l0) big v
theorem k21_l1 : FragOk Tryz.prog 0 (fun Q a w => (Code.loop (subc (code Tryz.f21) [1, 0, 1, 1, 1, 1, 0, 0, 0])).wp Tryz.prog Q a w) ⟨f21_l1_ins, f21_l1_outs, C21_l1⟩ :=
 frag_loop (ins := f21_l1_ins) (os := f21_l1_outs) (np := 0) (n := (.seq .nil (.blk (.seq .nil (.seq .nil (.seq (.seq .nil (.blk (.loop ⟨f21_l0_ins, f21_l0_outs, C21_l0⟩))) .nil)))))) (F := F21_l1 C57 C58 C21_l0) hm hΓ (K := (fun f => Ae.lookA f [(57, ⟨f57_ins, f57_outs, C57⟩), (58, ⟨f58_ins, f58_outs, C58⟩)])) (kok_cons ok57 (kok_cons ok58 (kok_nil _))) (fun _ => big)
 (ann_seq (a := (subc (code Tryz.f21) [1, 0, 1, 1, 1, 1, 0, 0, 0, 0])) (b := (subc (code Tryz.f21) [1, 0, 1, 1, 1, 1, 0, 0, 0, 1])) (by kernel_rfl) (ann_nil _) (ann_blk (x := (subc (code Tryz.f21) [1, 0, 1, 1, 1, 1, 0, 0, 0, 1, 0])) (by kernel_rfl) (ann_seq (a := (subc (code Tryz.f21) [1, 0, 1, 1, 1, 1, 0, 0, 0, 1, 0, 0])) (b := (subc (code Tryz.f21) [1, 0, 1, 1, 1, 1, 0, 0, 0, 1, 0, 1])) (by kernel_rfl) (ann_nil _) (ann_seq (a := (subc (code Tryz.f21) [1, 0, 1, 1, 1, 1, 0, 0, 0, 1, 0, 1, 0])) (b := (subc (code Tryz.f21) [1, 0, 1, 1, 1, 1, 0, 0, 0, 1, 0, 1, 1])) (by kernel_rfl) (ann_nil _) (ann_seq (a := (subc (code Tryz.f21) [1, 0, 1, 1, 1, 1, 0, 0, 0, 1, 0, 1, 1, 0])) (b := (subc (code Tryz.f21) [1, 0, 1, 1, 1, 1, 0, 0, 0, 1, 0, 1, 1, 1])) (by kernel_rfl) (ann_seq (a := (subc (code Tryz.f21) [1, 0, 1, 1, 1, 1, 0, 0, 0, 1, 0, 1, 1, 0, 0])) (b := (subc (code Tryz.f21) [1, 0, 1, 1, 1, 1, 0, 0, 0, 1, 0, 1, 1, 0, 1])) (by kernel_rfl) (ann_nil _) (ann_blk (x := (subc (code Tryz.f21) [1, 0, 1, 1, 1, 1, 0, 0, 0, 1, 0, 1, 1, 0, 1, 0])) (by kernel_rfl) (ann_loop (x := (subc (code Tryz.f21) [1, 0, 1, 1, 1, 1, 0, 0, 0, 1, 0, 1, 1, 0, 1, 0, 0])) (by kernel_rfl) k21_l0))) (ann_nil _)))))) (fun v => h21_l1 C57 C58 C21_l0 v)
def F21_g0  : Int × List (Int) × Unit → Option ((Int × List (Int) × Unit) ⊕ (Int × List (Int) × Unit)) := fun (x0, x1, _) =>
 some (Sum.inr (x0, x1, ()))
theorem h21_g0  (v : HS f21_g0_ins) : aev Γ (fun f => Ae.lookA f []) 0 ((findLabel (subc (code Tryz.f21) [1, 0]) 0).getD .skip) .nil (stof f21_g0_ins v) (aroundL 0 0 [] f21_g0_ins f21_g0_outs) = F21_g0 v := by kernel_rfl
def C21_g0 (v : Int × List (Int) × Unit) : Option (Int × List (Int) × Unit) := loopN (F21_g0) big v
theorem k21_g0 : FragOk Tryz.prog 0 (ScopeFrom Tryz.prog (subc (code Tryz.f21) [1, 0]) 0) ⟨f21_g0_ins, f21_g0_outs, C21_g0⟩ :=
 frag_label (ins := f21_g0_ins) (os := f21_g0_outs) (np := 0) (n := .nil) (ls := []) (F := F21_g0) (rest := (findLabel (subc (code Tryz.f21) [1, 0]) 0).getD .skip) hm hΓ (K := (fun f => Ae.lookA f [])) (kok_nil _) (fun _ => big) (by kernel_rfl)
 (ann_nil _) find_nil (fun v => h21_g0 v)
def F21 (f21_g0 : Int × List (Int) × Unit → Option (Int × List (Int) × Unit)) (f21_l1 : List UInt8 × Int × List (Int) × Unit → Option ((List (Int) × Unit) ⊕ (Int × List (Int) × Unit))) : List UInt8 × Unit → Option (List (Int) × Int × Unit) := fun (x0, _) =>
 (f21_l1 (x0, 0, [], ())).bind fun val =>
 Sum.elim (fun val => some (val.1, -1, ()))
 (fun val => (f21_g0 (val.1, val.2.1, ())).bind fun val => some (val.2.1, val.1, ())) val
theorem h21 (f21_g0 : HS f21_g0_ins → Option (OTy f21_g0_outs)) (f21_l1 : HS f21_l1_ins → Option (OTy f21_l1_outs)) (v : HS f21_ins) : afun Γ (fun f => Ae.lookA f []) 0 Tryz.f21.ntmps Tryz.f21.results.toList (code Tryz.f21) (.seq .nil (.scope (.seq .nil (.seq .nil (.seq .nil (.seq .nil (.seq (.blk (.loop ⟨f21_l1_ins, f21_l1_outs, f21_l1⟩)) .nil))))) [(0, ⟨f21_g0_ins, f21_g0_outs, f21_g0⟩)])) (em id f21_ins v).1 (em id f21_ins v).2 (ofin 0 f21_outs) = F21 f21_g0 f21_l1 v := by kernel_rfl
def C21 (v : List UInt8 × Unit) : Option (List (Int) × Int × Unit) := F21 C21_g0 C21_l1 v
theorem ok21 : FnOk Tryz.prog 21 ⟨f21_ins, f21_outs, C21⟩ :=
 fn_ok (np := 0) (n := (.seq .nil (.scope (.seq .nil (.seq .nil (.seq .nil (.seq .nil (.seq (.blk (.loop ⟨f21_l1_ins, f21_l1_outs, C21_l1⟩)) .nil))))) [(0, ⟨f21_g0_ins, f21_g0_outs, C21_g0⟩)]))) hm hΓ (K := (fun f => Ae.lookA f [])) (kok_nil _) Tryz.func21 (c := code Tryz.f21) (by kernel_rfl) (name_ne (by kernel_rfl))
 (ann_seq (a := (subc (code Tryz.f21) [0])) (b := (subc (code Tryz.f21) [1])) (by kernel_rfl) (ann_nil _) (ann_scope (x := (subc (code Tryz.f21) [1, 0])) (by kernel_rfl) (ann_seq (a := (subc (code Tryz.f21) [1, 0, 0])) (b := (subc (code Tryz.f21) [1, 0, 1])) (by kernel_rfl) (ann_nil _) (ann_seq (a := (subc (code Tryz.f21) [1, 0, 1, 0])) (b := (subc (code Tryz.f21) [1, 0, 1, 1])) (by kernel_rfl) (ann_nil _) (ann_seq (a := (subc (code Tryz.f21) [1, 0, 1, 1, 0])) (b := (subc (code Tryz.f21) [1, 0, 1, 1, 1])) (by kernel_rfl) (ann_nil _) (ann_seq (a := (subc (code Tryz.f21) [1, 0, 1, 1, 1, 0])) (b := (subc (code Tryz.f21) [1, 0, 1, 1, 1, 1])) (by kernel_rfl) (ann_nil _) (ann_seq (a := (subc (code Tryz.f21) [1, 0, 1, 1, 1, 1, 0])) (b := (subc (code Tryz.f21) [1, 0, 1, 1, 1, 1, 1])) (by kernel_rfl) (ann_blk (x := (subc (code Tryz.f21) [1, 0, 1, 1, 1, 1, 0, 0])) (by kernel_rfl) (ann_loop (x := (subc (code Tryz.f21) [1, 0, 1, 1, 1, 1, 0, 0, 0])) (by kernel_rfl) k21_l1)) (ann_nil _)))))) (find_cons k21_g0 find_nil))) (fun v => Nat.le_of_ble_eq_true (by kernel_rfl)) (fun v => h21 C21_g0 C21_l1 v)
def F32 (f66 : List (UInt8) × Unit → Option (List (UInt8) × Unit)) : Int × List UInt8 × Unit → Option (List UInt8 × Unit) := fun (x0, x1, _) =>
 (f66 (x1, ())).bind fun val =>
 bif decide (List.length val.1 + [UInt8.ofNat x0.toNat].length ≤ 140737488355328 / 1) then
 some (val.1 ++ [UInt8.ofNat x0.toNat], ())
 else none
theorem h32 (f66 : HS f66_ins → Option (OTy f66_outs)) (v : HS f32_ins) : afun Γ (fun f => Ae.lookA f [(66, ⟨f66_ins, f66_outs, f66⟩)]) 2 Tryz.f32.ntmps Tryz.f32.results.toList (code Tryz.f32) .nil (em id f32_ins v).1 (em id f32_ins v).2 (ofin 2 f32_outs) = F32 f66 v := by kernel_rfl
def C32 (v : Int × List UInt8 × Unit) : Option (List UInt8 × Unit) := F32 C66 v
theorem ok32 : FnOk Tryz.prog 32 ⟨f32_ins, f32_outs, C32⟩ :=
 fn_ok (np := 2) (n := .nil) hm hΓ (K := (fun f => Ae.lookA f [(66, ⟨f66_ins, f66_outs, C66⟩)])) (kok_cons ok66 (kok_nil _)) Tryz.func32 (c := code Tryz.f32) (by kernel_rfl) (name_ne (by kernel_rfl))
 (ann_nil _) (fun v => Nat.le_of_ble_eq_true (by kernel_rfl)) (fun v => h32 C66 v)
def F33 (f66 : List (UInt8) × Unit → Option (List (UInt8) × Unit)) : List UInt8 × List UInt8 × Unit → Option (Int × List UInt8 × Unit) := fun (x0, x1, _) =>
 (f66 (x1, ())).bind fun val =>
 bif decide (List.length val.1 + x0.length ≤ 140737488355328 / 1) then
 some ((↑x0.length : Int), val.1 ++ x0, ())
 else none
theorem h33 (f66 : HS f66_ins → Option (OTy f66_outs)) (v : HS f33_ins) : afun Γ (fun f => Ae.lookA f [(66, ⟨f66_ins, f66_outs, f66⟩)]) 2 Tryz.f33.ntmps Tryz.f33.results.toList (code Tryz.f33) .nil (em id f33_ins v).1 (em id f33_ins v).2 (ofin 2 f33_outs) = F33 f66 v := by kernel_rfl
def C33 (v : List UInt8 × List UInt8 × Unit) : Option (Int × List UInt8 × Unit) := F33 C66 v
theorem ok33 : FnOk Tryz.prog 33 ⟨f33_ins, f33_outs, C33⟩ :=
 fn_ok (np := 2) (n := .nil) hm hΓ (K := (fun f => Ae.lookA f [(66, ⟨f66_ins, f66_outs, C66⟩)])) (kok_cons ok66 (kok_nil _)) Tryz.func33 (c := code Tryz.f33) (by kernel_rfl) (name_ne (by kernel_rfl))
 (ann_nil _) (fun v => Nat.le_of_ble_eq_true (by kernel_rfl)) (fun v => h33 C66 v)
def F11_l0 (f24 : Int × Unit → Option (Bool × Unit)) (f32 : Int × List UInt8 × Unit → Option (List UInt8 × Unit)) (f33 : List UInt8 × List UInt8 × Unit → Option (Int × List UInt8 × Unit)) (f34 : Int × Unit → Option (List UInt8 × Unit)) : List UInt8 × Int × List (Int) × Int × Int × List UInt8 × Unit → Option ((List UInt8 × Int × List (Int) × Int × Int × List UInt8 × Unit) ⊕ (List UInt8 × Int × List UInt8 × Unit)) := fun (x0, x1, x2, x3, x4, x5, _) =>
 bif decide (x4 < x3) then
 bif decide (0 ≤ x4) && decide (x4 < (↑x2.length : Int)) then
 (f24 (x2.getD x4.toNat 0, ())).bind fun val =>
 bif val.1 then
 (f32 (IntKind.u8.wrap (x2.getD x4.toNat 0), x5, ())).bind fun val =>
 some (Sum.inl (x0, x1, x2, x3, IntKind.i64.wrap (x4 + 1), val.1, ()))
 else
 (f34 (IntKind.i64.wrap (x2.getD x4.toNat 0), ())).bind fun val =>
 bif decide ([92, 120, 123].length + List.length val.1 ≤ 9223372036854775807) then
 bif decide (([92, 120, 123] ++ val.1).length + [125].length ≤ 9223372036854775807) then
 (f33 ([92, 120, 123] ++ val.1 ++ [125], x5, ())).bind fun val =>
 some (Sum.inl (x0, x1, x2, x3, IntKind.i64.wrap (x4 + 1), val.2.1, ()))
 else none
 else none
 else none
 else some (Sum.inr (x0, x1, x5, ()))
theorem h11_l0 (f24 : HS f24_ins → Option (OTy f24_outs)) (f32 : HS f32_ins → Option (OTy f32_outs)) (f33 : HS f33_ins → Option (OTy f33_outs)) (f34 : HS f34_ins → Option (OTy f34_outs)) (v : HS f11_l0_ins) : aev Γ (fun f => Ae.lookA f [(24, ⟨f24_ins, f24_outs, f24⟩), (32, ⟨f32_ins, f32_outs, f32⟩), (33, ⟨f33_ins, f33_outs, f33⟩), (34, ⟨f34_ins, f34_outs, f34⟩)]) 0 (subc (code Tryz.f11) [1, 1, 1, 0, 1, 0, 0]) .nil (stof f11_l0_ins v) (around 0 f11_l0_ins f11_l0_outs) = F11_l0 f24 f32 f33 f34 v := by kernel_rfl
def C11_l0 (v : List UInt8 × Int × List (Int) × Int × Int × List UInt8 × Unit) : Option (List UInt8 × Int × List UInt8 × Unit) := loopN (F11_l0 C24 C32 C33 C34) big v
theorem k11_l0 : FragOk Tryz.prog 0 (fun Q a w => (Code.loop (subc (code Tryz.f11) [1, 1, 1, 0, 1, 0, 0])).wp Tryz.prog Q a w) ⟨f11_l0_ins, f11_l0_outs, C11_l0⟩ :=
 frag_loop (ins := f11_l0_ins) (os := f11_l0_outs) (np := 0) (n := .nil) (F := F11_l0 C24 C32 C33 C34) hm hΓ (K := (fun f => Ae.lookA f [(24, ⟨f24_ins, f24_outs, C24⟩), (32, ⟨f32_ins, f32_outs, C32⟩), (33, ⟨f33_ins, f33_outs, C33⟩), (34, ⟨f34_ins, f34_outs, C34⟩)])) (kok_cons ok24 (kok_cons ok32 (kok_cons ok33 (kok_cons ok34 (kok_nil _))))) (fun _ => big)
 (ann_nil _) (fun v => h11_l0 C24 C32 C33 C34 v)
def F11_l1 (f33 : List UInt8 × List UInt8 × Unit → Option (Int × List UInt8 × Unit)) (f34 : Int × Unit → Option (List UInt8 × Unit)) : List UInt8 × Int × Int × List UInt8 × Unit → Option ((List UInt8 × Int × Int × List UInt8 × Unit) ⊕ (List UInt8 × Unit)) := fun (x0, x1, x2, x3, _) =>
 bif decide (x2 < x1) then
 bif decide (0 ≤ x2) && decide (x2 < (↑x0.length : Int)) then
 (f34 (IntKind.i64.wrap (↑(UInt8.toNat (x0.getD x2.toNat 0)) : Int), ())).bind fun val =>
 bif decide ([92, 120, 123, 48, 48].length + List.length val.1 ≤ 9223372036854775807) then
 bif
 decide
 (([92, 120, 123, 48, 48] ++ val.1).length + [125].length ≤ 9223372036854775807) then
 (f33 ([92, 120, 123, 48, 48] ++ val.1 ++ [125], x3, ())).bind fun val =>
 some (Sum.inl (x0, x1, IntKind.i64.wrap (x2 + 1), val.2.1, ()))
 else none
 else none
 else none
 else some (Sum.inr (x3, ()))
theorem h11_l1 (f33 : HS f33_ins → Option (OTy f33_outs)) (f34 : HS f34_ins → Option (OTy f34_outs)) (v : HS f11_l1_ins) : aev Γ (fun f => Ae.lookA f [(33, ⟨f33_ins, f33_outs, f33⟩), (34, ⟨f34_ins, f34_outs, f34⟩)]) 0 (subc (code Tryz.f11) [1, 1, 1, 1, 0, 1, 0, 1, 0, 0]) .nil (stof f11_l1_ins v) (around 0 f11_l1_ins f11_l1_outs) = F11_l1 f33 f34 v := by kernel_rfl
def C11_l1 (v : List UInt8 × Int × Int × List UInt8 × Unit) : Option (List UInt8 × Unit) := loopN (F11_l1 C33 C34) big v
theorem k11_l1 : FragOk Tryz.prog 0 (fun Q a w => (Code.loop (subc (code Tryz.f11) [1, 1, 1, 1, 0, 1, 0, 1, 0, 0])).wp Tryz.prog Q a w) ⟨f11_l1_ins, f11_l1_outs, C11_l1⟩ :=
 frag_loop (ins := f11_l1_ins) (os := f11_l1_outs) (np := 0) (n := .nil) (F := F11_l1 C33 C34) hm hΓ (K := (fun f => Ae.lookA f [(33, ⟨f33_ins, f33_outs, C33⟩), (34, ⟨f34_ins, f34_outs, C34⟩)])) (kok_cons ok33 (kok_cons ok34 (kok_nil _))) (fun _ => big)
 (ann_nil _) (fun v => h11_l1 C33 C34 v)
def F11 (f21 : List UInt8 × Unit → Option (List (Int) × Int × Unit)) (f35 : List (UInt8) × Unit → Option (List UInt8 × Unit)) (f11_l0 : List UInt8 × Int × List (Int) × Int × Int × List UInt8 × Unit → Option (List UInt8 × Int × List UInt8 × Unit)) (f11_l1 : List UInt8 × Int × Int × List UInt8 × Unit → Option (List UInt8 × Unit)) : List UInt8 × Unit → Option (List UInt8 × Unit) := fun (x0, _) =>
 (f21 (x0, ())).bind fun val =>
 (f11_l0 (x0, val.2.1, val.1, (↑(List.length val.1) : Int), 0, [], ())).bind fun val =>
 bif decide (val.2.1 ≥ 0) then
 bif decide (0 ≤ val.2.1) && decide (val.2.1 ≤ (↑(List.length val.1) : Int)) then
 bif decide ((List.drop (Int.toNat val.2.1) val.1).length ≤ 9223372036854775807) then
 (f11_l1
 (List.drop (Int.toNat val.2.1) val.1, (↑(List.drop (Int.toNat val.2.1) val.1).length : Int),
 0, val.2.2.1, ())).bind
 fun val => (f35 (val.1, ())).bind fun val => some (val.1, ())
 else none
 else none
 else (f35 (val.2.2.1, ())).bind fun val => some (val.1, ())
theorem h11 (f21 : HS f21_ins → Option (OTy f21_outs)) (f35 : HS f35_ins → Option (OTy f35_outs)) (f11_l0 : HS f11_l0_ins → Option (OTy f11_l0_outs)) (f11_l1 : HS f11_l1_ins → Option (OTy f11_l1_outs)) (v : HS f11_ins) : afun Γ (fun f => Ae.lookA f [(21, ⟨f21_ins, f21_outs, f21⟩), (35, ⟨f35_ins, f35_outs, f35⟩)]) 0 Tryz.f11.ntmps Tryz.f11.results.toList (code Tryz.f11) (.seq .nil (.seq .nil (.seq .nil (.seq (.seq .nil (.blk (.loop ⟨f11_l0_ins, f11_l0_outs, f11_l0⟩))) (.seq (.seq .nil (.cond (.seq .nil (.blk (.loop ⟨f11_l1_ins, f11_l1_outs, f11_l1⟩))) .nil)) .nil))))) (em id f11_ins v).1 (em id f11_ins v).2 (ofin 0 f11_outs) = F11 f21 f35 f11_l0 f11_l1 v := by kernel_rfl
def C11 (v : List UInt8 × Unit) : Option (List UInt8 × Unit) := F11 C21 C35 C11_l0 C11_l1 v
theorem ok11 : FnOk Tryz.prog 11 ⟨f11_ins, f11_outs, C11⟩ :=
 fn_ok (np := 0) (n := (.seq .nil (.seq .nil (.seq .nil (.seq (.seq .nil (.blk (.loop ⟨f11_l0_ins, f11_l0_outs, C11_l0⟩))) (.seq (.seq .nil (.cond (.seq .nil (.blk (.loop ⟨f11_l1_ins, f11_l1_outs, C11_l1⟩))) .nil)) .nil)))))) hm hΓ (K := (fun f => Ae.lookA f [(21, ⟨f21_ins, f21_outs, C21⟩), (35, ⟨f35_ins, f35_outs, C35⟩)])) (kok_cons ok21 (kok_cons ok35 (kok_nil _))) Tryz.func11 (c := code Tryz.f11) (by kernel_rfl) (name_ne (by kernel_rfl))
 (ann_seq (a := (subc (code Tryz.f11) [0])) (b := (subc (code Tryz.f11) [1])) (by kernel_rfl) (ann_nil _) (ann_seq (a := (subc (code Tryz.f11) [1, 0])) (b := (subc (code Tryz.f11) [1, 1])) (by kernel_rfl) (ann_nil _) (ann_seq (a := (subc (code Tryz.f11) [1, 1, 0])) (b := (subc (code Tryz.f11) [1, 1, 1])) (by kernel_rfl) (ann_nil _) (ann_seq (a := (subc (code Tryz.f11) [1, 1, 1, 0])) (b := (subc (code Tryz.f11) [1, 1, 1, 1])) (by kernel_rfl) (ann_seq (a := (subc (code Tryz.f11) [1, 1, 1, 0, 0])) (b := (subc (code Tryz.f11) [1, 1, 1, 0, 1])) (by kernel_rfl) (ann_nil _) (ann_blk (x := (subc (code Tryz.f11) [1, 1, 1, 0, 1, 0])) (by kernel_rfl) (ann_loop (x := (subc (code Tryz.f11) [1, 1, 1, 0, 1, 0, 0])) (by kernel_rfl) k11_l0))) (ann_seq (a := (subc (code Tryz.f11) [1, 1, 1, 1, 0])) (b := (subc (code Tryz.f11) [1, 1, 1, 1, 1])) (by kernel_rfl) (ann_seq (a := (subc (code Tryz.f11) [1, 1, 1, 1, 0, 0])) (b := (subc (code Tryz.f11) [1, 1, 1, 1, 0, 1])) (by kernel_rfl) (ann_nil _) (ann_cond (x := (subc (code Tryz.f11) [1, 1, 1, 1, 0, 1, 0])) (y := (subc (code Tryz.f11) [1, 1, 1, 1, 0, 1, 1])) (by kernel_rfl) (ann_seq (a := (subc (code Tryz.f11) [1, 1, 1, 1, 0, 1, 0, 0])) (b := (subc (code Tryz.f11) [1, 1, 1, 1, 0, 1, 0, 1])) (by kernel_rfl) (ann_nil _) (ann_blk (x := (subc (code Tryz.f11) [1, 1, 1, 1, 0, 1, 0, 1, 0])) (by kernel_rfl) (ann_loop (x := (subc (code Tryz.f11) [1, 1, 1, 1, 0, 1, 0, 1, 0, 0])) (by kernel_rfl) k11_l1))) (ann_nil _))) (ann_nil _)))))) (fun v => Nat.le_of_ble_eq_true (by kernel_rfl)) (fun v => h11 C21 C35 C11_l0 C11_l1 v)
def F111  : Int × Unit → Option (Int × Unit) := fun (x0, _) =>
 bif decide (x0 ≥ 65) then
 bif decide (x0 ≤ 90) then some (IntKind.u8.wrap (IntKind.u8.wrap (x0 - 65) + 97), ())
 else some (x0, ())
 else some (x0, ())
theorem h111  (v : HS f111_ins) : afun Γ (fun f => Ae.lookA f []) 0 Tryz.f111.ntmps Tryz.f111.results.toList (code Tryz.f111) .nil (em id f111_ins v).1 (em id f111_ins v).2 (ofin 0 f111_outs) = F111 v := by kernel_rfl
def C111 (v : Int × Unit) : Option (Int × Unit) := F111 v
theorem ok111 : FnOk Tryz.prog 111 ⟨f111_ins, f111_outs, C111⟩ :=
 fn_ok (np := 0) (n := .nil) hm hΓ (K := (fun f => Ae.lookA f [])) (kok_nil _) Tryz.func111 (c := code Tryz.f111) (by kernel_rfl) (name_ne (by kernel_rfl))
 (ann_nil _) (fun v => Nat.le_of_ble_eq_true (by kernel_rfl)) (fun v => h111 v)
def F110_l0 (f111 : Int × Unit → Option (Int × Unit)) : List UInt8 × Int × Int × List UInt8 × Unit → Option ((List UInt8 × Int × Int × List UInt8 × Unit) ⊕ (List UInt8 × Unit)) := fun (x0, x1, x2, x3, _) =>
 bif decide (x2 < x1) then
 bif decide (0 ≤ x2) && decide (x2 < (↑x0.length : Int)) then
 (f111 ((↑(UInt8.toNat (x0.getD x2.toNat 0)) : Int), ())).bind fun val =>
 bif decide (x3.length + [UInt8.ofNat (Int.toNat val.1)].length ≤ 140737488355328 / 1) then
 some (Sum.inl (x0, x1, IntKind.i64.wrap (x2 + 1), x3 ++ [UInt8.ofNat (Int.toNat val.1)], ()))
 else none
 else none
 else some (Sum.inr (x3, ()))
theorem h110_l0 (f111 : HS f111_ins → Option (OTy f111_outs)) (v : HS f110_l0_ins) : aev Γ (fun f => Ae.lookA f [(111, ⟨f111_ins, f111_outs, f111⟩)]) 0 (subc (code Tryz.f110) [1, 1, 0, 1, 0, 0]) .nil (stof f110_l0_ins v) (around 0 f110_l0_ins f110_l0_outs) = F110_l0 f111 v := by kernel_rfl
def C110_l0 (v : List UInt8 × Int × Int × List UInt8 × Unit) : Option (List UInt8 × Unit) := loopN (F110_l0 C111) big v
theorem k110_l0 : FragOk Tryz.prog 0 (fun Q a w => (Code.loop (subc (code Tryz.f110) [1, 1, 0, 1, 0, 0])).wp Tryz.prog Q a w) ⟨f110_l0_ins, f110_l0_outs, C110_l0⟩ :=
 frag_loop (ins := f110_l0_ins) (os := f110_l0_outs) (np := 0) (n := .nil) (F := F110_l0 C111) hm hΓ (K := (fun f => Ae.lookA f [(111, ⟨f111_ins, f111_outs, C111⟩)])) (kok_cons ok111 (kok_nil _)) (fun _ => big)
 (ann_nil _) (fun v => h110_l0 C111 v)
def F110 (f110_l0 : List UInt8 × Int × Int × List UInt8 × Unit → Option (List UInt8 × Unit)) : List UInt8 × Unit → Option (List UInt8 × Unit) := fun (x0, _) =>
 (f110_l0 (x0, (↑x0.length : Int), 0, [], ())).bind fun val => some (val.1, ())
theorem h110 (f110_l0 : HS f110_l0_ins → Option (OTy f110_l0_outs)) (v : HS f110_ins) : afun Γ (fun f => Ae.lookA f []) 0 Tryz.f110.ntmps Tryz.f110.results.toList (code Tryz.f110) (.seq .nil (.seq .nil (.seq (.seq .nil (.blk (.loop ⟨f110_l0_ins, f110_l0_outs, f110_l0⟩))) .nil))) (em id f110_ins v).1 (em id f110_ins v).2 (ofin 0 f110_outs) = F110 f110_l0 v := by kernel_rfl
def C110 (v : List UInt8 × Unit) : Option (List UInt8 × Unit) := F110 C110_l0 v
theorem ok110 : FnOk Tryz.prog 110 ⟨f110_ins, f110_outs, C110⟩ :=
 fn_ok (np := 0) (n := (.seq .nil (.seq .nil (.seq (.seq .nil (.blk (.loop ⟨f110_l0_ins, f110_l0_outs, C110_l0⟩))) .nil)))) hm hΓ (K := (fun f => Ae.lookA f [])) (kok_nil _) Tryz.func110 (c := code Tryz.f110) (by kernel_rfl) (name_ne (by kernel_rfl))
 (ann_seq (a := (subc (code Tryz.f110) [0])) (b := (subc (code Tryz.f110) [1])) (by kernel_rfl) (ann_nil _) (ann_seq (a := (subc (code Tryz.f110) [1, 0])) (b := (subc (code Tryz.f110) [1, 1])) (by kernel_rfl) (ann_nil _) (ann_seq (a := (subc (code Tryz.f110) [1, 1, 0])) (b := (subc (code Tryz.f110) [1, 1, 1])) (by kernel_rfl) (ann_seq (a := (subc (code Tryz.f110) [1, 1, 0, 0])) (b := (subc (code Tryz.f110) [1, 1, 0, 1])) (by kernel_rfl) (ann_nil _) (ann_blk (x := (subc (code Tryz.f110) [1, 1, 0, 1, 0])) (by kernel_rfl) (ann_loop (x := (subc (code Tryz.f110) [1, 1, 0, 1, 0, 0])) (by kernel_rfl) k110_l0))) (ann_nil _)))) (fun v => Nat.le_of_ble_eq_true (by kernel_rfl)) (fun v => h110 C110_l0 v)
def F86 (f110 : List UInt8 × Unit → Option (List UInt8 × Unit)) : List UInt8 × Unit → Option (List UInt8 × Unit) := fun (x0, _) =>
 bif decide (x0.length ≤ 9223372036854775807) then (f110 (x0, ())).bind fun val => some (val.1, ()) else none
theorem h86 (f110 : HS f110_ins → Option (OTy f110_outs)) (v : HS f86_ins) : afun Γ (fun f => Ae.lookA f [(110, ⟨f110_ins, f110_outs, f110⟩)]) 0 Tryz.f86.ntmps Tryz.f86.results.toList (code Tryz.f86) .nil (em id f86_ins v).1 (em id f86_ins v).2 (ofin 0 f86_outs) = F86 f110 v := by kernel_rfl
def C86 (v : List UInt8 × Unit) : Option (List UInt8 × Unit) := F86 C110 v
theorem ok86 : FnOk Tryz.prog 86 ⟨f86_ins, f86_outs, C86⟩ :=
 fn_ok (np := 0) (n := .nil) hm hΓ (K := (fun f => Ae.lookA f [(110, ⟨f110_ins, f110_outs, C110⟩)])) (kok_cons ok110 (kok_nil _)) Tryz.func86 (c := code Tryz.f86) (by kernel_rfl) (name_ne (by kernel_rfl))
 (ann_nil _) (fun v => Nat.le_of_ble_eq_true (by kernel_rfl)) (fun v => h86 C110 v)
def F59 (f86 : List UInt8 × Unit → Option (List UInt8 × Unit)) : Bool × List UInt8 × List UInt8 × Unit → Option (Bool × Unit) := fun (x0, x1, x2, _) =>
 bif !x0 then
 bif x2 == [] then
 (f86 (x1, ())).bind fun val =>
 some (val.1 == [112, 111, 115, 116, 109, 97, 115, 116, 101, 114], ())
 else some (false, ())
 else some (false, ())
theorem h59 (f86 : HS f86_ins → Option (OTy f86_outs)) (v : HS f59_ins) : afun Γ (fun f => Ae.lookA f [(86, ⟨f86_ins, f86_outs, f86⟩)]) 0 Tryz.f59.ntmps Tryz.f59.results.toList (code Tryz.f59) .nil (em id f59_ins v).1 (em id f59_ins v).2 (ofin 0 f59_outs) = F59 f86 v := by kernel_rfl
def C59 (v : Bool × List UInt8 × List UInt8 × Unit) : Option (Bool × Unit) := F59 C86 v
theorem ok59 : FnOk Tryz.prog 59 ⟨f59_ins, f59_outs, C59⟩ :=
 fn_ok (np := 0) (n := .nil) hm hΓ (K := (fun f => Ae.lookA f [(86, ⟨f86_ins, f86_outs, C86⟩)])) (kok_cons ok86 (kok_nil _)) Tryz.func59 (c := code Tryz.f59) (by kernel_rfl) (name_ne (by kernel_rfl))
 (ann_nil _) (fun v => Nat.le_of_ble_eq_true (by kernel_rfl)) (fun v => h59 C86 v)
def F168_l0  : Int × (List UInt8 × Int) × Unit → Option ((Int × (List UInt8 × Int) × Unit) ⊕ (Int × Unit)) := fun (x0, x1, _) =>
 bif decide (Int.toNat x1.2 < List.length x1.1) then
 some
 (Sum.inl
 (IntKind.i64.wrap (x0 + 1), (x1.1, (↑(Int.toNat x1.2 + (decR x1.1 (Int.toNat x1.2)).2) : Int)),
 ()))
 else some (Sum.inr (x0, ()))
theorem h168_l0  (v : HS f168_l0_ins) : aev Γ (fun f => Ae.lookA f []) 0 (subc (code Tryz.f168) [1, 0, 1, 0, 0]) .nil (stof f168_l0_ins v) (around 0 f168_l0_ins f168_l0_outs) = F168_l0 v := by kernel_rfl
def C168_l0 (v : Int × (List UInt8 × Int) × Unit) : Option (Int × Unit) := loopN (F168_l0) big v
theorem k168_l0 : FragOk Tryz.prog 0 (fun Q a w => (Code.loop (subc (code Tryz.f168) [1, 0, 1, 0, 0])).wp Tryz.prog Q a w) ⟨f168_l0_ins, f168_l0_outs, C168_l0⟩ :=
 frag_loop (ins := f168_l0_ins) (os := f168_l0_outs) (np := 0) (n := .nil) (F := F168_l0) hm hΓ (K := (fun f => Ae.lookA f [])) (kok_nil _) (fun _ => big)
 (ann_nil _) (fun v => h168_l0 v)
def F168 (f168_l0 : Int × (List UInt8 × Int) × Unit → Option (Int × Unit)) : List UInt8 × Unit → Option (Int × Unit) := fun (x0, _) =>
 (f168_l0 (0, (x0, (↑0 : Int)), ())).bind fun val => some (val.1, ())
theorem h168 (f168_l0 : HS f168_l0_ins → Option (OTy f168_l0_outs)) (v : HS f168_ins) : afun Γ (fun f => Ae.lookA f []) 0 Tryz.f168.ntmps Tryz.f168.results.toList (code Tryz.f168) (.seq .nil (.seq (.seq .nil (.blk (.loop ⟨f168_l0_ins, f168_l0_outs, f168_l0⟩))) .nil)) (em id f168_ins v).1 (em id f168_ins v).2 (ofin 0 f168_outs) = F168 f168_l0 v := by kernel_rfl
def C168 (v : List UInt8 × Unit) : Option (Int × Unit) := F168 C168_l0 v
theorem ok168 : FnOk Tryz.prog 168 ⟨f168_ins, f168_outs, C168⟩ :=
 fn_ok (np := 0) (n := (.seq .nil (.seq (.seq .nil (.blk (.loop ⟨f168_l0_ins, f168_l0_outs, C168_l0⟩))) .nil))) hm hΓ (K := (fun f => Ae.lookA f [])) (kok_nil _) Tryz.func168 (c := code Tryz.f168) (by kernel_rfl) (name_ne (by kernel_rfl))
 (ann_seq (a := (subc (code Tryz.f168) [0])) (b := (subc (code Tryz.f168) [1])) (by kernel_rfl) (ann_nil _) (ann_seq (a := (subc (code Tryz.f168) [1, 0])) (b := (subc (code Tryz.f168) [1, 1])) (by kernel_rfl) (ann_seq (a := (subc (code Tryz.f168) [1, 0, 0])) (b := (subc (code Tryz.f168) [1, 0, 1])) (by kernel_rfl) (ann_nil _) (ann_blk (x := (subc (code Tryz.f168) [1, 0, 1, 0])) (by kernel_rfl) (ann_loop (x := (subc (code Tryz.f168) [1, 0, 1, 0, 0])) (by kernel_rfl) k168_l0))) (ann_nil _))) (fun v => Nat.le_of_ble_eq_true (by kernel_rfl)) (fun v => h168 C168_l0 v)
def F155  : List UInt8 × Unit → Option (Int × Int × Unit) := fun (x0, _) =>
 bif decide ((↑x0.length : Int) < 1) then some (65533, 0, ())
 else bif decide (0 < (↑x0.length : Int)) then none else none
theorem h155  (v : HS f155_ins) : afun Γ (fun f => Ae.lookA f []) 0 Tryz.f155.ntmps Tryz.f155.results.toList (code Tryz.f155) .nil (em id f155_ins v).1 (em id f155_ins v).2 (ofin 0 f155_outs) = F155 v := by kernel_rfl
def C155 (v : List UInt8 × Unit) : Option (Int × Int × Unit) := F155 v
theorem ok155 : FnOk Tryz.prog 155 ⟨f155_ins, f155_outs, C155⟩ :=
 fn_ok (np := 0) (n := .nil) hm hΓ (K := (fun f => Ae.lookA f [])) (kok_nil _) Tryz.func155 (c := code Tryz.f155) (by kernel_rfl) (name_ne (by kernel_rfl))
 (ann_nil _) (fun v => Nat.le_of_ble_eq_true (by kernel_rfl)) (fun v => h155 v)
def F125_c0 (f155 : List UInt8 × Unit → Option (Int × Int × Unit)) : List UInt8 × Bool × Unit → Option ((Int × Int × Unit) ⊕ (Int × Int × Unit)) := fun (x0, x1, _) =>
 bif x1 then
 bif decide (0 < (↑x0.length : Int)) then
 some (Sum.inl (IntKind.i32.wrap (↑(x0.getD 0 0).toNat : Int), 1, ()))
 else none
 else (f155 (x0, ())).bind fun val => some (Sum.inr (val.1, val.2.1, ()))
theorem h125_c0 (f155 : HS f155_ins → Option (OTy f155_outs)) (v : HS f125_c0_ins) : aev Γ (fun f => Ae.lookA f [(155, ⟨f155_ins, f155_outs, f155⟩)]) 0 (subc (code Tryz.f125) [1, 0, 1]) .nil (stof f125_c0_ins v) (oout 0 f125_c0_outs) = F125_c0 f155 v := by kernel_rfl
def C125_c0 (v : List UInt8 × Bool × Unit) : Option ((Int × Int × Unit) ⊕ (Int × Int × Unit)) := F125_c0 C155 v
theorem k125_c0 : FragOk Tryz.prog 0 (fun Q a w => ((subc (code Tryz.f125) [1, 0, 1])).wp Tryz.prog Q a w) ⟨f125_c0_ins, f125_c0_outs, C125_c0⟩ :=
 frag_code (ins := f125_c0_ins) (os := f125_c0_outs) (np := 0) (n := .nil) (F := C125_c0) hm hΓ (K := (fun f => Ae.lookA f [(155, ⟨f155_ins, f155_outs, C155⟩)])) (kok_cons ok155 (kok_nil _))
 (ann_nil _) (fun v => h125_c0 C155 v)
def F125 (f125_c0 : List UInt8 × Bool × Unit → Option ((Int × Int × Unit) ⊕ (Int × Int × Unit))) : List UInt8 × Unit → Option (Int × Int × Unit) := fun (x0, _) =>
 bif !x0 == [] then
 bif decide (0 < (↑x0.length : Int)) then
 (f125_c0 (x0, decide ((↑(x0.getD 0 0).toNat : Int) < 128), ())).bind fun val =>
 Sum.elim (fun val => some (val.1, val.2.1, ())) (fun val => some (val.1, val.2.1, ()))
 val
 else none
 else
 (f125_c0 (x0, false, ())).bind fun val =>
 Sum.elim (fun val => some (val.1, val.2.1, ())) (fun val => some (val.1, val.2.1, ()))
 val
theorem h125 (f125_c0 : HS f125_c0_ins → Option (OTy f125_c0_outs)) (v : HS f125_ins) : afun Γ (fun f => Ae.lookA f []) 0 Tryz.f125.ntmps Tryz.f125.results.toList (code Tryz.f125) (.seq .nil (.seq (.cut .nil ⟨f125_c0_ins, f125_c0_outs, f125_c0⟩) .nil)) (em id f125_ins v).1 (em id f125_ins v).2 (ofin 0 f125_outs) = F125 f125_c0 v := by kernel_rfl
def C125 (v : List UInt8 × Unit) : Option (Int × Int × Unit) := F125 C125_c0 v
theorem ok125 : FnOk Tryz.prog 125 ⟨f125_ins, f125_outs, C125⟩ :=
 fn_ok (np := 0) (n := (.seq .nil (.seq (.cut .nil ⟨f125_c0_ins, f125_c0_outs, C125_c0⟩) .nil))) hm hΓ (K := (fun f => Ae.lookA f [])) (kok_nil _) Tryz.func125 (c := code Tryz.f125) (by kernel_rfl) (name_ne (by kernel_rfl))
 (ann_seq (a := (subc (code Tryz.f125) [0])) (b := (subc (code Tryz.f125) [1])) (by kernel_rfl) (ann_nil _) (ann_seq (a := (subc (code Tryz.f125) [1, 0])) (b := (subc (code Tryz.f125) [1, 1])) (by kernel_rfl) (ann_cut (a := (subc (code Tryz.f125) [1, 0, 0])) (b := (subc (code Tryz.f125) [1, 0, 1])) (by kernel_rfl) (ann_nil _) k125_c0) (ann_nil _))) (fun v => Nat.le_of_ble_eq_true (by kernel_rfl)) (fun v => h125 C125_c0 v)
def F170_l0 (f125 : List UInt8 × Unit → Option (Int × Int × Unit)) : List UInt8 × Int × Int × List (List UInt8) × Unit → Option ((List UInt8 × Int × Int × List (List UInt8) × Unit) ⊕ (List UInt8 × Int × List (List UInt8) × Unit)) := fun (x0, x1, x2, x3, _) =>
 bif decide (x2 < IntKind.i64.wrap (x1 - 1)) then
 (f125 (x0, ())).bind fun val =>
 bif decide (0 ≤ val.2.1) && decide (val.2.1 ≤ (↑x0.length : Int)) then
 bif decide (0 ≤ x2) && decide (x2 < (↑x3.length : Int)) then
 bif decide (0 ≤ val.2.1) && decide (val.2.1 ≤ (↑x0.length : Int)) then
 some
 (Sum.inl
 (List.drop (Int.toNat val.2.1) x0, x1, IntKind.i64.wrap (x2 + 1),
 x3.set x2.toNat (List.take (Int.toNat val.2.1) x0), ()))
 else none
 else none
 else none
 else some (Sum.inr (x0, x1, x3, ()))
theorem h170_l0 (f125 : HS f125_ins → Option (OTy f125_outs)) (v : HS f170_l0_ins) : aev Γ (fun f => Ae.lookA f [(125, ⟨f125_ins, f125_outs, f125⟩)]) 0 (subc (code Tryz.f170) [1, 1, 1, 1, 0, 1, 0, 0]) .nil (stof f170_l0_ins v) (around 0 f170_l0_ins f170_l0_outs) = F170_l0 f125 v := by kernel_rfl
def C170_l0 (v : List UInt8 × Int × Int × List (List UInt8) × Unit) : Option (List UInt8 × Int × List (List UInt8) × Unit) := loopN (F170_l0 C125) big v
theorem k170_l0 : FragOk Tryz.prog 0 (fun Q a w => (Code.loop (subc (code Tryz.f170) [1, 1, 1, 1, 0, 1, 0, 0])).wp Tryz.prog Q a w) ⟨f170_l0_ins, f170_l0_outs, C170_l0⟩ :=
 frag_loop (ins := f170_l0_ins) (os := f170_l0_outs) (np := 0) (n := .nil) (F := F170_l0 C125) hm hΓ (K := (fun f => Ae.lookA f [(125, ⟨f125_ins, f125_outs, C125⟩)])) (kok_cons ok125 (kok_nil _)) (fun _ => big)
 (ann_nil _) (fun v => h170_l0 C125 v)
def F170_c0 (f170_l0 : List UInt8 × Int × Int × List (List UInt8) × Unit → Option (List UInt8 × Int × List (List UInt8) × Unit)) : List UInt8 × Int × Unit → Option (List (List UInt8) × Unit) := fun (x0, x1, _) =>
 bif
 decide (0 ≤ x1) &&
 (decide (x1 = x1) && (decide ((↑16 : Int) * x1 ≤ 281474976710656) && decide (x1 ≤ 140737488355328))) then
 (f170_l0 (x0, x1, 0, List.replicate x1.toNat [], ())).bind fun val =>
 bif decide (val.2.1 > 0) then
 bif
 decide (0 ≤ IntKind.i64.wrap (val.2.1 - 1)) &&
 decide (IntKind.i64.wrap (val.2.1 - 1) < (↑(List.length val.2.2.1) : Int)) then
 some (List.set val.2.2.1 (IntKind.i64.wrap (val.2.1 - 1)).toNat val.1, ())
 else none
 else some (val.2.2.1, ())
 else none
theorem h170_c0 (f170_l0 : HS f170_l0_ins → Option (OTy f170_l0_outs)) (v : HS f170_c0_ins) : aev Γ (fun f => Ae.lookA f []) 0 (subc (code Tryz.f170) [1, 1, 1]) (.seq .nil (.seq (.seq .nil (.blk (.loop ⟨f170_l0_ins, f170_l0_outs, f170_l0⟩))) .nil)) (stof f170_c0_ins v) (oout 0 f170_c0_outs) = F170_c0 f170_l0 v := by kernel_rfl
def C170_c0 (v : List UInt8 × Int × Unit) : Option (List (List UInt8) × Unit) := F170_c0 C170_l0 v
theorem k170_c0 : FragOk Tryz.prog 0 (fun Q a w => ((subc (code Tryz.f170) [1, 1, 1])).wp Tryz.prog Q a w) ⟨f170_c0_ins, f170_c0_outs, C170_c0⟩ :=
 frag_code (ins := f170_c0_ins) (os := f170_c0_outs) (np := 0) (n := (.seq .nil (.seq (.seq .nil (.blk (.loop ⟨f170_l0_ins, f170_l0_outs, C170_l0⟩))) .nil))) (F := C170_c0) hm hΓ (K := (fun f => Ae.lookA f [])) (kok_nil _)
 (ann_seq (a := (subc (code Tryz.f170) [1, 1, 1, 0])) (b := (subc (code Tryz.f170) [1, 1, 1, 1])) (by kernel_rfl) (ann_nil _) (ann_seq (a := (subc (code Tryz.f170) [1, 1, 1, 1, 0])) (b := (subc (code Tryz.f170) [1, 1, 1, 1, 1])) (by kernel_rfl) (ann_seq (a := (subc (code Tryz.f170) [1, 1, 1, 1, 0, 0])) (b := (subc (code Tryz.f170) [1, 1, 1, 1, 0, 1])) (by kernel_rfl) (ann_nil _) (ann_blk (x := (subc (code Tryz.f170) [1, 1, 1, 1, 0, 1, 0])) (by kernel_rfl) (ann_loop (x := (subc (code Tryz.f170) [1, 1, 1, 1, 0, 1, 0, 0])) (by kernel_rfl) k170_l0))) (ann_nil _))) (fun v => h170_c0 C170_l0 v)
def F170 (f168 : List UInt8 × Unit → Option (Int × Unit)) (f170_c0 : List UInt8 × Int × Unit → Option (List (List UInt8) × Unit)) : List UInt8 × Int × Unit → Option (List (List UInt8) × Unit) := fun (x0, x1, _) =>
 (f168 (x0, ())).bind fun val =>
 bif decide (x1 < 0) then (f170_c0 (x0, val.1, ())).bind fun val => some (val.1, ())
 else
 bif decide (x1 > val.1) then (f170_c0 (x0, val.1, ())).bind fun val => some (val.1, ())
 else (f170_c0 (x0, x1, ())).bind fun val => some (val.1, ())
theorem h170 (f168 : HS f168_ins → Option (OTy f168_outs)) (f170_c0 : HS f170_c0_ins → Option (OTy f170_c0_outs)) (v : HS f170_ins) : afun Γ (fun f => Ae.lookA f [(168, ⟨f168_ins, f168_outs, f168⟩)]) 0 Tryz.f170.ntmps Tryz.f170.results.toList (code Tryz.f170) (.seq .nil (.seq .nil (.cut .nil ⟨f170_c0_ins, f170_c0_outs, f170_c0⟩))) (em id f170_ins v).1 (em id f170_ins v).2 (ofin 0 f170_outs) = F170 f168 f170_c0 v := by kernel_rfl
def C170 (v : List UInt8 × Int × Unit) : Option (List (List UInt8) × Unit) := F170 C168 C170_c0 v
theorem ok170 : FnOk Tryz.prog 170 ⟨f170_ins, f170_outs, C170⟩ :=
 fn_ok (np := 0) (n := (.seq .nil (.seq .nil (.cut .nil ⟨f170_c0_ins, f170_c0_outs, C170_c0⟩)))) hm hΓ (K := (fun f => Ae.lookA f [(168, ⟨f168_ins, f168_outs, C168⟩)])) (kok_cons ok168 (kok_nil _)) Tryz.func170 (c := code Tryz.f170) (by kernel_rfl) (name_ne (by kernel_rfl))
 (ann_seq (a := (subc (code Tryz.f170) [0])) (b := (subc (code Tryz.f170) [1])) (by kernel_rfl) (ann_nil _) (ann_seq (a := (subc (code Tryz.f170) [1, 0])) (b := (subc (code Tryz.f170) [1, 1])) (by kernel_rfl) (ann_nil _) (ann_cut (a := (subc (code Tryz.f170) [1, 1, 0])) (b := (subc (code Tryz.f170) [1, 1, 1])) (by kernel_rfl) (ann_nil _) k170_c0))) (fun v => Nat.le_of_ble_eq_true (by kernel_rfl)) (fun v => h170 C168 C170_c0 v)
def F145 (f89 : List UInt8 × List UInt8 × Unit → Option (Int × Unit)) : List UInt8 × List UInt8 × Unit → Option (Int × Unit) := fun (x0, x1, _) =>
 (f89 (x0, x1, ())).bind fun val => some (val.1, ())
theorem h145 (f89 : HS f89_ins → Option (OTy f89_outs)) (v : HS f145_ins) : afun Γ (fun f => Ae.lookA f [(89, ⟨f89_ins, f89_outs, f89⟩)]) 0 Tryz.f145.ntmps Tryz.f145.results.toList (code Tryz.f145) .nil (em id f145_ins v).1 (em id f145_ins v).2 (ofin 0 f145_outs) = F145 f89 v := by kernel_rfl
def C145 (v : List UInt8 × List UInt8 × Unit) : Option (Int × Unit) := F145 C89 v
theorem ok145 : FnOk Tryz.prog 145 ⟨f145_ins, f145_outs, C145⟩ :=
 fn_ok (np := 0) (n := .nil) hm hΓ (K := (fun f => Ae.lookA f [(89, ⟨f89_ins, f89_outs, C89⟩)])) (kok_cons ok89 (kok_nil _)) Tryz.func145 (c := code Tryz.f145) (by kernel_rfl) (name_ne (by kernel_rfl))
 (ann_nil _) (fun v => Nat.le_of_ble_eq_true (by kernel_rfl)) (fun v => h145 C89 v)
def F144_l0 (f145 : List UInt8 × List UInt8 × Unit → Option (Int × Unit)) : List UInt8 × List UInt8 × Int × Unit → Option ((List UInt8 × List UInt8 × Int × Unit) ⊕ (Int × Unit)) := fun (x0, x1, x2, _) =>
 (f145 (x0, x1, ())).bind fun val =>
 bif val.1 == -1 then some (Sum.inr (x2, ()))
 else
 bif
 decide (0 ≤ IntKind.i64.wrap (val.1 + (↑x1.length : Int))) &&
 decide (IntKind.i64.wrap (val.1 + (↑x1.length : Int)) ≤ (↑x0.length : Int)) then
 some
 (Sum.inl
 (List.drop (IntKind.i64.wrap (val.1 + (↑x1.length : Int))).toNat x0, x1, IntKind.i64.wrap (x2 + 1),
 ()))
 else none
theorem h144_l0 (f145 : HS f145_ins → Option (OTy f145_outs)) (v : HS f144_l0_ins) : aev Γ (fun f => Ae.lookA f [(145, ⟨f145_ins, f145_outs, f145⟩)]) 0 (subc (code Tryz.f144) [1, 1, 1, 1, 0, 0]) .nil (stof f144_l0_ins v) (around 0 f144_l0_ins f144_l0_outs) = F144_l0 f145 v := by kernel_rfl
def C144_l0 (v : List UInt8 × List UInt8 × Int × Unit) : Option (Int × Unit) := loopN (F144_l0 C145) big v
theorem k144_l0 : FragOk Tryz.prog 0 (fun Q a w => (Code.loop (subc (code Tryz.f144) [1, 1, 1, 1, 0, 0])).wp Tryz.prog Q a w) ⟨f144_l0_ins, f144_l0_outs, C144_l0⟩ :=
 frag_loop (ins := f144_l0_ins) (os := f144_l0_outs) (np := 0) (n := .nil) (F := F144_l0 C145) hm hΓ (K := (fun f => Ae.lookA f [(145, ⟨f145_ins, f145_outs, C145⟩)])) (kok_cons ok145 (kok_nil _)) (fun _ => big)
 (ann_nil _) (fun v => h144_l0 C145 v)
def F144 (f168 : List UInt8 × Unit → Option (Int × Unit)) (f169 : List UInt8 × Int × Unit → Option (Int × Unit)) (f144_l0 : List UInt8 × List UInt8 × Int × Unit → Option (Int × Unit)) : List UInt8 × List UInt8 × Unit → Option (Int × Unit) := fun (x0, x1, _) =>
 bif (↑x1.length : Int) == 0 then (f168 (x0, ())).bind fun val => some (IntKind.i64.wrap (val.1 + 1), ())
 else
 bif (↑x1.length : Int) == 1 then
 bif decide (0 < (↑x1.length : Int)) then
 (f169 (x0, (↑(x1.getD 0 0).toNat : Int), ())).bind fun val => some (val.1, ())
 else none
 else (f144_l0 (x0, x1, 0, ())).bind fun val => some (val.1, ())
theorem h144 (f168 : HS f168_ins → Option (OTy f168_outs)) (f169 : HS f169_ins → Option (OTy f169_outs)) (f144_l0 : HS f144_l0_ins → Option (OTy f144_l0_outs)) (v : HS f144_ins) : afun Γ (fun f => Ae.lookA f [(168, ⟨f168_ins, f168_outs, f168⟩), (169, ⟨f169_ins, f169_outs, f169⟩)]) 0 Tryz.f144.ntmps Tryz.f144.results.toList (code Tryz.f144) (.seq .nil (.seq .nil (.seq .nil (.seq .nil (.blk (.loop ⟨f144_l0_ins, f144_l0_outs, f144_l0⟩)))))) (em id f144_ins v).1 (em id f144_ins v).2 (ofin 0 f144_outs) = F144 f168 f169 f144_l0 v := by kernel_rfl
def C144 (v : List UInt8 × List UInt8 × Unit) : Option (Int × Unit) := F144 C168 C169 C144_l0 v
theorem ok144 : FnOk Tryz.prog 144 ⟨f144_ins, f144_outs, C144⟩ :=
 fn_ok (np := 0) (n := (.seq .nil (.seq .nil (.seq .nil (.seq .nil (.blk (.loop ⟨f144_l0_ins, f144_l0_outs, C144_l0⟩))))))) hm hΓ (K := (fun f => Ae.lookA f [(168, ⟨f168_ins, f168_outs, C168⟩), (169, ⟨f169_ins, f169_outs, C169⟩)])) (kok_cons ok168 (kok_cons ok169 (kok_nil _))) Tryz.func144 (c := code Tryz.f144) (by kernel_rfl) (name_ne (by kernel_rfl))
 (ann_seq (a := (subc (code Tryz.f144) [0])) (b := (subc (code Tryz.f144) [1])) (by kernel_rfl) (ann_nil _) (ann_seq (a := (subc (code Tryz.f144) [1, 0])) (b := (subc (code Tryz.f144) [1, 1])) (by kernel_rfl) (ann_nil _) (ann_seq (a := (subc (code Tryz.f144) [1, 1, 0])) (b := (subc (code Tryz.f144) [1, 1, 1])) (by kernel_rfl) (ann_nil _) (ann_seq (a := (subc (code Tryz.f144) [1, 1, 1, 0])) (b := (subc (code Tryz.f144) [1, 1, 1, 1])) (by kernel_rfl) (ann_nil _) (ann_blk (x := (subc (code Tryz.f144) [1, 1, 1, 1, 0])) (by kernel_rfl) (ann_loop (x := (subc (code Tryz.f144) [1, 1, 1, 1, 0, 0])) (by kernel_rfl) k144_l0)))))) (fun v => Nat.le_of_ble_eq_true (by kernel_rfl)) (fun v => h144 C168 C169 C144_l0 v)
def F146_l0 (f145 : List UInt8 × List UInt8 × Unit → Option (Int × Unit)) : List UInt8 × List UInt8 × Int × Int × Int × List (List UInt8) × Unit → Option ((List UInt8 × List UInt8 × Int × Int × Int × List (List UInt8) × Unit) ⊕ (List UInt8 × Int × List (List UInt8) × Unit)) := fun (x0, x1, x2, x3, x4, x5, _) =>
 bif decide (x4 < x3) then
 (f145 (x0, x1, ())).bind fun val =>
 bif decide (val.1 < 0) then some (Sum.inr (x0, x4, x5, ()))
 else
 bif
 decide (0 ≤ IntKind.i64.wrap (val.1 + x2)) &&
 decide (IntKind.i64.wrap (val.1 + x2) ≤ (↑x0.length : Int)) then
 bif decide (0 ≤ x4) && decide (x4 < (↑x5.length : Int)) then
 bif
 decide (0 ≤ IntKind.i64.wrap (val.1 + (↑x1.length : Int))) &&
 decide (IntKind.i64.wrap (val.1 + (↑x1.length : Int)) ≤ (↑x0.length : Int)) then
 some
 (Sum.inl
 (List.drop (IntKind.i64.wrap (val.1 + (↑x1.length : Int))).toNat x0, x1, x2, x3,
 IntKind.i64.wrap (x4 + 1), x5.set x4.toNat (List.take (IntKind.i64.wrap (val.1 + x2)).toNat x0),
 ()))
 else none
 else none
 else none
 else some (Sum.inr (x0, x4, x5, ()))
theorem h146_l0 (f145 : HS f145_ins → Option (OTy f145_outs)) (v : HS f146_l0_ins) : aev Γ (fun f => Ae.lookA f [(145, ⟨f145_ins, f145_outs, f145⟩)]) 0 (subc (code Tryz.f146) [1, 1, 1, 1, 1, 1, 1, 1, 0, 0, 0]) .nil (stof f146_l0_ins v) (around 0 f146_l0_ins f146_l0_outs) = F146_l0 f145 v := by kernel_rfl
def C146_l0 (v : List UInt8 × List UInt8 × Int × Int × Int × List (List UInt8) × Unit) : Option (List UInt8 × Int × List (List UInt8) × Unit) := loopN (F146_l0 C145) big v
theorem k146_l0 : FragOk Tryz.prog 0 (fun Q a w => (Code.loop (subc (code Tryz.f146) [1, 1, 1, 1, 1, 1, 1, 1, 0, 0, 0])).wp Tryz.prog Q a w) ⟨f146_l0_ins, f146_l0_outs, C146_l0⟩ :=
 frag_loop (ins := f146_l0_ins) (os := f146_l0_outs) (np := 0) (n := .nil) (F := F146_l0 C145) hm hΓ (K := (fun f => Ae.lookA f [(145, ⟨f145_ins, f145_outs, C145⟩)])) (kok_cons ok145 (kok_nil _)) (fun _ => big)
 (ann_nil _) (fun v => h146_l0 C145 v)
def F146_c0 (f146_l0 : List UInt8 × List UInt8 × Int × Int × Int × List (List UInt8) × Unit → Option (List UInt8 × Int × List (List UInt8) × Unit)) : List UInt8 × List UInt8 × Int × Int × Unit → Option (List (List UInt8) × Unit) := fun (x0, x1, x2, x3, _) =>
 bif
 decide
 (0 ≤
 if IntKind.i64.wrap ((↑x0.length : Int) + 1) < x3 then IntKind.i64.wrap ((↑x0.length : Int) + 1) else x3) &&
 (decide
 ((if IntKind.i64.wrap ((↑x0.length : Int) + 1) < x3 then IntKind.i64.wrap ((↑x0.length : Int) + 1) else x3) =
 if IntKind.i64.wrap ((↑x0.length : Int) + 1) < x3 then IntKind.i64.wrap ((↑x0.length : Int) + 1) else x3) &&
 (decide
 (((↑16 : Int) *
 if IntKind.i64.wrap ((↑x0.length : Int) + 1) < x3 then IntKind.i64.wrap ((↑x0.length : Int) + 1)
 else x3) ≤
 281474976710656) &&
 decide
 ((if IntKind.i64.wrap ((↑x0.length : Int) + 1) < x3 then IntKind.i64.wrap ((↑x0.length : Int) + 1)
 else x3) ≤
 140737488355328))) then
 (f146_l0
 (x0, x1, x2,
 IntKind.i64.wrap
 ((if IntKind.i64.wrap ((↑x0.length : Int) + 1) < x3 then IntKind.i64.wrap ((↑x0.length : Int) + 1)
 else x3) -
 1),
 0,
 List.replicate
 (if IntKind.i64.wrap ((↑x0.length : Int) + 1) < x3 then IntKind.i64.wrap ((↑x0.length : Int) + 1)
 else x3).toNat
 [],
 ())).bind
 fun val =>
 bif decide (0 ≤ val.2.1) && decide (val.2.1 < (↑(List.length val.2.2.1) : Int)) then
 bif
 decide (0 ≤ IntKind.i64.wrap (val.2.1 + 1)) &&
 decide
 (IntKind.i64.wrap (val.2.1 + 1) ≤
 (↑(List.set val.2.2.1 (Int.toNat val.2.1) val.1).length : Int)) then
 some
 (List.take (IntKind.i64.wrap (val.2.1 + 1)).toNat
 (List.set val.2.2.1 (Int.toNat val.2.1) val.1),
 ())
 else none
 else none
 else none
theorem h146_c0 (f146_l0 : HS f146_l0_ins → Option (OTy f146_l0_outs)) (v : HS f146_c0_ins) : aev Γ (fun f => Ae.lookA f []) 0 (subc (code Tryz.f146) [1, 1, 1, 1]) (.seq .nil (.seq .nil (.seq .nil (.seq .nil (.seq (.blk (.loop ⟨f146_l0_ins, f146_l0_outs, f146_l0⟩)) .nil))))) (stof f146_c0_ins v) (oout 0 f146_c0_outs) = F146_c0 f146_l0 v := by kernel_rfl
def C146_c0 (v : List UInt8 × List UInt8 × Int × Int × Unit) : Option (List (List UInt8) × Unit) := F146_c0 C146_l0 v
theorem k146_c0 : FragOk Tryz.prog 0 (fun Q a w => ((subc (code Tryz.f146) [1, 1, 1, 1])).wp Tryz.prog Q a w) ⟨f146_c0_ins, f146_c0_outs, C146_c0⟩ :=
 frag_code (ins := f146_c0_ins) (os := f146_c0_outs) (np := 0) (n := (.seq .nil (.seq .nil (.seq .nil (.seq .nil (.seq (.blk (.loop ⟨f146_l0_ins, f146_l0_outs, C146_l0⟩)) .nil)))))) (F := C146_c0) hm hΓ (K := (fun f => Ae.lookA f [])) (kok_nil _)
 (ann_seq (a := (subc (code Tryz.f146) [1, 1, 1, 1, 0])) (b := (subc (code Tryz.f146) [1, 1, 1, 1, 1])) (by kernel_rfl) (ann_nil _) (ann_seq (a := (subc (code Tryz.f146) [1, 1, 1, 1, 1, 0])) (b := (subc (code Tryz.f146) [1, 1, 1, 1, 1, 1])) (by kernel_rfl) (ann_nil _) (ann_seq (a := (subc (code Tryz.f146) [1, 1, 1, 1, 1, 1, 0])) (b := (subc (code Tryz.f146) [1, 1, 1, 1, 1, 1, 1])) (by kernel_rfl) (ann_nil _) (ann_seq (a := (subc (code Tryz.f146) [1, 1, 1, 1, 1, 1, 1, 0])) (b := (subc (code Tryz.f146) [1, 1, 1, 1, 1, 1, 1, 1])) (by kernel_rfl) (ann_nil _) (ann_seq (a := (subc (code Tryz.f146) [1, 1, 1, 1, 1, 1, 1, 1, 0])) (b := (subc (code Tryz.f146) [1, 1, 1, 1, 1, 1, 1, 1, 1])) (by kernel_rfl) (ann_blk (x := (subc (code Tryz.f146) [1, 1, 1, 1, 1, 1, 1, 1, 0, 0])) (by kernel_rfl) (ann_loop (x := (subc (code Tryz.f146) [1, 1, 1, 1, 1, 1, 1, 1, 0, 0, 0])) (by kernel_rfl) k146_l0)) (ann_nil _)))))) (fun v => h146_c0 C146_l0 v)
def F146 (f144 : List UInt8 × List UInt8 × Unit → Option (Int × Unit)) (f170 : List UInt8 × Int × Unit → Option (List (List UInt8) × Unit)) (f146_c0 : List UInt8 × List UInt8 × Int × Int × Unit → Option (List (List UInt8) × Unit)) : List UInt8 × List UInt8 × Int × Int × Unit → Option (List (List UInt8) × Unit) := fun (x0, x1, x2, x3, _) =>
 bif x3 == 0 then some ([], ())
 else
 bif x1 == [] then (f170 (x0, x3, ())).bind fun val => some (val.1, ())
 else
 bif decide (x3 < 0) then
 (f144 (x0, x1, ())).bind fun val =>
 (f146_c0 (x0, x1, x2, IntKind.i64.wrap (val.1 + 1), ())).bind fun val => some (val.1, ())
 else (f146_c0 (x0, x1, x2, x3, ())).bind fun val => some (val.1, ())
theorem h146 (f144 : HS f144_ins → Option (OTy f144_outs)) (f170 : HS f170_ins → Option (OTy f170_outs)) (f146_c0 : HS f146_c0_ins → Option (OTy f146_c0_outs)) (v : HS f146_ins) : afun Γ (fun f => Ae.lookA f [(144, ⟨f144_ins, f144_outs, f144⟩), (170, ⟨f170_ins, f170_outs, f170⟩)]) 0 Tryz.f146.ntmps Tryz.f146.results.toList (code Tryz.f146) (.seq .nil (.seq .nil (.seq .nil (.cut .nil ⟨f146_c0_ins, f146_c0_outs, f146_c0⟩)))) (em id f146_ins v).1 (em id f146_ins v).2 (ofin 0 f146_outs) = F146 f144 f170 f146_c0 v := by kernel_rfl
def C146 (v : List UInt8 × List UInt8 × Int × Int × Unit) : Option (List (List UInt8) × Unit) := F146 C144 C170 C146_c0 v
theorem ok146 : FnOk Tryz.prog 146 ⟨f146_ins, f146_outs, C146⟩ :=
 fn_ok (np := 0) (n := (.seq .nil (.seq .nil (.seq .nil (.cut .nil ⟨f146_c0_ins, f146_c0_outs, C146_c0⟩))))) hm hΓ (K := (fun f => Ae.lookA f [(144, ⟨f144_ins, f144_outs, C144⟩), (170, ⟨f170_ins, f170_outs, C170⟩)])) (kok_cons ok144 (kok_cons ok170 (kok_nil _))) Tryz.func146 (c := code Tryz.f146) (by kernel_rfl) (name_ne (by kernel_rfl))
 (ann_seq (a := (subc (code Tryz.f146) [0])) (b := (subc (code Tryz.f146) [1])) (by kernel_rfl) (ann_nil _) (ann_seq (a := (subc (code Tryz.f146) [1, 0])) (b := (subc (code Tryz.f146) [1, 1])) (by kernel_rfl) (ann_nil _) (ann_seq (a := (subc (code Tryz.f146) [1, 1, 0])) (b := (subc (code Tryz.f146) [1, 1, 1])) (by kernel_rfl) (ann_nil _) (ann_cut (a := (subc (code Tryz.f146) [1, 1, 1, 0])) (b := (subc (code Tryz.f146) [1, 1, 1, 1])) (by kernel_rfl) (ann_nil _) k146_c0)))) (fun v => Nat.le_of_ble_eq_true (by kernel_rfl)) (fun v => h146 C144 C170 C146_c0 v)
def F112 (f146 : List UInt8 × List UInt8 × Int × Int × Unit → Option (List (List UInt8) × Unit)) : List UInt8 × List UInt8 × Unit → Option (List (List UInt8) × Unit) := fun (x0, x1, _) =>
 (f146 (x0, x1, 0, -1, ())).bind fun val => some (val.1, ())
theorem h112 (f146 : HS f146_ins → Option (OTy f146_outs)) (v : HS f112_ins) : afun Γ (fun f => Ae.lookA f [(146, ⟨f146_ins, f146_outs, f146⟩)]) 0 Tryz.f112.ntmps Tryz.f112.results.toList (code Tryz.f112) .nil (em id f112_ins v).1 (em id f112_ins v).2 (ofin 0 f112_outs) = F112 f146 v := by kernel_rfl
def C112 (v : List UInt8 × List UInt8 × Unit) : Option (List (List UInt8) × Unit) := F112 C146 v
theorem ok112 : FnOk Tryz.prog 112 ⟨f112_ins, f112_outs, C112⟩ :=
 fn_ok (np := 0) (n := .nil) hm hΓ (K := (fun f => Ae.lookA f [(146, ⟨f146_ins, f146_outs, C146⟩)])) (kok_cons ok146 (kok_nil _)) Tryz.func112 (c := code Tryz.f112) (by kernel_rfl) (name_ne (by kernel_rfl))
 (ann_nil _) (fun v => Nat.le_of_ble_eq_true (by kernel_rfl)) (fun v => h112 C146 v)
end Go.Proofs.YtmfcepdbpdihgaaGreatDoor.W
set_option maxRecDepth 100000
set_option linter.unusedVariables false
namespace Go.Proofs.YtmfcepdbpdihgaaGreatDoor.W
open Go Go.Ae
def F99 (f115 : List UInt8 × Int × Unit → Option (Int × Unit)) : List UInt8 × Int × Unit → Option (Int × Unit) := fun (x0, x1, _) =>
 (f115 (x0, x1, ())).bind fun val => some (val.1, ())
theorem h99 (f115 : HS f115_ins → Option (OTy f115_outs)) (v : HS f99_ins) : afun Γ (fun f => Ae.lookA f [(115, ⟨f115_ins, f115_outs, f115⟩)]) 0 Tryz.f99.ntmps Tryz.f99.results.toList (code Tryz.f99) .nil (em id f99_ins v).1 (em id f99_ins v).2 (ofin 0 f99_outs) = F99 f115 v := by kernel_rfl
def C99 (v : List UInt8 × Int × Unit) : Option (Int × Unit) := F99 C115 v
theorem ok99 : FnOk Tryz.prog 99 ⟨f99_ins, f99_outs, C99⟩ :=
 fn_ok (np := 0) (n := .nil) hm hΓ (K := (fun f => Ae.lookA f [(115, ⟨f115_ins, f115_outs, C115⟩)])) (kok_cons ok115 (kok_nil _)) Tryz.func99 (c := code Tryz.f99) (by kernel_rfl) (name_ne (by kernel_rfl))
 (ann_nil _) (fun v => Nat.le_of_ble_eq_true (by kernel_rfl)) (fun v => h99 C115 v)
def F147_c0  : Int × Bool × Unit → Option (Int × Bool × Unit) := fun (x0, x1, _) =>
 bif x1 then some (x0, true, ())
 else
 bif decide (x0 ≥ 48) then
 bif decide (x0 ≤ 57) then some (x0, true, ()) else some (x0, decide (x0 ≥ 128), ())
 else some (x0, decide (x0 ≥ 128), ())
theorem h147_c0  (v : HS f147_c0_ins) : aev Γ (fun f => Ae.lookA f []) 0 (subc (code Tryz.f147) [1, 0, 0, 0, 1, 1, 1]) .nil (stof f147_c0_ins v) (oout 0 f147_c0_outs) = F147_c0 v := by kernel_rfl
def C147_c0 (v : Int × Bool × Unit) : Option (Int × Bool × Unit) := F147_c0 v
theorem k147_c0 : FragOk Tryz.prog 0 (fun Q a w => ((subc (code Tryz.f147) [1, 0, 0, 0, 1, 1, 1])).wp Tryz.prog Q a w) ⟨f147_c0_ins, f147_c0_outs, C147_c0⟩ :=
 frag_code (ins := f147_c0_ins) (os := f147_c0_outs) (np := 0) (n := .nil) (F := C147_c0) hm hΓ (K := (fun f => Ae.lookA f [])) (kok_nil _)
 (ann_nil _) (fun v => h147_c0 v)
def F147_c1 (f147_c0 : Int × Bool × Unit → Option (Int × Bool × Unit)) : Int × Bool × Unit → Option (Int × Bool × Unit) := fun (x0, x1, _) =>
 bif x1 then some (x0, true, ())
 else
 bif decide (x0 ≥ 65) then (f147_c0 (x0, decide (x0 ≤ 90), ())).bind fun val => some (val.1, val.2.1, ())
 else (f147_c0 (x0, false, ())).bind fun val => some (val.1, val.2.1, ())
theorem h147_c1 (f147_c0 : HS f147_c0_ins → Option (OTy f147_c0_outs)) (v : HS f147_c1_ins) : aev Γ (fun f => Ae.lookA f []) 0 (subc (code Tryz.f147) [1, 0, 0, 0, 1]) (.cond .nil (.cut .nil ⟨f147_c0_ins, f147_c0_outs, f147_c0⟩)) (stof f147_c1_ins v) (oout 0 f147_c1_outs) = F147_c1 f147_c0 v := by kernel_rfl
def C147_c1 (v : Int × Bool × Unit) : Option (Int × Bool × Unit) := F147_c1 C147_c0 v
theorem k147_c1 : FragOk Tryz.prog 0 (fun Q a w => ((subc (code Tryz.f147) [1, 0, 0, 0, 1])).wp Tryz.prog Q a w) ⟨f147_c1_ins, f147_c1_outs, C147_c1⟩ :=
 frag_code (ins := f147_c1_ins) (os := f147_c1_outs) (np := 0) (n := (.cond .nil (.cut .nil ⟨f147_c0_ins, f147_c0_outs, C147_c0⟩))) (F := C147_c1) hm hΓ (K := (fun f => Ae.lookA f [])) (kok_nil _)
 (ann_cond (x := (subc (code Tryz.f147) [1, 0, 0, 0, 1, 0])) (y := (subc (code Tryz.f147) [1, 0, 0, 0, 1, 1])) (by kernel_rfl) (ann_nil _) (ann_cut (a := (subc (code Tryz.f147) [1, 0, 0, 0, 1, 1, 0])) (b := (subc (code Tryz.f147) [1, 0, 0, 0, 1, 1, 1])) (by kernel_rfl) (ann_nil _) k147_c0)) (fun v => h147_c1 C147_c0 v)
def F147 (f99 : List UInt8 × Int × Unit → Option (Int × Unit)) (f147_c1 : Int × Bool × Unit → Option (Int × Bool × Unit)) : Int × Unit → Option (Bool × Unit) := fun (x0, _) =>
 bif decide (x0 ≥ 97) then
 (f147_c1 (x0, decide (x0 ≤ 122), ())).bind fun val =>
 bif val.2.1 then some (true, ())
 else
 (f99 ([33, 35, 36, 37, 38, 39, 42, 43, 45, 47, 61, 63, 94, 95, 96, 123, 124, 125, 126], val.1, ())).bind
 fun val => some (decide (val.1 ≥ 0), ())
 else
 (f147_c1 (x0, false, ())).bind fun val =>
 bif val.2.1 then some (true, ())
 else
 (f99 ([33, 35, 36, 37, 38, 39, 42, 43, 45, 47, 61, 63, 94, 95, 96, 123, 124, 125, 126], val.1, ())).bind
 fun val => some (decide (val.1 ≥ 0), ())
theorem h147 (f99 : HS f99_ins → Option (OTy f99_outs)) (f147_c1 : HS f147_c1_ins → Option (OTy f147_c1_outs)) (v : HS f147_ins) : afun Γ (fun f => Ae.lookA f [(99, ⟨f99_ins, f99_outs, f99⟩)]) 0 Tryz.f147.ntmps Tryz.f147.results.toList (code Tryz.f147) (.seq .nil (.seq (.blk (.seq (.cut .nil ⟨f147_c1_ins, f147_c1_outs, f147_c1⟩) .nil)) .nil)) (em id f147_ins v).1 (em id f147_ins v).2 (ofin 0 f147_outs) = F147 f99 f147_c1 v := by kernel_rfl
def C147 (v : Int × Unit) : Option (Bool × Unit) := F147 C99 C147_c1 v
theorem ok147 : FnOk Tryz.prog 147 ⟨f147_ins, f147_outs, C147⟩ :=
 fn_ok (np := 0) (n := (.seq .nil (.seq (.blk (.seq (.cut .nil ⟨f147_c1_ins, f147_c1_outs, C147_c1⟩) .nil)) .nil))) hm hΓ (K := (fun f => Ae.lookA f [(99, ⟨f99_ins, f99_outs, C99⟩)])) (kok_cons ok99 (kok_nil _)) Tryz.func147 (c := code Tryz.f147) (by kernel_rfl) (name_ne (by kernel_rfl))
 (ann_seq (a := (subc (code Tryz.f147) [0])) (b := (subc (code Tryz.f147) [1])) (by kernel_rfl) (ann_nil _) (ann_seq (a := (subc (code Tryz.f147) [1, 0])) (b := (subc (code Tryz.f147) [1, 1])) (by kernel_rfl) (ann_blk (x := (subc (code Tryz.f147) [1, 0, 0])) (by kernel_rfl) (ann_seq (a := (subc (code Tryz.f147) [1, 0, 0, 0])) (b := (subc (code Tryz.f147) [1, 0, 0, 1])) (by kernel_rfl) (ann_cut (a := (subc (code Tryz.f147) [1, 0, 0, 0, 0])) (b := (subc (code Tryz.f147) [1, 0, 0, 0, 1])) (by kernel_rfl) (ann_nil _) k147_c1) (ann_nil _))) (ann_nil _))) (fun v => Nat.le_of_ble_eq_true (by kernel_rfl)) (fun v => h147 C99 C147_c1 v)
def F113_l0 (f147 : Int × Unit → Option (Bool × Unit)) : List UInt8 × Int × Int × Unit → Option ((List UInt8 × Int × Int × Unit) ⊕ ((List UInt8 × Unit) ⊕ (Bool × Unit))) := fun (x0, x1, x2, _) =>
 bif decide (x2 < x1) then
 bif decide (0 ≤ x2) && decide (x2 < (↑x0.length : Int)) then
 (f147 ((↑(x0.getD x2.toNat 0).toNat : Int), ())).bind fun val =>
 bif !val.1 then some (Sum.inr (Sum.inr (false, ())))
 else some (Sum.inl (x0, x1, IntKind.i64.wrap (x2 + 1), ()))
 else none
 else some (Sum.inr (Sum.inl (x0, ())))
theorem h113_l0 (f147 : HS f147_ins → Option (OTy f147_outs)) (v : HS f113_l0_ins) : aev Γ (fun f => Ae.lookA f [(147, ⟨f147_ins, f147_outs, f147⟩)]) 0 (subc (code Tryz.f113) [1, 0, 1, 0, 0]) .nil (stof f113_l0_ins v) (around 0 f113_l0_ins f113_l0_outs) = F113_l0 f147 v := by kernel_rfl
def C113_l0 (v : List UInt8 × Int × Int × Unit) : Option ((List UInt8 × Unit) ⊕ (Bool × Unit)) := loopN (F113_l0 C147) big v
theorem k113_l0 : FragOk Tryz.prog 0 (fun Q a w => (Code.loop (subc (code Tryz.f113) [1, 0, 1, 0, 0])).wp Tryz.prog Q a w) ⟨f113_l0_ins, f113_l0_outs, C113_l0⟩ :=
 frag_loop (ins := f113_l0_ins) (os := f113_l0_outs) (np := 0) (n := .nil) (F := F113_l0 C147) hm hΓ (K := (fun f => Ae.lookA f [(147, ⟨f147_ins, f147_outs, C147⟩)])) (kok_cons ok147 (kok_nil _)) (fun _ => big)
 (ann_nil _) (fun v => h113_l0 C147 v)
def F113 (f113_l0 : List UInt8 × Int × Int × Unit → Option ((List UInt8 × Unit) ⊕ (Bool × Unit))) : List UInt8 × Unit → Option (Bool × Unit) := fun (x0, _) =>
 (f113_l0 (x0, (↑x0.length : Int), 0, ())).bind fun val =>
 Sum.elim (fun val => some (bif val.1 == [] then false else true, ()))
 (fun val => some (val.1, ())) val
theorem h113 (f113_l0 : HS f113_l0_ins → Option (OTy f113_l0_outs)) (v : HS f113_ins) : afun Γ (fun f => Ae.lookA f []) 0 Tryz.f113.ntmps Tryz.f113.results.toList (code Tryz.f113) (.seq .nil (.seq (.seq .nil (.blk (.loop ⟨f113_l0_ins, f113_l0_outs, f113_l0⟩))) .nil)) (em id f113_ins v).1 (em id f113_ins v).2 (ofin 0 f113_outs) = F113 f113_l0 v := by kernel_rfl
def C113 (v : List UInt8 × Unit) : Option (Bool × Unit) := F113 C113_l0 v
theorem ok113 : FnOk Tryz.prog 113 ⟨f113_ins, f113_outs, C113⟩ :=
 fn_ok (np := 0) (n := (.seq .nil (.seq (.seq .nil (.blk (.loop ⟨f113_l0_ins, f113_l0_outs, C113_l0⟩))) .nil))) hm hΓ (K := (fun f => Ae.lookA f [])) (kok_nil _) Tryz.func113 (c := code Tryz.f113) (by kernel_rfl) (name_ne (by kernel_rfl))
 (ann_seq (a := (subc (code Tryz.f113) [0])) (b := (subc (code Tryz.f113) [1])) (by kernel_rfl) (ann_nil _) (ann_seq (a := (subc (code Tryz.f113) [1, 0])) (b := (subc (code Tryz.f113) [1, 1])) (by kernel_rfl) (ann_seq (a := (subc (code Tryz.f113) [1, 0, 0])) (b := (subc (code Tryz.f113) [1, 0, 1])) (by kernel_rfl) (ann_nil _) (ann_blk (x := (subc (code Tryz.f113) [1, 0, 1, 0])) (by kernel_rfl) (ann_loop (x := (subc (code Tryz.f113) [1, 0, 1, 0, 0])) (by kernel_rfl) k113_l0))) (ann_nil _))) (fun v => Nat.le_of_ble_eq_true (by kernel_rfl)) (fun v => h113 C113_l0 v)
def F87_l0 (f113 : List UInt8 × Unit → Option (Bool × Unit)) : List (List UInt8) × Int × Int × Unit → Option ((List (List UInt8) × Int × Int × Unit) ⊕ (Unit ⊕ (Bool × Unit))) := fun (x0, x1, x2, _) =>
 bif decide (x2 < x1) then
 bif decide (0 ≤ x2) && decide (x2 < (↑x0.length : Int)) then
 (f113 (x0.getD x2.toNat [], ())).bind fun val =>
 bif !val.1 then some (Sum.inr (Sum.inr (false, ())))
 else some (Sum.inl (x0, x1, IntKind.i64.wrap (x2 + 1), ()))
 else none
 else some (Sum.inr (Sum.inl ()))
theorem h87_l0 (f113 : HS f113_ins → Option (OTy f113_outs)) (v : HS f87_l0_ins) : aev Γ (fun f => Ae.lookA f [(113, ⟨f113_ins, f113_outs, f113⟩)]) 0 (subc (code Tryz.f87) [1, 0, 1, 0, 0]) .nil (stof f87_l0_ins v) (around 0 f87_l0_ins f87_l0_outs) = F87_l0 f113 v := by kernel_rfl
def C87_l0 (v : List (List UInt8) × Int × Int × Unit) : Option (Unit ⊕ (Bool × Unit)) := loopN (F87_l0 C113) big v
theorem k87_l0 : FragOk Tryz.prog 0 (fun Q a w => (Code.loop (subc (code Tryz.f87) [1, 0, 1, 0, 0])).wp Tryz.prog Q a w) ⟨f87_l0_ins, f87_l0_outs, C87_l0⟩ :=
 frag_loop (ins := f87_l0_ins) (os := f87_l0_outs) (np := 0) (n := .nil) (F := F87_l0 C113) hm hΓ (K := (fun f => Ae.lookA f [(113, ⟨f113_ins, f113_outs, C113⟩)])) (kok_cons ok113 (kok_nil _)) (fun _ => big)
 (ann_nil _) (fun v => h87_l0 C113 v)
def F87 (f112 : List UInt8 × List UInt8 × Unit → Option (List (List UInt8) × Unit)) (f87_l0 : List (List UInt8) × Int × Int × Unit → Option (Unit ⊕ (Bool × Unit))) : List UInt8 × Unit → Option (Bool × Unit) := fun (x0, _) =>
 (f112 (x0, [46], ())).bind fun val =>
 (f87_l0 (val.1, (↑(List.length val.1) : Int), 0, ())).bind fun val =>
 Sum.elim (fun val => some (true, ())) (fun val => some (val.1, ())) val
theorem h87 (f112 : HS f112_ins → Option (OTy f112_outs)) (f87_l0 : HS f87_l0_ins → Option (OTy f87_l0_outs)) (v : HS f87_ins) : afun Γ (fun f => Ae.lookA f [(112, ⟨f112_ins, f112_outs, f112⟩)]) 0 Tryz.f87.ntmps Tryz.f87.results.toList (code Tryz.f87) (.seq .nil (.seq (.seq .nil (.blk (.loop ⟨f87_l0_ins, f87_l0_outs, f87_l0⟩))) .nil)) (em id f87_ins v).1 (em id f87_ins v).2 (ofin 0 f87_outs) = F87 f112 f87_l0 v := by kernel_rfl
def C87 (v : List UInt8 × Unit) : Option (Bool × Unit) := F87 C112 C87_l0 v
theorem ok87 : FnOk Tryz.prog 87 ⟨f87_ins, f87_outs, C87⟩ :=
 fn_ok (np := 0) (n := (.seq .nil (.seq (.seq .nil (.blk (.loop ⟨f87_l0_ins, f87_l0_outs, C87_l0⟩))) .nil))) hm hΓ (K := (fun f => Ae.lookA f [(112, ⟨f112_ins, f112_outs, C112⟩)])) (kok_cons ok112 (kok_nil _)) Tryz.func87 (c := code Tryz.f87) (by kernel_rfl) (name_ne (by kernel_rfl))
 (ann_seq (a := (subc (code Tryz.f87) [0])) (b := (subc (code Tryz.f87) [1])) (by kernel_rfl) (ann_nil _) (ann_seq (a := (subc (code Tryz.f87) [1, 0])) (b := (subc (code Tryz.f87) [1, 1])) (by kernel_rfl) (ann_seq (a := (subc (code Tryz.f87) [1, 0, 0])) (b := (subc (code Tryz.f87) [1, 0, 1])) (by kernel_rfl) (ann_nil _) (ann_blk (x := (subc (code Tryz.f87) [1, 0, 1, 0])) (by kernel_rfl) (ann_loop (x := (subc (code Tryz.f87) [1, 0, 1, 0, 0])) (by kernel_rfl) k87_l0))) (ann_nil _))) (fun v => Nat.le_of_ble_eq_true (by kernel_rfl)) (fun v => h87 C112 C87_l0 v)
def F114_l0  : List UInt8 × Int × Int × List UInt8 × Unit → Option ((List UInt8 × Int × Int × List UInt8 × Unit) ⊕ (List UInt8 × Unit)) := fun (x0, x1, x2, x3, _) =>
 bif decide (x2 < x1) then
 bif decide (0 ≤ x2) && decide (x2 < (↑x0.length : Int)) then
 bif (↑(x0.getD x2.toNat 0).toNat : Int) == 34 then
 bif decide (x3.length + [92].length ≤ 140737488355328 / 1) then
 bif decide (0 ≤ x2) && decide (x2 < (↑x0.length : Int)) then
 bif
 decide
 ((x3 ++ [92]).length +
 [UInt8.ofNat (↑(x0.getD x2.toNat 0).toNat : Int).toNat].length ≤
 140737488355328 / 1) then
 some
 (Sum.inl
 (x0, x1, IntKind.i64.wrap (x2 + 1),
 x3 ++ [92] ++ [UInt8.ofNat (↑(x0.getD x2.toNat 0).toNat : Int).toNat],
 ()))
 else none
 else none
 else none
 else
 bif decide (0 ≤ x2) && decide (x2 < (↑x0.length : Int)) then
 bif (↑(x0.getD x2.toNat 0).toNat : Int) == 92 then
 bif decide (x3.length + [92].length ≤ 140737488355328 / 1) then
 bif decide (0 ≤ x2) && decide (x2 < (↑x0.length : Int)) then
 bif
 decide
 ((x3 ++ [92]).length +
 [UInt8.ofNat (↑(x0.getD x2.toNat 0).toNat : Int).toNat].length ≤
 140737488355328 / 1) then
 some
 (Sum.inl
 (x0, x1, IntKind.i64.wrap (x2 + 1),
 x3 ++ [92] ++ [UInt8.ofNat (↑(x0.getD x2.toNat 0).toNat : Int).toNat],
 ()))
 else none
 else none
 else none
 else
 bif decide (0 ≤ x2) && decide (x2 < (↑x0.length : Int)) then
 bif
 decide
 (x3.length + [UInt8.ofNat (↑(x0.getD x2.toNat 0).toNat : Int).toNat].length ≤
 140737488355328 / 1) then
 some
 (Sum.inl
 (x0, x1, IntKind.i64.wrap (x2 + 1), x3 ++ [UInt8.ofNat (↑(x0.getD x2.toNat 0).toNat : Int).toNat],
 ()))
 else none
 else none
 else none
 else none
 else some (Sum.inr (x3, ()))
theorem h114_l0  (v : HS f114_l0_ins) : aev Γ (fun f => Ae.lookA f []) 0 (subc (code Tryz.f114) [1, 1, 0, 1, 0, 0]) .nil (stof f114_l0_ins v) (around 0 f114_l0_ins f114_l0_outs) = F114_l0 v := by kernel_rfl
def C114_l0 (v : List UInt8 × Int × Int × List UInt8 × Unit) : Option (List UInt8 × Unit) := loopN (F114_l0) big v
theorem k114_l0 : FragOk Tryz.prog 0 (fun Q a w => (Code.loop (subc (code Tryz.f114) [1, 1, 0, 1, 0, 0])).wp Tryz.prog Q a w) ⟨f114_l0_ins, f114_l0_outs, C114_l0⟩ :=
 frag_loop (ins := f114_l0_ins) (os := f114_l0_outs) (np := 0) (n := .nil) (F := F114_l0) hm hΓ (K := (fun f => Ae.lookA f [])) (kok_nil _) (fun _ => big)
 (ann_nil _) (fun v => h114_l0 v)
def F114 (f114_l0 : List UInt8 × Int × Int × List UInt8 × Unit → Option (List UInt8 × Unit)) : List UInt8 × Unit → Option (List UInt8 × Unit) := fun (x0, _) =>
 (f114_l0 (x0, (↑x0.length : Int), 0, [], ())).bind fun val => some (val.1, ())
theorem h114 (f114_l0 : HS f114_l0_ins → Option (OTy f114_l0_outs)) (v : HS f114_ins) : afun Γ (fun f => Ae.lookA f []) 0 Tryz.f114.ntmps Tryz.f114.results.toList (code Tryz.f114) (.seq .nil (.seq .nil (.seq (.seq .nil (.blk (.loop ⟨f114_l0_ins, f114_l0_outs, f114_l0⟩))) .nil))) (em id f114_ins v).1 (em id f114_ins v).2 (ofin 0 f114_outs) = F114 f114_l0 v := by kernel_rfl
def C114 (v : List UInt8 × Unit) : Option (List UInt8 × Unit) := F114 C114_l0 v
theorem ok114 : FnOk Tryz.prog 114 ⟨f114_ins, f114_outs, C114⟩ :=
 fn_ok (np := 0) (n := (.seq .nil (.seq .nil (.seq (.seq .nil (.blk (.loop ⟨f114_l0_ins, f114_l0_outs, C114_l0⟩))) .nil)))) hm hΓ (K := (fun f => Ae.lookA f [])) (kok_nil _) Tryz.func114 (c := code Tryz.f114) (by kernel_rfl) (name_ne (by kernel_rfl))
 (ann_seq (a := (subc (code Tryz.f114) [0])) (b := (subc (code Tryz.f114) [1])) (by kernel_rfl) (ann_nil _) (ann_seq (a := (subc (code Tryz.f114) [1, 0])) (b := (subc (code Tryz.f114) [1, 1])) (by kernel_rfl) (ann_nil _) (ann_seq (a := (subc (code Tryz.f114) [1, 1, 0])) (b := (subc (code Tryz.f114) [1, 1, 1])) (by kernel_rfl) (ann_seq (a := (subc (code Tryz.f114) [1, 1, 0, 0])) (b := (subc (code Tryz.f114) [1, 1, 0, 1])) (by kernel_rfl) (ann_nil _) (ann_blk (x := (subc (code Tryz.f114) [1, 1, 0, 1, 0])) (by kernel_rfl) (ann_loop (x := (subc (code Tryz.f114) [1, 1, 0, 1, 0, 0])) (by kernel_rfl) k114_l0))) (ann_nil _)))) (fun v => Nat.le_of_ble_eq_true (by kernel_rfl)) (fun v => h114 C114_l0 v)
def F88 (f114 : List UInt8 × Unit → Option (List UInt8 × Unit)) : Int × List UInt8 × Int × Unit → Option (List UInt8 × Unit) := fun (x0, x1, x2, _) =>
 bif x0 == 1 then
 (f114 (x1, ())).bind fun val =>
 bif decide ([34].length + List.length val.1 ≤ 9223372036854775807) then
 bif decide (([34] ++ val.1).length + [34].length ≤ 9223372036854775807) then
 some ([34] ++ val.1 ++ [34], ())
 else none
 else none
 else
 bif x0 == 3 then
 bif decide ([40].length + x1.length ≤ 9223372036854775807) then
 bif decide (([40] ++ x1).length + [41].length ≤ 9223372036854775807) then
 some ([40] ++ x1 ++ [41], ())
 else none
 else none
 else
 bif x0 == 5 then
 bif decide ([91].length + x1.length ≤ 9223372036854775807) then
 bif decide (([91] ++ x1).length + [93].length ≤ 9223372036854775807) then
 some ([91] ++ x1 ++ [93], ())
 else none
 else none
 else some (x1, ())
theorem h88 (f114 : HS f114_ins → Option (OTy f114_outs)) (v : HS f88_ins) : afun Γ (fun f => Ae.lookA f [(114, ⟨f114_ins, f114_outs, f114⟩)]) 0 Tryz.f88.ntmps Tryz.f88.results.toList (code Tryz.f88) .nil (em id f88_ins v).1 (em id f88_ins v).2 (ofin 0 f88_outs) = F88 f114 v := by kernel_rfl
def C88 (v : Int × List UInt8 × Int × Unit) : Option (List UInt8 × Unit) := F88 C114 v
theorem ok88 : FnOk Tryz.prog 88 ⟨f88_ins, f88_outs, C88⟩ :=
 fn_ok (np := 0) (n := .nil) hm hΓ (K := (fun f => Ae.lookA f [(114, ⟨f114_ins, f114_outs, C114⟩)])) (kok_cons ok114 (kok_nil _)) Tryz.func88 (c := code Tryz.f88) (by kernel_rfl) (name_ne (by kernel_rfl))
 (ann_nil _) (fun v => Nat.le_of_ble_eq_true (by kernel_rfl)) (fun v => h88 C114 v)
def F60 (f87 : List UInt8 × Unit → Option (Bool × Unit)) (f88 : Int × List UInt8 × Int × Unit → Option (List UInt8 × Unit)) : List UInt8 × List UInt8 × Unit → Option (List UInt8 × Unit) := fun (x0, x1, _) =>
 (f87 (x0, ())).bind fun val =>
 bif !val.1 then
 (f88 (1, x0, 0, ())).bind fun val =>
 bif decide (List.length val.1 + [64].length ≤ 9223372036854775807) then
 bif decide ((val.1 ++ [64]).length + x1.length ≤ 9223372036854775807) then
 some (val.1 ++ [64] ++ x1, ())
 else none
 else none
 else
 bif decide (x0.length + [64].length ≤ 9223372036854775807) then
 bif decide ((x0 ++ [64]).length + x1.length ≤ 9223372036854775807) then
 some (x0 ++ [64] ++ x1, ())
 else none
 else none
theorem h60 (f87 : HS f87_ins → Option (OTy f87_outs)) (f88 : HS f88_ins → Option (OTy f88_outs)) (v : HS f60_ins) : afun Γ (fun f => Ae.lookA f [(87, ⟨f87_ins, f87_outs, f87⟩), (88, ⟨f88_ins, f88_outs, f88⟩)]) 0 Tryz.f60.ntmps Tryz.f60.results.toList (code Tryz.f60) .nil (em id f60_ins v).1 (em id f60_ins v).2 (ofin 0 f60_outs) = F60 f87 f88 v := by kernel_rfl
def C60 (v : List UInt8 × List UInt8 × Unit) : Option (List UInt8 × Unit) := F60 C87 C88 v
theorem ok60 : FnOk Tryz.prog 60 ⟨f60_ins, f60_outs, C60⟩ :=
 fn_ok (np := 0) (n := .nil) hm hΓ (K := (fun f => Ae.lookA f [(87, ⟨f87_ins, f87_outs, C87⟩), (88, ⟨f88_ins, f88_outs, C88⟩)])) (kok_cons ok87 (kok_cons ok88 (kok_nil _))) Tryz.func60 (c := code Tryz.f60) (by kernel_rfl) (name_ne (by kernel_rfl))
 (ann_nil _) (fun v => Nat.le_of_ble_eq_true (by kernel_rfl)) (fun v => h60 C87 C88 v)
def F23 (f59 : Bool × List UInt8 × List UInt8 × Unit → Option (Bool × Unit)) (f60 : List UInt8 × List UInt8 × Unit → Option (List UInt8 × Unit)) : Bool × List UInt8 × List UInt8 × Unit → Option (List UInt8 × Unit) := fun (x0, x1, x2, _) =>
 bif x0 then some ([60, 62], ())
 else
 (f59 (x0, x1, x2, ())).bind fun val =>
 bif val.1 then
 bif decide ([60].length + x1.length ≤ 9223372036854775807) then
 bif decide (([60] ++ x1).length + [62].length ≤ 9223372036854775807) then
 some ([60] ++ x1 ++ [62], ())
 else none
 else none
 else
 (f60 (x1, x2, ())).bind fun val =>
 bif decide ([60].length + List.length val.1 ≤ 9223372036854775807) then
 bif decide (([60] ++ val.1).length + [62].length ≤ 9223372036854775807) then
 some ([60] ++ val.1 ++ [62], ())
 else none
 else none
theorem h23 (f59 : HS f59_ins → Option (OTy f59_outs)) (f60 : HS f60_ins → Option (OTy f60_outs)) (v : HS f23_ins) : afun Γ (fun f => Ae.lookA f [(59, ⟨f59_ins, f59_outs, f59⟩), (60, ⟨f60_ins, f60_outs, f60⟩)]) 0 Tryz.f23.ntmps Tryz.f23.results.toList (code Tryz.f23) .nil (em id f23_ins v).1 (em id f23_ins v).2 (ofin 0 f23_outs) = F23 f59 f60 v := by kernel_rfl
def C23 (v : Bool × List UInt8 × List UInt8 × Unit) : Option (List UInt8 × Unit) := F23 C59 C60 v
theorem ok23 : FnOk Tryz.prog 23 ⟨f23_ins, f23_outs, C23⟩ :=
 fn_ok (np := 0) (n := .nil) hm hΓ (K := (fun f => Ae.lookA f [(59, ⟨f59_ins, f59_outs, C59⟩), (60, ⟨f60_ins, f60_outs, C60⟩)])) (kok_cons ok59 (kok_cons ok60 (kok_nil _))) Tryz.func23 (c := code Tryz.f23) (by kernel_rfl) (name_ne (by kernel_rfl))
 (ann_nil _) (fun v => Nat.le_of_ble_eq_true (by kernel_rfl)) (fun v => h23 C59 C60 v)
def F13 (f38 : Int × Unit → Option (List UInt8 × Unit)) : Int × Unit → Option (List UInt8 × Unit) := fun (x0, _) =>
 bif decide (x0 < 100) then some ([53, 46, 48, 46, 48], ())
 else
 bif decide (x0 > 999) then some ([53, 46, 48, 46, 48], ())
 else
 (f38 (x0, ())).bind fun val =>
 bif decide (1 ≤ (↑(List.length val.1) : Int)) then
 bif decide ((List.take 1 val.1).length + [46].length ≤ 9223372036854775807) then
 bif decide (2 ≤ (↑(List.length val.1) : Int)) then
 bif
 decide
 ((List.take 1 val.1 ++ [46]).length +
 (List.drop 1 (List.take 2 val.1)).length ≤
 9223372036854775807) then
 bif
 decide
 ((List.take 1 val.1 ++ [46] ++
 List.drop 1 (List.take 2 val.1)).length +
 [46].length ≤
 9223372036854775807) then
 bif decide (2 ≤ (↑(List.length val.1) : Int)) then
 bif
 decide
 ((List.take 1 val.1 ++ [46] ++
 List.drop 1 (List.take 2 val.1) ++
 [46]).length +
 (List.drop 2 val.1).length ≤
 9223372036854775807) then
 some
 (List.take 1 val.1 ++ [46] ++
 List.drop 1 (List.take 2 val.1) ++
 [46] ++
 List.drop 2 val.1,
 ())
 else none
 else none
 else none
 else none
 else none
 else none
 else none
theorem h13 (f38 : HS f38_ins → Option (OTy f38_outs)) (v : HS f13_ins) : afun Γ (fun f => Ae.lookA f [(38, ⟨f38_ins, f38_outs, f38⟩)]) 0 Tryz.f13.ntmps Tryz.f13.results.toList (code Tryz.f13) .nil (em id f13_ins v).1 (em id f13_ins v).2 (ofin 0 f13_outs) = F13 f38 v := by kernel_rfl
def C13 (v : Int × Unit) : Option (List UInt8 × Unit) := F13 C38 v
theorem ok13 : FnOk Tryz.prog 13 ⟨f13_ins, f13_outs, C13⟩ :=
 fn_ok (np := 0) (n := .nil) hm hΓ (K := (fun f => Ae.lookA f [(38, ⟨f38_ins, f38_outs, C38⟩)])) (kok_cons ok38 (kok_nil _)) Tryz.func13 (c := code Tryz.f13) (by kernel_rfl) (name_ne (by kernel_rfl))
 (ann_nil _) (fun v => Nat.le_of_ble_eq_true (by kernel_rfl)) (fun v => h13 C38 v)
def F71_g0  : List (List UInt8) × Int × Unit → Option ((List (List UInt8) × Int × Unit) ⊕ (Int × Unit)) := fun (x0, x1, _) =>
 bif x1 == (↑x0.length : Int) then some (Sum.inr (x1, ()))
 else
 bif decide (0 ≤ x1) && decide (x1 < (↑x0.length : Int)) then
 bif x0.getD x1.toNat [] == [] then some (Sum.inr (x1, ()))
 else some (Sum.inl (x0, IntKind.i64.wrap (x1 + 1), ()))
 else none
theorem h71_g0  (v : HS f71_g0_ins) : aev Γ (fun f => Ae.lookA f []) 0 ((findLabel (subc (code Tryz.f71) [1, 0]) 0).getD .skip) .nil (stof f71_g0_ins v) (aroundL 0 0 [] f71_g0_ins f71_g0_outs) = F71_g0 v := by kernel_rfl
def C71_g0 (v : List (List UInt8) × Int × Unit) : Option (Int × Unit) := loopN (F71_g0) big v
theorem k71_g0 : FragOk Tryz.prog 0 (ScopeFrom Tryz.prog (subc (code Tryz.f71) [1, 0]) 0) ⟨f71_g0_ins, f71_g0_outs, C71_g0⟩ :=
 frag_label (ins := f71_g0_ins) (os := f71_g0_outs) (np := 0) (n := .nil) (ls := []) (F := F71_g0) (rest := (findLabel (subc (code Tryz.f71) [1, 0]) 0).getD .skip) hm hΓ (K := (fun f => Ae.lookA f [])) (kok_nil _) (fun _ => big) (by kernel_rfl)
 (ann_nil _) find_nil (fun v => h71_g0 v)
def F71 (f71_g0 : List (List UInt8) × Int × Unit → Option (Int × Unit)) : List (List UInt8) × Unit → Option (Int × Unit) := fun (x0, _) =>
 bif 0 == (↑x0.length : Int) then some (0, ())
 else
 bif decide (0 < (↑x0.length : Int)) then
 bif x0.getD 0 [] == [] then some (0, ())
 else (f71_g0 (x0, IntKind.i64.wrap (0 + 1), ())).bind fun val => some (val.1, ())
 else none
theorem h71 (f71_g0 : HS f71_g0_ins → Option (OTy f71_g0_outs)) (v : HS f71_ins) : afun Γ (fun f => Ae.lookA f []) 0 Tryz.f71.ntmps Tryz.f71.results.toList (code Tryz.f71) (.seq .nil (.scope .nil [(0, ⟨f71_g0_ins, f71_g0_outs, f71_g0⟩)])) (em id f71_ins v).1 (em id f71_ins v).2 (ofin 0 f71_outs) = F71 f71_g0 v := by kernel_rfl
def C71 (v : List (List UInt8) × Unit) : Option (Int × Unit) := F71 C71_g0 v
theorem ok71 : FnOk Tryz.prog 71 ⟨f71_ins, f71_outs, C71⟩ :=
 fn_ok (np := 0) (n := (.seq .nil (.scope .nil [(0, ⟨f71_g0_ins, f71_g0_outs, C71_g0⟩)]))) hm hΓ (K := (fun f => Ae.lookA f [])) (kok_nil _) Tryz.func71 (c := code Tryz.f71) (by kernel_rfl) (name_ne (by kernel_rfl))
 (ann_seq (a := (subc (code Tryz.f71) [0])) (b := (subc (code Tryz.f71) [1])) (by kernel_rfl) (ann_nil _) (ann_scope (x := (subc (code Tryz.f71) [1, 0])) (by kernel_rfl) (ann_nil _) (find_cons k71_g0 find_nil))) (fun v => Nat.le_of_ble_eq_true (by kernel_rfl)) (fun v => h71 C71_g0 v)
def F22_l0  : List UInt8 × Int × Int × Unit → Option ((List UInt8 × Int × Int × Unit) ⊕ (Unit ⊕ (Int × Unit))) := fun (x0, x1, x2, _) =>
 bif decide (x2 < x1) then
 bif decide (0 ≤ x2) && decide (x2 < (↑x0.length : Int)) then
 bif decide ((↑(x0.getD x2.toNat 0).toNat : Int) ≥ 128) then some (Sum.inr (Sum.inr (x2, ())))
 else some (Sum.inl (x0, x1, IntKind.i64.wrap (x2 + 1), ()))
 else none
 else some (Sum.inr (Sum.inl ()))
theorem h22_l0  (v : HS f22_l0_ins) : aev Γ (fun f => Ae.lookA f []) 0 (subc (code Tryz.f22) [1, 0, 1, 0, 0]) .nil (stof f22_l0_ins v) (around 0 f22_l0_ins f22_l0_outs) = F22_l0 v := by kernel_rfl
def C22_l0 (v : List UInt8 × Int × Int × Unit) : Option (Unit ⊕ (Int × Unit)) := loopN (F22_l0) big v
theorem k22_l0 : FragOk Tryz.prog 0 (fun Q a w => (Code.loop (subc (code Tryz.f22) [1, 0, 1, 0, 0])).wp Tryz.prog Q a w) ⟨f22_l0_ins, f22_l0_outs, C22_l0⟩ :=
 frag_loop (ins := f22_l0_ins) (os := f22_l0_outs) (np := 0) (n := .nil) (F := F22_l0) hm hΓ (K := (fun f => Ae.lookA f [])) (kok_nil _) (fun _ => big)
 (ann_nil _) (fun v => h22_l0 v)
def F22 (f22_l0 : List UInt8 × Int × Int × Unit → Option (Unit ⊕ (Int × Unit))) : List UInt8 × Unit → Option (Int × Unit) := fun (x0, _) =>
 (f22_l0 (x0, (↑x0.length : Int), 0, ())).bind fun val =>
 Sum.elim (fun val => some (-1, ())) (fun val => some (val.1, ())) val
theorem h22 (f22_l0 : HS f22_l0_ins → Option (OTy f22_l0_outs)) (v : HS f22_ins) : afun Γ (fun f => Ae.lookA f []) 0 Tryz.f22.ntmps Tryz.f22.results.toList (code Tryz.f22) (.seq .nil (.seq (.seq .nil (.blk (.loop ⟨f22_l0_ins, f22_l0_outs, f22_l0⟩))) .nil)) (em id f22_ins v).1 (em id f22_ins v).2 (ofin 0 f22_outs) = F22 f22_l0 v := by kernel_rfl
def C22 (v : List UInt8 × Unit) : Option (Int × Unit) := F22 C22_l0 v
theorem ok22 : FnOk Tryz.prog 22 ⟨f22_ins, f22_outs, C22⟩ :=
 fn_ok (np := 0) (n := (.seq .nil (.seq (.seq .nil (.blk (.loop ⟨f22_l0_ins, f22_l0_outs, C22_l0⟩))) .nil))) hm hΓ (K := (fun f => Ae.lookA f [])) (kok_nil _) Tryz.func22 (c := code Tryz.f22) (by kernel_rfl) (name_ne (by kernel_rfl))
 (ann_seq (a := (subc (code Tryz.f22) [0])) (b := (subc (code Tryz.f22) [1])) (by kernel_rfl) (ann_nil _) (ann_seq (a := (subc (code Tryz.f22) [1, 0])) (b := (subc (code Tryz.f22) [1, 1])) (by kernel_rfl) (ann_seq (a := (subc (code Tryz.f22) [1, 0, 0])) (b := (subc (code Tryz.f22) [1, 0, 1])) (by kernel_rfl) (ann_nil _) (ann_blk (x := (subc (code Tryz.f22) [1, 0, 1, 0])) (by kernel_rfl) (ann_loop (x := (subc (code Tryz.f22) [1, 0, 1, 0, 0])) (by kernel_rfl) k22_l0))) (ann_nil _))) (fun v => Nat.le_of_ble_eq_true (by kernel_rfl)) (fun v => h22 C22_l0 v)
def F73 (f22 : List UInt8 × Unit → Option (Int × Unit)) : List UInt8 × Unit → Option (Bool × Unit) := fun (x0, _) =>
 (f22 (x0, ())).bind fun val => some (decide (val.1 ≥ 0), ())
theorem h73 (f22 : HS f22_ins → Option (OTy f22_outs)) (v : HS f73_ins) : afun Γ (fun f => Ae.lookA f [(22, ⟨f22_ins, f22_outs, f22⟩)]) 0 Tryz.f73.ntmps Tryz.f73.results.toList (code Tryz.f73) .nil (em id f73_ins v).1 (em id f73_ins v).2 (ofin 0 f73_outs) = F73 f22 v := by kernel_rfl
def C73 (v : List UInt8 × Unit) : Option (Bool × Unit) := F73 C22 v
theorem ok73 : FnOk Tryz.prog 73 ⟨f73_ins, f73_outs, C73⟩ :=
 fn_ok (np := 0) (n := .nil) hm hΓ (K := (fun f => Ae.lookA f [(22, ⟨f22_ins, f22_outs, C22⟩)])) (kok_cons ok22 (kok_nil _)) Tryz.func73 (c := code Tryz.f73) (by kernel_rfl) (name_ne (by kernel_rfl))
 (ann_nil _) (fun v => Nat.le_of_ble_eq_true (by kernel_rfl)) (fun v => h73 C22 v)
def F98_l0 (f73 : List UInt8 × Unit → Option (Bool × Unit)) : List (List UInt8) × Int × Int × Unit → Option ((List (List UInt8) × Int × Int × Unit) ⊕ (Unit ⊕ (Int × Unit))) := fun (x0, x1, x2, _) =>
 bif decide (x2 < x1) then
 bif decide (0 ≤ x2) && decide (x2 < (↑x0.length : Int)) then
 (f73 (x0.getD x2.toNat [], ())).bind fun val =>
 bif val.1 then some (Sum.inr (Sum.inr (x2, ())))
 else some (Sum.inl (x0, x1, IntKind.i64.wrap (x2 + 1), ()))
 else none
 else some (Sum.inr (Sum.inl ()))
theorem h98_l0 (f73 : HS f73_ins → Option (OTy f73_outs)) (v : HS f98_l0_ins) : aev Γ (fun f => Ae.lookA f [(73, ⟨f73_ins, f73_outs, f73⟩)]) 0 (subc (code Tryz.f98) [1, 0, 1, 0, 0]) .nil (stof f98_l0_ins v) (around 0 f98_l0_ins f98_l0_outs) = F98_l0 f73 v := by kernel_rfl
def C98_l0 (v : List (List UInt8) × Int × Int × Unit) : Option (Unit ⊕ (Int × Unit)) := loopN (F98_l0 C73) big v
theorem k98_l0 : FragOk Tryz.prog 0 (fun Q a w => (Code.loop (subc (code Tryz.f98) [1, 0, 1, 0, 0])).wp Tryz.prog Q a w) ⟨f98_l0_ins, f98_l0_outs, C98_l0⟩ :=
 frag_loop (ins := f98_l0_ins) (os := f98_l0_outs) (np := 0) (n := .nil) (F := F98_l0 C73) hm hΓ (K := (fun f => Ae.lookA f [(73, ⟨f73_ins, f73_outs, C73⟩)])) (kok_cons ok73 (kok_nil _)) (fun _ => big)
 (ann_nil _) (fun v => h98_l0 C73 v)
def F98 (f98_l0 : List (List UInt8) × Int × Int × Unit → Option (Unit ⊕ (Int × Unit))) : List (List UInt8) × Unit → Option (Int × Unit) := fun (x0, _) =>
 (f98_l0 (x0, (↑x0.length : Int), 0, ())).bind fun val =>
 Sum.elim (fun val => some (-1, ())) (fun val => some (val.1, ())) val
theorem h98 (f98_l0 : HS f98_l0_ins → Option (OTy f98_l0_outs)) (v : HS f98_ins) : afun Γ (fun f => Ae.lookA f []) 0 Tryz.f98.ntmps Tryz.f98.results.toList (code Tryz.f98) (.seq .nil (.seq (.seq .nil (.blk (.loop ⟨f98_l0_ins, f98_l0_outs, f98_l0⟩))) .nil)) (em id f98_ins v).1 (em id f98_ins v).2 (ofin 0 f98_outs) = F98 f98_l0 v := by kernel_rfl
def C98 (v : List (List UInt8) × Unit) : Option (Int × Unit) := F98 C98_l0 v
theorem ok98 : FnOk Tryz.prog 98 ⟨f98_ins, f98_outs, C98⟩ :=
 fn_ok (np := 0) (n := (.seq .nil (.seq (.seq .nil (.blk (.loop ⟨f98_l0_ins, f98_l0_outs, C98_l0⟩))) .nil))) hm hΓ (K := (fun f => Ae.lookA f [])) (kok_nil _) Tryz.func98 (c := code Tryz.f98) (by kernel_rfl) (name_ne (by kernel_rfl))
 (ann_seq (a := (subc (code Tryz.f98) [0])) (b := (subc (code Tryz.f98) [1])) (by kernel_rfl) (ann_nil _) (ann_seq (a := (subc (code Tryz.f98) [1, 0])) (b := (subc (code Tryz.f98) [1, 1])) (by kernel_rfl) (ann_seq (a := (subc (code Tryz.f98) [1, 0, 0])) (b := (subc (code Tryz.f98) [1, 0, 1])) (by kernel_rfl) (ann_nil _) (ann_blk (x := (subc (code Tryz.f98) [1, 0, 1, 0])) (by kernel_rfl) (ann_loop (x := (subc (code Tryz.f98) [1, 0, 1, 0, 0])) (by kernel_rfl) k98_l0))) (ann_nil _))) (fun v => Nat.le_of_ble_eq_true (by kernel_rfl)) (fun v => h98 C98_l0 v)
def F72 (f98 : List (List UInt8) × Unit → Option (Int × Unit)) : List (List UInt8) × Unit → Option (Bool × Unit) := fun (x0, _) =>
 (f98 (x0, ())).bind fun val => some (decide (val.1 ≥ 0), ())
theorem h72 (f98 : HS f98_ins → Option (OTy f98_outs)) (v : HS f72_ins) : afun Γ (fun f => Ae.lookA f [(98, ⟨f98_ins, f98_outs, f98⟩)]) 0 Tryz.f72.ntmps Tryz.f72.results.toList (code Tryz.f72) .nil (em id f72_ins v).1 (em id f72_ins v).2 (ofin 0 f72_outs) = F72 f98 v := by kernel_rfl
def C72 (v : List (List UInt8) × Unit) : Option (Bool × Unit) := F72 C98 v
theorem ok72 : FnOk Tryz.prog 72 ⟨f72_ins, f72_outs, C72⟩ :=
 fn_ok (np := 0) (n := .nil) hm hΓ (K := (fun f => Ae.lookA f [(98, ⟨f98_ins, f98_outs, C98⟩)])) (kok_cons ok98 (kok_nil _)) Tryz.func72 (c := code Tryz.f72) (by kernel_rfl) (name_ne (by kernel_rfl))
 (ann_nil _) (fun v => Nat.le_of_ble_eq_true (by kernel_rfl)) (fun v => h72 C98 v)
def F74 (f21 : List UInt8 × Unit → Option (List (Int) × Int × Unit)) : List UInt8 × Unit → Option (Bool × Unit) := fun (x0, _) =>
 (f21 (x0, ())).bind fun val => some (decide (val.2.1 ≥ 0), ())
theorem h74 (f21 : HS f21_ins → Option (OTy f21_outs)) (v : HS f74_ins) : afun Γ (fun f => Ae.lookA f [(21, ⟨f21_ins, f21_outs, f21⟩)]) 0 Tryz.f74.ntmps Tryz.f74.results.toList (code Tryz.f74) .nil (em id f74_ins v).1 (em id f74_ins v).2 (ofin 0 f74_outs) = F74 f21 v := by kernel_rfl
def C74 (v : List UInt8 × Unit) : Option (Bool × Unit) := F74 C21 v
theorem ok74 : FnOk Tryz.prog 74 ⟨f74_ins, f74_outs, C74⟩ :=
 fn_ok (np := 0) (n := .nil) hm hΓ (K := (fun f => Ae.lookA f [(21, ⟨f21_ins, f21_outs, C21⟩)])) (kok_cons ok21 (kok_nil _)) Tryz.func74 (c := code Tryz.f74) (by kernel_rfl) (name_ne (by kernel_rfl))
 (ann_nil _) (fun v => Nat.le_of_ble_eq_true (by kernel_rfl)) (fun v => h74 C21 v)
def F98v1_l0 (f74 : List UInt8 × Unit → Option (Bool × Unit)) : List (List UInt8) × Int × Int × Unit → Option ((List (List UInt8) × Int × Int × Unit) ⊕ (Unit ⊕ (Int × Unit))) := fun (x0, x1, x2, _) =>
 bif decide (x2 < x1) then
 bif decide (0 ≤ x2) && decide (x2 < (↑x0.length : Int)) then
 (f74 (x0.getD x2.toNat [], ())).bind fun val =>
 bif val.1 then some (Sum.inr (Sum.inr (x2, ())))
 else some (Sum.inl (x0, x1, IntKind.i64.wrap (x2 + 1), ()))
 else none
 else some (Sum.inr (Sum.inl ()))
theorem h98v1_l0 (f74 : HS f74_ins → Option (OTy f74_outs)) (v : HS f98v1_l0_ins) : aev Γ (fun f => Ae.lookA f [(74, ⟨f74_ins, f74_outs, f74⟩)]) 0 (subc (code Tryz.f98) [1, 0, 1, 0, 0]) .nil (stof f98v1_l0_ins v) (around 0 f98v1_l0_ins f98v1_l0_outs) = F98v1_l0 f74 v := by kernel_rfl
def C98v1_l0 (v : List (List UInt8) × Int × Int × Unit) : Option (Unit ⊕ (Int × Unit)) := loopN (F98v1_l0 C74) big v
theorem k98v1_l0 : FragOk Tryz.prog 0 (fun Q a w => (Code.loop (subc (code Tryz.f98) [1, 0, 1, 0, 0])).wp Tryz.prog Q a w) ⟨f98v1_l0_ins, f98v1_l0_outs, C98v1_l0⟩ :=
 frag_loop (ins := f98v1_l0_ins) (os := f98v1_l0_outs) (np := 0) (n := .nil) (F := F98v1_l0 C74) hm hΓ (K := (fun f => Ae.lookA f [(74, ⟨f74_ins, f74_outs, C74⟩)])) (kok_cons ok74 (kok_nil _)) (fun _ => big)
 (ann_nil _) (fun v => h98v1_l0 C74 v)
def F98v1 (f98v1_l0 : List (List UInt8) × Int × Int × Unit → Option (Unit ⊕ (Int × Unit))) : List (List UInt8) × Unit → Option (Int × Unit) := fun (x0, _) =>
 (f98v1_l0 (x0, (↑x0.length : Int), 0, ())).bind fun val =>
 Sum.elim (fun val => some (-1, ())) (fun val => some (val.1, ())) val
theorem h98v1 (f98v1_l0 : HS f98v1_l0_ins → Option (OTy f98v1_l0_outs)) (v : HS f98v1_ins) : afun Γ (fun f => Ae.lookA f []) 0 Tryz.f98.ntmps Tryz.f98.results.toList (code Tryz.f98) (.seq .nil (.seq (.seq .nil (.blk (.loop ⟨f98v1_l0_ins, f98v1_l0_outs, f98v1_l0⟩))) .nil)) (em id f98v1_ins v).1 (em id f98v1_ins v).2 (ofin 0 f98v1_outs) = F98v1 f98v1_l0 v := by kernel_rfl
def C98v1 (v : List (List UInt8) × Unit) : Option (Int × Unit) := F98v1 C98v1_l0 v
theorem ok98v1 : FnOk Tryz.prog 98 ⟨f98v1_ins, f98v1_outs, C98v1⟩ :=
 fn_ok (np := 0) (n := (.seq .nil (.seq (.seq .nil (.blk (.loop ⟨f98v1_l0_ins, f98v1_l0_outs, C98v1_l0⟩))) .nil))) hm hΓ (K := (fun f => Ae.lookA f [])) (kok_nil _) Tryz.func98 (c := code Tryz.f98) (by kernel_rfl) (name_ne (by kernel_rfl))
 (ann_seq (a := (subc (code Tryz.f98) [0])) (b := (subc (code Tryz.f98) [1])) (by kernel_rfl) (ann_nil _) (ann_seq (a := (subc (code Tryz.f98) [1, 0])) (b := (subc (code Tryz.f98) [1, 1])) (by kernel_rfl) (ann_seq (a := (subc (code Tryz.f98) [1, 0, 0])) (b := (subc (code Tryz.f98) [1, 0, 1])) (by kernel_rfl) (ann_nil _) (ann_blk (x := (subc (code Tryz.f98) [1, 0, 1, 0])) (by kernel_rfl) (ann_loop (x := (subc (code Tryz.f98) [1, 0, 1, 0, 0])) (by kernel_rfl) k98v1_l0))) (ann_nil _))) (fun v => Nat.le_of_ble_eq_true (by kernel_rfl)) (fun v => h98v1 C98v1_l0 v)
def F72v1 (f98v1 : List (List UInt8) × Unit → Option (Int × Unit)) : List (List UInt8) × Unit → Option (Bool × Unit) := fun (x0, _) =>
 (f98v1 (x0, ())).bind fun val => some (decide (val.1 ≥ 0), ())
theorem h72v1 (f98v1 : HS f98v1_ins → Option (OTy f98v1_outs)) (v : HS f72v1_ins) : afun Γ (fun f => Ae.lookA f [(98, ⟨f98v1_ins, f98v1_outs, f98v1⟩)]) 0 Tryz.f72.ntmps Tryz.f72.results.toList (code Tryz.f72) .nil (em id f72v1_ins v).1 (em id f72v1_ins v).2 (ofin 0 f72v1_outs) = F72v1 f98v1 v := by kernel_rfl
def C72v1 (v : List (List UInt8) × Unit) : Option (Bool × Unit) := F72v1 C98v1 v
theorem ok72v1 : FnOk Tryz.prog 72 ⟨f72v1_ins, f72v1_outs, C72v1⟩ :=
 fn_ok (np := 0) (n := .nil) hm hΓ (K := (fun f => Ae.lookA f [(98, ⟨f98v1_ins, f98v1_outs, C98v1⟩)])) (kok_cons ok98v1 (kok_nil _)) Tryz.func72 (c := code Tryz.f72) (by kernel_rfl) (name_ne (by kernel_rfl))
 (ann_nil _) (fun v => Nat.le_of_ble_eq_true (by kernel_rfl)) (fun v => h72v1 C98v1 v)
def F134  : Int × Unit → Option (Bool × Unit) := fun (x0, _) =>
 bif decide (x0 ≤ 32) then some (true, ()) else some (decide (x0 > 126), ())
theorem h134  (v : HS f134_ins) : afun Γ (fun f => Ae.lookA f []) 0 Tryz.f134.ntmps Tryz.f134.results.toList (code Tryz.f134) .nil (em id f134_ins v).1 (em id f134_ins v).2 (ofin 0 f134_outs) = F134 v := by kernel_rfl
def C134 (v : Int × Unit) : Option (Bool × Unit) := F134 v
theorem ok134 : FnOk Tryz.prog 134 ⟨f134_ins, f134_outs, C134⟩ :=
 fn_ok (np := 0) (n := .nil) hm hΓ (K := (fun f => Ae.lookA f [])) (kok_nil _) Tryz.func134 (c := code Tryz.f134) (by kernel_rfl) (name_ne (by kernel_rfl))
 (ann_nil _) (fun v => Nat.le_of_ble_eq_true (by kernel_rfl)) (fun v => h134 v)
def F176_l0 (f134 : Int × Unit → Option (Bool × Unit)) : Bool × (List UInt8 × Int) × Unit → Option ((Bool × (List UInt8 × Int) × Unit) ⊕ ((Int × Unit) ⊕ Unit)) := fun (x0, x1, _) =>
 bif decide (Int.toNat x1.2 < List.length x1.1) then
 (f134 ((↑(decR x1.1 (Int.toNat x1.2)).1 : Int), ())).bind fun val =>
 bif val.1 == x0 then some (Sum.inr (Sum.inl ((↑(Int.toNat x1.2) : Int), ())))
 else some (Sum.inl (x0, (x1.1, (↑(Int.toNat x1.2 + (decR x1.1 (Int.toNat x1.2)).2) : Int)), ()))
 else some (Sum.inr (Sum.inr ()))
theorem h176_l0 (f134 : HS f134_ins → Option (OTy f134_outs)) (v : HS f176_l0_ins) : aev Γ (fun f => Ae.lookA f [(134, ⟨f134_ins, f134_outs, f134⟩)]) 0 (subc (code Tryz.f176) [1, 0, 1, 0, 0]) .nil (stof f176_l0_ins v) (around 0 f176_l0_ins f176_l0_outs) = F176_l0 f134 v := by kernel_rfl
def C176_l0 (v : Bool × (List UInt8 × Int) × Unit) : Option ((Int × Unit) ⊕ Unit) := loopN (F176_l0 C134) big v
theorem k176_l0 : FragOk Tryz.prog 0 (fun Q a w => (Code.loop (subc (code Tryz.f176) [1, 0, 1, 0, 0])).wp Tryz.prog Q a w) ⟨f176_l0_ins, f176_l0_outs, C176_l0⟩ :=
 frag_loop (ins := f176_l0_ins) (os := f176_l0_outs) (np := 0) (n := .nil) (F := F176_l0 C134) hm hΓ (K := (fun f => Ae.lookA f [(134, ⟨f134_ins, f134_outs, C134⟩)])) (kok_cons ok134 (kok_nil _)) (fun _ => big)
 (ann_nil _) (fun v => h176_l0 C134 v)
end Go.Proofs.YtmfcepdbpdihgaaGreatDoor.W
set_option maxRecDepth 100000
set_option linter.unusedVariables false
namespace Go.Proofs.YtmfcepdbpdihgaaGreatDoor.W
open Go Go.Ae
def F176 (f176_l0 : Bool × (List UInt8 × Int) × Unit → Option ((Int × Unit) ⊕ Unit)) : List UInt8 × Bool × Unit → Option (Int × Unit) := fun (x0, x1, _) =>
 (f176_l0 (x1, (x0, (↑0 : Int)), ())).bind fun val =>
 Sum.elim (fun val => some (val.1, ())) (fun val => some (-1, ())) val
theorem h176 (f176_l0 : HS f176_l0_ins → Option (OTy f176_l0_outs)) (v : HS f176_ins) : afun Γ (fun f => Ae.lookA f []) 0 Tryz.f176.ntmps Tryz.f176.results.toList (code Tryz.f176) (.seq .nil (.seq (.seq .nil (.blk (.loop ⟨f176_l0_ins, f176_l0_outs, f176_l0⟩))) .nil)) (em id f176_ins v).1 (em id f176_ins v).2 (ofin 0 f176_outs) = F176 f176_l0 v := by kernel_rfl
def C176 (v : List UInt8 × Bool × Unit) : Option (Int × Unit) := F176 C176_l0 v
theorem ok176 : FnOk Tryz.prog 176 ⟨f176_ins, f176_outs, C176⟩ :=
 fn_ok (np := 0) (n := (.seq .nil (.seq (.seq .nil (.blk (.loop ⟨f176_l0_ins, f176_l0_outs, C176_l0⟩))) .nil))) hm hΓ (K := (fun f => Ae.lookA f [])) (kok_nil _) Tryz.func176 (c := code Tryz.f176) (by kernel_rfl) (name_ne (by kernel_rfl))
 (ann_seq (a := (subc (code Tryz.f176) [0])) (b := (subc (code Tryz.f176) [1])) (by kernel_rfl) (ann_nil _) (ann_seq (a := (subc (code Tryz.f176) [1, 0])) (b := (subc (code Tryz.f176) [1, 1])) (by kernel_rfl) (ann_seq (a := (subc (code Tryz.f176) [1, 0, 0])) (b := (subc (code Tryz.f176) [1, 0, 1])) (by kernel_rfl) (ann_nil _) (ann_blk (x := (subc (code Tryz.f176) [1, 0, 1, 0])) (by kernel_rfl) (ann_loop (x := (subc (code Tryz.f176) [1, 0, 1, 0, 0])) (by kernel_rfl) k176_l0))) (ann_nil _))) (fun v => Nat.le_of_ble_eq_true (by kernel_rfl)) (fun v => h176 C176_l0 v)
def F163 (f176 : List UInt8 × Bool × Unit → Option (Int × Unit)) : List UInt8 × Unit → Option (Int × Unit) := fun (x0, _) =>
 (f176 (x0, true, ())).bind fun val => some (val.1, ())
theorem h163 (f176 : HS f176_ins → Option (OTy f176_outs)) (v : HS f163_ins) : afun Γ (fun f => Ae.lookA f [(176, ⟨f176_ins, f176_outs, f176⟩)]) 0 Tryz.f163.ntmps Tryz.f163.results.toList (code Tryz.f163) .nil (em id f163_ins v).1 (em id f163_ins v).2 (ofin 0 f163_outs) = F163 f176 v := by kernel_rfl
def C163 (v : List UInt8 × Unit) : Option (Int × Unit) := F163 C176 v
theorem ok163 : FnOk Tryz.prog 163 ⟨f163_ins, f163_outs, C163⟩ :=
 fn_ok (np := 0) (n := .nil) hm hΓ (K := (fun f => Ae.lookA f [(176, ⟨f176_ins, f176_outs, C176⟩)])) (kok_cons ok176 (kok_nil _)) Tryz.func163 (c := code Tryz.f163) (by kernel_rfl) (name_ne (by kernel_rfl))
 (ann_nil _) (fun v => Nat.le_of_ble_eq_true (by kernel_rfl)) (fun v => h163 C176 v)
def F135 (f163 : List UInt8 × Unit → Option (Int × Unit)) : List UInt8 × Unit → Option (Bool × Unit) := fun (x0, _) =>
 (f163 (x0, ())).bind fun val => some (decide (val.1 ≥ 0), ())
theorem h135 (f163 : HS f163_ins → Option (OTy f163_outs)) (v : HS f135_ins) : afun Γ (fun f => Ae.lookA f [(163, ⟨f163_ins, f163_outs, f163⟩)]) 0 Tryz.f135.ntmps Tryz.f135.results.toList (code Tryz.f135) .nil (em id f135_ins v).1 (em id f135_ins v).2 (ofin 0 f135_outs) = F135 f163 v := by kernel_rfl
def C135 (v : List UInt8 × Unit) : Option (Bool × Unit) := F135 C163 v
theorem ok135 : FnOk Tryz.prog 135 ⟨f135_ins, f135_outs, C135⟩ :=
 fn_ok (np := 0) (n := .nil) hm hΓ (K := (fun f => Ae.lookA f [(163, ⟨f163_ins, f163_outs, C163⟩)])) (kok_cons ok163 (kok_nil _)) Tryz.func135 (c := code Tryz.f135) (by kernel_rfl) (name_ne (by kernel_rfl))
 (ann_nil _) (fun v => Nat.le_of_ble_eq_true (by kernel_rfl)) (fun v => h135 C163 v)
def F100 (f26 : List UInt8 × List UInt8 × Unit → Option (List UInt8 × List UInt8 × Bool × Unit)) (f86 : List UInt8 × Unit → Option (List UInt8 × Unit)) (f135 : List UInt8 × Unit → Option (Bool × Unit)) : List UInt8 × Unit → Option (List UInt8 × List UInt8 × Bool × Unit) := fun (x0, _) =>
 (f26 (x0, [58], ())).bind fun val =>
 (f86 (val.1, ())).bind fun val_1 =>
 bif val.2.2.1 then
 bif !val.1 == [] then
 (f135 (val.1, ())).bind fun val_2 =>
 some (val_1.1, val.2.1, bif val_2.1 then false else true, ())
 else some (val_1.1, val.2.1, false, ())
 else some (val_1.1, val.2.1, false, ())
theorem h100 (f26 : HS f26_ins → Option (OTy f26_outs)) (f86 : HS f86_ins → Option (OTy f86_outs)) (f135 : HS f135_ins → Option (OTy f135_outs)) (v : HS f100_ins) : afun Γ (fun f => Ae.lookA f [(26, ⟨f26_ins, f26_outs, f26⟩), (86, ⟨f86_ins, f86_outs, f86⟩), (135, ⟨f135_ins, f135_outs, f135⟩)]) 0 Tryz.f100.ntmps Tryz.f100.results.toList (code Tryz.f100) .nil (em id f100_ins v).1 (em id f100_ins v).2 (ofin 0 f100_outs) = F100 f26 f86 f135 v := by kernel_rfl
def C100 (v : List UInt8 × Unit) : Option (List UInt8 × List UInt8 × Bool × Unit) := F100 C26 C86 C135 v
theorem ok100 : FnOk Tryz.prog 100 ⟨f100_ins, f100_outs, C100⟩ :=
 fn_ok (np := 0) (n := .nil) hm hΓ (K := (fun f => Ae.lookA f [(26, ⟨f26_ins, f26_outs, C26⟩), (86, ⟨f86_ins, f86_outs, C86⟩), (135, ⟨f135_ins, f135_outs, C135⟩)])) (kok_cons ok26 (kok_cons ok86 (kok_cons ok135 (kok_nil _)))) Tryz.func100 (c := code Tryz.f100) (by kernel_rfl) (name_ne (by kernel_rfl))
 (ann_nil _) (fun v => Nat.le_of_ble_eq_true (by kernel_rfl)) (fun v => h100 C26 C86 C135 v)
def F75_l0 (f99 : List UInt8 × Int × Unit → Option (Int × Unit)) (f100 : List UInt8 × Unit → Option (List UInt8 × List UInt8 × Bool × Unit)) : Bool × List (List UInt8) × Int × Int × List ((List UInt8 × List UInt8)) × Unit → Option ((Bool × List (List UInt8) × Int × Int × List ((List UInt8 × List UInt8)) × Unit) ⊕ (List ((List UInt8 × List UInt8)) × Unit)) := fun (x0, x1, x2, x3, x4, _) =>
 bif decide (x3 < x2) then
 bif decide (0 ≤ x3) && decide (x3 < (↑x1.length : Int)) then
 bif decide (0 < (↑(List.length (x1.getD x3.toNat [])) : Int)) then
 (f99 ([32, 9], (↑(List.getD (x1.getD x3.toNat []) 0 0).toNat : Int), ())).bind
 fun val =>
 bif decide (val.1 ≥ 0) then
 bif x0 then
 bif
 decide (0 ≤ IntKind.i64.wrap ((↑x4.length : Int) - 1)) &&
 decide (IntKind.i64.wrap ((↑x4.length : Int) - 1) < (↑x4.length : Int)) then
 bif
 decide
 (List.length
 (x4.getD (IntKind.i64.wrap ((↑x4.length : Int) - 1)).toNat ([], [])).2 +
 List.length (x1.getD x3.toNat []) ≤
 9223372036854775807) then
 bif
 decide (0 ≤ IntKind.i64.wrap ((↑x4.length : Int) - 1)) &&
 decide (IntKind.i64.wrap ((↑x4.length : Int) - 1) < (↑x4.length : Int)) then
 some
 (Sum.inl
 (x0, x1, x2, IntKind.i64.wrap (x3 + 1),
 x4.set (IntKind.i64.wrap ((↑x4.length : Int) - 1)).toNat
 ((x4.getD (IntKind.i64.wrap ((↑x4.length : Int) - 1)).toNat ([], [])).1,
 (x4.getD (IntKind.i64.wrap ((↑x4.length : Int) - 1)).toNat ([], [])).2 ++
 x1.getD x3.toNat []),
 ()))
 else none
 else none
 else none
 else some (Sum.inl (x0, x1, x2, IntKind.i64.wrap (x3 + 1), x4, ()))
 else
 (f100 (x1.getD x3.toNat [], ())).bind fun val =>
 bif val.2.2.1 then
 bif decide (x4.length + [(val.1, val.2.1)].length ≤ 140737488355328 / 32) then
 some
 (Sum.inl
 (val.2.2.1, x1, x2, IntKind.i64.wrap (x3 + 1), x4 ++ [(val.1, val.2.1)], ()))
 else none
 else some (Sum.inl (val.2.2.1, x1, x2, IntKind.i64.wrap (x3 + 1), x4, ()))
 else none
 else none
 else some (Sum.inr (x4, ()))
theorem h75_l0 (f99 : HS f99_ins → Option (OTy f99_outs)) (f100 : HS f100_ins → Option (OTy f100_outs)) (v : HS f75_l0_ins) : aev Γ (fun f => Ae.lookA f [(99, ⟨f99_ins, f99_outs, f99⟩), (100, ⟨f100_ins, f100_outs, f100⟩)]) 0 (subc (code Tryz.f75) [1, 1, 1, 0, 1, 0, 0]) .nil (stof f75_l0_ins v) (around 0 f75_l0_ins f75_l0_outs) = F75_l0 f99 f100 v := by kernel_rfl
def C75_l0 (v : Bool × List (List UInt8) × Int × Int × List ((List UInt8 × List UInt8)) × Unit) : Option (List ((List UInt8 × List UInt8)) × Unit) := loopN (F75_l0 C99 C100) big v
theorem k75_l0 : FragOk Tryz.prog 0 (fun Q a w => (Code.loop (subc (code Tryz.f75) [1, 1, 1, 0, 1, 0, 0])).wp Tryz.prog Q a w) ⟨f75_l0_ins, f75_l0_outs, C75_l0⟩ :=
 frag_loop (ins := f75_l0_ins) (os := f75_l0_outs) (np := 0) (n := .nil) (F := F75_l0 C99 C100) hm hΓ (K := (fun f => Ae.lookA f [(99, ⟨f99_ins, f99_outs, C99⟩), (100, ⟨f100_ins, f100_outs, C100⟩)])) (kok_cons ok99 (kok_cons ok100 (kok_nil _))) (fun _ => big)
 (ann_nil _) (fun v => h75_l0 C99 C100 v)
def F75_l1 (f101 : List UInt8 × List UInt8 × Unit → Option (List UInt8 × Unit)) : Int × Int × List ((List UInt8 × List UInt8)) × Unit → Option ((Int × Int × List ((List UInt8 × List UInt8)) × Unit) ⊕ (List ((List UInt8 × List UInt8)) × Unit)) := fun (x0, x1, x2, _) =>
 bif decide (x1 < x0) then
 bif decide (0 ≤ x1) && decide (x1 < (↑x2.length : Int)) then
 (f101 ((x2.getD x1.toNat ([], [])).2, [32, 9], ())).bind fun val =>
 bif decide (0 ≤ x1) && decide (x1 < (↑x2.length : Int)) then
 some
 (Sum.inl
 (x0, IntKind.i64.wrap (x1 + 1), x2.set x1.toNat ((x2.getD x1.toNat ([], [])).1, val.1),
 ()))
 else none
 else none
 else some (Sum.inr (x2, ()))
theorem h75_l1 (f101 : HS f101_ins → Option (OTy f101_outs)) (v : HS f75_l1_ins) : aev Γ (fun f => Ae.lookA f [(101, ⟨f101_ins, f101_outs, f101⟩)]) 0 (subc (code Tryz.f75) [1, 1, 1, 1, 0, 1, 0, 0]) .nil (stof f75_l1_ins v) (around 0 f75_l1_ins f75_l1_outs) = F75_l1 f101 v := by kernel_rfl
def C75_l1 (v : Int × Int × List ((List UInt8 × List UInt8)) × Unit) : Option (List ((List UInt8 × List UInt8)) × Unit) := loopN (F75_l1 C101) big v
theorem k75_l1 : FragOk Tryz.prog 0 (fun Q a w => (Code.loop (subc (code Tryz.f75) [1, 1, 1, 1, 0, 1, 0, 0])).wp Tryz.prog Q a w) ⟨f75_l1_ins, f75_l1_outs, C75_l1⟩ :=
 frag_loop (ins := f75_l1_ins) (os := f75_l1_outs) (np := 0) (n := .nil) (F := F75_l1 C101) hm hΓ (K := (fun f => Ae.lookA f [(101, ⟨f101_ins, f101_outs, C101⟩)])) (kok_cons ok101 (kok_nil _)) (fun _ => big)
 (ann_nil _) (fun v => h75_l1 C101 v)
def F75 (f71 : List (List UInt8) × Unit → Option (Int × Unit)) (f75_l0 : Bool × List (List UInt8) × Int × Int × List ((List UInt8 × List UInt8)) × Unit → Option (List ((List UInt8 × List UInt8)) × Unit)) (f75_l1 : Int × Int × List ((List UInt8 × List UInt8)) × Unit → Option (List ((List UInt8 × List UInt8)) × Unit)) : List (List UInt8) × Unit → Option (List ((List UInt8 × List UInt8)) × Unit) := fun (x0, _) =>
 (f71 (x0, ())).bind fun val =>
 bif decide (0 ≤ val.1) && decide (val.1 ≤ (↑x0.length : Int)) then
 (f75_l0
 (false, List.take (Int.toNat val.1) x0, (↑(List.take (Int.toNat val.1) x0).length : Int), 0, [], ())).bind
 fun val => (f75_l1 ((↑(List.length val.1) : Int), 0, val.1, ())).bind fun val => some (val.1, ())
 else none
theorem h75 (f71 : HS f71_ins → Option (OTy f71_outs)) (f75_l0 : HS f75_l0_ins → Option (OTy f75_l0_outs)) (f75_l1 : HS f75_l1_ins → Option (OTy f75_l1_outs)) (v : HS f75_ins) : afun Γ (fun f => Ae.lookA f [(71, ⟨f71_ins, f71_outs, f71⟩)]) 0 Tryz.f75.ntmps Tryz.f75.results.toList (code Tryz.f75) (.seq .nil (.seq .nil (.seq .nil (.seq (.seq .nil (.blk (.loop ⟨f75_l0_ins, f75_l0_outs, f75_l0⟩))) (.seq (.seq .nil (.blk (.loop ⟨f75_l1_ins, f75_l1_outs, f75_l1⟩))) .nil))))) (em id f75_ins v).1 (em id f75_ins v).2 (ofin 0 f75_outs) = F75 f71 f75_l0 f75_l1 v := by kernel_rfl
def C75 (v : List (List UInt8) × Unit) : Option (List ((List UInt8 × List UInt8)) × Unit) := F75 C71 C75_l0 C75_l1 v
theorem ok75 : FnOk Tryz.prog 75 ⟨f75_ins, f75_outs, C75⟩ :=
 fn_ok (np := 0) (n := (.seq .nil (.seq .nil (.seq .nil (.seq (.seq .nil (.blk (.loop ⟨f75_l0_ins, f75_l0_outs, C75_l0⟩))) (.seq (.seq .nil (.blk (.loop ⟨f75_l1_ins, f75_l1_outs, C75_l1⟩))) .nil)))))) hm hΓ (K := (fun f => Ae.lookA f [(71, ⟨f71_ins, f71_outs, C71⟩)])) (kok_cons ok71 (kok_nil _)) Tryz.func75 (c := code Tryz.f75) (by kernel_rfl) (name_ne (by kernel_rfl))
 (ann_seq (a := (subc (code Tryz.f75) [0])) (b := (subc (code Tryz.f75) [1])) (by kernel_rfl) (ann_nil _) (ann_seq (a := (subc (code Tryz.f75) [1, 0])) (b := (subc (code Tryz.f75) [1, 1])) (by kernel_rfl) (ann_nil _) (ann_seq (a := (subc (code Tryz.f75) [1, 1, 0])) (b := (subc (code Tryz.f75) [1, 1, 1])) (by kernel_rfl) (ann_nil _) (ann_seq (a := (subc (code Tryz.f75) [1, 1, 1, 0])) (b := (subc (code Tryz.f75) [1, 1, 1, 1])) (by kernel_rfl) (ann_seq (a := (subc (code Tryz.f75) [1, 1, 1, 0, 0])) (b := (subc (code Tryz.f75) [1, 1, 1, 0, 1])) (by kernel_rfl) (ann_nil _) (ann_blk (x := (subc (code Tryz.f75) [1, 1, 1, 0, 1, 0])) (by kernel_rfl) (ann_loop (x := (subc (code Tryz.f75) [1, 1, 1, 0, 1, 0, 0])) (by kernel_rfl) k75_l0))) (ann_seq (a := (subc (code Tryz.f75) [1, 1, 1, 1, 0])) (b := (subc (code Tryz.f75) [1, 1, 1, 1, 1])) (by kernel_rfl) (ann_seq (a := (subc (code Tryz.f75) [1, 1, 1, 1, 0, 0])) (b := (subc (code Tryz.f75) [1, 1, 1, 1, 0, 1])) (by kernel_rfl) (ann_nil _) (ann_blk (x := (subc (code Tryz.f75) [1, 1, 1, 1, 0, 1, 0])) (by kernel_rfl) (ann_loop (x := (subc (code Tryz.f75) [1, 1, 1, 1, 0, 1, 0, 0])) (by kernel_rfl) k75_l1))) (ann_nil _)))))) (fun v => Nat.le_of_ble_eq_true (by kernel_rfl)) (fun v => h75 C71 C75_l0 C75_l1 v)
def F41_l0  : List ((List UInt8 × List UInt8)) × Int × Int × Bool × Bool × Bool × Int × Int × Bool × Bool × Bool × Int × Int × Unit → Option ((List ((List UInt8 × List UInt8)) × Int × Int × Bool × Bool × Bool × Int × Int × Bool × Bool × Bool × Int × Int × Unit) ⊕ (Bool × Bool × Bool × Int × Int × Bool × Bool × Bool × Int × Int × Unit)) := fun (x0, x1, x2, x3, x4, x5, x6, x7, x8, x9, x10, x11, x12, _) =>
 bif decide (x2 < x1) then
 bif decide (0 ≤ x2) && decide (x2 < (↑x0.length : Int)) then
 bif (x0.getD x2.toNat ([], [])).1 == [114, 101, 99, 101, 105, 118, 101, 100] then
 some
 (Sum.inl
 (x0, x1, IntKind.i64.wrap (x2 + 1), x3, x4, x5, x6, x7, x8, x9, x10, x11, IntKind.i64.wrap (x12 + 1),
 ()))
 else some (Sum.inl (x0, x1, IntKind.i64.wrap (x2 + 1), x3, x4, x5, x6, x7, x8, x9, x10, x11, x12, ()))
 else none
 else some (Sum.inr (x3, x4, x5, x6, x7, x8, x9, x10, x11, x12, ()))
theorem h41_l0  (v : HS f41_l0_ins) : aev Γ (fun f => Ae.lookA f []) 0 (subc (code Tryz.f41) [1, 1, 1, 1, 0, 1, 0, 0]) .nil (stof f41_l0_ins v) (around 0 f41_l0_ins f41_l0_outs) = F41_l0 v := by kernel_rfl
def C41_l0 (v : List ((List UInt8 × List UInt8)) × Int × Int × Bool × Bool × Bool × Int × Int × Bool × Bool × Bool × Int × Int × Unit) : Option (Bool × Bool × Bool × Int × Int × Bool × Bool × Bool × Int × Int × Unit) := loopN (F41_l0) big v
theorem k41_l0 : FragOk Tryz.prog 0 (fun Q a w => (Code.loop (subc (code Tryz.f41) [1, 1, 1, 1, 0, 1, 0, 0])).wp Tryz.prog Q a w) ⟨f41_l0_ins, f41_l0_outs, C41_l0⟩ :=
 frag_loop (ins := f41_l0_ins) (os := f41_l0_outs) (np := 0) (n := .nil) (F := F41_l0) hm hΓ (K := (fun f => Ae.lookA f [])) (kok_nil _) (fun _ => big)
 (ann_nil _) (fun v => h41_l0 v)
def F41 (f71 : List (List UInt8) × Unit → Option (Int × Unit)) (f72 : List (List UInt8) × Unit → Option (Bool × Unit)) (f72v1 : List (List UInt8) × Unit → Option (Bool × Unit)) (f75 : List (List UInt8) × Unit → Option (List ((List UInt8 × List UInt8)) × Unit)) (f41_l0 : List ((List UInt8 × List UInt8)) × Int × Int × Bool × Bool × Bool × Int × Int × Bool × Bool × Bool × Int × Int × Unit → Option (Bool × Bool × Bool × Int × Int × Bool × Bool × Bool × Int × Int × Unit)) : List (List UInt8) × Unit → Option (Bool × Bool × Bool × Int × Int × Unit) := fun (x0, _) =>
 (f71 (x0, ())).bind fun val =>
 bif decide (0 ≤ val.1) && decide (val.1 ≤ (↑x0.length : Int)) then
 bif decide (0 ≤ val.1) && decide (val.1 ≤ (↑x0.length : Int)) then
 (f72 (List.take (Int.toNat val.1) x0, ())).bind fun val_1 =>
 (f72 (List.drop (Int.toNat val.1) x0, ())).bind fun val_2 =>
 (f72v1 (List.take (Int.toNat val.1) x0, ())).bind fun val_3 =>
 (f75 (x0, ())).bind fun val_4 =>
 (f41_l0
 (val_4.1, (↑(List.length val_4.1) : Int), 0, false, false, false, 0, 0, val_1.1, val_2.1,
 val_3.1, val.1, 0, ())).bind
 fun val =>
 some
 (val.2.2.2.2.2.1, val.2.2.2.2.2.2.1, val.2.2.2.2.2.2.2.1,
 val.2.2.2.2.2.2.2.2.1, val.2.2.2.2.2.2.2.2.2.1, ())
 else none
 else none
theorem h41 (f71 : HS f71_ins → Option (OTy f71_outs)) (f72 : HS f72_ins → Option (OTy f72_outs)) (f72v1 : HS f72v1_ins → Option (OTy f72v1_outs)) (f75 : HS f75_ins → Option (OTy f75_outs)) (f41_l0 : HS f41_l0_ins → Option (OTy f41_l0_outs)) (v : HS f41_ins) : afun Γ (fun f => Ae.lookA f [(71, ⟨f71_ins, f71_outs, f71⟩), (72, ⟨f72_ins, f72_outs, f72⟩), (72, ⟨f72v1_ins, f72v1_outs, f72v1⟩), (75, ⟨f75_ins, f75_outs, f75⟩)]) 0 Tryz.f41.ntmps Tryz.f41.results.toList (code Tryz.f41) (.seq .nil (.seq .nil (.seq .nil (.seq .nil (.seq (.seq .nil (.blk (.loop ⟨f41_l0_ins, f41_l0_outs, f41_l0⟩))) .nil))))) (em id f41_ins v).1 (em id f41_ins v).2 (ofin 0 f41_outs) = F41 f71 f72 f72v1 f75 f41_l0 v := by kernel_rfl
def C41 (v : List (List UInt8) × Unit) : Option (Bool × Bool × Bool × Int × Int × Unit) := F41 C71 C72 C72v1 C75 C41_l0 v
theorem ok41 : FnOk Tryz.prog 41 ⟨f41_ins, f41_outs, C41⟩ :=
 fn_ok (np := 0) (n := (.seq .nil (.seq .nil (.seq .nil (.seq .nil (.seq (.seq .nil (.blk (.loop ⟨f41_l0_ins, f41_l0_outs, C41_l0⟩))) .nil)))))) hm hΓ (K := (fun f => Ae.lookA f [(71, ⟨f71_ins, f71_outs, C71⟩), (72, ⟨f72_ins, f72_outs, C72⟩), (72, ⟨f72v1_ins, f72v1_outs, C72v1⟩), (75, ⟨f75_ins, f75_outs, C75⟩)])) (kok_cons ok71 (kok_cons ok72 (kok_cons ok72v1 (kok_cons ok75 (kok_nil _))))) Tryz.func41 (c := code Tryz.f41) (by kernel_rfl) (name_ne (by kernel_rfl))
 (ann_seq (a := (subc (code Tryz.f41) [0])) (b := (subc (code Tryz.f41) [1])) (by kernel_rfl) (ann_nil _) (ann_seq (a := (subc (code Tryz.f41) [1, 0])) (b := (subc (code Tryz.f41) [1, 1])) (by kernel_rfl) (ann_nil _) (ann_seq (a := (subc (code Tryz.f41) [1, 1, 0])) (b := (subc (code Tryz.f41) [1, 1, 1])) (by kernel_rfl) (ann_nil _) (ann_seq (a := (subc (code Tryz.f41) [1, 1, 1, 0])) (b := (subc (code Tryz.f41) [1, 1, 1, 1])) (by kernel_rfl) (ann_nil _) (ann_seq (a := (subc (code Tryz.f41) [1, 1, 1, 1, 0])) (b := (subc (code Tryz.f41) [1, 1, 1, 1, 1])) (by kernel_rfl) (ann_seq (a := (subc (code Tryz.f41) [1, 1, 1, 1, 0, 0])) (b := (subc (code Tryz.f41) [1, 1, 1, 1, 0, 1])) (by kernel_rfl) (ann_nil _) (ann_blk (x := (subc (code Tryz.f41) [1, 1, 1, 1, 0, 1, 0])) (by kernel_rfl) (ann_loop (x := (subc (code Tryz.f41) [1, 1, 1, 1, 0, 1, 0, 0])) (by kernel_rfl) k41_l0))) (ann_nil _)))))) (fun v => Nat.le_of_ble_eq_true (by kernel_rfl)) (fun v => h41 C71 C72 C72v1 C75 C41_l0 v)
def F16_l0  : Int × Int × Bool × List UInt8 × List UInt8 × Bool × Bool × Bool × Int × Int × Int × Bool × List UInt8 × List UInt8 × Bool × Bool × Bool × Int × Int × Int × List (List UInt8) × List ((Bool × (List UInt8 × List UInt8))) × Unit → Option ((Int × Int × Bool × List UInt8 × List UInt8 × Bool × Bool × Bool × Int × Int × Int × Bool × List UInt8 × List UInt8 × Bool × Bool × Bool × Int × Int × Int × List (List UInt8) × List ((Bool × (List UInt8 × List UInt8))) × Unit) ⊕ (Bool × List UInt8 × List UInt8 × Bool × Bool × Bool × Int × Int × Int × Bool × List UInt8 × List UInt8 × Bool × Bool × Bool × Int × Int × Int × List ((Bool × (List UInt8 × List UInt8))) × List (List UInt8) × Unit)) := fun (x0, x1, x2, x3, x4, x5, x6, x7, x8, x9, x10, x11, x12, x13, x14, x15, x16, x17, x18, x19, x20, x21, _) =>
 bif decide (x1 < x0) then
 bif decide (0 ≤ x1) && decide (x1 < (↑x20.length : Int)) then
 some
 (Sum.inl
 (x0, IntKind.i64.wrap (x1 + 1), x2, x3, x4, x5, x6, x7, x8, x9, x10, x11, x12, x13, x14, x15, x16, x17, x18,
 IntKind.i64.wrap (x19 + IntKind.i64.wrap ((↑(List.length (x20.getD x1.toNat [])) : Int) + 2)), x20,
 x21, ()))
 else none
 else
 some
 (Sum.inr (x2, x3, x4, x5, x6, x7, x8, x9, x10, x11, x12, x13, x14, x15, x16, x17, x18, x19, x21, x20, ()))
theorem h16_l0  (v : HS f16_l0_ins) : aev Γ (fun f => Ae.lookA f []) 0 (subc (code Tryz.f16) [1, 1, 1, 1, 1, 0, 1, 0, 0]) .nil (stof f16_l0_ins v) (around 0 f16_l0_ins f16_l0_outs) = F16_l0 v := by kernel_rfl
def C16_l0 (v : Int × Int × Bool × List UInt8 × List UInt8 × Bool × Bool × Bool × Int × Int × Int × Bool × List UInt8 × List UInt8 × Bool × Bool × Bool × Int × Int × Int × List (List UInt8) × List ((Bool × (List UInt8 × List UInt8))) × Unit) : Option (Bool × List UInt8 × List UInt8 × Bool × Bool × Bool × Int × Int × Int × Bool × List UInt8 × List UInt8 × Bool × Bool × Bool × Int × Int × Int × List ((Bool × (List UInt8 × List UInt8))) × List (List UInt8) × Unit) := loopN (F16_l0) big v
theorem k16_l0 : FragOk Tryz.prog 0 (fun Q a w => (Code.loop (subc (code Tryz.f16) [1, 1, 1, 1, 1, 0, 1, 0, 0])).wp Tryz.prog Q a w) ⟨f16_l0_ins, f16_l0_outs, C16_l0⟩ :=
 frag_loop (ins := f16_l0_ins) (os := f16_l0_outs) (np := 0) (n := .nil) (F := F16_l0) hm hΓ (K := (fun f => Ae.lookA f [])) (kok_nil _) (fun _ => big)
 (ann_nil _) (fun v => h16_l0 v)
def F16_c0 (f41 : List (List UInt8) × Unit → Option (Bool × Bool × Bool × Int × Int × Unit)) (f16_l0 : Int × Int × Bool × List UInt8 × List UInt8 × Bool × Bool × Bool × Int × Int × Int × Bool × List UInt8 × List UInt8 × Bool × Bool × Bool × Int × Int × Int × List (List UInt8) × List ((Bool × (List UInt8 × List UInt8))) × Unit → Option (Bool × List UInt8 × List UInt8 × Bool × Bool × Bool × Int × Int × Int × Bool × List UInt8 × List UInt8 × Bool × Bool × Bool × Int × Int × Int × List ((Bool × (List UInt8 × List UInt8))) × List (List UInt8) × Unit)) : Int × Bool × List UInt8 × List UInt8 × List (((Bool × (List UInt8 × List UInt8)) × (Int × (Int × (Int × Int))))) × List (List UInt8) × Bool × Bool × Bool × Int × Int × Int × Bool × List UInt8 × List UInt8 × Bool × Bool × Bool × Int × Int × Int × List (List UInt8) × Unit → Option (Bool × Bool × List UInt8 × List UInt8 × Bool × Bool × Bool × Int × Int × Int × List ((Bool × (List UInt8 × List UInt8))) × List (List UInt8) × Unit) := fun (x0, x1, x2, x3, x4, x5, x6, x7, x8, x9, x10, x11, x12, x13, x14, x15, x16, x17, x18, x19, x20, x21, _) =>
 (f41 (x21, ())).bind fun val =>
 (f16_l0
 ((↑x21.length : Int), 0, x12, x13, x14, x15, x16, x17, x18, x19, x20, true, [], [], val.1, val.2.1,
 val.2.2.1, val.2.2.2.1, val.2.2.2.2.1, 0, x21, [(x1, x2, x3)], ())).bind
 fun val =>
 some
 (true, val.2.2.2.2.2.2.2.2.2.1, val.2.2.2.2.2.2.2.2.2.2.1,
 val.2.2.2.2.2.2.2.2.2.2.2.1, val.2.2.2.2.2.2.2.2.2.2.2.2.1,
 val.2.2.2.2.2.2.2.2.2.2.2.2.2.1,
 val.2.2.2.2.2.2.2.2.2.2.2.2.2.2.1,
 val.2.2.2.2.2.2.2.2.2.2.2.2.2.2.2.1,
 val.2.2.2.2.2.2.2.2.2.2.2.2.2.2.2.2.1,
 val.2.2.2.2.2.2.2.2.2.2.2.2.2.2.2.2.2.1,
 val.2.2.2.2.2.2.2.2.2.2.2.2.2.2.2.2.2.2.1,
 val.2.2.2.2.2.2.2.2.2.2.2.2.2.2.2.2.2.2.2.1, ())
theorem h16_c0 (f41 : HS f41_ins → Option (OTy f41_outs)) (f16_l0 : HS f16_l0_ins → Option (OTy f16_l0_outs)) (v : HS f16_c0_ins) : aev Γ (fun f => Ae.lookA f [(41, ⟨f41_ins, f41_outs, f41⟩)]) 0 (subc (code Tryz.f16) [1, 1, 1, 1]) (.seq .nil (.seq (.seq .nil (.blk (.loop ⟨f16_l0_ins, f16_l0_outs, f16_l0⟩))) .nil)) (stof f16_c0_ins v) (oout 0 f16_c0_outs) = F16_c0 f41 f16_l0 v := by kernel_rfl
def C16_c0 (v : Int × Bool × List UInt8 × List UInt8 × List (((Bool × (List UInt8 × List UInt8)) × (Int × (Int × (Int × Int))))) × List (List UInt8) × Bool × Bool × Bool × Int × Int × Int × Bool × List UInt8 × List UInt8 × Bool × Bool × Bool × Int × Int × Int × List (List UInt8) × Unit) : Option (Bool × Bool × List UInt8 × List UInt8 × Bool × Bool × Bool × Int × Int × Int × List ((Bool × (List UInt8 × List UInt8))) × List (List UInt8) × Unit) := F16_c0 C41 C16_l0 v
theorem k16_c0 : FragOk Tryz.prog 0 (fun Q a w => ((subc (code Tryz.f16) [1, 1, 1, 1])).wp Tryz.prog Q a w) ⟨f16_c0_ins, f16_c0_outs, C16_c0⟩ :=
 frag_code (ins := f16_c0_ins) (os := f16_c0_outs) (np := 0) (n := (.seq .nil (.seq (.seq .nil (.blk (.loop ⟨f16_l0_ins, f16_l0_outs, C16_l0⟩))) .nil))) (F := C16_c0) hm hΓ (K := (fun f => Ae.lookA f [(41, ⟨f41_ins, f41_outs, C41⟩)])) (kok_cons ok41 (kok_nil _))
 (ann_seq (a := (subc (code Tryz.f16) [1, 1, 1, 1, 0])) (b := (subc (code Tryz.f16) [1, 1, 1, 1, 1])) (by kernel_rfl) (ann_nil _) (ann_seq (a := (subc (code Tryz.f16) [1, 1, 1, 1, 1, 0])) (b := (subc (code Tryz.f16) [1, 1, 1, 1, 1, 1])) (by kernel_rfl) (ann_seq (a := (subc (code Tryz.f16) [1, 1, 1, 1, 1, 0, 0])) (b := (subc (code Tryz.f16) [1, 1, 1, 1, 1, 0, 1])) (by kernel_rfl) (ann_nil _) (ann_blk (x := (subc (code Tryz.f16) [1, 1, 1, 1, 1, 0, 1, 0])) (by kernel_rfl) (ann_loop (x := (subc (code Tryz.f16) [1, 1, 1, 1, 1, 0, 1, 0, 0])) (by kernel_rfl) k16_l0))) (ann_nil _))) (fun v => h16_c0 C41 C16_l0 v)
def F16_c1 (f11 : List UInt8 × Unit → Option (List UInt8 × Unit)) (f13 : Int × Unit → Option (List UInt8 × Unit)) (f23 : Bool × List UInt8 × List UInt8 × Unit → Option (List UInt8 × Unit)) (f38 : Int × Unit → Option (List UInt8 × Unit)) (f16_c0 : Int × Bool × List UInt8 × List UInt8 × List (((Bool × (List UInt8 × List UInt8)) × (Int × (Int × (Int × Int))))) × List (List UInt8) × Bool × Bool × Bool × Int × Int × Int × Bool × List UInt8 × List UInt8 × Bool × Bool × Bool × Int × Int × Int × List (List UInt8) × Unit → Option (Bool × Bool × List UInt8 × List UInt8 × Bool × Bool × Bool × Int × Int × Int × List ((Bool × (List UInt8 × List UInt8))) × List (List UInt8) × Unit)) : List UInt8 × Int × Int × Bool × List UInt8 × List UInt8 × List (((Bool × (List UInt8 × List UInt8)) × (Int × (Int × (Int × Int))))) × List (List UInt8) × Bool × Bool × Bool × Int × Int × Int × Bool × List UInt8 × List UInt8 × Bool × Bool × Bool × Int × Int × Int × Unit → Option (Bool × Bool × List UInt8 × List UInt8 × Bool × Bool × Bool × Int × Int × Int × List ((Bool × (List UInt8 × List UInt8))) × List (List UInt8) × Unit) := fun (x0, x1, x2, x3, x4, x5, x6, x7, x8, x9, x10, x11, x12, x13, x14, x15, x16, x17, x18, x19, x20, x21, x22, _) =>
 bif decide (0 ≤ x1) && decide (x1 < (↑x6.length : Int)) then
 (f11 (x0, ())).bind fun val =>
 bif
 decide
 ([82, 101, 112, 111, 114, 116, 105, 110, 103, 45, 77, 84, 65, 58, 32, 100, 110, 115, 59, 32].length +
 List.length val.1 ≤
 9223372036854775807) then
 (f38 (x2, ())).bind fun val_1 =>
 bif
 decide
 ([79, 114, 105, 103, 105, 110, 97, 108, 45, 73, 68, 58, 32].length + List.length val_1.1 ≤
 9223372036854775807) then
 (f23
 ((x6.getD x1.toNat
 ((false, ([], [])), (0, (0, (0, 0))))).1.1,
 (x6.getD x1.toNat
 ((false, ([], [])), (0, (0, (0, 0))))).1.2.1,
 (x6.getD x1.toNat
 ((false, ([], [])), (0, (0, (0, 0))))).1.2.2,
 ())).bind
 fun val_2 =>
 (f11 (val_2.1, ())).bind fun val_3 =>
 bif
 decide
 ([70, 105, 110, 97, 108, 45, 82, 101, 99, 105, 112, 105, 101, 110, 116, 58, 32, 117, 116, 102, 45,
 56, 59, 32].length +
 List.length val_3.1 ≤
 9223372036854775807) then
 (f13
 ((x6.getD x1.toNat
 ((false, ([], [])), (0, (0, (0, 0))))).2.2.2.2,
 ())).bind
 fun val_4 =>
 bif
 decide
 ([83, 116, 97, 116, 117, 115, 58, 32].length + List.length val_4.1 ≤
 9223372036854775807) then
 (f16_c0
 (x2, x3, x4, x5, x6, x7, x8, x9, x10, x11, x12, x13, x14, x15, x16, x17, x18, x19, x20, x21,
 x22,
 [[83, 117, 98, 106, 101, 99, 116, 58, 32, 110, 111, 116, 32, 100, 101, 108, 105, 118, 101,
 114, 101, 100],
 [77, 73, 77, 69, 45, 86, 101, 114, 115, 105, 111, 110, 58, 32, 49, 46, 48],
 [67, 111, 110, 116, 101, 110, 116, 45, 84, 121, 112, 101, 58, 32, 109, 101, 115, 115, 97,
 103, 101, 47, 103, 108, 111, 98, 97, 108, 45, 100, 101, 108, 105, 118, 101, 114, 121,
 45, 115, 116, 97, 116, 117, 115],
 [],
 [82, 101, 112, 111, 114, 116, 105, 110, 103, 45, 77, 84, 65, 58, 32, 100, 110, 115, 59,
 32] ++
 val.1,
 [],
 [79, 114, 105, 103, 105, 110, 97, 108, 45, 73, 68, 58, 32] ++ val_1.1,
 [70, 105, 110, 97, 108, 45, 82, 101, 99, 105, 112, 105, 101, 110, 116, 58, 32, 117, 116,
 102, 45, 56, 59, 32] ++
 val_3.1,
 [65, 99, 116, 105, 111, 110, 58, 32, 102, 97, 105, 108, 101, 100],
 [83, 116, 97, 116, 117, 115, 58, 32] ++ val_4.1],
 ())).bind
 fun val =>
 some
 (val.1, val.2.1, val.2.2.1, val.2.2.2.1, val.2.2.2.2.1,
 val.2.2.2.2.2.1, val.2.2.2.2.2.2.1,
 val.2.2.2.2.2.2.2.1, val.2.2.2.2.2.2.2.2.1,
 val.2.2.2.2.2.2.2.2.2.1, val.2.2.2.2.2.2.2.2.2.2.1,
 val.2.2.2.2.2.2.2.2.2.2.2.1, ())
 else none
 else none
 else none
 else none
 else none
theorem h16_c1 (f11 : HS f11_ins → Option (OTy f11_outs)) (f13 : HS f13_ins → Option (OTy f13_outs)) (f23 : HS f23_ins → Option (OTy f23_outs)) (f38 : HS f38_ins → Option (OTy f38_outs)) (f16_c0 : HS f16_c0_ins → Option (OTy f16_c0_outs)) (v : HS f16_c1_ins) : aev Γ (fun f => Ae.lookA f [(11, ⟨f11_ins, f11_outs, f11⟩), (13, ⟨f13_ins, f13_outs, f13⟩), (23, ⟨f23_ins, f23_outs, f23⟩), (38, ⟨f38_ins, f38_outs, f38⟩)]) 0 (subc (code Tryz.f16) [1, 1]) (.seq .nil (.cut .nil ⟨f16_c0_ins, f16_c0_outs, f16_c0⟩)) (stof f16_c1_ins v) (oout 0 f16_c1_outs) = F16_c1 f11 f13 f23 f38 f16_c0 v := by kernel_rfl
def C16_c1 (v : List UInt8 × Int × Int × Bool × List UInt8 × List UInt8 × List (((Bool × (List UInt8 × List UInt8)) × (Int × (Int × (Int × Int))))) × List (List UInt8) × Bool × Bool × Bool × Int × Int × Int × Bool × List UInt8 × List UInt8 × Bool × Bool × Bool × Int × Int × Int × Unit) : Option (Bool × Bool × List UInt8 × List UInt8 × Bool × Bool × Bool × Int × Int × Int × List ((Bool × (List UInt8 × List UInt8))) × List (List UInt8) × Unit) := F16_c1 C11 C13 C23 C38 C16_c0 v
theorem k16_c1 : FragOk Tryz.prog 0 (fun Q a w => ((subc (code Tryz.f16) [1, 1])).wp Tryz.prog Q a w) ⟨f16_c1_ins, f16_c1_outs, C16_c1⟩ :=
 frag_code (ins := f16_c1_ins) (os := f16_c1_outs) (np := 0) (n := (.seq .nil (.cut .nil ⟨f16_c0_ins, f16_c0_outs, C16_c0⟩))) (F := C16_c1) hm hΓ (K := (fun f => Ae.lookA f [(11, ⟨f11_ins, f11_outs, C11⟩), (13, ⟨f13_ins, f13_outs, C13⟩), (23, ⟨f23_ins, f23_outs, C23⟩), (38, ⟨f38_ins, f38_outs, C38⟩)])) (kok_cons ok11 (kok_cons ok13 (kok_cons ok23 (kok_cons ok38 (kok_nil _)))))
 (ann_seq (a := (subc (code Tryz.f16) [1, 1, 0])) (b := (subc (code Tryz.f16) [1, 1, 1])) (by kernel_rfl) (ann_nil _) (ann_cut (a := (subc (code Tryz.f16) [1, 1, 1, 0])) (b := (subc (code Tryz.f16) [1, 1, 1, 1])) (by kernel_rfl) (ann_nil _) k16_c0)) (fun v => h16_c1 C11 C13 C23 C38 C16_c0 v)
def F16 (f16_c1 : List UInt8 × Int × Int × Bool × List UInt8 × List UInt8 × List (((Bool × (List UInt8 × List UInt8)) × (Int × (Int × (Int × Int))))) × List (List UInt8) × Bool × Bool × Bool × Int × Int × Int × Bool × List UInt8 × List UInt8 × Bool × Bool × Bool × Int × Int × Int × Unit → Option (Bool × Bool × List UInt8 × List UInt8 × Bool × Bool × Bool × Int × Int × Int × List ((Bool × (List UInt8 × List UInt8))) × List (List UInt8) × Unit)) : List UInt8 × Int × Bool × List UInt8 × List UInt8 × List (((Bool × (List UInt8 × List UInt8)) × (Int × (Int × (Int × Int))))) × List (List UInt8) × Bool × Bool × Bool × Int × Int × Int × Int × Unit → Option (Bool × List UInt8 × List UInt8 × List ((Bool × (List UInt8 × List UInt8))) × List (List UInt8) × Bool × Bool × Bool × Int × Int × Int × Bool × Unit) := fun (x0, x1, x2, x3, x4, x5, x6, x7, x8, x9, x10, x11, x12, x13, _) =>
 bif x2 then some (false, [], [], [], [], false, false, false, 0, 0, 0, false, ())
 else
 bif decide (x13 < 0) then some (false, [], [], [], [], false, false, false, 0, 0, 0, false, ())
 else
 bif decide (x13 ≥ (↑x5.length : Int)) then
 some (false, [], [], [], [], false, false, false, 0, 0, 0, false, ())
 else
 bif decide (0 ≤ x13) && decide (x13 < (↑x5.length : Int)) then
 bif
 (x5.getD x13.toNat
 ((false, ([], [])), (0, (0, (0, 0))))).2.1 !=
 3 then
 some (false, [], [], [], [], false, false, false, 0, 0, 0, false, ())
 else
 (f16_c1
 (x0, x13, x1, x2, x3, x4, x5, x6, x7, x8, x9, x10, x11, x12, false, [], [], false, false, false, 0, 0,
 0, ())).bind
 fun val =>
 some
 (val.2.1, val.2.2.1, val.2.2.2.1, val.2.2.2.2.2.2.2.2.2.2.1,
 val.2.2.2.2.2.2.2.2.2.2.2.1, val.2.2.2.2.1,
 val.2.2.2.2.2.1, val.2.2.2.2.2.2.1, val.2.2.2.2.2.2.2.1,
 val.2.2.2.2.2.2.2.2.1, val.2.2.2.2.2.2.2.2.2.1, val.1,
 ())
 else none
theorem h16 (f16_c1 : HS f16_c1_ins → Option (OTy f16_c1_outs)) (v : HS f16_ins) : afun Γ (fun f => Ae.lookA f []) 0 Tryz.f16.ntmps Tryz.f16.results.toList (code Tryz.f16) (.seq .nil (.cut .nil ⟨f16_c1_ins, f16_c1_outs, f16_c1⟩)) (em id f16_ins v).1 (em id f16_ins v).2 (ofin 0 f16_outs) = F16 f16_c1 v := by kernel_rfl
def C16 (v : List UInt8 × Int × Bool × List UInt8 × List UInt8 × List (((Bool × (List UInt8 × List UInt8)) × (Int × (Int × (Int × Int))))) × List (List UInt8) × Bool × Bool × Bool × Int × Int × Int × Int × Unit) : Option (Bool × List UInt8 × List UInt8 × List ((Bool × (List UInt8 × List UInt8))) × List (List UInt8) × Bool × Bool × Bool × Int × Int × Int × Bool × Unit) := F16 C16_c1 v
theorem ok16 : FnOk Tryz.prog 16 ⟨f16_ins, f16_outs, C16⟩ :=
 fn_ok (np := 0) (n := (.seq .nil (.cut .nil ⟨f16_c1_ins, f16_c1_outs, C16_c1⟩))) hm hΓ (K := (fun f => Ae.lookA f [])) (kok_nil _) Tryz.func16 (c := code Tryz.f16) (by kernel_rfl) (name_ne (by kernel_rfl))
 (ann_seq (a := (subc (code Tryz.f16) [0])) (b := (subc (code Tryz.f16) [1])) (by kernel_rfl) (ann_nil _) (ann_cut (a := (subc (code Tryz.f16) [1, 0])) (b := (subc (code Tryz.f16) [1, 1])) (by kernel_rfl) (ann_nil _) k16_c1)) (fun v => Nat.le_of_ble_eq_true (by kernel_rfl)) (fun v => h16 C16_c1 v)
def F48  : List (List UInt8) × Unit → Option (Bool × List (List UInt8) × Unit) := fun (x0, _) =>
 some ((↑x0.length : Int) == 10, x0, ())
theorem h48  (v : HS f48_ins) : afun Γ (fun f => Ae.lookA f []) 1 Tryz.f48.ntmps Tryz.f48.results.toList (code Tryz.f48) .nil (em id f48_ins v).1 (em id f48_ins v).2 (ofin 1 f48_outs) = F48 v := by kernel_rfl
def C48 (v : List (List UInt8) × Unit) : Option (Bool × List (List UInt8) × Unit) := F48 v
theorem ok48 : FnOk Tryz.prog 48 ⟨f48_ins, f48_outs, C48⟩ :=
 fn_ok (np := 1) (n := .nil) hm hΓ (K := (fun f => Ae.lookA f [])) (kok_nil _) Tryz.func48 (c := code Tryz.f48) (by kernel_rfl) (name_ne (by kernel_rfl))
 (ann_nil _) (fun v => Nat.le_of_ble_eq_true (by kernel_rfl)) (fun v => h48 v)
def F49  : List (List UInt8) × Unit → Option (Bool × List (List UInt8) × Unit) := fun (x0, _) =>
 bif decide (0 < (↑x0.length : Int)) then
 bif
 x0.getD 0 [] ==
 [83, 117, 98, 106, 101, 99, 116, 58, 32, 110, 111, 116, 32, 100, 101, 108, 105, 118, 101, 114, 101,
 100] then
 bif decide (1 < (↑x0.length : Int)) then
 some
 (x0.getD 1 [] ==
 [77, 73, 77, 69, 45, 86, 101, 114, 115, 105, 111, 110, 58, 32, 49, 46, 48],
 x0, ())
 else none
 else some (false, x0, ())
 else none
theorem h49  (v : HS f49_ins) : afun Γ (fun f => Ae.lookA f []) 1 Tryz.f49.ntmps Tryz.f49.results.toList (code Tryz.f49) .nil (em id f49_ins v).1 (em id f49_ins v).2 (ofin 1 f49_outs) = F49 v := by kernel_rfl
def C49 (v : List (List UInt8) × Unit) : Option (Bool × List (List UInt8) × Unit) := F49 v
theorem ok49 : FnOk Tryz.prog 49 ⟨f49_ins, f49_outs, C49⟩ :=
 fn_ok (np := 1) (n := .nil) hm hΓ (K := (fun f => Ae.lookA f [])) (kok_nil _) Tryz.func49 (c := code Tryz.f49) (by kernel_rfl) (name_ne (by kernel_rfl))
 (ann_nil _) (fun v => Nat.le_of_ble_eq_true (by kernel_rfl)) (fun v => h49 v)
def F50  : List (List UInt8) × Unit → Option (Bool × List (List UInt8) × Unit) := fun (x0, _) =>
 bif decide (2 < (↑x0.length : Int)) then
 bif
 x0.getD 2 [] ==
 [67, 111, 110, 116, 101, 110, 116, 45, 84, 121, 112, 101, 58, 32, 109, 101, 115, 115, 97, 103, 101, 47, 103,
 108, 111, 98, 97, 108, 45, 100, 101, 108, 105, 118, 101, 114, 121, 45, 115, 116, 97, 116, 117,
 115] then
 bif decide (3 < (↑x0.length : Int)) then
 bif x0.getD 3 [] == [] then
 bif decide (5 < (↑x0.length : Int)) then
 some (x0.getD 5 [] == [], x0, ())
 else none
 else some (false, x0, ())
 else none
 else some (false, x0, ())
 else none
theorem h50  (v : HS f50_ins) : afun Γ (fun f => Ae.lookA f []) 1 Tryz.f50.ntmps Tryz.f50.results.toList (code Tryz.f50) .nil (em id f50_ins v).1 (em id f50_ins v).2 (ofin 1 f50_outs) = F50 v := by kernel_rfl
def C50 (v : List (List UInt8) × Unit) : Option (Bool × List (List UInt8) × Unit) := F50 v
theorem ok50 : FnOk Tryz.prog 50 ⟨f50_ins, f50_outs, C50⟩ :=
 fn_ok (np := 1) (n := .nil) hm hΓ (K := (fun f => Ae.lookA f [])) (kok_nil _) Tryz.func50 (c := code Tryz.f50) (by kernel_rfl) (name_ne (by kernel_rfl))
 (ann_nil _) (fun v => Nat.le_of_ble_eq_true (by kernel_rfl)) (fun v => h50 v)
def F52 (f82 : List UInt8 × List UInt8 × Unit → Option (Bool × Unit)) : List UInt8 × List UInt8 × Unit → Option (Bool × Unit) := fun (x0, x1, _) =>
 (f82 (x0, x1, ())).bind fun val => some (val.1, ())
theorem h52 (f82 : HS f82_ins → Option (OTy f82_outs)) (v : HS f52_ins) : afun Γ (fun f => Ae.lookA f [(82, ⟨f82_ins, f82_outs, f82⟩)]) 0 Tryz.f52.ntmps Tryz.f52.results.toList (code Tryz.f52) .nil (em id f52_ins v).1 (em id f52_ins v).2 (ofin 0 f52_outs) = F52 f82 v := by kernel_rfl
def C52 (v : List UInt8 × List UInt8 × Unit) : Option (Bool × Unit) := F52 C82 v
theorem ok52 : FnOk Tryz.prog 52 ⟨f52_ins, f52_outs, C52⟩ :=
 fn_ok (np := 0) (n := .nil) hm hΓ (K := (fun f => Ae.lookA f [(82, ⟨f82_ins, f82_outs, C82⟩)])) (kok_cons ok82 (kok_nil _)) Tryz.func52 (c := code Tryz.f52) (by kernel_rfl) (name_ne (by kernel_rfl))
 (ann_nil _) (fun v => Nat.le_of_ble_eq_true (by kernel_rfl)) (fun v => h52 C82 v)
def F51 (f52 : List UInt8 × List UInt8 × Unit → Option (Bool × Unit)) : List (List UInt8) × Unit → Option (Bool × List (List UInt8) × Unit) := fun (x0, _) =>
 bif decide (4 < (↑x0.length : Int)) then
 (f52
 (x0.getD 4 [],
 [82, 101, 112, 111, 114, 116, 105, 110, 103, 45, 77, 84, 65, 58, 32, 100, 110, 115, 59, 32], ())).bind
 fun val =>
 bif val.1 then
 bif decide (6 < (↑x0.length : Int)) then
 (f52
 (x0.getD 6 [], [79, 114, 105, 103, 105, 110, 97, 108, 45, 73, 68, 58, 32],
 ())).bind
 fun val => some (val.1, x0, ())
 else none
 else some (false, x0, ())
 else none
theorem h51 (f52 : HS f52_ins → Option (OTy f52_outs)) (v : HS f51_ins) : afun Γ (fun f => Ae.lookA f [(52, ⟨f52_ins, f52_outs, f52⟩)]) 1 Tryz.f51.ntmps Tryz.f51.results.toList (code Tryz.f51) .nil (em id f51_ins v).1 (em id f51_ins v).2 (ofin 1 f51_outs) = F51 f52 v := by kernel_rfl
def C51 (v : List (List UInt8) × Unit) : Option (Bool × List (List UInt8) × Unit) := F51 C52 v
theorem ok51 : FnOk Tryz.prog 51 ⟨f51_ins, f51_outs, C51⟩ :=
 fn_ok (np := 1) (n := .nil) hm hΓ (K := (fun f => Ae.lookA f [(52, ⟨f52_ins, f52_outs, C52⟩)])) (kok_cons ok52 (kok_nil _)) Tryz.func51 (c := code Tryz.f51) (by kernel_rfl) (name_ne (by kernel_rfl))
 (ann_nil _) (fun v => Nat.le_of_ble_eq_true (by kernel_rfl)) (fun v => h51 C52 v)
def F53 (f9 : List UInt8 × Unit → Option (List UInt8 × Bool × Unit)) (f25 : List UInt8 × List UInt8 × Unit → Option (List UInt8 × Bool × Unit)) : List (List UInt8) × List UInt8 × Unit → Option (Bool × List (List UInt8) × List UInt8 × Unit) := fun (x0, x1, _) =>
 bif decide (7 < (↑x0.length : Int)) then
 (f25
 (x0.getD 7 [],
 [70, 105, 110, 97, 108, 45, 82, 101, 99, 105, 112, 105, 101, 110, 116, 58, 32, 117, 116, 102, 45, 56, 59,
 32],
 ())).bind
 fun val =>
 (f9 (val.1, ())).bind fun val_1 =>
 bif val.2.1 then some (val_1.2.1, x0, val_1.1, ()) else some (false, x0, val_1.1, ())
 else none
theorem h53 (f9 : HS f9_ins → Option (OTy f9_outs)) (f25 : HS f25_ins → Option (OTy f25_outs)) (v : HS f53_ins) : afun Γ (fun f => Ae.lookA f [(9, ⟨f9_ins, f9_outs, f9⟩), (25, ⟨f25_ins, f25_outs, f25⟩)]) 2 Tryz.f53.ntmps Tryz.f53.results.toList (code Tryz.f53) .nil (em id f53_ins v).1 (em id f53_ins v).2 (ofin 2 f53_outs) = F53 f9 f25 v := by kernel_rfl
def C53 (v : List (List UInt8) × List UInt8 × Unit) : Option (Bool × List (List UInt8) × List UInt8 × Unit) := F53 C9 C25 v
theorem ok53 : FnOk Tryz.prog 53 ⟨f53_ins, f53_outs, C53⟩ :=
 fn_ok (np := 2) (n := .nil) hm hΓ (K := (fun f => Ae.lookA f [(9, ⟨f9_ins, f9_outs, C9⟩), (25, ⟨f25_ins, f25_outs, C25⟩)])) (kok_cons ok9 (kok_cons ok25 (kok_nil _))) Tryz.func53 (c := code Tryz.f53) (by kernel_rfl) (name_ne (by kernel_rfl))
 (ann_nil _) (fun v => Nat.le_of_ble_eq_true (by kernel_rfl)) (fun v => h53 C9 C25 v)
def F55 (f13 : Int × Unit → Option (List UInt8 × Unit)) (f83 : List UInt8 × Unit → Option ((Int × Unit) ⊕ (Int × Unit))) (f84 : List UInt8 × List UInt8 × List UInt8 × Unit → Option (List UInt8 × Unit)) : List UInt8 × Unit → Option (Int × Unit) := fun (x0, _) =>
 (f84 (x0, [46], [], ())).bind fun val =>
 (f83 (val.1, ())).bind fun val =>
 Sum.elim
 (fun val =>
 (f13 (val.1, ())).bind fun val_1 =>
 bif !val_1.1 == x0 then some (-1, ())
 else bif decide (val.1 < 100) then some (-1, ()) else some (val.1, ()))
 (fun val => some (-1, ())) val
theorem h55 (f13 : HS f13_ins → Option (OTy f13_outs)) (f83 : HS f83_ins → Option (OTy f83_outs)) (f84 : HS f84_ins → Option (OTy f84_outs)) (v : HS f55_ins) : afun Γ (fun f => Ae.lookA f [(13, ⟨f13_ins, f13_outs, f13⟩), (83, ⟨f83_ins, f83_outs, f83⟩), (84, ⟨f84_ins, f84_outs, f84⟩)]) 0 Tryz.f55.ntmps Tryz.f55.results.toList (code Tryz.f55) .nil (em id f55_ins v).1 (em id f55_ins v).2 (ofin 0 f55_outs) = F55 f13 f83 f84 v := by kernel_rfl
def C55 (v : List UInt8 × Unit) : Option (Int × Unit) := F55 C13 C83 C84 v
theorem ok55 : FnOk Tryz.prog 55 ⟨f55_ins, f55_outs, C55⟩ :=
 fn_ok (np := 0) (n := .nil) hm hΓ (K := (fun f => Ae.lookA f [(13, ⟨f13_ins, f13_outs, C13⟩), (83, ⟨f83_ins, f83_outs, C83⟩), (84, ⟨f84_ins, f84_outs, C84⟩)])) (kok_cons ok13 (kok_cons ok83 (kok_cons ok84 (kok_nil _)))) Tryz.func55 (c := code Tryz.f55) (by kernel_rfl) (name_ne (by kernel_rfl))
 (ann_nil _) (fun v => Nat.le_of_ble_eq_true (by kernel_rfl)) (fun v => h55 C13 C83 C84 v)
def F54 (f25 : List UInt8 × List UInt8 × Unit → Option (List UInt8 × Bool × Unit)) (f55 : List UInt8 × Unit → Option (Int × Unit)) : List (List UInt8) × Int × Unit → Option (Bool × List (List UInt8) × Int × Unit) := fun (x0, x1, _) =>
 bif decide (9 < (↑x0.length : Int)) then
 (f25 (x0.getD 9 [], [83, 116, 97, 116, 117, 115, 58, 32], ())).bind fun val =>
 (f55 (val.1, ())).bind fun val_1 =>
 bif val.2.1 then
 bif decide (val_1.1 > 0) then
 bif decide (8 < (↑x0.length : Int)) then
 some
 (x0.getD 8 [] ==
 [65, 99, 116, 105, 111, 110, 58, 32, 102, 97, 105, 108, 101, 100],
 x0, val_1.1, ())
 else none
 else some (false, x0, val_1.1, ())
 else some (false, x0, val_1.1, ())
 else none
theorem h54 (f25 : HS f25_ins → Option (OTy f25_outs)) (f55 : HS f55_ins → Option (OTy f55_outs)) (v : HS f54_ins) : afun Γ (fun f => Ae.lookA f [(25, ⟨f25_ins, f25_outs, f25⟩), (55, ⟨f55_ins, f55_outs, f55⟩)]) 2 Tryz.f54.ntmps Tryz.f54.results.toList (code Tryz.f54) .nil (em id f54_ins v).1 (em id f54_ins v).2 (ofin 2 f54_outs) = F54 f25 f55 v := by kernel_rfl
def C54 (v : List (List UInt8) × Int × Unit) : Option (Bool × List (List UInt8) × Int × Unit) := F54 C25 C55 v
theorem ok54 : FnOk Tryz.prog 54 ⟨f54_ins, f54_outs, C54⟩ :=
 fn_ok (np := 2) (n := .nil) hm hΓ (K := (fun f => Ae.lookA f [(25, ⟨f25_ins, f25_outs, C25⟩), (55, ⟨f55_ins, f55_outs, C55⟩)])) (kok_cons ok25 (kok_cons ok55 (kok_nil _))) Tryz.func54 (c := code Tryz.f54) (by kernel_rfl) (name_ne (by kernel_rfl))
 (ann_nil _) (fun v => Nat.le_of_ble_eq_true (by kernel_rfl)) (fun v => h54 C25 C55 v)
def F47 (f48 : List (List UInt8) × Unit → Option (Bool × List (List UInt8) × Unit)) (f49 : List (List UInt8) × Unit → Option (Bool × List (List UInt8) × Unit)) (f50 : List (List UInt8) × Unit → Option (Bool × List (List UInt8) × Unit)) (f51 : List (List UInt8) × Unit → Option (Bool × List (List UInt8) × Unit)) (f53 : List (List UInt8) × List UInt8 × Unit → Option (Bool × List (List UInt8) × List UInt8 × Unit)) (f54 : List (List UInt8) × Int × Unit → Option (Bool × List (List UInt8) × Int × Unit)) : List (List UInt8) × List UInt8 × Int × Unit → Option (Bool × List (List UInt8) × List UInt8 × Int × Unit) := fun (x0, x1, x2, _) =>
 (f48 (x0, ())).bind fun val =>
 bif !val.1 then some (false, val.2.1, x1, x2, ())
 else
 (f49 (val.2.1, ())).bind fun val =>
 bif !val.1 then some (false, val.2.1, x1, x2, ())
 else
 (f50 (val.2.1, ())).bind fun val =>
 bif !val.1 then some (false, val.2.1, x1, x2, ())
 else
 (f51 (val.2.1, ())).bind fun val =>
 bif !val.1 then some (false, val.2.1, x1, x2, ())
 else
 (f53 (val.2.1, x1, ())).bind fun val =>
 bif !val.1 then some (false, val.2.1, val.2.2.1, x2, ())
 else
 (f54 (val.2.1, x2, ())).bind fun val_1 =>
 bif !val_1.1 then some (false, val_1.2.1, val.2.2.1, val_1.2.2.1, ())
 else some (true, val_1.2.1, val.2.2.1, val_1.2.2.1, ())
theorem h47 (f48 : HS f48_ins → Option (OTy f48_outs)) (f49 : HS f49_ins → Option (OTy f49_outs)) (f50 : HS f50_ins → Option (OTy f50_outs)) (f51 : HS f51_ins → Option (OTy f51_outs)) (f53 : HS f53_ins → Option (OTy f53_outs)) (f54 : HS f54_ins → Option (OTy f54_outs)) (v : HS f47_ins) : afun Γ (fun f => Ae.lookA f [(48, ⟨f48_ins, f48_outs, f48⟩), (49, ⟨f49_ins, f49_outs, f49⟩), (50, ⟨f50_ins, f50_outs, f50⟩), (51, ⟨f51_ins, f51_outs, f51⟩), (53, ⟨f53_ins, f53_outs, f53⟩), (54, ⟨f54_ins, f54_outs, f54⟩)]) 4 Tryz.f47.ntmps Tryz.f47.results.toList (code Tryz.f47) (.seq .nil (.seq (.seq .nil (.blk (.unroll 8 .nil))) .nil)) (em id f47_ins v).1 (em id f47_ins v).2 (ofin 4 f47_outs) = F47 f48 f49 f50 f51 f53 f54 v := by kernel_rfl
def C47 (v : List (List UInt8) × List UInt8 × Int × Unit) : Option (Bool × List (List UInt8) × List UInt8 × Int × Unit) := F47 C48 C49 C50 C51 C53 C54 v
theorem ok47 : FnOk Tryz.prog 47 ⟨f47_ins, f47_outs, C47⟩ :=
 fn_ok (np := 4) (n := (.seq .nil (.seq (.seq .nil (.blk (.unroll 8 .nil))) .nil))) hm hΓ (K := (fun f => Ae.lookA f [(48, ⟨f48_ins, f48_outs, C48⟩), (49, ⟨f49_ins, f49_outs, C49⟩), (50, ⟨f50_ins, f50_outs, C50⟩), (51, ⟨f51_ins, f51_outs, C51⟩), (53, ⟨f53_ins, f53_outs, C53⟩), (54, ⟨f54_ins, f54_outs, C54⟩)])) (kok_cons ok48 (kok_cons ok49 (kok_cons ok50 (kok_cons ok51 (kok_cons ok53 (kok_cons ok54 (kok_nil _))))))) Tryz.func47 (c := code Tryz.f47) (by kernel_rfl) (name_ne (by kernel_rfl))
 (ann_seq (a := (subc (code Tryz.f47) [0])) (b := (subc (code Tryz.f47) [1])) (by kernel_rfl) (ann_nil _) (ann_seq (a := (subc (code Tryz.f47) [1, 0])) (b := (subc (code Tryz.f47) [1, 1])) (by kernel_rfl) (ann_seq (a := (subc (code Tryz.f47) [1, 0, 0])) (b := (subc (code Tryz.f47) [1, 0, 1])) (by kernel_rfl) (ann_nil _) (ann_blk (x := (subc (code Tryz.f47) [1, 0, 1, 0])) (by kernel_rfl) (ann_unroll (x := (subc (code Tryz.f47) [1, 0, 1, 0, 0])) (by kernel_rfl) (ann_nil _)))) (ann_nil _))) (fun v => Nat.le_of_ble_eq_true (by kernel_rfl)) (fun v => h47 C48 C49 C50 C51 C53 C54 v)
def F19 (f47 : List (List UInt8) × List UInt8 × Int × Unit → Option (Bool × List (List UInt8) × List UInt8 × Int × Unit)) : List (List UInt8) × Unit → Option (List UInt8 × Int × Bool × Unit) := fun (x0, _) =>
 (f47 (x0, [], 0, ())).bind fun val =>
 bif !val.1 then some ([], 0, false, ())
 else some (val.2.2.1, val.2.2.2.1, true, ())
theorem h19 (f47 : HS f47_ins → Option (OTy f47_outs)) (v : HS f19_ins) : afun Γ (fun f => Ae.lookA f [(47, ⟨f47_ins, f47_outs, f47⟩)]) 0 Tryz.f19.ntmps Tryz.f19.results.toList (code Tryz.f19) .nil (em id f19_ins v).1 (em id f19_ins v).2 (ofin 0 f19_outs) = F19 f47 v := by kernel_rfl
def C19 (v : List (List UInt8) × Unit) : Option (List UInt8 × Int × Bool × Unit) := F19 C47 v
theorem ok19 : FnOk Tryz.prog 19 ⟨f19_ins, f19_outs, C19⟩ :=
 fn_ok (np := 0) (n := .nil) hm hΓ (K := (fun f => Ae.lookA f [(47, ⟨f47_ins, f47_outs, C47⟩)])) (kok_cons ok47 (kok_nil _)) Tryz.func19 (c := code Tryz.f19) (by kernel_rfl) (name_ne (by kernel_rfl))
 (ann_nil _) (fun v => Nat.le_of_ble_eq_true (by kernel_rfl)) (fun v => h19 C47 v)
def C8 (v : Unit) : Option (Bool × Unit) := some (true, ())
theorem h8 : afun Γ (fun f => Ae.lookA f [(9, ⟨f9_ins, f9_outs, C9⟩), (11, ⟨f11_ins, f11_outs, C11⟩), (13, ⟨f13_ins, f13_outs, C13⟩), (16, ⟨f16_ins, f16_outs, C16⟩), (19, ⟨f19_ins, f19_outs, C19⟩)]) 0 Tryz.f8.ntmps Tryz.f8.results.toList (code Tryz.f8) .nil (em id f8_ins ()).1 (em id f8_ins ()).2 (ofin 0 f8_outs) = some (true, ()) := by kernel_rfl
theorem ok8 : FnOk Tryz.prog 8 ⟨f8_ins, f8_outs, C8⟩ :=
 fn_ok (np := 0) (n := .nil) hm hΓ (K := (fun f => Ae.lookA f [(9, ⟨f9_ins, f9_outs, C9⟩), (11, ⟨f11_ins, f11_outs, C11⟩), (13, ⟨f13_ins, f13_outs, C13⟩), (16, ⟨f16_ins, f16_outs, C16⟩), (19, ⟨f19_ins, f19_outs, C19⟩)])) (kok_cons ok9 (kok_cons ok11 (kok_cons ok13 (kok_cons ok16 (kok_cons ok19 (kok_nil _)))))) Tryz.func8 (c := code Tryz.f8) (by kernel_rfl) (name_ne (by kernel_rfl))
 (ann_nil _) (fun v => Nat.le_of_ble_eq_true (by kernel_rfl)) (fun v => h8)
def F29  : Int × Unit → Option (Bool × Unit) := fun (x0, _) =>
 bif decide (x0 ≥ 32) then
 bif decide (x0 ≤ 126) then some (bif x0 == 92 then false else true, ()) else some (false, ())
 else some (false, ())
theorem h29  (v : HS f29_ins) : afun Γ (fun f => Ae.lookA f []) 0 Tryz.f29.ntmps Tryz.f29.results.toList (code Tryz.f29) .nil (em id f29_ins v).1 (em id f29_ins v).2 (ofin 0 f29_outs) = F29 v := by kernel_rfl
def C29 (v : Int × Unit) : Option (Bool × Unit) := F29 v
def F30_c0  : List UInt8 × Int × Int × Bool × Unit → Option ((List UInt8 × Int × Int × Unit) ⊕ (Int × Unit)) := fun (x0, x1, x2, x3, _) =>
 bif x3 then
 bif decide (0 ≤ x2) && decide (x2 < (↑x0.length : Int)) then
 some
 (Sum.inl
 (x0,
 IntKind.i64.wrap
 (IntKind.i64.wrap
 (IntKind.i64.wrap (16 * x1) +
 IntKind.i64.wrap (IntKind.u8.wrap ((↑(x0.getD x2.toNat 0).toNat : Int) - 65))) +
 10),
 x2, ()))
 else none
 else some (Sum.inr (-1, ()))
def C30_c0 (v : List UInt8 × Int × Int × Bool × Unit) : Option ((List UInt8 × Int × Int × Unit) ⊕ (Int × Unit)) := F30_c0 v
def F30_c1 (f30_c0 : List UInt8 × Int × Int × Bool × Unit → Option ((List UInt8 × Int × Int × Unit) ⊕ (Int × Unit))) : List UInt8 × Int × Int × Bool × Unit → Option ((List UInt8 × Int × Int × Unit) ⊕ (Int × Unit)) := fun (x0, x1, x2, x3, _) =>
 bif x3 then
 bif decide (0 ≤ x2) && decide (x2 < (↑x0.length : Int)) then
 some
 (Sum.inl
 (x0,
 IntKind.i64.wrap
 (IntKind.i64.wrap (16 * x1) +
 IntKind.i64.wrap (IntKind.u8.wrap ((↑(x0.getD x2.toNat 0).toNat : Int) - 48))),
 x2, ()))
 else none
 else
 bif decide (0 ≤ x2) && decide (x2 < (↑x0.length : Int)) then
 bif decide ((↑(x0.getD x2.toNat 0).toNat : Int) ≥ 65) then
 bif decide (0 ≤ x2) && decide (x2 < (↑x0.length : Int)) then
 (f30_c0 (x0, x1, x2, decide ((↑(x0.getD x2.toNat 0).toNat : Int) ≤ 70), ())).bind fun val =>
 Sum.elim (fun val => some (Sum.inl (val.1, val.2.1, val.2.2.1, ())))
 (fun val => some (Sum.inr (val.1, ()))) val
 else none
 else
 (f30_c0 (x0, x1, x2, false, ())).bind fun val =>
 Sum.elim (fun val => some (Sum.inl (val.1, val.2.1, val.2.2.1, ())))
 (fun val => some (Sum.inr (val.1, ()))) val
 else none
def C30_c1 (v : List UInt8 × Int × Int × Bool × Unit) : Option ((List UInt8 × Int × Int × Unit) ⊕ (Int × Unit)) := F30_c1 C30_c0 v
def F30_l0 (f30_c1 : List UInt8 × Int × Int × Bool × Unit → Option ((List UInt8 × Int × Int × Unit) ⊕ (Int × Unit))) : List UInt8 × Int × Int × Unit → Option ((List UInt8 × Int × Int × Unit) ⊕ ((Int × Unit) ⊕ (Int × Unit))) := fun (x0, x1, x2, _) =>
 bif decide (x2 < (↑x0.length : Int)) then
 bif decide (0 ≤ x2) && decide (x2 < (↑x0.length : Int)) then
 bif decide ((↑(x0.getD x2.toNat 0).toNat : Int) ≥ 48) then
 bif decide (0 ≤ x2) && decide (x2 < (↑x0.length : Int)) then
 (f30_c1 (x0, x1, x2, decide ((↑(x0.getD x2.toNat 0).toNat : Int) ≤ 57), ())).bind fun val =>
 Sum.elim
 (fun val => some (Sum.inl (val.1, val.2.1, IntKind.i64.wrap (val.2.2.1 + 1), ())))
 (fun val => some (Sum.inr (Sum.inr (val.1, ())))) val
 else none
 else
 (f30_c1 (x0, x1, x2, false, ())).bind fun val =>
 Sum.elim (fun val => some (Sum.inl (val.1, val.2.1, IntKind.i64.wrap (val.2.2.1 + 1), ())))
 (fun val => some (Sum.inr (Sum.inr (val.1, ())))) val
 else none
 else some (Sum.inr (Sum.inl (x1, ())))
def C30_l0 (v : List UInt8 × Int × Int × Unit) : Option ((Int × Unit) ⊕ (Int × Unit)) := loopN (F30_l0 C30_c1) big v
end Go.Proofs.YtmfcepdbpdihgaaGreatDoor.W
set_option maxRecDepth 100000
set_option linter.unusedVariables false
namespace Go.Proofs.YtmfcepdbpdihgaaGreatDoor.W
open Go Go.Ae
def F30_c2 (f30_l0 : List UInt8 × Int × Int × Unit → Option ((Int × Unit) ⊕ (Int × Unit))) : List UInt8 × Unit → Option (Int × Unit) := fun (x0, _) =>
 (f30_l0 (x0, 0, 0, ())).bind fun val =>
 Sum.elim (fun val => some (val.1, ())) (fun val => some (val.1, ())) val
def C30_c2 (v : List UInt8 × Unit) : Option (Int × Unit) := F30_c2 C30_l0 v
def F30 (f30_c2 : List UInt8 × Unit → Option (Int × Unit)) : List UInt8 × Unit → Option (Int × Unit) := fun (x0, _) =>
 bif decide ((↑x0.length : Int) < 1) then some (-1, ())
 else
 bif decide ((↑x0.length : Int) > 6) then some (-1, ())
 else
 bif decide ((↑x0.length : Int) > 1) then
 bif decide (0 < (↑x0.length : Int)) then
 bif (↑(x0.getD 0 0).toNat : Int) == 48 then some (-1, ())
 else (f30_c2 (x0, ())).bind fun val => some (val.1, ())
 else none
 else (f30_c2 (x0, ())).bind fun val => some (val.1, ())
def C30 (v : List UInt8 × Unit) : Option (Int × Unit) := F30 C30_c2 v
def F64  : Int × Unit → Option (Bool × Unit) := fun (x0, _) =>
 bif decide (x0 ≥ 0) then
 bif decide (x0 ≤ 1114111) then
 bif decide (x0 < 55296) then some (true, ()) else some (decide (x0 > 57343), ())
 else some (false, ())
 else some (false, ())
def C64 (v : Int × Unit) : Option (Bool × Unit) := F64 v
def F92 (f64 : Int × Unit → Option (Bool × Unit)) : Int × Unit → Option (Int × Unit) := fun (x0, _) =>
 (f64 (x0, ())).bind fun val =>
 bif !val.1 then some (0, ())
 else
 bif decide (x0 ≤ 127) then some (1, ())
 else
 bif decide (x0 ≤ 2047) then some (2, ())
 else bif decide (x0 ≤ 65535) then some (3, ()) else some (4, ())
theorem h92 (f64 : HS f64_ins → Option (OTy f64_outs)) (v : HS f92_ins) : afun Γ (fun f => Ae.lookA f [(64, ⟨f64_ins, f64_outs, f64⟩)]) 0 Tryz.f92.ntmps Tryz.f92.results.toList (code Tryz.f92) .nil (em id f92_ins v).1 (em id f92_ins v).2 (ofin 0 f92_outs) = F92 f64 v := by kernel_rfl
def C92 (v : Int × Unit) : Option (Int × Unit) := F92 C64 v
def F65 (f92 : Int × Unit → Option (Int × Unit)) : Int × Unit → Option (List UInt8 × Unit) := fun (x0, _) =>
 (f92 (x0, ())).bind fun val =>
 bif val.1 == 1 then some ([UInt8.ofNat (IntKind.u8.wrap x0).toNat], ())
 else
 bif val.1 == 2 then
 some
 ([UInt8.ofNat (IntKind.u8.wrap (IntKind.i32.wrap (192 + IntKind.i32.wrap (x0.tdiv 64)))).toNat,
 UInt8.ofNat (IntKind.u8.wrap (IntKind.i32.wrap (128 + x0.tmod 64))).toNat],
 ())
 else
 bif val.1 == 3 then
 some
 ([UInt8.ofNat (IntKind.u8.wrap (IntKind.i32.wrap (224 + IntKind.i32.wrap (x0.tdiv 4096)))).toNat,
 UInt8.ofNat (IntKind.u8.wrap (IntKind.i32.wrap (128 + (IntKind.i32.wrap (x0.tdiv 64)).tmod 64))).toNat,
 UInt8.ofNat (IntKind.u8.wrap (IntKind.i32.wrap (128 + x0.tmod 64))).toNat],
 ())
 else
 bif val.1 == 4 then
 some
 ([UInt8.ofNat (IntKind.u8.wrap (IntKind.i32.wrap (240 + IntKind.i32.wrap (x0.tdiv 262144)))).toNat,
 UInt8.ofNat
 (IntKind.u8.wrap (IntKind.i32.wrap (128 + (IntKind.i32.wrap (x0.tdiv 4096)).tmod 64))).toNat,
 UInt8.ofNat (IntKind.u8.wrap (IntKind.i32.wrap (128 + (IntKind.i32.wrap (x0.tdiv 64)).tmod 64))).toNat,
 UInt8.ofNat (IntKind.u8.wrap (IntKind.i32.wrap (128 + x0.tmod 64))).toNat],
 ())
 else some ([], ())
theorem h65 (f92 : HS f92_ins → Option (OTy f92_outs)) (v : HS f65_ins) : afun Γ (fun f => Ae.lookA f [(92, ⟨f92_ins, f92_outs, f92⟩)]) 0 Tryz.f65.ntmps Tryz.f65.results.toList (code Tryz.f65) .nil (em id f65_ins v).1 (em id f65_ins v).2 (ofin 0 f65_outs) = F65 f92 v := by kernel_rfl
def C65 (v : Int × Unit) : Option (List UInt8 × Unit) := F65 C92 v
def F31_l0 (f64 : Int × Unit → Option (Bool × Unit)) (f65 : Int × Unit → Option (List UInt8 × Unit)) : List (Int) × Int × List UInt8 × Unit → Option ((List (Int) × Int × List UInt8 × Unit) ⊕ ((List UInt8 × Unit) ⊕ (List UInt8 × Bool × Unit))) := fun (x0, x1, x2, _) =>
 bif decide (x1 < (↑x0.length : Int)) then
 bif decide (0 ≤ x1) && decide (x1 < (↑x0.length : Int)) then
 (f64 (x0.getD x1.toNat 0, ())).bind fun val =>
 bif !val.1 then some (Sum.inr (Sum.inr ([], false, ())))
 else
 bif decide (0 ≤ x1) && decide (x1 < (↑x0.length : Int)) then
 (f65 (x0.getD x1.toNat 0, ())).bind fun val =>
 bif decide (x2.length + List.length val.1 ≤ 140737488355328 / 1) then
 some (Sum.inl (x0, IntKind.i64.wrap (x1 + 1), x2 ++ val.1, ()))
 else none
 else none
 else none
 else some (Sum.inr (Sum.inl (x2, ())))
def C31_l0 (v : List (Int) × Int × List UInt8 × Unit) : Option ((List UInt8 × Unit) ⊕ (List UInt8 × Bool × Unit)) := loopN (F31_l0 C64 C65) big v
def F31 (f31_l0 : List (Int) × Int × List UInt8 × Unit → Option ((List UInt8 × Unit) ⊕ (List UInt8 × Bool × Unit))) : List (Int) × Unit → Option (List UInt8 × Bool × Unit) := fun (x0, _) =>
 (f31_l0 (x0, 0, [], ())).bind fun val =>
 Sum.elim (fun val => some (val.1, true, ())) (fun val => some (val.1, val.2.1, ())) val
def C31 (v : List (Int) × Unit) : Option (List UInt8 × Bool × Unit) := F31 C31_l0 v
def F10_l0  : List UInt8 × Int × Int × List (Int) × Unit → Option ((List UInt8 × Int × Int × List (Int) × Unit) ⊕ (List UInt8 × Int × Int × List (Int) × Unit)) := fun (x0, x1, x2, x3, _) =>
 bif decide (x2 < (↑x0.length : Int)) then
 bif decide (0 ≤ x2) && decide (x2 < (↑x0.length : Int)) then
 bif (↑(x0.getD x2.toNat 0).toNat : Int) != 125 then
 some (Sum.inl (x0, x1, IntKind.i64.wrap (x2 + 1), x3, ()))
 else some (Sum.inr (x0, x1, x2, x3, ()))
 else none
 else some (Sum.inr (x0, x1, x2, x3, ()))
def C10_l0 (v : List UInt8 × Int × Int × List (Int) × Unit) : Option (List UInt8 × Int × Int × List (Int) × Unit) := loopN (F10_l0) big v
def F10_c0 (f29 : Int × Unit → Option (Bool × Unit)) (f30 : List UInt8 × Unit → Option (Int × Unit)) (f10_l0 : List UInt8 × Int × Int × List (Int) × Unit → Option (List UInt8 × Int × Int × List (Int) × Unit)) : List UInt8 × Int × List (Int) × Unit → Option ((List UInt8 × Bool × Unit) ⊕ (List UInt8 × Int × List (Int) × Unit)) := fun (x0, x1, x2, _) =>
 (f10_l0 (x0, x1, IntKind.i64.wrap (x1 + 3), x2, ())).bind fun val =>
 bif val.2.2.1 == (↑(List.length val.1) : Int) then some (Sum.inl ([], false, ()))
 else
 bif decide (0 ≤ val.2.2.1) && decide (val.2.2.1 ≤ (↑(List.length val.1) : Int)) then
 bif
 decide (0 ≤ IntKind.i64.wrap (val.2.1 + 3)) &&
 decide (IntKind.i64.wrap (val.2.1 + 3) ≤ val.2.2.1) then
 (f30
 (List.drop (IntKind.i64.wrap (val.2.1 + 3)).toNat (List.take (Int.toNat val.2.2.1) val.1),
 ())).bind
 fun val_1 =>
 bif decide (val_1.1 < 0) then some (Sum.inl ([], false, ()))
 else
 bif decide (val_1.1 > 1114111) then some (Sum.inl ([], false, ()))
 else
 (f29 (IntKind.i32.wrap val_1.1, ())).bind fun val_2 =>
 bif val_2.1 then some (Sum.inl ([], false, ()))
 else
 bif
 decide
 (List.length val.2.2.2.1 + [IntKind.i32.wrap val_1.1].length ≤
 140737488355328 / 4) then
 some
 (Sum.inr
 (val.1, val.2.2.1, val.2.2.2.1 ++ [IntKind.i32.wrap val_1.1], ()))
 else none
 else none
 else none
def C10_c0 (v : List UInt8 × Int × List (Int) × Unit) : Option ((List UInt8 × Bool × Unit) ⊕ (List UInt8 × Int × List (Int) × Unit)) := F10_c0 C29 C30 C10_l0 v
def F10_l1 (f29 : Int × Unit → Option (Bool × Unit)) (f10_c0 : List UInt8 × Int × List (Int) × Unit → Option ((List UInt8 × Bool × Unit) ⊕ (List UInt8 × Int × List (Int) × Unit))) : List UInt8 × Int × List (Int) × Unit → Option ((List UInt8 × Int × List (Int) × Unit) ⊕ ((List (Int) × Unit) ⊕ (List UInt8 × Bool × Unit))) := fun (x0, x1, x2, _) =>
 bif decide (x1 < (↑x0.length : Int)) then
 bif decide (0 ≤ x1) && decide (x1 < (↑x0.length : Int)) then
 (f29 (IntKind.i32.wrap (↑(x0.getD x1.toNat 0).toNat : Int), ())).bind fun val =>
 bif val.1 then
 bif decide (0 ≤ x1) && decide (x1 < (↑x0.length : Int)) then
 bif
 decide
 (x2.length + [IntKind.i32.wrap (↑(x0.getD x1.toNat 0).toNat : Int)].length ≤ 140737488355328 / 4) then
 some
 (Sum.inl
 (x0, IntKind.i64.wrap (x1 + 1), x2 ++ [IntKind.i32.wrap (↑(x0.getD x1.toNat 0).toNat : Int)],
 ()))
 else none
 else none
 else
 bif decide (IntKind.i64.wrap ((↑x0.length : Int) - x1) < 4) then
 some (Sum.inr (Sum.inr ([], false, ())))
 else
 bif decide (0 ≤ x1) && decide (x1 < (↑x0.length : Int)) then
 bif (↑(x0.getD x1.toNat 0).toNat : Int) != 92 then some (Sum.inr (Sum.inr ([], false, ())))
 else
 bif decide (0 ≤ IntKind.i64.wrap (x1 + 1)) && decide (IntKind.i64.wrap (x1 + 1) < (↑x0.length : Int)) then
 bif (↑(x0.getD (IntKind.i64.wrap (x1 + 1)).toNat 0).toNat : Int) != 120 then
 some (Sum.inr (Sum.inr ([], false, ())))
 else
 bif
 decide (0 ≤ IntKind.i64.wrap (x1 + 2)) &&
 decide (IntKind.i64.wrap (x1 + 2) < (↑x0.length : Int)) then
 bif (↑(x0.getD (IntKind.i64.wrap (x1 + 2)).toNat 0).toNat : Int) != 123 then
 some (Sum.inr (Sum.inr ([], false, ())))
 else
 (f10_c0 (x0, x1, x2, ())).bind fun val =>
 Sum.elim (fun val => some (Sum.inr (Sum.inr (val.1, val.2.1, ()))))
 (fun val =>
 some (Sum.inl (val.1, IntKind.i64.wrap (val.2.1 + 1), val.2.2.1, ())))
 val
 else none
 else none
 else none
 else none
 else some (Sum.inr (Sum.inl (x2, ())))
def C10_l1 (v : List UInt8 × Int × List (Int) × Unit) : Option ((List (Int) × Unit) ⊕ (List UInt8 × Bool × Unit)) := loopN (F10_l1 C29 C10_c0) big v
def F10 (f31 : List (Int) × Unit → Option (List UInt8 × Bool × Unit)) (f10_l1 : List UInt8 × Int × List (Int) × Unit → Option ((List (Int) × Unit) ⊕ (List UInt8 × Bool × Unit))) : List UInt8 × Unit → Option (List UInt8 × Bool × Unit) := fun (x0, _) =>
 (f10_l1 (x0, 0, [], ())).bind fun val =>
 Sum.elim (fun val => (f31 (val.1, ())).bind fun val => some (val.1, val.2.1, ()))
 (fun val => some (val.1, val.2.1, ())) val
theorem h10 (f31 : HS f31_ins → Option (OTy f31_outs)) (f10_l1 : HS f10_l1_ins → Option (OTy f10_l1_outs)) (v : HS f10_ins) : afun Γ (fun f => Ae.lookA f [(31, ⟨f31_ins, f31_outs, f31⟩)]) 0 Tryz.f10.ntmps Tryz.f10.results.toList (code Tryz.f10) (.seq .nil (.seq .nil (.seq (.seq .nil (.blk (.loop ⟨f10_l1_ins, f10_l1_outs, f10_l1⟩))) .nil))) (em id f10_ins v).1 (em id f10_ins v).2 (ofin 0 f10_outs) = F10 f31 f10_l1 v := by kernel_rfl
def C10 (v : List UInt8 × Unit) : Option (List UInt8 × Bool × Unit) := F10 C31 C10_l1 v
def F37 (f37 : Int × Unit → Option (List UInt8 × Unit)) : Int × Unit → Option (List UInt8 × Unit) := fun (x0, _) =>
 bif decide (x0 < 16) then
 bif
 decide (0 ≤ IntKind.i64.wrap (x0 + 1)) &&
 decide
 (IntKind.i64.wrap (x0 + 1) ≤
 (↑[48, 49, 50, 51, 52, 53, 54, 55, 56, 57, 65, 66, 67, 68, 69, 70].length : Int)) then
 bif decide (0 ≤ x0) && decide (x0 ≤ IntKind.i64.wrap (x0 + 1)) then
 some
 (List.drop x0.toNat
 (List.take (IntKind.i64.wrap (x0 + 1)).toNat
 [48, 49, 50, 51, 52, 53, 54, 55, 56, 57, 65, 66, 67, 68, 69, 70]),
 ())
 else none
 else none
 else
 (f37 (IntKind.i64.wrap (x0.tdiv 16), ())).bind fun val =>
 (f37 (x0.tmod 16, ())).bind fun val_1 =>
 bif decide (List.length val.1 + List.length val_1.1 ≤ 9223372036854775807) then
 some (val.1 ++ val_1.1, ())
 else none
def C37 (v : Int × Unit) : Option (List UInt8 × Unit) := recN (fun G => F37 G) big v
def F39 (f39 : Int × Unit → Option (List UInt8 × Unit)) : Int × Unit → Option (List UInt8 × Unit) := fun (x0, _) =>
 bif decide (x0 < 10) then
 bif
 decide (0 ≤ IntKind.i64.wrap (x0 + 1)) &&
 decide (IntKind.i64.wrap (x0 + 1) ≤ (↑[48, 49, 50, 51, 52, 53, 54, 55, 56, 57].length : Int)) then
 bif decide (0 ≤ x0) && decide (x0 ≤ IntKind.i64.wrap (x0 + 1)) then
 some
 (List.drop x0.toNat
 (List.take (IntKind.i64.wrap (x0 + 1)).toNat [48, 49, 50, 51, 52, 53, 54, 55, 56, 57]),
 ())
 else none
 else none
 else
 (f39 (IntKind.i64.wrap (x0.tdiv 10), ())).bind fun val =>
 (f39 (x0.tmod 10, ())).bind fun val_1 =>
 bif decide (List.length val.1 + List.length val_1.1 ≤ 9223372036854775807) then
 some (val.1 ++ val_1.1, ())
 else none
def C39 (v : Int × Unit) : Option (List UInt8 × Unit) := recN (fun G => F39 G) big v
def F14 (f39 : Int × Unit → Option (List UInt8 × Unit)) : Int × Unit → Option (List UInt8 × Unit) := fun (x0, _) =>
 bif decide (x0 < 100) then some ([53, 46, 48, 46, 48], ())
 else
 bif decide (x0 > 999) then some ([53, 46, 48, 46, 48], ())
 else
 (f39 (IntKind.i64.wrap (x0.tdiv 100), ())).bind fun val =>
 bif decide (List.length val.1 + [46].length ≤ 9223372036854775807) then
 (f39 ((IntKind.i64.wrap (x0.tdiv 10)).tmod 10, ())).bind fun val_1 =>
 bif decide ((val.1 ++ [46]).length + List.length val_1.1 ≤ 9223372036854775807) then
 bif decide ((val.1 ++ [46] ++ val_1.1).length + [46].length ≤ 9223372036854775807) then
 (f39 (x0.tmod 10, ())).bind fun val_2 =>
 bif
 decide
 ((val.1 ++ [46] ++ val_1.1 ++ [46]).length + List.length val_2.1 ≤
 9223372036854775807) then
 some (val.1 ++ [46] ++ val_1.1 ++ [46] ++ val_2.1, ())
 else none
 else none
 else none
 else none
def C14 (v : Int × Unit) : Option (List UInt8 × Unit) := F14 C39 v
def F3 (f8 : Unit → Option (Bool × Unit)) (f9 : List UInt8 × Unit → Option (List UInt8 × Bool × Unit)) (f10 : List UInt8 × Unit → Option (List UInt8 × Bool × Unit)) (f11 : List UInt8 × Unit → Option (List UInt8 × Unit)) (f12 : List UInt8 × Unit → Option (List UInt8 × Unit)) (f13 : Int × Unit → Option (List UInt8 × Unit)) (f14 : Int × Unit → Option (List UInt8 × Unit)) : List UInt8 × Int × Unit → Option (Bool × Unit) := fun (x0, x1, _) =>
 (f8 ()).bind fun val =>
 bif decide ((↑x0.length : Int) > 500) then some (val.1, ())
 else
 (f9 (x0, ())).bind fun val_1 =>
 (f10 (x0, ())).bind fun val_2 =>
 bif val.1 then
 (f11 (x0, ())).bind fun val =>
 (f12 (x0, ())).bind fun val_3 =>
 bif val.1 == val_3.1 then
 bif val_1.1 == val_2.1 then
 bif val_1.2.1 == val_2.2.1 then
 (f13 (x1, ())).bind fun val =>
 (f14 (x1, ())).bind fun val_4 => some (val.1 == val_4.1, ())
 else some (false, ())
 else some (false, ())
 else some (false, ())
 else some (false, ())
theorem h3 (f8 : HS f8_ins → Option (OTy f8_outs)) (f9 : HS f9_ins → Option (OTy f9_outs)) (f10 : HS f10_ins → Option (OTy f10_outs)) (f11 : HS f11_ins → Option (OTy f11_outs)) (f12 : HS f12_ins → Option (OTy f12_outs)) (f13 : HS f13_ins → Option (OTy f13_outs)) (f14 : HS f14_ins → Option (OTy f14_outs)) (v : HS f3_ins) : afun Γ (fun f => Ae.lookA f [(8, ⟨f8_ins, f8_outs, f8⟩), (9, ⟨f9_ins, f9_outs, f9⟩), (10, ⟨f10_ins, f10_outs, f10⟩), (11, ⟨f11_ins, f11_outs, f11⟩), (12, ⟨f12_ins, f12_outs, f12⟩), (13, ⟨f13_ins, f13_outs, f13⟩), (14, ⟨f14_ins, f14_outs, f14⟩)]) 0 Tryz.f3.ntmps Tryz.f3.results.toList (code Tryz.f3) .nil (em id f3_ins v).1 (em id f3_ins v).2 (ofin 0 f3_outs) = F3 f8 f9 f10 f11 f12 f13 f14 v := by kernel_rfl
def F40  : List UInt8 × List UInt8 × Unit → Option (Bool × Unit) := fun (x0, x1, _) =>
 bif decide ((↑x0.length : Int) ≤ 150) then some (decide ((↑x1.length : Int) ≤ 200), ())
 else some (false, ())
theorem h40  (v : HS f40_ins) : afun Γ (fun f => Ae.lookA f []) 0 Tryz.f40.ntmps Tryz.f40.results.toList (code Tryz.f40) .nil (em id f40_ins v).1 (em id f40_ins v).2 (ofin 0 f40_outs) = F40 v := by kernel_rfl
def C40 (v : List UInt8 × List UInt8 × Unit) : Option (Bool × Unit) := F40 v
theorem ok40 : FnOk Tryz.prog 40 ⟨f40_ins, f40_outs, C40⟩ :=
 fn_ok (np := 0) (n := .nil) hm hΓ (K := (fun f => Ae.lookA f [])) (kok_nil _) Tryz.func40 (c := code Tryz.f40) (by kernel_rfl) (name_ne (by kernel_rfl))
 (ann_nil _) (fun v => Nat.le_of_ble_eq_true (by kernel_rfl)) (fun v => h40 v)
def F15_l0 (f40 : List UInt8 × List UInt8 × Unit → Option (Bool × Unit)) : Int × Int × Bool × List UInt8 × List UInt8 × List (((Bool × (List UInt8 × List UInt8)) × (Int × (Int × (Int × Int))))) × List (List UInt8) × Bool × Bool × Bool × Int × Int × Int × Unit → Option ((Int × Int × Bool × List UInt8 × List UInt8 × List (((Bool × (List UInt8 × List UInt8)) × (Int × (Int × (Int × Int))))) × List (List UInt8) × Bool × Bool × Bool × Int × Int × Int × Unit) ⊕ ((Int × Bool × List UInt8 × List UInt8 × List (((Bool × (List UInt8 × List UInt8)) × (Int × (Int × (Int × Int))))) × List (List UInt8) × Bool × Bool × Bool × Int × Int × Int × Unit) ⊕ (Bool × Unit))) := fun (x0, x1, x2, x3, x4, x5, x6, x7, x8, x9, x10, x11, x12, _) =>
 bif decide (x0 < (↑x5.length : Int)) then
 bif decide (0 ≤ x0) && decide (x0 < (↑x5.length : Int)) then
 (f40
 ((x5.getD x0.toNat
 ((false, ([], [])), (0, (0, (0, 0))))).1.2.1,
 (x5.getD x0.toNat
 ((false, ([], [])), (0, (0, (0, 0))))).1.2.2,
 ())).bind
 fun val =>
 bif !val.1 then some (Sum.inr (Sum.inr (false, ())))
 else some (Sum.inl (IntKind.i64.wrap (x0 + 1), x1, x2, x3, x4, x5, x6, x7, x8, x9, x10, x11, x12, ()))
 else none
 else some (Sum.inr (Sum.inl (x1, x2, x3, x4, x5, x6, x7, x8, x9, x10, x11, x12, ())))
theorem h15_l0 (f40 : HS f40_ins → Option (OTy f40_outs)) (v : HS f15_l0_ins) : aev Γ (fun f => Ae.lookA f [(40, ⟨f40_ins, f40_outs, f40⟩)]) 0 (subc (code Tryz.f15) [1, 0, 1, 0, 0]) .nil (stof f15_l0_ins v) (around 0 f15_l0_ins f15_l0_outs) = F15_l0 f40 v := by kernel_rfl
def C15_l0 (v : Int × Int × Bool × List UInt8 × List UInt8 × List (((Bool × (List UInt8 × List UInt8)) × (Int × (Int × (Int × Int))))) × List (List UInt8) × Bool × Bool × Bool × Int × Int × Int × Unit) : Option ((Int × Bool × List UInt8 × List UInt8 × List (((Bool × (List UInt8 × List UInt8)) × (Int × (Int × (Int × Int))))) × List (List UInt8) × Bool × Bool × Bool × Int × Int × Int × Unit) ⊕ (Bool × Unit)) := loopN (F15_l0 C40) big v
theorem k15_l0 : FragOk Tryz.prog 0 (fun Q a w => (Code.loop (subc (code Tryz.f15) [1, 0, 1, 0, 0])).wp Tryz.prog Q a w) ⟨f15_l0_ins, f15_l0_outs, C15_l0⟩ :=
 frag_loop (ins := f15_l0_ins) (os := f15_l0_outs) (np := 0) (n := .nil) (F := F15_l0 C40) hm hΓ (K := (fun f => Ae.lookA f [(40, ⟨f40_ins, f40_outs, C40⟩)])) (kok_cons ok40 (kok_nil _)) (fun _ => big)
 (ann_nil _) (fun v => h15_l0 C40 v)
def F15 (f40 : List UInt8 × List UInt8 × Unit → Option (Bool × Unit)) (f15_l0 : Int × Int × Bool × List UInt8 × List UInt8 × List (((Bool × (List UInt8 × List UInt8)) × (Int × (Int × (Int × Int))))) × List (List UInt8) × Bool × Bool × Bool × Int × Int × Int × Unit → Option ((Int × Bool × List UInt8 × List UInt8 × List (((Bool × (List UInt8 × List UInt8)) × (Int × (Int × (Int × Int))))) × List (List UInt8) × Bool × Bool × Bool × Int × Int × Int × Unit) ⊕ (Bool × Unit))) : Int × Bool × List UInt8 × List UInt8 × List (((Bool × (List UInt8 × List UInt8)) × (Int × (Int × (Int × Int))))) × List (List UInt8) × Bool × Bool × Bool × Int × Int × Int × Unit → Option (Bool × Unit) := fun (x0, x1, x2, x3, x4, x5, x6, x7, x8, x9, x10, x11, _) =>
 (f15_l0 (0, x0, x1, x2, x3, x4, x5, x6, x7, x8, x9, x10, x11, ())).bind fun val =>
 Sum.elim
 (fun val =>
 (f40 (val.2.2.1, val.2.2.2.1, ())).bind fun val_1 =>
 bif val_1.1 then some (decide ((↑(List.length val.2.2.2.2.1) : Int) ≤ 120), ())
 else some (false, ()))
 (fun val => some (val.1, ())) val
theorem h15 (f40 : HS f40_ins → Option (OTy f40_outs)) (f15_l0 : HS f15_l0_ins → Option (OTy f15_l0_outs)) (v : HS f15_ins) : afun Γ (fun f => Ae.lookA f [(40, ⟨f40_ins, f40_outs, f40⟩)]) 0 Tryz.f15.ntmps Tryz.f15.results.toList (code Tryz.f15) (.seq .nil (.seq (.seq .nil (.blk (.loop ⟨f15_l0_ins, f15_l0_outs, f15_l0⟩))) .nil)) (em id f15_ins v).1 (em id f15_ins v).2 (ofin 0 f15_outs) = F15 f40 f15_l0 v := by kernel_rfl
def C15 (v : Int × Bool × List UInt8 × List UInt8 × List (((Bool × (List UInt8 × List UInt8)) × (Int × (Int × (Int × Int))))) × List (List UInt8) × Bool × Bool × Bool × Int × Int × Int × Unit) : Option (Bool × Unit) := F15 C40 C15_l0 v
theorem ok15 : FnOk Tryz.prog 15 ⟨f15_ins, f15_outs, C15⟩ :=
 fn_ok (np := 0) (n := (.seq .nil (.seq (.seq .nil (.blk (.loop ⟨f15_l0_ins, f15_l0_outs, C15_l0⟩))) .nil))) hm hΓ (K := (fun f => Ae.lookA f [(40, ⟨f40_ins, f40_outs, C40⟩)])) (kok_cons ok40 (kok_nil _)) Tryz.func15 (c := code Tryz.f15) (by kernel_rfl) (name_ne (by kernel_rfl))
 (ann_seq (a := (subc (code Tryz.f15) [0])) (b := (subc (code Tryz.f15) [1])) (by kernel_rfl) (ann_nil _) (ann_seq (a := (subc (code Tryz.f15) [1, 0])) (b := (subc (code Tryz.f15) [1, 1])) (by kernel_rfl) (ann_seq (a := (subc (code Tryz.f15) [1, 0, 0])) (b := (subc (code Tryz.f15) [1, 0, 1])) (by kernel_rfl) (ann_nil _) (ann_blk (x := (subc (code Tryz.f15) [1, 0, 1, 0])) (by kernel_rfl) (ann_loop (x := (subc (code Tryz.f15) [1, 0, 1, 0, 0])) (by kernel_rfl) k15_l0))) (ann_nil _))) (fun v => Nat.le_of_ble_eq_true (by kernel_rfl)) (fun v => h15 C40 C15_l0 v)
def F76 (f102 : List UInt8 × Unit → Option (List UInt8 × Unit)) : Bool × List UInt8 × List UInt8 × Unit → Option (Bool × Unit) := fun (x0, x1, x2, _) =>
 bif !x0 then
 bif x2 == [] then
 (f102 (x1, ())).bind fun val =>
 some (val.1 == [112, 111, 115, 116, 109, 97, 115, 116, 101, 114], ())
 else some (false, ())
 else some (false, ())
def C76 (v : Bool × List UInt8 × List UInt8 × Unit) : Option (Bool × Unit) := F76 C102 v
end Go.Proofs.YtmfcepdbpdihgaaGreatDoor.W
set_option maxRecDepth 100000
set_option linter.unusedVariables false
namespace Go.Proofs.YtmfcepdbpdihgaaGreatDoor.W
open Go Go.Ae
def F167_l0  : Int × List UInt8 × Int × Unit → Option ((Int × List UInt8 × Int × Unit) ⊕ (Unit ⊕ (Bool × Unit))) := fun (x0, x1, x2, _) =>
 bif decide (x2 < (↑x1.length : Int)) then
 bif decide (0 ≤ x2) && decide (x2 < (↑x1.length : Int)) then
 bif (↑(x1.getD x2.toNat 0).toNat : Int) == x0 then some (Sum.inr (Sum.inr (true, ())))
 else some (Sum.inl (x0, x1, IntKind.i64.wrap (x2 + 1), ()))
 else none
 else some (Sum.inr (Sum.inl ()))
def C167_l0 (v : Int × List UInt8 × Int × Unit) : Option (Unit ⊕ (Bool × Unit)) := loopN (F167_l0) big v
def F167 (f167_l0 : Int × List UInt8 × Int × Unit → Option (Unit ⊕ (Bool × Unit))) : Int × Unit → Option (Bool × Unit) := fun (x0, _) =>
 bif decide (x0 ≥ 97) then
 bif decide (x0 ≤ 122) then some (true, ())
 else
 bif decide (x0 ≥ 65) then
 bif decide (x0 ≤ 90) then some (true, ())
 else
 bif decide (x0 ≥ 48) then
 bif decide (x0 ≤ 57) then some (true, ())
 else
 bif decide (x0 ≥ 128) then some (true, ())
 else
 (f167_l0
 (x0,
 [33, 35, 36, 37, 38, 39, 42, 43, 45, 47, 61, 63, 94, 95] ++
 [96] ++
 [123, 124, 125, 126],
 0, ())).bind
 fun val => Sum.elim (fun val => some (false, ())) (fun val => some (val.1, ())) val
 else
 bif decide (x0 ≥ 128) then some (true, ())
 else
 (f167_l0
 (x0,
 [33, 35, 36, 37, 38, 39, 42, 43, 45, 47, 61, 63, 94, 95] ++ [96] ++
 [123, 124, 125, 126],
 0, ())).bind
 fun val => Sum.elim (fun val => some (false, ())) (fun val => some (val.1, ())) val
 else
 bif decide (x0 ≥ 48) then
 bif decide (x0 ≤ 57) then some (true, ())
 else
 bif decide (x0 ≥ 128) then some (true, ())
 else
 (f167_l0
 (x0,
 [33, 35, 36, 37, 38, 39, 42, 43, 45, 47, 61, 63, 94, 95] ++ [96] ++
 [123, 124, 125, 126],
 0, ())).bind
 fun val => Sum.elim (fun val => some (false, ())) (fun val => some (val.1, ())) val
 else
 bif decide (x0 ≥ 128) then some (true, ())
 else
 (f167_l0
 (x0,
 [33, 35, 36, 37, 38, 39, 42, 43, 45, 47, 61, 63, 94, 95] ++ [96] ++
 [123, 124, 125, 126],
 0, ())).bind
 fun val => Sum.elim (fun val => some (false, ())) (fun val => some (val.1, ())) val
 else
 bif decide (x0 ≥ 65) then
 bif decide (x0 ≤ 90) then some (true, ())
 else
 bif decide (x0 ≥ 48) then
 bif decide (x0 ≤ 57) then some (true, ())
 else
 bif decide (x0 ≥ 128) then some (true, ())
 else
 (f167_l0
 (x0,
 [33, 35, 36, 37, 38, 39, 42, 43, 45, 47, 61, 63, 94, 95] ++ [96] ++
 [123, 124, 125, 126],
 0, ())).bind
 fun val => Sum.elim (fun val => some (false, ())) (fun val => some (val.1, ())) val
 else
 bif decide (x0 ≥ 128) then some (true, ())
 else
 (f167_l0
 (x0,
 [33, 35, 36, 37, 38, 39, 42, 43, 45, 47, 61, 63, 94, 95] ++ [96] ++
 [123, 124, 125, 126],
 0, ())).bind
 fun val => Sum.elim (fun val => some (false, ())) (fun val => some (val.1, ())) val
 else
 bif decide (x0 ≥ 48) then
 bif decide (x0 ≤ 57) then some (true, ())
 else
 bif decide (x0 ≥ 128) then some (true, ())
 else
 (f167_l0
 (x0,
 [33, 35, 36, 37, 38, 39, 42, 43, 45, 47, 61, 63, 94, 95] ++ [96] ++
 [123, 124, 125, 126],
 0, ())).bind
 fun val => Sum.elim (fun val => some (false, ())) (fun val => some (val.1, ())) val
 else
 bif decide (x0 ≥ 128) then some (true, ())
 else
 (f167_l0
 (x0,
 [33, 35, 36, 37, 38, 39, 42, 43, 45, 47, 61, 63, 94, 95] ++ [96] ++
 [123, 124, 125, 126],
 0, ())).bind
 fun val => Sum.elim (fun val => some (false, ())) (fun val => some (val.1, ())) val
def C167 (v : Int × Unit) : Option (Bool × Unit) := F167 C167_l0 v
def F143_l0 (f167 : Int × Unit → Option (Bool × Unit)) : List UInt8 × Int × Unit → Option ((List UInt8 × Int × Unit) ⊕ ((List UInt8 × Unit) ⊕ (Bool × Unit))) := fun (x0, x1, _) =>
 bif decide (x1 < (↑x0.length : Int)) then
 bif decide (0 ≤ x1) && decide (x1 < (↑x0.length : Int)) then
 (f167 ((↑(x0.getD x1.toNat 0).toNat : Int), ())).bind fun val =>
 bif !val.1 then some (Sum.inr (Sum.inr (false, ())))
 else some (Sum.inl (x0, IntKind.i64.wrap (x1 + 1), ()))
 else none
 else some (Sum.inr (Sum.inl (x0, ())))
def C143_l0 (v : List UInt8 × Int × Unit) : Option ((List UInt8 × Unit) ⊕ (Bool × Unit)) := loopN (F143_l0 C167) big v
def F143 (f143_l0 : List UInt8 × Int × Unit → Option ((List UInt8 × Unit) ⊕ (Bool × Unit))) : List UInt8 × Unit → Option (Bool × Unit) := fun (x0, _) =>
 (f143_l0 (x0, 0, ())).bind fun val =>
 Sum.elim (fun val => some (bif val.1 == [] then false else true, ()))
 (fun val => some (val.1, ())) val
def C143 (v : List UInt8 × Unit) : Option (Bool × Unit) := F143 C143_l0 v
def F42  : List UInt8 × List UInt8 × List UInt8 × List UInt8 × Unit → Option (List (List UInt8) × Unit) := fun (x0, x1, x2, x3, _) =>
 bif
 decide
 ([82, 101, 112, 111, 114, 116, 105, 110, 103, 45, 77, 84, 65, 58, 32, 100, 110, 115, 59, 32].length +
 x0.length ≤
 9223372036854775807) then
 bif
 decide
 ([79, 114, 105, 103, 105, 110, 97, 108, 45, 73, 68, 58, 32].length + x1.length ≤
 9223372036854775807) then
 bif
 decide
 ([70, 105, 110, 97, 108, 45, 82, 101, 99, 105, 112, 105, 101, 110, 116, 58, 32, 117, 116, 102, 45, 56, 59,
 32].length +
 x2.length ≤
 9223372036854775807) then
 bif decide ([83, 116, 97, 116, 117, 115, 58, 32].length + x3.length ≤ 9223372036854775807) then
 some
 ([[83, 117, 98, 106, 101, 99, 116, 58, 32, 110, 111, 116, 32, 100, 101, 108, 105, 118, 101, 114, 101,
 100],
 [77, 73, 77, 69, 45, 86, 101, 114, 115, 105, 111, 110, 58, 32, 49, 46, 48],
 [67, 111, 110, 116, 101, 110, 116, 45, 84, 121, 112, 101, 58, 32, 109, 101, 115, 115, 97, 103, 101, 47,
 103, 108, 111, 98, 97, 108, 45, 100, 101, 108, 105, 118, 101, 114, 121, 45, 115, 116, 97, 116, 117,
 115],
 [],
 [82, 101, 112, 111, 114, 116, 105, 110, 103, 45, 77, 84, 65, 58, 32, 100, 110, 115, 59, 32] ++ x0,
 [], [79, 114, 105, 103, 105, 110, 97, 108, 45, 73, 68, 58, 32] ++ x1,
 [70, 105, 110, 97, 108, 45, 82, 101, 99, 105, 112, 105, 101, 110, 116, 58, 32, 117, 116, 102, 45, 56, 59,
 32] ++
 x2,
 [65, 99, 116, 105, 111, 110, 58, 32, 102, 97, 105, 108, 101, 100],
 [83, 116, 97, 116, 117, 115, 58, 32] ++ x3],
 ())
 else none
 else none
 else none
 else none
def C42 (v : List UInt8 × List UInt8 × List UInt8 × List UInt8 × Unit) : Option (List (List UInt8) × Unit) := F42 v
end Go.Proofs.YtmfcepdbpdihgaaGreatDoor.W
set_option maxRecDepth 100000
set_option linter.unusedVariables false
namespace Go.Proofs.YtmfcepdbpdihgaaGreatDoor.W
open Go Go.Ae
def F45 (f78 : List (List UInt8) × Unit → Option (Int × Unit)) (f80 : List (List UInt8) × Unit → Option (List ((List UInt8 × List UInt8)) × Unit)) (f45_l0 : List (List UInt8) × Int × Int × Bool × Bool × Bool × Int × Int × Bool × Bool × Bool × Int × Int × Unit → Option (List (List UInt8) × Bool × Bool × Bool × Int × Int × Bool × Bool × Bool × Int × Int × Unit)) (f45_l1 : List ((List UInt8 × List UInt8)) × Int × Bool × Bool × Bool × Int × Int × Bool × Bool × Bool × Int × Int × Unit → Option (Bool × Bool × Bool × Int × Int × Bool × Bool × Bool × Int × Int × Unit)) : List (List UInt8) × Unit → Option (Bool × Bool × Bool × Int × Int × Unit) := fun (x0, _) =>
 (f78 (x0, ())).bind fun val =>
 (f45_l0 (x0, val.1, 0, false, false, false, 0, 0, false, false, false, val.1, 0, ())).bind fun val =>
 (f80 (val.1, ())).bind fun val_1 =>
 (f45_l1
 (val_1.1, 0, val.2.1, val.2.2.1, val.2.2.2.1, val.2.2.2.2.1,
 val.2.2.2.2.2.1, val.2.2.2.2.2.2.1, val.2.2.2.2.2.2.2.1,
 val.2.2.2.2.2.2.2.2.1, val.2.2.2.2.2.2.2.2.2.1,
 val.2.2.2.2.2.2.2.2.2.2.1, ())).bind
 fun val =>
 some
 (val.2.2.2.2.2.1, val.2.2.2.2.2.2.1, val.2.2.2.2.2.2.2.1,
 val.2.2.2.2.2.2.2.2.1, val.2.2.2.2.2.2.2.2.2.1, ())
theorem h45 (f78 : HS f78_ins → Option (OTy f78_outs)) (f80 : HS f80_ins → Option (OTy f80_outs)) (f45_l0 : HS f45_l0_ins → Option (OTy f45_l0_outs)) (f45_l1 : HS f45_l1_ins → Option (OTy f45_l1_outs)) (v : HS f45_ins) : afun Γ (fun f => Ae.lookA f [(78, ⟨f78_ins, f78_outs, f78⟩), (80, ⟨f80_ins, f80_outs, f80⟩)]) 0 Tryz.f45.ntmps Tryz.f45.results.toList (code Tryz.f45) (.seq .nil (.seq .nil (.seq .nil (.seq (.seq .nil (.blk (.loop ⟨f45_l0_ins, f45_l0_outs, f45_l0⟩))) (.seq .nil (.seq (.seq .nil (.blk (.loop ⟨f45_l1_ins, f45_l1_outs, f45_l1⟩))) .nil)))))) (em id f45_ins v).1 (em id f45_ins v).2 (ofin 0 f45_outs) = F45 f78 f80 f45_l0 f45_l1 v := by kernel_rfl
def F81_l0  : Int × Int × List (List UInt8) × Int × List (List UInt8) × Unit → Option ((Int × Int × List (List UInt8) × Int × List (List UInt8) × Unit) ⊕ (Unit ⊕ (Bool × Unit))) := fun (x0, x1, x2, x3, x4, _) =>
 bif decide (x0 < (↑x2.length : Int)) then
 bif decide (0 ≤ x0) && decide (x0 < (↑x2.length : Int)) then
 bif decide (0 ≤ x0) && decide (x0 < (↑x4.length : Int)) then
 bif !x2.getD x0.toNat [] == x4.getD x0.toNat [] then
 some (Sum.inr (Sum.inr (false, ())))
 else some (Sum.inl (IntKind.i64.wrap (x0 + 1), x1, x2, x3, x4, ()))
 else none
 else none
 else some (Sum.inr (Sum.inl ()))
def C81_l0 (v : Int × Int × List (List UInt8) × Int × List (List UInt8) × Unit) : Option (Unit ⊕ (Bool × Unit)) := loopN (F81_l0) big v
def F81 (f81_l0 : Int × Int × List (List UInt8) × Int × List (List UInt8) × Unit → Option (Unit ⊕ (Bool × Unit))) : Int × List (List UInt8) × Int × List (List UInt8) × Unit → Option (Bool × Unit) := fun (x0, x1, x2, x3, _) =>
 bif x0 != x2 then some (false, ())
 else
 bif (↑x1.length : Int) != (↑x3.length : Int) then some (false, ())
 else
 (f81_l0 (0, x0, x1, x2, x3, ())).bind fun val =>
 Sum.elim (fun val => some (true, ())) (fun val => some (val.1, ())) val
def C81 (v : Int × List (List UInt8) × Int × List (List UInt8) × Unit) : Option (Bool × Unit) := F81 C81_l0 v
def F46 (f81 : Int × List (List UInt8) × Int × List (List UInt8) × Unit → Option (Bool × Unit)) : List (List UInt8) × List (List UInt8) × Unit → Option (Bool × Unit) := fun (x0, x1, _) =>
 (f81 (0, x0, 0, x1, ())).bind fun val => some (val.1, ())
def C46 (v : List (List UInt8) × List (List UInt8) × Unit) : Option (Bool × Unit) := F46 C81 v
def F56  : List UInt8 × List UInt8 × Unit → Option (List UInt8 × Bool × Unit) := fun (x0, x1, _) =>
 bif decide ((↑x0.length : Int) < (↑x1.length : Int)) then some ([], false, ())
 else
 bif decide (0 ≤ (↑x1.length : Int)) && decide ((↑x1.length : Int) ≤ (↑x0.length : Int)) then
 bif !List.take (↑x1.length : Int).toNat x0 == x1 then some ([], false, ())
 else
 bif decide (0 ≤ (↑x1.length : Int)) && decide ((↑x1.length : Int) ≤ (↑x0.length : Int)) then
 some (List.drop (↑x1.length : Int).toNat x0, true, ())
 else none
 else none
def C56 (v : List UInt8 × List UInt8 × Unit) : Option (List UInt8 × Bool × Unit) := F56 v
def F20_l0 (f14 : Int × Unit → Option (List UInt8 × Unit)) : List UInt8 × List UInt8 × Bool × Int × Unit → Option ((List UInt8 × List UInt8 × Bool × Int × Unit) ⊕ (Unit ⊕ (List UInt8 × Int × Bool × Unit))) := fun (x0, x1, x2, x3, _) =>
 bif decide (x3 < 1000) then
 bif x2 then
 (f14 (x3, ())).bind fun val =>
 bif val.1 == x0 then some (Sum.inr (Sum.inr (x1, x3, true, ())))
 else some (Sum.inl (x0, x1, x2, IntKind.i64.wrap (x3 + 1), ()))
 else some (Sum.inr (Sum.inl ()))
 else some (Sum.inr (Sum.inl ()))
def C20_l0 (v : List UInt8 × List UInt8 × Bool × Int × Unit) : Option (Unit ⊕ (List UInt8 × Int × Bool × Unit)) := loopN (F20_l0 C14) big v
def F20 (f10 : List UInt8 × Unit → Option (List UInt8 × Bool × Unit)) (f42 : List UInt8 × List UInt8 × List UInt8 × List UInt8 × Unit → Option (List (List UInt8) × Unit)) (f46 : List (List UInt8) × List (List UInt8) × Unit → Option (Bool × Unit)) (f56 : List UInt8 × List UInt8 × Unit → Option (List UInt8 × Bool × Unit)) (f20_l0 : List UInt8 × List UInt8 × Bool × Int × Unit → Option (Unit ⊕ (List UInt8 × Int × Bool × Unit))) : List (List UInt8) × Unit → Option (List UInt8 × Int × Bool × Unit) := fun (x0, _) =>
 bif (↑x0.length : Int) != 10 then some ([], 0, false, ())
 else
 bif decide (4 < (↑x0.length : Int)) then
 (f56
 (x0.getD 4 [],
 [82, 101, 112, 111, 114, 116, 105, 110, 103, 45, 77, 84, 65, 58, 32, 100, 110, 115, 59, 32],
 ())).bind
 fun val =>
 bif decide (6 < (↑x0.length : Int)) then
 (f56
 (x0.getD 6 [], [79, 114, 105, 103, 105, 110, 97, 108, 45, 73, 68, 58, 32],
 ())).bind
 fun val_1 =>
 bif decide (7 < (↑x0.length : Int)) then
 (f56
 (x0.getD 7 [],
 [70, 105, 110, 97, 108, 45, 82, 101, 99, 105, 112, 105, 101, 110, 116, 58, 32, 117, 116, 102, 45,
 56, 59, 32],
 ())).bind
 fun val_2 =>
 bif decide (9 < (↑x0.length : Int)) then
 (f56 (x0.getD 9 [], [83, 116, 97, 116, 117, 115, 58, 32], ())).bind
 fun val_3 =>
 (f42 (val.1, val_1.1, val_2.1, val_3.1, ())).bind fun val_4 =>
 bif !val.2.1 then some ([], 0, false, ())
 else
 bif !val_1.2.1 then some ([], 0, false, ())
 else
 bif !val_2.2.1 then some ([], 0, false, ())
 else
 bif !val_3.2.1 then some ([], 0, false, ())
 else
 (f46 (x0, val_4.1, ())).bind fun val =>
 bif !val.1 then some ([], 0, false, ())
 else
 (f10 (val_2.1, ())).bind fun val =>
 (f20_l0 (val_3.1, val.1, val.2.1, 100, ())).bind fun val =>
 Sum.elim (fun val => some ([], 0, false, ()))
 (fun val => some (val.1, val.2.1, val.2.2.1, ())) val
 else none
 else none
 else none
 else none
def C20 (v : List (List UInt8) × Unit) : Option (List UInt8 × Int × Bool × Unit) := F20 C10 C42 C46 C56 C20_l0 v
def F4 (f8 : Unit → Option (Bool × Unit)) (f15 : Int × Bool × List UInt8 × List UInt8 × List (((Bool × (List UInt8 × List UInt8)) × (Int × (Int × (Int × Int))))) × List (List UInt8) × Bool × Bool × Bool × Int × Int × Int × Unit → Option (Bool × Unit)) (f16 : List UInt8 × Int × Bool × List UInt8 × List UInt8 × List (((Bool × (List UInt8 × List UInt8)) × (Int × (Int × (Int × Int))))) × List (List UInt8) × Bool × Bool × Bool × Int × Int × Int × Int × Unit → Option (Bool × List UInt8 × List UInt8 × List ((Bool × (List UInt8 × List UInt8))) × List (List UInt8) × Bool × Bool × Bool × Int × Int × Int × Bool × Unit)) (f17 : List UInt8 × Int × Bool × List UInt8 × List UInt8 × List (((Bool × (List UInt8 × List UInt8)) × (Int × (Int × (Int × Int))))) × List (List UInt8) × Bool × Bool × Bool × Int × Int × Int × Int × Unit → Option (Bool × List UInt8 × List UInt8 × List ((Bool × (List UInt8 × List UInt8))) × List (List UInt8) × Bool × Bool × Bool × Int × Int × Int × Bool × Unit)) (f18 : Bool × List UInt8 × List UInt8 × List ((Bool × (List UInt8 × List UInt8))) × List (List UInt8) × Bool × Bool × Bool × Int × Int × Int × Bool × List UInt8 × List UInt8 × List ((Bool × (List UInt8 × List UInt8))) × List (List UInt8) × Bool × Bool × Bool × Int × Int × Int × Unit → Option (Bool × Unit)) (f19 : List (List UInt8) × Unit → Option (List UInt8 × Int × Bool × Unit)) (f20 : List (List UInt8) × Unit → Option (List UInt8 × Int × Bool × Unit)) (f4_l0 : List (List UInt8) × Bool × Int × Unit → Option ((List (List UInt8) × Bool × Unit) ⊕ (Bool × Unit))) : List UInt8 × Int × Bool × List UInt8 × List UInt8 × List (((Bool × (List UInt8 × List UInt8)) × (Int × (Int × (Int × Int))))) × List (List UInt8) × Bool × Bool × Bool × Int × Int × Int × Int × List (List UInt8) × Unit → Option (Bool × Unit) := fun (x0, x1, x2, x3, x4, x5, x6, x7, x8, x9, x10, x11, x12, x13, x14, _) =>
 (f8 ()).bind fun val =>
 (f15 (x1, x2, x3, x4, x5, x6, x7, x8, x9, x10, x11, x12, ())).bind fun val_1 =>
 bif !val_1.1 then some (val.1, ())
 else
 bif decide ((↑x0.length : Int) > 200) then some (val.1, ())
 else
 bif decide ((↑x14.length : Int) > 20) then some (val.1, ())
 else
 (f16 (x0, x1, x2, x3, x4, x5, x6, x7, x8, x9, x10, x11, x12, x13, ())).bind fun val_2 =>
 (f17 (x0, x1, x2, x3, x4, x5, x6, x7, x8, x9, x10, x11, x12, x13, ())).bind fun val_3 =>
 (f18
 (val_2.1, val_2.2.1, val_2.2.2.1, val_2.2.2.2.1, val_2.2.2.2.2.1,
 val_2.2.2.2.2.2.1, val_2.2.2.2.2.2.2.1,
 val_2.2.2.2.2.2.2.2.1, val_2.2.2.2.2.2.2.2.2.1,
 val_2.2.2.2.2.2.2.2.2.2.1, val_2.2.2.2.2.2.2.2.2.2.2.1,
 val_3.1, val_3.2.1, val_3.2.2.1, val_3.2.2.2.1, val_3.2.2.2.2.1,
 val_3.2.2.2.2.2.1, val_3.2.2.2.2.2.2.1,
 val_3.2.2.2.2.2.2.2.1, val_3.2.2.2.2.2.2.2.2.1,
 val_3.2.2.2.2.2.2.2.2.2.1, val_3.2.2.2.2.2.2.2.2.2.2.1,
 ())).bind
 fun val_4 =>
 bif !val_4.1 then some (false, ())
 else
 bif
 !val_2.2.2.2.2.2.2.2.2.2.2.2.1 ==
 val_3.2.2.2.2.2.2.2.2.2.2.2.1 then
 some (false, ())
 else
 (f4_l0 (x14, val.1, 0, ())).bind fun val =>
 Sum.elim
 (fun val =>
 (f19 (val.1, ())).bind fun val_5 =>
 (f20 (val.1, ())).bind fun val_6 =>
 bif val.2.1 then
 bif val_5.1 == val_6.1 then
 bif val_5.2.1 == val_6.2.1 then
 some (val_5.2.2.1 == val_6.2.2.1, ())
 else some (false, ())
 else some (false, ())
 else some (false, ()))
 (fun val => some (val.1, ())) val
theorem h4 (f8 : HS f8_ins → Option (OTy f8_outs)) (f15 : HS f15_ins → Option (OTy f15_outs)) (f16 : HS f16_ins → Option (OTy f16_outs)) (f17 : HS f17_ins → Option (OTy f17_outs)) (f18 : HS f18_ins → Option (OTy f18_outs)) (f19 : HS f19_ins → Option (OTy f19_outs)) (f20 : HS f20_ins → Option (OTy f20_outs)) (f4_l0 : HS f4_l0_ins → Option (OTy f4_l0_outs)) (v : HS f4_ins) : afun Γ (fun f => Ae.lookA f [(8, ⟨f8_ins, f8_outs, f8⟩), (15, ⟨f15_ins, f15_outs, f15⟩), (16, ⟨f16_ins, f16_outs, f16⟩), (17, ⟨f17_ins, f17_outs, f17⟩), (18, ⟨f18_ins, f18_outs, f18⟩), (19, ⟨f19_ins, f19_outs, f19⟩), (20, ⟨f20_ins, f20_outs, f20⟩)]) 0 Tryz.f4.ntmps Tryz.f4.results.toList (code Tryz.f4) (.seq .nil (.seq .nil (.seq .nil (.seq .nil (.seq .nil (.seq .nil (.seq .nil (.seq (.seq .nil (.blk (.loop ⟨f4_l0_ins, f4_l0_outs, f4_l0⟩))) .nil)))))))) (em id f4_ins v).1 (em id f4_ins v).2 (ofin 0 f4_outs) = F4 f8 f15 f16 f17 f18 f19 f20 f4_l0 v := by kernel_rfl
def F5 (f8 : Unit → Option (Bool × Unit)) (f9 : List UInt8 × Unit → Option (List UInt8 × Bool × Unit)) (f11 : List UInt8 × Unit → Option (List UInt8 × Unit)) (f21 : List UInt8 × Unit → Option (List (Int) × Int × Unit)) (f5_l0 : List UInt8 × List UInt8 × Bool × List UInt8 × Int × Unit → Option ((List UInt8 × List UInt8 × Bool × List UInt8 × Unit) ⊕ (Bool × Unit))) : List UInt8 × List UInt8 × Unit → Option (Bool × Unit) := fun (x0, x1, _) =>
 (f8 ()).bind fun val =>
 bif decide ((↑x0.length : Int) > 500) then some (val.1, ())
 else
 bif decide ((↑x1.length : Int) > 500) then some (val.1, ())
 else
 (f11 (x0, ())).bind fun val_1 =>
 (f5_l0 (x0, x1, val.1, val_1.1, 0, ())).bind fun val =>
 Sum.elim
 (fun val =>
 (f21 (val.1, ())).bind fun val_2 =>
 (f9 (val.2.2.2.1, ())).bind fun val_3 =>
 bif !val_3.2.1 == decide (val_2.2.1 < 0) then some (false, ())
 else
 bif val_3.2.1 then
 bif !val_3.1 == val.1 then some (false, ())
 else
 (f9 (val.2.1, ())).bind fun val_4 =>
 bif val.2.2.1 then
 bif val_4.2.1 then
 bif !val_4.2.1 then some (true, ())
 else (f11 (val_4.1, ())).bind fun val_5 => some (val_5.1 == val.2.1, ())
 else
 bif val_4.1 == [] then
 bif !val_4.2.1 then some (true, ())
 else (f11 (val_4.1, ())).bind fun val_5 => some (val_5.1 == val.2.1, ())
 else some (false, ())
 else some (false, ())
 else
 (f9 (val.2.1, ())).bind fun val_4 =>
 bif val.2.2.1 then
 bif val_4.2.1 then
 bif !val_4.2.1 then some (true, ())
 else (f11 (val_4.1, ())).bind fun val_5 => some (val_5.1 == val.2.1, ())
 else
 bif val_4.1 == [] then
 bif !val_4.2.1 then some (true, ())
 else (f11 (val_4.1, ())).bind fun val_5 => some (val_5.1 == val.2.1, ())
 else some (false, ())
 else some (false, ()))
 (fun val => some (val.1, ())) val
theorem h5 (f8 : HS f8_ins → Option (OTy f8_outs)) (f9 : HS f9_ins → Option (OTy f9_outs)) (f11 : HS f11_ins → Option (OTy f11_outs)) (f21 : HS f21_ins → Option (OTy f21_outs)) (f5_l0 : HS f5_l0_ins → Option (OTy f5_l0_outs)) (v : HS f5_ins) : afun Γ (fun f => Ae.lookA f [(8, ⟨f8_ins, f8_outs, f8⟩), (9, ⟨f9_ins, f9_outs, f9⟩), (11, ⟨f11_ins, f11_outs, f11⟩), (21, ⟨f21_ins, f21_outs, f21⟩)]) 0 Tryz.f5.ntmps Tryz.f5.results.toList (code Tryz.f5) (.seq .nil (.seq .nil (.seq .nil (.seq .nil (.seq (.seq .nil (.blk (.loop ⟨f5_l0_ins, f5_l0_outs, f5_l0⟩))) .nil))))) (em id f5_ins v).1 (em id f5_ins v).2 (ofin 0 f5_outs) = F5 f8 f9 f11 f21 f5_l0 v := by kernel_rfl
def F7 (f8 : Unit → Option (Bool × Unit)) (f13 : Int × Unit → Option (List UInt8 × Unit)) (f7_c0 : Int × Int × Bool × List UInt8 × List UInt8 × Bool × Unit → Option ((Bool × Unit) ⊕ (Int × Int × Bool × List UInt8 × List UInt8 × Unit))) (f7_c1 : Int × Int × Bool × List UInt8 × List UInt8 × Unit → Option (Bool × Unit)) : Int × Int × Unit → Option (Bool × Unit) := fun (x0, x1, _) =>
 (f8 ()).bind fun val =>
 (f13 (x0, ())).bind fun val_1 =>
 (f13 (x1, ())).bind fun val_2 =>
 bif decide (x0 < 100) then
 (f7_c0 (x0, x1, val.1, val_1.1, val_2.1, true, ())).bind fun val =>
 Sum.elim (fun val => some (val.1, ()))
 (fun val =>
 (f7_c1 (val.1, val.2.1, val.2.2.1, val.2.2.2.1, val.2.2.2.2.1, ())).bind
 fun val => some (val.1, ()))
 val
 else
 bif decide (x0 > 999) then
 (f7_c0 (x0, x1, val.1, val_1.1, val_2.1, true, ())).bind fun val =>
 Sum.elim (fun val => some (val.1, ()))
 (fun val =>
 (f7_c1 (val.1, val.2.1, val.2.2.1, val.2.2.2.1, val.2.2.2.2.1, ())).bind
 fun val => some (val.1, ()))
 val
 else
 bif decide (x1 < 100) then
 (f7_c0 (x0, x1, val.1, val_1.1, val_2.1, true, ())).bind fun val =>
 Sum.elim (fun val => some (val.1, ()))
 (fun val =>
 (f7_c1 (val.1, val.2.1, val.2.2.1, val.2.2.2.1, val.2.2.2.2.1, ())).bind
 fun val => some (val.1, ()))
 val
 else
 (f7_c0 (x0, x1, val.1, val_1.1, val_2.1, decide (x1 > 999), ())).bind fun val =>
 Sum.elim (fun val => some (val.1, ()))
 (fun val =>
 (f7_c1 (val.1, val.2.1, val.2.2.1, val.2.2.2.1, val.2.2.2.2.1, ())).bind
 fun val => some (val.1, ()))
 val
theorem h7 (f8 : HS f8_ins → Option (OTy f8_outs)) (f13 : HS f13_ins → Option (OTy f13_outs)) (f7_c0 : HS f7_c0_ins → Option (OTy f7_c0_outs)) (f7_c1 : HS f7_c1_ins → Option (OTy f7_c1_outs)) (v : HS f7_ins) : afun Γ (fun f => Ae.lookA f [(8, ⟨f8_ins, f8_outs, f8⟩), (13, ⟨f13_ins, f13_outs, f13⟩)]) 0 Tryz.f7.ntmps Tryz.f7.results.toList (code Tryz.f7) (.seq .nil (.seq .nil (.seq .nil (.seq .nil (.cut (.cut .nil ⟨f7_c0_ins, f7_c0_outs, f7_c0⟩) ⟨f7_c1_ins, f7_c1_outs, f7_c1⟩))))) (em id f7_ins v).1 (em id f7_ins v).2 (ofin 0 f7_outs) = F7 f8 f13 f7_c0 f7_c1 v := by kernel_rfl
end Go.Proofs.YtmfcepdbpdihgaaGreatDoor.W
set_option linter.unusedVariables false
set_option linter.unusedSimpArgs false
set_option maxRecDepth 100000
namespace Go.Proofs.YtmfcepdbpdihgaaGreatDoor.W
open Go Go.Ae Go.Pl
def g1 (o : Option (Int × Int × Unit)) : Int := match o with | some (n, _, _) => n | none => 0
def g2 (o : Option (Int × Int × Unit)) : Int := match o with | some (_, v, _) => v | none => 0
def ok2 (o : Option (Int × Int × Unit)) : Bool := match o with | some _ => true | none => false
theorem ok2_some {o : Option (Int × Int × Unit)} (h : ok2 o = true) : o = some (g1 o, g2 o, ()) := by
  cases o with
  | none => cases h
  | some x => rfl
def leadN (c : UInt8) : Int := g1 (C57 ((c.toNat : Int), ()))
def leadV (c : UInt8) : Int := g2 (C57 ((c.toNat : Int), ()))
theorem c57k : ((List.range 256).all fun n => (fun c : UInt8 => ok2 (C57 ((c.toNat : Int), ()))) (UInt8.ofNat n)) = true := by kernel_rfl
theorem c57 (c : UInt8) : C57 ((c.toNat : Int), ()) = some (leadN c, leadV c, ()) := ok2_some (all256 (fun c => ok2 (C57 ((c.toNat : Int), ()))) c57k c)
def rngB : Int → Bool
  | .ofNat n => Nat.ble n 3
  | .negSucc n => Nat.beq n 0
theorem lead_k : ((List.range 256).all fun n => (fun c : UInt8 => rngB (leadN c)) (UInt8.ofNat n)) = true := by kernel_rfl
theorem lead_rng (c : UInt8) : leadN c = -1 ∨ 0 ≤ leadN c ∧ leadN c ≤ 3 := by
  have h : rngB (leadN c) = true := all256 (fun c => rngB (leadN c)) lead_k c
  generalize leadN c = x at h
  cases x with
  | ofNat n => have := Nat.le_of_ble_eq_true h; right; simp; omega
  | negSucc n => have := Nat.eq_of_beq_eq_true h; subst this; left; rfl
def lenR (v : Int) : Int := match C58 (v, ()) with | some (n, _) => n | none => 0
theorem c58 (v : Int) : C58 (v, ()) = some (lenR v, ()) := by
  have h : ∃ n, C58 (v, ()) = some (n, ()) := by
    show ∃ n, F58 C85 (v, ()) = some (n, ())
    have h29 : ∃ b, C85 (v, ()) = some (b, ()) := by
      simp only [C85, F85]
      cases decide (v ≥ 0) <;> cases decide (v ≤ 1114111) <;> cases decide (v ≥ 55296) <;> exact ⟨_, rfl⟩
    obtain ⟨b, hb⟩ := h29
    simp only [F58, hb, Option.bind_some]
    cases b <;> cases decide (v ≤ 127) <;> cases decide (v ≤ 2047) <;> cases decide (v ≤ 65535) <;> exact ⟨_, rfl⟩
  obtain ⟨n, hn⟩ := h
  rw [lenR, hn]
def contB (c : UInt8) : Bool := !(intBits BinOp.andNot IntKind.u8 (c.toNat : Int) 63 != 128)
def stepV (v : Int) (c : UInt8) : Int := intBits BinOp.or IntKind.i32 (IntKind.i32.wrap (v * 2 ^ min 6 IntKind.i32.bits)) (IntKind.i32.wrap (intBits BinOp.and IntKind.u8 (c.toNat : Int) 63))
def conts : Nat → List UInt8 → Int → Option Int
  | 0, _, v => some v
  | _ + 1, [], _ => none
  | n + 1, c :: r, v => bif contB c then conts n r (stepV v c) else none
def ch : List UInt8 → Nat
  | [] => 0
  | c :: r => if leadN c < 0 then 0 else if r.length < (leadN c).toNat then 0 else
    match conts (leadN c).toNat r (leadV c) with
    | none => 0
    | some v => if lenR v = leadN c + 1 then (leadN c).toNat + 1 else 0
theorem ch_le : ∀ s, ch s ≤ s.length
  | [] => Nat.le_refl _
  | c :: r => by
    simp only [ch, List.length_cons]
    split
    · omega
    · split
      · omega
      · split
        · omega
        · split <;> omega
def res0 (s : List UInt8) (n a : Int) (out : List Int) : Option Int → (List UInt8 × Int × Int × Int × List Int × Unit) ⊕ (Int × List Int × Unit)
  | some v => .inl (s, n, v, a, out, ())
  | none => .inr (a, out, ())
theorem lrun0 (a : Nat) (m : Nat) (out : List Int) : ∀ (j : Nat) (r pre : List UInt8) (v : Int) (k n : Nat), pre.length = k → k + j = a + m + 1 → j ≤ r.length → j < n → k + r.length ≤ 140737488355320 → m ≤ 3 →
    loopN F21_l0 n (pre ++ r, (m : Int), v, (a : Int), (k : Int), out, ()) = some (res0 (pre ++ r) m a out (conts j r v))
  | _, _, _, _, _, 0, _, _, _, hn, _, _ => by omega
  | 0, r, pre, v, k, n + 1, hk, hj, hr, hn, hb, hm => by
    refine loopN_inr ?_
    have h : IntKind.i64.wrap ((a : Int) + (m : Int)) = (a : Int) + m := w64 (by omega) (by omega)
    simp (disch := (first | omega | (simp only [List.length_append, List.length_cons, List.length_nil]; omega))) only [F21_l0, h, decide_eq_true, decide_eq_false, cond_true, cond_false, Bool.and_self, Bool.true_and, Bool.and_true, Bool.false_and, Bool.and_false, Bool.not_true, Bool.not_false, List.length_append, List.length_cons, List.length_nil, Int.toNat_natCast, ibT, ibF, inT, inF, wrN, gd, dr, Option.bind_some, Sum.elim_inl, Sum.elim_inr, byte_back, of_to, conts, res0]
  | j + 1, [], pre, v, k, n + 1, hk, hj, hr, hn, hb, hm => by simp at hr
  | j + 1, c :: r, pre, v, k, n + 1, hk, hj, hr, hn, hb, hm => by
    simp only [List.length_cons] at hr hb
    have h : IntKind.i64.wrap ((a : Int) + (m : Int)) = (a : Int) + m := w64 (by omega) (by omega)
    cases hc : contB c with
    | true =>
      have hc' : (intBits BinOp.andNot IntKind.u8 (c.toNat : Int) 63 != 128) = false := by simpa [contB] using hc
      rw [loopN_inl (v' := (pre ++ c :: r, (m : Int), stepV v c, (a : Int), ((k + 1 : Nat) : Int), out, ())) (by
        simp (disch := (first | omega | (simp only [List.length_append, List.length_cons, List.length_nil]; omega))) only [F21_l0, h, decide_eq_true, decide_eq_false, cond_true, cond_false, Bool.and_self, Bool.true_and, Bool.and_true, Bool.false_and, Bool.and_false, Bool.not_true, Bool.not_false, List.length_append, List.length_cons, List.length_nil, Int.toNat_natCast, ibT, ibF, inT, inF, wrN, gd, dr, Option.bind_some, Sum.elim_inl, Sum.elim_inr, byte_back, of_to, hc']
        rfl)]
      rw [shift, lrun0 a m out j r (pre ++ [c]) (stepV v c) (k + 1) n (by simp [hk]) (by omega) (by omega) (by omega) (by omega) hm]
      simp only [conts, hc, cond_true]
    | false =>
      have hc' : (intBits BinOp.andNot IntKind.u8 (c.toNat : Int) 63 != 128) = true := by simpa [contB] using hc
      refine loopN_inr ?_
      simp (disch := (first | omega | (simp only [List.length_append, List.length_cons, List.length_nil]; omega))) only [F21_l0, h, decide_eq_true, decide_eq_false, cond_true, cond_false, Bool.and_self, Bool.true_and, Bool.and_true, Bool.false_and, Bool.and_false, Bool.not_true, Bool.not_false, List.length_append, List.length_cons, List.length_nil, Int.toNat_natCast, ibT, ibF, inT, inF, wrN, gd, dr, Option.bind_some, Sum.elim_inl, Sum.elim_inr, byte_back, of_to, hc', conts, hc, res0]
def ut : Nat → List UInt8 → Nat → Option Nat
  | 0, _, _ => none
  | n + 1, s, p => if s = [] then none else if ch s = 0 then some p else ut n (s.drop (ch s)) (p + ch s)
def rrun (out : List Int) : Option Nat → (List Int × Unit) ⊕ (Int × List Int × Unit)
  | none => .inl (out, ())
  | some b => .inr ((b : Int), out, ())
theorem rrun1 (c : UInt8) (r pre : List UInt8) (out : List Int) (p : Nat) (hp : pre.length = p) (hb : p + r.length ≤ 140737488355000) (ho : out.length ≤ 1000000000) :
    F21_l1 C57 C58 C21_l0 (pre ++ c :: r, (p : Int), out, ()) = some (if ch (c :: r) = 0 then .inr (.inr ((p : Int), out, ())) else
      .inl (pre ++ c :: r, ((p + ch (c :: r) : Nat) : Int), out ++ [((conts (leadN c).toNat r (leadV c)).getD 0)], ())) := by
  have hrng := lead_rng c
  by_cases h1 : leadN c < 0
  · have : ch (c :: r) = 0 := by simp [ch, h1]
    rw [if_pos this]
    simp (disch := (first | omega | (simp only [List.length_append, List.length_cons, List.length_nil]; omega))) only [F21_l1, decide_eq_true, decide_eq_false, cond_true, cond_false, Bool.and_self, Bool.true_and, Bool.and_true, Bool.false_and, Bool.and_false, Bool.not_true, Bool.not_false, List.length_append, List.length_cons, List.length_nil, Int.toNat_natCast, ibT, ibF, inT, inF, wrN, gd, dr, Option.bind_some, Sum.elim_inl, Sum.elim_inr, byte_back, of_to, c57]
  · have hw : IntKind.i64.wrap (((pre.length + (r.length + 1) : Nat) : Int) - (p : Int)) = (r.length : Int) + 1 := by rw [w64] <;> omega
    obtain ⟨m, hm⟩ : ∃ m : Nat, leadN c = m := ⟨(leadN c).toNat, by omega⟩
    by_cases h2 : r.length < m
    · have : ch (c :: r) = 0 := by simp [ch, hm, h2]
      rw [if_pos this]
      simp (disch := (first | omega | (simp only [List.length_append, List.length_cons, List.length_nil]; omega))) only [F21_l1, decide_eq_true, decide_eq_false, cond_true, cond_false, Bool.and_self, Bool.true_and, Bool.and_true, Bool.false_and, Bool.and_false, Bool.not_true, Bool.not_false, List.length_append, List.length_cons, List.length_nil, Int.toNat_natCast, ibT, ibF, inT, inF, wrN, gd, dr, Option.bind_some, Sum.elim_inl, Sum.elim_inr, byte_back, of_to, c57, hw, hm]
    · have hl := lrun0 p m out m r (pre ++ [c]) (leadV c) (p + 1) big (by simp [hp]) (by omega) (by omega) (by unfold big; omega) (by omega) (by omega)
      rw [← shift] at hl
      have hl' : C21_l0 (pre ++ c :: r, (m : Int), leadV c, (p : Int), ((p + 1 : Nat) : Int), out, ()) = _ := hl
      cases hc : conts m r (leadV c) with
      | none =>
        have : ch (c :: r) = 0 := by simp [ch, hm, h2, hc]
        rw [if_pos this]
        simp (disch := (first | omega | (simp only [List.length_append, List.length_cons, List.length_nil]; omega))) only [F21_l1, decide_eq_true, decide_eq_false, cond_true, cond_false, Bool.and_self, Bool.true_and, Bool.and_true, Bool.false_and, Bool.and_false, Bool.not_true, Bool.not_false, List.length_append, List.length_cons, List.length_nil, Int.toNat_natCast, ibT, ibF, inT, inF, wrN, gd, dr, Option.bind_some, Sum.elim_inl, Sum.elim_inr, byte_back, of_to, c57, hw, hm, hl', hc, res0]
      | some v =>
        have hw2 : IntKind.i64.wrap ((m : Int) + 1) = (m : Int) + 1 := w64 (by omega) (by omega)
        by_cases h3 : lenR v = m + 1
        · have hch : ch (c :: r) = m + 1 := by simp [ch, hm, h2, hc, h3]
          have hw3 : IntKind.i64.wrap ((p : Int) + ((m : Int) + 1)) = ((p + (m + 1) : Nat) : Int) := by rw [w64] <;> omega
          rw [if_neg (by omega), hch]
          simp (disch := (first | omega | (simp only [List.length_append, List.length_cons, List.length_nil]; omega))) only [F21_l1, hw2, hw3, decide_eq_true, decide_eq_false, cond_true, cond_false, Bool.and_self, List.length_append, List.length_cons, List.length_nil, Int.toNat_natCast, inF, gd, Option.bind_some, Sum.elim_inl, wrN, c57, hw, hm, hl', hc, res0, c58, Option.getD_some]
        · have : ch (c :: r) = 0 := by simp [ch, hm, h2, hc, h3]
          rw [if_pos this]
          simp (disch := (first | omega | (simp only [List.length_append, List.length_cons, List.length_nil]; omega))) only [F21_l1, hw2, decide_eq_true, decide_eq_false, cond_true, cond_false, Bool.and_self, Bool.true_and, Bool.and_true, Bool.false_and, Bool.and_false, Bool.not_true, Bool.not_false, List.length_append, List.length_cons, List.length_nil, Int.toNat_natCast, ibT, ibF, inT, inF, wrN, gd, dr, Option.bind_some, Sum.elim_inl, Sum.elim_inr, byte_back, of_to, c57, hw, hm, hl', hc, res0, c58]
theorem lrun1 : ∀ (m : Nat) (r pre : List UInt8) (out : List Int) (p n : Nat), r.length ≤ m → pre.length = p → r.length < n → p + r.length ≤ 140737488355000 → out.length + r.length ≤ 1000000000 →
    ∃ o, loopN (F21_l1 C57 C58 C21_l0) n (pre ++ r, (p : Int), out, ()) = some (rrun o (ut n r p))
  | _, _, _, _, _, 0, _, _, hn, _, _ => by omega
  | m, [], pre, out, p, n + 1, hm, hp, hn, hb, ho => by
    refine ⟨out, loopN_inr ?_⟩
    simp (disch := (first | omega | (simp only [List.length_append, List.length_cons, List.length_nil]; omega))) only [F21_l1, decide_eq_true, decide_eq_false, cond_true, cond_false, Bool.and_self, Bool.true_and, Bool.and_true, Bool.false_and, Bool.and_false, Bool.not_true, Bool.not_false, List.length_append, List.length_cons, List.length_nil, Int.toNat_natCast, ibT, ibF, inT, inF, wrN, gd, dr, Option.bind_some, Sum.elim_inl, Sum.elim_inr, byte_back, of_to, List.append_nil, ut, if_true, rrun]
  | 0, c :: r, pre, out, p, n + 1, hm, hp, hn, hb, ho => by simp at hm
  | m + 1, c :: r, pre, out, p, n + 1, hm, hp, hn, hb, ho => by
    simp only [List.length_cons] at hm hn hb ho
    have hr := rrun1 c r pre out p hp (by omega) (by omega)
    by_cases h : ch (c :: r) = 0
    · rw [if_pos h] at hr
      refine ⟨out, ?_⟩
      rw [loopN_inr hr]
      simp [ut, h, rrun]
    · rw [if_neg h] at hr
      have hle := ch_le (c :: r)
      simp only [List.length_cons] at hle
      have hsplit : pre ++ c :: r = (pre ++ (c :: r).take (ch (c :: r))) ++ (c :: r).drop (ch (c :: r)) := by rw [List.append_assoc, List.take_append_drop]
      obtain ⟨o, ho'⟩ := lrun1 m ((c :: r).drop (ch (c :: r))) (pre ++ (c :: r).take (ch (c :: r))) (out ++ [((conts (leadN c).toNat r (leadV c)).getD 0)]) (p + ch (c :: r)) n (by simp; omega) (by simp [hp]; omega) (by simp; omega) (by simp; omega) (by simp; omega)
      refine ⟨o, ?_⟩
      rw [loopN_inl hr]
      rw [← hsplit] at ho'
      rw [ho']
      simp [ut, h]
def utf (s : List UInt8) : Option Nat := ut big s 0
theorem c21 (s : List UInt8) (hb : s.length ≤ 1000000) : ∃ o, C21 (s, ()) = some (o, (match utf s with | none => -1 | some b => (b : Int)), ()) := by
  obtain ⟨o, h⟩ := lrun1 s.length s [] [] 0 big (Nat.le_refl _) rfl (by unfold big; omega) (by omega) (by simp; omega)
  have h' : C21_l1 (s, 0, [], ()) = some (rrun o (utf s)) := h
  refine ⟨o, ?_⟩
  have hg : ∀ (b : Int) (o : List Int), C21_g0 (b, o, ()) = some (b, o, ()) := by
    intro b o
    show loopN _ big _ = _
    rw [show big = 999999999999999999999 + 1 from rfl]
    exact loopN_inr rfl
  simp only [C21, F21, h', Option.bind_some]
  cases utf s <;> simp [rrun, hg]
end Go.Proofs.YtmfcepdbpdihgaaGreatDoor.W
set_option linter.unusedVariables false
set_option linter.unusedSimpArgs false
set_option maxRecDepth 100000
namespace Go.Proofs.YtmfcepdbpdihgaaGreatDoor.W
open Go Go.Ae Go.Pl
theorem c85 (v : Int) : C85 (v, ()) = some (rightB v, ()) := by
  simp only [C85, F85, rightB]
  by_cases h1 : v ≥ 0 <;> by_cases h2 : v ≤ 1114111 <;> by_cases h3 : v ≥ 55296 <;> by_cases h4 : v ≤ 57343 <;> simp [h1, h2, h3, h4] <;> omega
theorem lenR_eq (v : Int) : lenR v = (lenE v : Int) := by
  have h := c58 v
  simp only [C58, F58, c85, Option.bind_some] at h
  have h' : (some (((lenE v : Nat) : Int), ()) : Option (Int × Unit)) = some (lenR v, ()) := by
    rw [← h]
    unfold lenE
    cases rightB v with
    | false => rfl
    | true => cases decide (v ≤ 127) <;> cases decide (v ≤ 2047) <;> cases decide (v ≤ 65535) <;> rfl
  simp only [Option.some.injEq, Prod.mk.injEq, and_true] at h'
  exact h'.symm
def ldB (c : UInt8) : Bool :=
  bif Nat.blt c.toNat 128 then decide (leadN c = 0) && decide (leadV c = (c.toNat : Int))
  else bif Nat.blt c.toNat 194 then decide (leadN c = -1)
  else bif Nat.blt c.toNat 224 then decide (leadN c = 1) && decide (leadV c = ((c.toNat - 192 : Nat) : Int))
  else bif Nat.blt c.toNat 240 then decide (leadN c = 2) && decide (leadV c = ((c.toNat - 224 : Nat) : Int))
  else bif Nat.blt c.toNat 245 then decide (leadN c = 3) && decide (leadV c = ((c.toNat - 240 : Nat) : Int))
  else decide (leadN c = -1)
theorem ldB_k : ((List.range 256).all fun n => ldB (UInt8.ofNat n)) = true := by kernel_rfl
theorem ld1 {c : UInt8} (h : cv c < 128) : leadN c = 0 ∧ leadV c = cv c := by
  have k := all256 ldB ldB_k c
  unfold cv at *
  have h1 : Nat.blt c.toNat 128 = true := by rw [Nat.blt_eq]; omega
  simpa [ldB, h1] using k
theorem ld0 {c : UInt8} (h : 128 ≤ cv c) (h2 : cv c < 194 ∨ 245 ≤ cv c) : leadN c = -1 := by
  have k := all256 ldB ldB_k c
  unfold cv at *
  have h1 : Nat.blt c.toNat 128 = false := by rw [← Bool.not_eq_true, Nat.blt_eq]; omega
  rcases h2 with h2 | h2
  · have h3 : Nat.blt c.toNat 194 = true := by rw [Nat.blt_eq]; omega
    simpa [ldB, h1, h3] using k
  · have h3 : Nat.blt c.toNat 194 = false := by rw [← Bool.not_eq_true, Nat.blt_eq]; omega
    have h4 : Nat.blt c.toNat 224 = false := by rw [← Bool.not_eq_true, Nat.blt_eq]; omega
    have h5 : Nat.blt c.toNat 240 = false := by rw [← Bool.not_eq_true, Nat.blt_eq]; omega
    have h6 : Nat.blt c.toNat 245 = false := by rw [← Bool.not_eq_true, Nat.blt_eq]; omega
    simpa [ldB, h1, h3, h4, h5, h6] using k
theorem ld2 {c : UInt8} (h : 194 ≤ cv c) (h2 : cv c < 224) : leadN c = 1 ∧ leadV c = cv c - 192 := by
  have k := all256 ldB ldB_k c
  unfold cv at *
  have h1 : Nat.blt c.toNat 128 = false := by rw [← Bool.not_eq_true, Nat.blt_eq]; omega
  have h3 : Nat.blt c.toNat 194 = false := by rw [← Bool.not_eq_true, Nat.blt_eq]; omega
  have h4 : Nat.blt c.toNat 224 = true := by rw [Nat.blt_eq]; omega
  simp [ldB, h1, h3, h4] at k
  exact ⟨k.1, by rw [k.2]; omega⟩
theorem ld3 {c : UInt8} (h : 224 ≤ cv c) (h2 : cv c < 240) : leadN c = 2 ∧ leadV c = cv c - 224 := by
  have k := all256 ldB ldB_k c
  unfold cv at *
  have h1 : Nat.blt c.toNat 128 = false := by rw [← Bool.not_eq_true, Nat.blt_eq]; omega
  have h3 : Nat.blt c.toNat 194 = false := by rw [← Bool.not_eq_true, Nat.blt_eq]; omega
  have h4 : Nat.blt c.toNat 224 = false := by rw [← Bool.not_eq_true, Nat.blt_eq]; omega
  have h5 : Nat.blt c.toNat 240 = true := by rw [Nat.blt_eq]; omega
  simp [ldB, h1, h3, h4, h5] at k
  exact ⟨k.1, by rw [k.2]; omega⟩
theorem ld4 {c : UInt8} (h : 240 ≤ cv c) (h2 : cv c < 245) : leadN c = 3 ∧ leadV c = cv c - 240 := by
  have k := all256 ldB ldB_k c
  unfold cv at *
  have h1 : Nat.blt c.toNat 128 = false := by rw [← Bool.not_eq_true, Nat.blt_eq]; omega
  have h3 : Nat.blt c.toNat 194 = false := by rw [← Bool.not_eq_true, Nat.blt_eq]; omega
  have h4 : Nat.blt c.toNat 224 = false := by rw [← Bool.not_eq_true, Nat.blt_eq]; omega
  have h5 : Nat.blt c.toNat 240 = false := by rw [← Bool.not_eq_true, Nat.blt_eq]; omega
  have h6 : Nat.blt c.toNat 245 = true := by rw [Nat.blt_eq]; omega
  simp [ldB, h1, h3, h4, h5, h6] at k
  exact ⟨k.1, by rw [k.2]; omega⟩
def ctB (c : UInt8) : Bool := bif contB c then (Nat.ble 128 c.toNat && Nat.blt c.toNat 192) else !(Nat.ble 128 c.toNat && Nat.blt c.toNat 192)
def ctV (c : UInt8) : Bool := !(Nat.ble 128 c.toNat && Nat.blt c.toNat 192) || decide (IntKind.i32.wrap (intBits BinOp.and IntKind.u8 (c.toNat : Int) 63) = ((c.toNat - 128 : Nat) : Int))
theorem ctB_k : ((List.range 256).all fun n => ctB (UInt8.ofNat n)) = true := by kernel_rfl
theorem ctV_k : ((List.range 256).all fun n => ctV (UInt8.ofNat n)) = true := by kernel_rfl
theorem contB_eq (c : UInt8) : contB c = contC c := by
  have k := all256 ctB ctB_k c
  have k2 : contB c = (Nat.ble 128 c.toNat && Nat.blt c.toNat 192) := by
    unfold ctB at k
    revert k
    cases contB c <;> cases (Nat.ble 128 c.toNat && Nat.blt c.toNat 192) <;> simp
  rw [k2]
  unfold contC cv
  by_cases h1 : 128 ≤ c.toNat <;> by_cases h2 : c.toNat < 192
  · have e1 : Nat.ble 128 c.toNat = true := Nat.ble_eq_true_of_le h1
    have e2 : Nat.blt c.toNat 192 = true := by rw [Nat.blt_eq]; exact h2
    rw [e1, e2]; simp; omega
  · have e2 : Nat.blt c.toNat 192 = false := by rw [← Bool.not_eq_true, Nat.blt_eq]; exact h2
    rw [e2]; simp; omega
  · have e1 : Nat.ble 128 c.toNat = false := by rw [← Bool.not_eq_true, Nat.ble_eq]; exact h1
    rw [e1]; simp; omega
  · have e1 : Nat.ble 128 c.toNat = false := by rw [← Bool.not_eq_true, Nat.ble_eq]; exact h1
    rw [e1]; simp; omega
theorem stepV_eq {c : UInt8} (hc : contC c = true) {v : Int} (h0 : 0 ≤ v) (h1 : v < 33554432) : stepV v c = v * 64 + (cv c - 128) := by
  have h := contC_iff.1 hc
  have k := all256 ctV ctV_k c
  unfold cv at *
  have e1 : Nat.ble 128 c.toNat = true := Nat.ble_eq_true_of_le (by omega)
  have e2 : Nat.blt c.toNat 192 = true := by rw [Nat.blt_eq]; omega
  have e3 : IntKind.i32.wrap (intBits BinOp.and IntKind.u8 (c.toNat : Int) 63) = ((c.toNat - 128 : Nat) : Int) := by simpa [ctV, e1, e2] using k
  unfold stepV
  rw [e3]
  have e4 : IntKind.i32.wrap (v * 2 ^ min 6 IntKind.i32.bits) = v * 64 := by
    have : (2 : Int) ^ min 6 IntKind.i32.bits = 64 := by decide
    rw [this]
    simp only [IntKind.wrap, IntKind.signed, IntKind.bits]; simp; omega
  rw [e4, or_shift h0 h1 (by omega) (by omega)]
  omega
theorem ch_dec (c : UInt8) (r : List UInt8) : match dec (c :: r) with
    | some v => ch (c :: r) = lenE v ∧ conts (leadN c).toNat r (leadV c) = some v
    | none => ch (c :: r) = 0 := by
  have hr := cv_rng c
  rw [dec_cons, decC]
  by_cases h1 : cv c < 128
  · obtain ⟨e1, e2⟩ := ld1 h1
    have hl := lenE1 hr.1 (by omega : cv c ≤ 127)
    simp only [h1, decide_true, cond_true]
    simp [ch, e1, e2, conts, lenR_eq, hl]
  · by_cases h2 : cv c < 194
    · have e1 := ld0 (by omega) (.inl h2)
      simp [h1, h2, ch, e1]
    · by_cases h3 : cv c < 224
      · obtain ⟨e1, e2⟩ := ld2 (by omega) h3
        simp only [h1, h2, h3, decide_true, decide_false, cond_true, cond_false]
        cases r with
        | nil => simp [dec2, ch, e1]
        | cons b t =>
          rw [dec2_cons]
          cases hb : contC b with
          | false => simp [ch, e1, e2, conts, contB_eq, hb]
          | true =>
            have hb' := contC_iff.1 hb
            have es := stepV_eq hb (v := cv c - 192) (by omega) (by omega)
            simp only [cond_true, ifLen]
            cases hl : Nat.beq (lenE ((cv c - 192) * 64 + (cv b - 128))) 2 with
            | true =>
              have hl' := Nat.eq_of_beq_eq_true hl
              simp [ch, e1, e2, conts, contB_eq, hb, es, lenR_eq, hl']
            | false =>
              have hl' := Nat.ne_of_beq_eq_false hl
              simp [ch, e1, e2, conts, contB_eq, hb, es, lenR_eq]
              omega
      · by_cases h4 : cv c < 240
        · obtain ⟨e1, e2⟩ := ld3 (by omega) h4
          simp only [h1, h2, h3, h4, decide_true, decide_false, cond_true, cond_false]
          rcases r with _ | ⟨b, _ | ⟨d, t⟩⟩
          · simp [dec3, ch, e1]
          · simp [dec3, ch, e1]
          · rw [dec3_cons]
            cases hb : contC b with
            | false => simp [ch, e1, e2, conts, contB_eq, hb]
            | true =>
              have hb' := contC_iff.1 hb
              have es := stepV_eq hb (v := cv c - 224) (by omega) (by omega)
              cases hd : contC d with
              | false => simp [ch, e1, e2, conts, contB_eq, hb, hd]
              | true =>
                have hd' := contC_iff.1 hd
                have es2 := stepV_eq hd (v := (cv c - 224) * 64 + (cv b - 128)) (by omega) (by omega)
                have ev : ((cv c - 224) * 64 + (cv b - 128)) * 64 + (cv d - 128) = (cv c - 224) * 4096 + (cv b - 128) * 64 + (cv d - 128) := by omega
                simp only [Bool.and_self, cond_true, ifLen]
                cases hl : Nat.beq (lenE ((cv c - 224) * 4096 + (cv b - 128) * 64 + (cv d - 128))) 3 with
                | true =>
                  have hl' := Nat.eq_of_beq_eq_true hl
                  simp [ch, e1, e2, conts, contB_eq, hb, hd, es, es2, ev, lenR_eq, hl']
                | false =>
                  have hl' := Nat.ne_of_beq_eq_false hl
                  simp [ch, e1, e2, conts, contB_eq, hb, hd, es, es2, ev, lenR_eq]
                  omega
        · by_cases h5 : cv c < 245
          · obtain ⟨e1, e2⟩ := ld4 (by omega) h5
            simp only [h1, h2, h3, h4, h5, decide_true, decide_false, cond_true, cond_false]
            rcases r with _ | ⟨b, _ | ⟨d, _ | ⟨e, t⟩⟩⟩
            · simp [dec4, ch, e1]
            · simp [dec4, ch, e1]
            · simp [dec4, ch, e1]
            · rw [dec4_cons]
              cases hb : contC b with
              | false => simp [ch, e1, e2, conts, contB_eq, hb]
              | true =>
                have hb' := contC_iff.1 hb
                have es := stepV_eq hb (v := cv c - 240) (by omega) (by omega)
                cases hd : contC d with
                | false => simp [ch, e1, e2, conts, contB_eq, hb, hd]
                | true =>
                  have hd' := contC_iff.1 hd
                  have es2 := stepV_eq hd (v := (cv c - 240) * 64 + (cv b - 128)) (by omega) (by omega)
                  cases he : contC e with
                  | false => simp [ch, e1, e2, conts, contB_eq, hb, hd, he]
                  | true =>
                    have he' := contC_iff.1 he
                    have es3 := stepV_eq he (v := ((cv c - 240) * 64 + (cv b - 128)) * 64 + (cv d - 128)) (by omega) (by omega)
                    have ev : (((cv c - 240) * 64 + (cv b - 128)) * 64 + (cv d - 128)) * 64 + (cv e - 128) = (cv c - 240) * 262144 + (cv b - 128) * 4096 + (cv d - 128) * 64 + (cv e - 128) := by omega
                    simp only [Bool.and_self, cond_true, ifLen]
                    cases hl : Nat.beq (lenE ((cv c - 240) * 262144 + (cv b - 128) * 4096 + (cv d - 128) * 64 + (cv e - 128))) 4 with
                    | true =>
                      have hl' := Nat.eq_of_beq_eq_true hl
                      simp [ch, e1, e2, conts, contB_eq, hb, hd, he, es, es2, es3, ev, lenR_eq, hl']
                    | false =>
                      have hl' := Nat.ne_of_beq_eq_false hl
                      simp [ch, e1, e2, conts, contB_eq, hb, hd, he, es, es2, es3, ev, lenR_eq]
                      omega
          · have e1 := ld0 (c := c) (by omega) (.inr (by omega))
            simp [h1, h2, h3, h4, h5, ch, e1]
theorem prun : ∀ (m : Nat) (r pre : List UInt8) (out : List Int) (p n : Nat), r.length ≤ m → pre.length = p → r.length < n → p + r.length ≤ 140737488355000 → out.length + r.length ≤ 1000000000 →
    loopN (F21_l1 C57 C58 C21_l0) n (pre ++ r, (p : Int), out, ()) = some (if rr r = [] then .inl (out ++ rl r, ()) else .inr (((p + (r.length - (rr r).length) : Nat) : Int), out ++ rl r, ()))
  | _, _, _, _, _, 0, _, _, hn, _, _ => by omega
  | m, [], pre, out, p, n + 1, hm, hp, hn, hb, ho => by
    have h := runes_none (s := []) rfl
    rw [h.1, h.2, if_pos rfl]
    refine loopN_inr ?_
    simp (disch := (first | omega | (simp only [List.length_append, List.length_cons, List.length_nil]; omega))) only [F21_l1, decide_eq_true, decide_eq_false, cond_true, cond_false, Bool.and_self, Bool.true_and, Bool.and_true, Bool.false_and, Bool.and_false, Bool.not_true, Bool.not_false, List.length_append, List.length_cons, List.length_nil, Int.toNat_natCast, ibT, ibF, inT, inF, wrN, gd, dr, Option.bind_some, Sum.elim_inl, Sum.elim_inr, byte_back, of_to, List.append_nil]
  | 0, c :: r, pre, out, p, n + 1, hm, hp, hn, hb, ho => by simp at hm
  | m + 1, c :: r, pre, out, p, n + 1, hm, hp, hn, hb, ho => by
    simp only [List.length_cons] at hm hn hb ho
    have hr := rrun1 c r pre out p hp (by omega) (by omega)
    have hd := ch_dec c r
    cases he : dec (c :: r) with
    | none =>
      rw [he] at hd
      have h := runes_none he
      rw [if_pos hd] at hr
      rw [h.1, h.2, if_neg (by simp), loopN_inr hr]
      simp
    | some v =>
      rw [he] at hd
      obtain ⟨h1, h2⟩ := hd
      have h := runes_some he
      have hl := dec_len he
      rw [if_neg (by omega), h1, h2] at hr
      simp only [List.length_cons] at hl
      have hsplit : pre ++ c :: r = (pre ++ (c :: r).take (lenE v)) ++ (c :: r).drop (lenE v) := by rw [List.append_assoc, List.take_append_drop]
      have ih := prun m ((c :: r).drop (lenE v)) (pre ++ (c :: r).take (lenE v)) (out ++ [v]) (p + lenE v) n (by simp; omega) (by simp [hp]; omega) (by simp; omega) (by simp; omega) (by simp; omega)
      rw [loopN_inl hr]
      rw [← hsplit] at ih
      rw [Option.getD_some, ih, h.1, h.2]
      have hle := rr_le ((c :: r).drop (lenE v))
      simp only [List.length_drop, List.length_cons] at hle ⊢
      split
      · simp
      · rw [List.append_assoc]
        have : p + lenE v + (r.length + 1 - lenE v - (rr ((c :: r).drop (lenE v))).length) = p + (r.length + 1 - (rr ((c :: r).drop (lenE v))).length) := by omega
        rw [this]; rfl
theorem d21 (s : List UInt8) (hb : s.length ≤ 1000000) : C21 (s, ()) = some (rl s, badAt s, ()) := by
  have h := prun s.length s [] [] 0 big (Nat.le_refl _) rfl (by unfold big; omega) (by omega) (by simp; omega)
  have h' : C21_l1 (s, 0, [], ()) = _ := h
  have hg : ∀ (b : Int) (o : List Int), C21_g0 (b, o, ()) = some (b, o, ()) := by
    intro b o
    show loopN _ big _ = _
    rw [show big = 999999999999999999999 + 1 from rfl]
    exact loopN_inr rfl
  simp only [C21, F21, h', Option.bind_some]
  by_cases hr : rr s = []
  · rw [if_pos hr, badAt_nil hr]; simp
  · rw [if_neg hr, badAt_some hr]; simp [hg]
theorem c64 (v : Int) : C64 (v, ()) = some (rightB v, ()) := by
  simp only [C64, F64, rightB]
  by_cases h1 : v ≥ 0 <;> by_cases h2 : v ≤ 1114111 <;> by_cases h3 : v < 55296 <;> by_cases h4 : v > 57343 <;> simp [h1, h2, h3, h4] <;> omega
theorem c92 (v : Int) : C92 (v, ()) = some ((lenE v : Int), ()) := by
  simp only [C92, F92, c64, Option.bind_some]
  unfold lenE
  cases rightB v with
  | false => rfl
  | true => cases decide (v ≤ 127) <;> cases decide (v ≤ 2047) <;> cases decide (v ≤ 65535) <;> rfl
theorem w32 {n : Int} (h0 : -2147483648 ≤ n) (h1 : n ≤ 2147483647) : IntKind.i32.wrap n = n := by
  simp only [IntKind.wrap, IntKind.signed, IntKind.bits]; simp; omega
theorem wu8 {n : Int} (h0 : 0 ≤ n) (h1 : n ≤ 255) : IntKind.u8.wrap n = n := by
  simp only [IntKind.wrap, IntKind.signed, IntKind.bits]; simp; omega
theorem tdiv_nn {a : Int} (b : Int) (h : 0 ≤ a) : a.tdiv b = a / b := Int.tdiv_eq_ediv_of_nonneg h
theorem tmod_nn {a : Int} (b : Int) (h : 0 ≤ a) : a.tmod b = a % b := Int.tmod_eq_emod_of_nonneg h
theorem c65 (v : Int) : C65 (v, ()) = some (enc v, ()) := by
  simp only [C65, F65, c92, Option.bind_some]
  cases hr : rightB v with
  | false => simp [lenE0 hr, enc]
  | true =>
    rcases lenE_cases hr with ⟨h, h1, h2⟩ | ⟨h, h1, h2⟩ | ⟨h, h1, h2⟩ | ⟨h, h1, h2⟩
    · rw [enc1 h, h, wu8 h1 (by omega)]; rfl
    · rw [enc2 h, h, tdiv_nn 64 (by omega), tmod_nn 64 (by omega), w32 (n := v / 64) (by omega) (by omega), w32 (n := 192 + v / 64) (by omega) (by omega), w32 (n := 128 + v % 64) (by omega) (by omega), wu8 (n := 192 + v / 64) (by omega) (by omega), wu8 (n := 128 + v % 64) (by omega) (by omega)]
      rfl
    · rw [enc3 h, h, tdiv_nn 64 (by omega), tdiv_nn 4096 (by omega), tmod_nn (a := v) 64 (by omega), w32 (n := v / 64) (by omega) (by omega), w32 (n := v / 4096) (by omega) (by omega), tmod_nn (a := v / 64) 64 (by omega),
        w32 (n := 224 + v / 4096) (by omega) (by omega), w32 (n := 128 + v / 64 % 64) (by omega) (by omega), w32 (n := 128 + v % 64) (by omega) (by omega), wu8 (n := 224 + v / 4096) (by omega) (by omega), wu8 (n := 128 + v / 64 % 64) (by omega) (by omega), wu8 (n := 128 + v % 64) (by omega) (by omega)]
      rfl
    · rw [enc4 h, h, tdiv_nn 64 (by omega), tdiv_nn 4096 (by omega), tdiv_nn 262144 (by omega), tmod_nn (a := v) 64 (by omega), w32 (n := v / 64) (by omega) (by omega), w32 (n := v / 4096) (by omega) (by omega), w32 (n := v / 262144) (by omega) (by omega), tmod_nn (a := v / 64) 64 (by omega), tmod_nn (a := v / 4096) 64 (by omega),
        w32 (n := 240 + v / 262144) (by omega) (by omega), w32 (n := 128 + v / 4096 % 64) (by omega) (by omega), w32 (n := 128 + v / 64 % 64) (by omega) (by omega), w32 (n := 128 + v % 64) (by omega) (by omega), wu8 (n := 240 + v / 262144) (by omega) (by omega), wu8 (n := 128 + v / 4096 % 64) (by omega) (by omega), wu8 (n := 128 + v / 64 % 64) (by omega) (by omega), wu8 (n := 128 + v % 64) (by omega) (by omega)]
      rfl
end Go.Proofs.YtmfcepdbpdihgaaGreatDoor.W
set_option linter.unusedVariables false
set_option linter.unusedSimpArgs false
set_option maxRecDepth 100000
namespace Go.Proofs.YtmfcepdbpdihgaaGreatDoor.W
open Go Go.Ae Go.Pl
def or8B (c : UInt8) : Bool :=
  ((!Nat.blt c.toNat 32 || decide (intBits BinOp.or IntKind.u8 192 (c.toNat : Int) = ((192 + c.toNat : Nat) : Int))) && (!Nat.blt c.toNat 16 || decide (intBits BinOp.or IntKind.u8 224 (c.toNat : Int) = ((224 + c.toNat : Nat) : Int)))) &&
  ((!Nat.blt c.toNat 8 || decide (intBits BinOp.or IntKind.u8 240 (c.toNat : Int) = ((240 + c.toNat : Nat) : Int))) && (!Nat.blt c.toNat 64 || decide (intBits BinOp.or IntKind.u8 128 (c.toNat : Int) = ((128 + c.toNat : Nat) : Int))))
theorem or8_k : ((List.range 256).all fun n => or8B (UInt8.ofNat n)) = true := by kernel_rfl
theorem or8 (x : Int) (h0 : 0 ≤ x) : (x < 32 → intBits BinOp.or IntKind.u8 192 x = 192 + x) ∧ (x < 16 → intBits BinOp.or IntKind.u8 224 x = 224 + x) ∧ (x < 8 → intBits BinOp.or IntKind.u8 240 x = 240 + x) ∧ (x < 64 → intBits BinOp.or IntKind.u8 128 x = 128 + x) := by
  have key : ∀ m : Nat, m < 256 → or8B (UInt8.ofNat m) = true := fun m hm => List.all_eq_true.1 or8_k m (List.mem_range.2 hm)
  have val : ∀ m : Nat, m < 256 → (UInt8.ofNat m).toNat = m := fun m hm => by simp; omega
  refine ⟨fun h => ?_, fun h => ?_, fun h => ?_, fun h => ?_⟩
  all_goals
    have k := key x.toNat (by omega)
    unfold or8B at k
    rw [val _ (by omega)] at k
    have e : ((x.toNat : Nat) : Int) = x := by omega
    rw [e] at k
  · have hb : Nat.blt x.toNat 32 = true := by rw [Nat.blt_eq]; omega
    simp [hb] at k; rw [k.1.1]; omega
  · have hb : Nat.blt x.toNat 16 = true := by rw [Nat.blt_eq]; omega
    simp [hb] at k; rw [k.1.2]; omega
  · have hb : Nat.blt x.toNat 8 = true := by rw [Nat.blt_eq]; omega
    simp [hb] at k; rw [k.2.1]; omega
  · have hb : Nat.blt x.toNat 64 = true := by rw [Nat.blt_eq]; omega
    simp [hb] at k; rw [k.2.2]; omega
theorem fdiv_nn {a : Int} {b : Int} (h : 0 ≤ b) : a.fdiv b = a / b := Int.fdiv_eq_ediv_of_nonneg a h
theorem p6 : (2 : Int) ^ min 6 IntKind.i32.bits = 64 := by decide
theorem p12 : (2 : Int) ^ min 12 IntKind.i32.bits = 4096 := by decide
theorem p18 : (2 : Int) ^ min 18 IntKind.i32.bits = 262144 := by decide
def strE : List Int → Option (List UInt8)
  | [] => some []
  | v :: l => if rightB v = true then (strE l).map (enc v ++ ·) else none
theorem strE_all : ∀ l : List Int, strE l = if l.all rightB = true then some (l.flatMap enc) else none
  | [] => rfl
  | v :: l => by
    rw [strE, strE_all l, List.all_cons, List.flatMap_cons]
    cases rightB v <;> cases l.all rightB <;> rfl
theorem sstep (v : Int) (pre r : List Int) (N : Int) (out : List UInt8) (hN : N = ((pre ++ v :: r).length : Int)) (hl : pre.length + r.length ≤ 1000000000) (ho : out.length ≤ 100000000000000) :
    F28_l0 C58 (pre ++ v :: r, N, (pre.length : Int), out, ()) = some (if rightB v = true then .inl (pre ++ v :: r, N, ((pre.length + 1 : Nat) : Int), out ++ enc v, ()) else .inr (.inr ([], false, ()))) := by
  subst hN
  have hi : decide ((pre.length : Int) < ((pre ++ v :: r).length : Int)) = true := by simp; omega
  have hi0 : decide (0 ≤ (pre.length : Int)) = true := by simp
  have hw : IntKind.i64.wrap ((pre.length : Int) + 1) = ((pre.length + 1 : Nat) : Int) := wrN _ (by omega)
  have hg : (pre ++ v :: r).getD ((pre.length : Int)).toNat 0 = v := by rw [Int.toNat_natCast]; exact gd rfl
  cases hr : rightB v with
  | false =>
    simp only [F28_l0, hi, hi0, hg, c58, lenR_eq, lenE0 hr, Option.bind_some, cond_true, Bool.and_self]
    rfl
  | true =>
    have ol : ∀ k : Nat, k ≤ 4 → decide (out.length + k ≤ 140737488355328 / 1) = true := fun k hk => by simp; omega
    have f6 : Int.fdiv v (2 ^ min 6 IntKind.i32.bits) = v / 64 := by rw [p6, fdiv_nn (by omega)]
    have f12 : Int.fdiv v (2 ^ min 12 IntKind.i32.bits) = v / 4096 := by rw [p12, fdiv_nn (by omega)]
    have f18 : Int.fdiv v (2 ^ min 18 IntKind.i32.bits) = v / 262144 := by rw [p18, fdiv_nn (by omega)]
    have hi' := rightB_iff.1 hr
    have a0 := and63 (x := v) (by omega) (by omega)
    have a6 := and63 (x := v / 64) (by omega) (by omega)
    have a12 := and63 (x := v / 4096) (by omega) (by omega)
    have u0 : IntKind.u8.wrap (v % 64) = v % 64 := wu8 (by omega) (by omega)
    have u6 : IntKind.u8.wrap (v / 64 % 64) = v / 64 % 64 := wu8 (by omega) (by omega)
    have u12 : IntKind.u8.wrap (v / 4096 % 64) = v / 4096 % 64 := wu8 (by omega) (by omega)
    have o0 := (or8 (v % 64) (by omega)).2.2.2 (by omega)
    have o6 := (or8 (v / 64 % 64) (by omega)).2.2.2 (by omega)
    have o12 := (or8 (v / 4096 % 64) (by omega)).2.2.2 (by omega)
    rcases lenE_cases hr with ⟨h, h1, h2⟩ | ⟨h, h1, h2⟩ | ⟨h, h1, h2⟩ | ⟨h, h1, h2⟩
    · have e0 : (((1 : Nat) : Int) == 0) = false := rfl
      have e1 : (((1 : Nat) : Int) == 1) = true := rfl
      simp only [F28_l0, hi, hi0, hg, hw, c58, lenR_eq, h, e0, e1, Option.bind_some, cond_true, cond_false, Bool.and_self, List.length_cons, List.length_nil, ol 1 (by omega), enc1 h, if_true, wu8 h1 (by omega : v ≤ 255)]
      rfl
    · have e0 : (((2 : Nat) : Int) == 0) = false := rfl
      have e1 : (((2 : Nat) : Int) == 1) = false := rfl
      have e2 : (((2 : Nat) : Int) == 2) = true := rfl
      have u : IntKind.u8.wrap (v / 64) = v / 64 := wu8 (by omega) (by omega)
      have o := (or8 (v / 64) (by omega)).1 (by omega)
      simp only [F28_l0, hi, hi0, hg, hw, c58, lenR_eq, h, e0, e1, e2, Option.bind_some, cond_true, cond_false, Bool.and_self, List.length_cons, List.length_nil, ol 2 (by omega), enc2 h, if_true, f6, a0, u, u0, o, o0]
      rfl
    · have e0 : (((3 : Nat) : Int) == 0) = false := rfl
      have e1 : (((3 : Nat) : Int) == 1) = false := rfl
      have e2 : (((3 : Nat) : Int) == 2) = false := rfl
      have e3 : (((3 : Nat) : Int) == 3) = true := rfl
      have u : IntKind.u8.wrap (v / 4096) = v / 4096 := wu8 (by omega) (by omega)
      have o := (or8 (v / 4096) (by omega)).2.1 (by omega)
      simp only [F28_l0, hi, hi0, hg, hw, c58, lenR_eq, h, e0, e1, e2, e3, Option.bind_some, cond_true, cond_false, Bool.and_self, List.length_cons, List.length_nil, ol 3 (by omega), enc3 h, if_true, f6, f12, a0, a6, u, u0, u6, o, o0, o6]
      rfl
    · have e0 : (((4 : Nat) : Int) == 0) = false := rfl
      have e1 : (((4 : Nat) : Int) == 1) = false := rfl
      have e2 : (((4 : Nat) : Int) == 2) = false := rfl
      have e3 : (((4 : Nat) : Int) == 3) = false := rfl
      have e4 : (((4 : Nat) : Int) == 4) = true := rfl
      have u : IntKind.u8.wrap (v / 262144) = v / 262144 := wu8 (by omega) (by omega)
      have o := (or8 (v / 262144) (by omega)).2.2.1 (by omega)
      simp only [F28_l0, hi, hi0, hg, hw, c58, lenR_eq, h, e0, e1, e2, e3, e4, Option.bind_some, cond_true, cond_false, Bool.and_self, List.length_cons, List.length_nil, ol 4 (by omega), enc4 h, if_true, f6, f12, f18, a0, a6, a12, u, u0, u6, u12, o, o0, o6, o12]
      rfl
theorem srun : ∀ (r pre : List Int) (N : Int) (out : List UInt8) (n : Nat), N = ((pre ++ r).length : Int) → pre.length + r.length ≤ 1000000000 → out.length + 4 * r.length ≤ 100000000000000 → r.length < n →
    loopN (F28_l0 C58) n (pre ++ r, N, (pre.length : Int), out, ()) = some (match strE r with | some e => .inl (out ++ e, ()) | none => .inr ([], false, ()))
  | _, _, _, _, 0, _, _, _, hn => by omega
  | [], pre, N, out, n + 1, hN, hl, ho, hn => by
    subst hN
    refine loopN_inr ?_
    have hi : decide ((pre.length : Int) < (pre.length : Int)) = false := by simp
    simp only [F28_l0, hi, cond_false, strE, List.append_nil]
  | v :: r, pre, N, out, n + 1, hN, hl, ho, hn => by
    simp only [List.length_cons] at hl ho hn
    have hs := sstep v pre r N out hN (by omega) (by omega)
    cases hr : rightB v with
    | false =>
      rw [hr, if_neg (by simp)] at hs
      rw [loopN_inr hs]
      simp [strE, hr]
    | true =>
      rw [hr, if_pos rfl] at hs
      have hl4 := (lenE_pos hr).2
      rw [loopN_inl hs, shift, show ((pre.length + 1 : Nat) : Int) = ((pre ++ [v]).length : Int) by simp, srun r (pre ++ [v]) N (out ++ enc v) n (by rw [hN]; simp) (by simp; omega) (by rw [List.length_append, enc_len]; omega) (by omega)]
      rw [strE, if_pos hr]
      cases strE r <;> simp
theorem c28 (l : List Int) (hl : l.length ≤ 100000000) : C28 (l, ()) = some (match strE l with | some e => (e, true, ()) | none => ([], false, ())) := by
  have h := srun l [] (l.length : Int) [] big (by simp) (by simp; omega) (by simp; omega) (by unfold big; omega)
  have h' : C28_l0 (l, (l.length : Int), 0, [], ()) = _ := h
  simp only [C28, F28, h', Option.bind_some]
  cases strE l <;> rfl
theorem rsrun : ∀ (r pre : List Int) (out : List UInt8) (n : Nat), pre.length + r.length ≤ 1000000000 → out.length + 4 * r.length ≤ 100000000000000 → r.length < n →
    loopN (F31_l0 C64 C65) n (pre ++ r, (pre.length : Int), out, ()) = some (match strE r with | some e => .inl (out ++ e, ()) | none => .inr ([], false, ()))
  | _, _, _, 0, _, _, hn => by omega
  | [], pre, out, n + 1, hl, ho, hn => by
    refine loopN_inr ?_
    have hi : decide ((pre.length : Int) < (pre.length : Int)) = false := by simp
    simp only [F31_l0, hi, cond_false, strE, List.append_nil]
  | v :: r, pre, out, n + 1, hl, ho, hn => by
    simp only [List.length_cons] at hl ho hn
    have hi : decide ((pre.length : Int) < ((pre ++ v :: r).length : Int)) = true := by simp; omega
    have hi0 : decide (0 ≤ (pre.length : Int)) = true := by simp
    have hw : IntKind.i64.wrap ((pre.length : Int) + 1) = ((pre.length + 1 : Nat) : Int) := wrN _ (by omega)
    have hg : (pre ++ v :: r).getD ((pre.length : Int)).toNat 0 = v := by rw [Int.toNat_natCast]; exact gd rfl
    cases hr : rightB v with
    | false =>
      rw [loopN_inr (y := .inr ([], false, ())) (by simp only [F31_l0, hi, hi0, hg, c64, hr, Option.bind_some, cond_true, Bool.and_self]; rfl)]
      simp [strE, hr]
    | true =>
      have hl4 := (lenE_pos hr).2
      have ol : decide (out.length + (enc v).length ≤ 140737488355328 / 1) = true := by rw [enc_len]; simp; omega
      rw [loopN_inl (v' := (pre ++ v :: r, ((pre.length + 1 : Nat) : Int), out ++ enc v, ())) (by simp only [F31_l0, hi, hi0, hg, hw, c64, c65, hr, ol, Option.bind_some, cond_true, cond_false, Bool.and_self, Bool.not_true])]
      rw [shift, show ((pre.length + 1 : Nat) : Int) = ((pre ++ [v]).length : Int) by simp, rsrun r (pre ++ [v]) (out ++ enc v) n (by simp; omega) (by rw [List.length_append, enc_len]; omega) (by omega)]
      rw [strE, if_pos hr]
      cases strE r <;> simp
theorem c31 (l : List Int) (hl : l.length ≤ 100000000) : C31 (l, ()) = some (match strE l with | some e => (e, true, ()) | none => ([], false, ())) := by
  have h := rsrun l [] [] big (by simp; omega) (by simp; omega) (by unfold big; omega)
  have h' : C31_l0 (l, 0, [], ()) = _ := h
  simp only [C31, F31, h', Option.bind_some]
  cases strE l <;> rfl
end Go.Proofs.YtmfcepdbpdihgaaGreatDoor.W
set_option linter.unusedVariables false
set_option linter.unusedSimpArgs false
set_option maxRecDepth 100000
namespace Go.Proofs.YtmfcepdbpdihgaaGreatDoor.W
open Go Go.Ae Go.Pl
def lowT : List UInt8 := [48, 49, 50, 51, 52, 53, 54, 55, 56, 57, 97, 98, 99, 100, 101, 102, 103, 104, 105, 106, 107, 108, 109, 110, 111, 112, 113, 114, 115, 116, 117, 118, 119, 120, 121, 122]
def upT : List UInt8 := [48, 49, 50, 51, 52, 53, 54, 55, 56, 57, 65, 66, 67, 68, 69, 70]
def dgl (n : Nat) : UInt8 := lowT.getD n 0
def dgu (n : Nat) : UInt8 := upT.getD n 0
def hexF (d : Nat → UInt8) : Nat → Nat → List UInt8
  | 0, _ => []
  | f + 1, n => bif Nat.blt n 16 then [d n] else hexF d f (n / 16) ++ [d (n % 16)]
theorem hexF_lo (d : Nat → UInt8) (f n : Nat) (h : n < 16) : hexF d (f + 1) n = [d n] := by
  have : Nat.blt n 16 = true := by rw [Nat.blt_eq]; exact h
  simp [hexF, this]
theorem hexF_hi (d : Nat → UInt8) (f n : Nat) (h : 16 ≤ n) : hexF d (f + 1) n = hexF d f (n / 16) ++ [d (n % 16)] := by
  have : Nat.blt n 16 = false := by rw [← Bool.not_eq_true, Nat.blt_eq]; omega
  simp [hexF, this]
theorem hexF_more (d : Nat → UInt8) : ∀ (f g n : Nat), n < 16 ^ (f + 1) → f ≤ g → hexF d (g + 1) n = hexF d (f + 1) n
  | 0, g, n, h, _ => by rw [hexF_lo d g n (by simpa using h), hexF_lo d 0 n (by simpa using h)]
  | f + 1, 0, n, h, hg => by omega
  | f + 1, g + 1, n, h, hg => by
    by_cases h16 : n < 16
    · rw [hexF_lo d _ n h16, hexF_lo d _ n h16]
    · rw [hexF_hi d _ n (by omega), hexF_hi d _ n (by omega), hexF_more d f g (n / 16) (by rw [Nat.pow_succ] at h; omega) (by omega)]
theorem hexF_map (u : UInt8 → UInt8) (d e : Nat → UInt8) (hde : ∀ n, n < 16 → u (d n) = e n) : ∀ (f n : Nat), (hexF d f n).map u = hexF e f n
  | 0, n => rfl
  | f + 1, n => by
    by_cases h16 : n < 16
    · rw [hexF_lo d _ n h16, hexF_lo e _ n h16]; simp [hde n h16]
    · rw [hexF_hi d _ n (by omega), hexF_hi e _ n (by omega), List.map_append, hexF_map u d e hde f]; simp [hde (n % 16) (by omega)]
theorem hexF_all (p : UInt8 → Bool) (d : Nat → UInt8) (hd : ∀ n, n < 16 → p (d n) = true) : ∀ (f n : Nat), (hexF d f n).all p = true
  | 0, n => rfl
  | f + 1, n => by
    by_cases h16 : n < 16
    · rw [hexF_lo d _ n h16]; simp [hd n h16]
    · rw [hexF_hi d _ n (by omega), List.all_append, hexF_all p d hd f]; simp [hd (n % 16) (by omega)]
theorem hexF_len (d : Nat → UInt8) : ∀ (f n : Nat), (hexF d f n).length ≤ f
  | 0, n => Nat.le_refl _
  | f + 1, n => by
    by_cases h16 : n < 16
    · rw [hexF_lo d _ n h16]; simp
    · rw [hexF_hi d _ n (by omega)]; have := hexF_len d f (n / 16); simp; omega
def hexU (n : Nat) : List UInt8 := hexF dgu 16 n
theorem fin16 {p : Nat → Bool} (h : ((List.range 16).all p) = true) : ∀ n, n < 16 → p n = true := fun n hn => List.all_eq_true.1 h n (List.mem_range.2 hn)
theorem dgu_up : ∀ n, n < 16 → Lib.upperB (dgl n) = dgu n := fun n hn => by
  have := fin16 (p := fun n => decide (Lib.upperB (dgl n) = dgu n)) (by decide) n hn
  simpa using this
theorem dgl_low : ∀ n, n < 16 → decide ((dgl n).toNat < 128) = true := fin16 (p := fun n => decide ((dgl n).toNat < 128)) (by decide)
theorem dgu_slice : ∀ n, n < 16 → List.drop n (List.take (n + 1) upT) = [dgu n] := fun n hn => by
  have := fin16 (p := fun n => decide (List.drop n (List.take (n + 1) upT) = [dgu n])) (by decide) n hn
  simpa using this
theorem and15 {x : Int} (h0 : 0 ≤ x) (h1 : x < 18446744073709551616) : intBits .and .u64 x 15 = x % 16 := by
  have h := and64 (m := 4) h0 h1 (by omega)
  have e1 : (2 : Int) ^ 4 - 1 = 15 := by decide
  have e2 : (2 : Int) ^ 4 = 16 := by decide
  rw [e1, e2] at h
  exact h
theorem set_drop {l : List UInt8} {i : Nat} {x : UInt8} (h1 : 1 ≤ i) (h2 : i ≤ l.length) : (l.set (i - 1) x).drop (i - 1) = x :: l.drop i := by
  rw [List.drop_eq_getElem_cons (by simp; omega)]
  simp only [List.getElem_set_self, List.drop_set]
  rw [if_pos (by omega)]
  congr 2; omega
theorem bits_loop (b1 b2 : Bool) (p q : List UInt8) : ∀ (f : Nat) (u : Nat) (i : Nat) (arr : List UInt8) (n : Nat), u < 16 ^ (f + 1) → u < 18446744073709551616 → f + 1 ≤ i → i ≤ 65 → arr.length = 65 → f < n →
    ∃ (u' : Nat) (i' : Nat) (arr' : List UInt8), loopN F133_l0 n (p, (u : Int), b1, b2, q, (i : Int), 4, 16, 15, arr, ()) = some (p, (u' : Int), b1, b2, q, (i' : Int), arr', ()) ∧ u' < 16 ∧ arr'.length = 65 ∧ i ≤ i' + f ∧ i' ≤ i ∧ dgl u' :: arr'.drop i' = hexF dgl (f + 1) u ++ arr.drop i
  | _, _, _, _, 0, _, _, _, _, _, hn => by omega
  | 0, u, i, arr, n + 1, hu, hu2, hi, hi2, ha, hn => by
    have h16 : u < 16 := by simpa using hu
    refine ⟨u, i, arr, loopN_inr ?_, h16, ha, by omega, Nat.le_refl _, by rw [hexF_lo _ _ _ h16]; rfl⟩
    have e : decide ((u : Int) ≥ 16) = false := by simp; omega
    simp only [F133_l0, e, cond_false]
  | f + 1, u, i, arr, n + 1, hu, hu2, hi, hi2, ha, hn => by
    by_cases h16 : u < 16
    · refine ⟨u, i, arr, loopN_inr ?_, h16, ha, by omega, Nat.le_refl _, by rw [hexF_lo _ _ _ h16]; rfl⟩
      have e : decide ((u : Int) ≥ 16) = false := by simp; omega
      simp only [F133_l0, e, cond_false]
    · have e : decide ((u : Int) ≥ 16) = true := by simp; omega
      have ea := and15 (x := (u : Int)) (by omega) (by omega)
      have e1 : decide (0 ≤ (u : Int) % 16) = true := by simp; omega
      have e2 : decide ((u : Int) % 16 < (([48, 49, 50, 51, 52, 53, 54, 55, 56, 57, 97, 98, 99, 100, 101, 102, 103, 104, 105, 106, 107, 108, 109, 110, 111, 112, 113, 114, 115, 116, 117, 118, 119, 120, 121, 122].length : Nat) : Int)) = true := by simp; omega
      have ew : IntKind.i64.wrap ((i : Int) - 1) = ((i - 1 : Nat) : Int) := by rw [w64] <;> omega
      have e3 : decide (arr.length = 65) = true := by simp [ha]
      have e4 : decide (0 ≤ ((i - 1 : Nat) : Int)) = true := by simp
      have e5 : decide (((i - 1 : Nat) : Int) < (65 : Int)) = true := by simp; omega
      have e6 : decide (i - 1 < arr.length) = true := by simp; omega
      have e7 : decide ((0 : Int) ≤ 4) = true := by decide
      have ef : (u : Int).fdiv (2 ^ min (4 : Int).toNat IntKind.u64.bits) = ((u / 16 : Nat) : Int) := by
        have : (2 : Int) ^ min (4 : Int).toNat IntKind.u64.bits = 16 := by decide
        rw [this, fdiv_nn (by omega)]; omega
      have et : ((u : Int) % 16).toNat = u % 16 := by omega
      have es : F133_l0 (p, (u : Int), b1, b2, q, (i : Int), 4, 16, 15, arr, ()) = some (.inl (p, ((u / 16 : Nat) : Int), b1, b2, q, ((i - 1 : Nat) : Int), 4, 16, 15, arr.set (i - 1) (dgl (u % 16)), ())) := by
        simp only [F133_l0, e, ea, e1, e2, ew, e3, e4, e5, e6, e7, ef, et, Int.toNat_natCast, cond_true, Bool.and_self, byte_back, of_to]
        rfl
      obtain ⟨u', i', arr', h1, h2, h3, h4, h5, h6⟩ := bits_loop b1 b2 p q f (u / 16) (i - 1) (arr.set (i - 1) (dgl (u % 16))) n (by rw [Nat.pow_succ] at hu; omega) (by omega) (by omega) (by omega) (by simp [ha]) (by omega)
      have g1 : i ≤ i' + (f + 1) := by clear es h1 h6 e5 e6; omega
      have g2 : i' ≤ i := by clear es h1 h6 e5 e6; omega
      refine ⟨u', i', arr', by rw [loopN_inl es]; exact h1, h2, h3, g1, g2, ?_⟩
      rw [h6, hexF_hi dgl (f + 1) u (by omega), set_drop (by omega) (by omega), List.append_assoc]
      rfl
theorem pow2_16 : C161 (16, ()) = some (true, ()) := by kernel_rfl
theorem bits16 (neg : Bool) (u : Nat) (hu : u < 18446744073709551616) (arr : List UInt8) (ha : arr.length = 65) (p q : List UInt8) :
    C133_c2 (p, (u : Int), 16, neg, false, q, 65, arr, ()) = some ((bif neg then [45] else []) ++ hexF dgl 16 u, ()) := by
  obtain ⟨u', i', arr', h1, h2, h3, h4, h5, h6⟩ := bits_loop neg false p q 15 u 65 arr big (by omega) hu (by omega) (by omega) ha (by unfold big; omega)
  have h1' : C133_l0 (p, (u : Int), neg, false, q, 65, 4, 16, 15, arr, ()) = _ := h1
  have w1 : IntKind.u64.wrap 16 = 16 := by decide
  have w2 : IntKind.u64.wrap 4 = 4 := by decide
  have w3 : IntKind.u64.wrap (16 - 1) = 15 := by decide
  have t16 : C162 (16, ()) = some (4, ()) := by simp [C162]
  have e1 : decide (0 ≤ (u' : Int)) = true := by simp
  have e2 : decide ((u' : Int) < (([48, 49, 50, 51, 52, 53, 54, 55, 56, 57, 97, 98, 99, 100, 101, 102, 103, 104, 105, 106, 107, 108, 109, 110, 111, 112, 113, 114, 115, 116, 117, 118, 119, 120, 121, 122].length : Nat) : Int)) = true := by simp; omega
  have ew : IntKind.i64.wrap ((i' : Int) - 1) = ((i' - 1 : Nat) : Int) := by rw [w64] <;> omega
  have e3 : decide (arr'.length = 65) = true := by simp [h3]
  have e4 : decide (0 ≤ ((i' - 1 : Nat) : Int)) = true := by simp
  have e5 : decide (((i' - 1 : Nat) : Int) < (65 : Int)) = true := by simp; omega
  have e6 : decide (i' - 1 < arr'.length) = true := by simp; omega
  have e7 : decide ((arr'.set (i' - 1) (dgl u')).length = 65) = true := by simp [h3]
  have e8 : decide (((i' - 1 : Nat) : Int) ≤ ((arr'.set (i' - 1) (dgl u')).length : Int)) = true := by simp; omega
  have hd := set_drop (l := arr') (i := i') (x := dgl u') (by omega) (by omega)
  have hdl : arr.drop 65 = [] := List.drop_eq_nil_of_le (by omega)
  rw [h6, hdl, List.append_nil] at hd
  have hfin : C133_c1 (p, neg, false, q, ((i' - 1 : Nat) : Int), arr'.set (i' - 1) (dgl u'), ()) = some ((bif neg then [45] else []) ++ hexF dgl 16 u, ()) := by
    cases neg with
    | false =>
      simp only [C133_c1, F133_c1, C133_c0, F133_c0, cond_true, cond_false, e7, e4, e8, Bool.and_self, Int.toNat_natCast, Option.bind_some, hd, List.nil_append]
    | true =>
      have ew2 : IntKind.i64.wrap (((i' - 1 : Nat) : Int) - 1) = ((i' - 1 - 1 : Nat) : Int) := by rw [w64] <;> omega
      have g4 : decide (0 ≤ ((i' - 1 - 1 : Nat) : Int)) = true := by simp
      have g5 : decide (((i' - 1 - 1 : Nat) : Int) < (65 : Int)) = true := by simp; omega
      have g6 : decide (i' - 1 - 1 < (arr'.set (i' - 1) (dgl u')).length) = true := by simp; omega
      have g7 : decide (((arr'.set (i' - 1) (dgl u')).set (i' - 1 - 1) 45).length = 65) = true := by simp [h3]
      have g8 : decide (((i' - 1 - 1 : Nat) : Int) ≤ (((arr'.set (i' - 1) (dgl u')).set (i' - 1 - 1) 45).length : Int)) = true := by simp; omega
      have hd2 := set_drop (l := arr'.set (i' - 1) (dgl u')) (i := i' - 1) (x := 45) (by omega) (by simp; omega)
      rw [hd] at hd2
      simp only [C133_c1, F133_c1, C133_c0, F133_c0, cond_true, cond_false, e7, ew2, g4, g5, g6, g7, g8, Bool.and_self, Int.toNat_natCast, Option.bind_some, hd2]
      rfl
  simp only [C133_c2, F133_c2, pow2_16, w1, w2, w3, t16, h1', Option.bind_some, cond_true, e1, e2, Bool.and_self, ew, e3, e4, e5, e6, Int.toNat_natCast, byte_back, of_to]
  have hk : ∀ x : UInt8, x = dgl u' → (C133_c1 (p, neg, false, q, ((i' - 1 : Nat) : Int), arr'.set (i' - 1) x, ())).bind (fun val => some (val.fst, ())) = some ((bif neg then [45] else []) ++ hexF dgl 16 u, ()) := fun x hx => by
    rw [hx, hfin]; rfl
  exact hk _ rfl
theorem fmt16 (n : Int) (h0 : -9223372036854775807 ≤ n) (h1 : n ≤ 9223372036854775807) : C68 (n, 16, ()) = some ((bif decide (n < 0) then [45] else []) ++ hexF dgl 16 n.natAbs, ()) := by
  have e10 : ((16 : Int) == 10) = false := rfl
  have e2 : decide ((16 : Int) < 2) = false := rfl
  have e36 : decide ((16 : Int) > 36) = false := rfl
  by_cases hn : n < 0
  · have d : decide (n < 0) = true := by simp [hn]
    have hw : IntKind.u64.wrap (0 - IntKind.u64.wrap n) = ((n.natAbs : Nat) : Int) := by rw [IntKind.wrap_u64, IntKind.wrap_u64]; omega
    simp only [C68, F68, C97, F97, C133, F133, e10, e2, e36, d, hw, cond_true, cond_false]
    rw [bits16 true n.natAbs (by omega) _ rfl]
    rfl
  · have d : decide (n < 0) = false := by simp [hn]
    have hw : IntKind.u64.wrap n = ((n.natAbs : Nat) : Int) := by rw [IntKind.wrap_u64]; omega
    simp only [C68, F68, C97, F97, C133, F133, e10, e2, e36, d, hw, cond_true, cond_false]
    rw [bits16 false n.natAbs (by omega) _ rfl]
    rfl
theorem c34 (n : Int) (h0 : -9223372036854775807 ≤ n) (h1 : n ≤ 9223372036854775807) : C34 (n, ()) = some ((bif decide (n < 0) then [45] else []) ++ hexU n.natAbs, ()) := by
  have hl := hexF_len dgl 16 n.natAbs
  have ha := hexF_all (fun b => decide (b.toNat < 128)) dgl dgl_low 16 n.natAbs
  have hm := hexF_map Lib.upperB dgl dgu dgu_up 16 n.natAbs
  simp only [C34, F34, fmt16 n h0 h1, Option.bind_some, C67]
  cases decide (n < 0) with
  | false =>
    rw [if_pos ⟨by simp; omega, by simpa using ha⟩]
    simp only [cond_false, List.nil_append, hm, Option.bind_some, hexU]
  | true =>
    rw [if_pos ⟨by simp; omega, by simpa using ha⟩]
    simp only [cond_true, List.cons_append, List.nil_append, List.map_cons, hm, Option.bind_some, hexU]
    rfl
theorem refhex : ∀ (f n m : Nat), n < 16 ^ (f + 1) → n < 9223372036854775808 → f < m → recN (fun G => F37 G) m ((n : Int), ()) = some (hexF dgu (f + 1) n, ())
  | _, _, 0, _, _, hm => by omega
  | f, n, m + 1, hn, hb, hm => by
    show F37 (recN (fun G => F37 G) m) ((n : Int), ()) = _
    by_cases h16 : n < 16
    · have e : decide ((n : Int) < 16) = true := by simp; omega
      have ew : IntKind.i64.wrap ((n : Int) + 1) = ((n + 1 : Nat) : Int) := wrN _ (by omega)
      have e1 : decide (0 ≤ ((n + 1 : Nat) : Int)) = true := by simp; omega
      have e2 : decide (((n + 1 : Nat) : Int) ≤ (([48, 49, 50, 51, 52, 53, 54, 55, 56, 57, 65, 66, 67, 68, 69, 70].length : Nat) : Int)) = true := by simp; omega
      have e3 : decide (0 ≤ (n : Int)) = true := by simp
      have e4 : decide ((n : Int) ≤ ((n + 1 : Nat) : Int)) = true := by simp; omega
      have hs := dgu_slice n h16
      simp only [F37, e, ew, e1, e2, e3, e4, cond_true, Bool.and_self, Int.toNat_natCast]
      rw [hexF_lo _ _ _ h16]
      exact congrArg (fun x => some (x, ())) hs
    · match f, hn with
      | 0, hn => omega
      | f + 1, hn =>
        have e : decide ((n : Int) < 16) = false := by simp; omega
        have ed : (n : Int).tdiv 16 = ((n / 16 : Nat) : Int) := by rw [tdiv_nn _ (by omega)]; omega
        have em : (n : Int).tmod 16 = ((n % 16 : Nat) : Int) := by rw [tmod_nn _ (by omega)]; omega
        have ew : IntKind.i64.wrap ((n / 16 : Nat) : Int) = ((n / 16 : Nat) : Int) := by rw [w64] <;> omega
        have i1 := refhex f (n / 16) m (by rw [Nat.pow_succ] at hn; omega) (by omega) (by omega)
        have i2 := refhex f (n % 16) m (by have : n % 16 < 16 := Nat.mod_lt _ (by omega); have := Nat.one_le_two_pow (n := f); rw [Nat.pow_succ]; have := Nat.one_le_pow f 16 (by omega); omega) (by omega) (by omega)
        have hl := hexF_len dgu (f + 1) (n / 16)
        rw [hexF_lo _ _ _ (Nat.mod_lt _ (by omega))] at i2
        rw [hexF_hi _ _ _ (by omega)]
        have hlen : (hexF dgu (f + 1) (n / 16)).length ≤ 9223372036854775000 := by
          have := hexF_more dgu 15 (f + 1) (n / 16)
          by_cases hf : f ≤ 15
          · omega
          · have h2 := hexF_more dgu 15 f (n / 16) (by omega) (by omega)
            rw [h2]
            have := hexF_len dgu (15 + 1) (n / 16)
            omega
        have el : decide ((hexF dgu (f + 1) (n / 16)).length + [dgu (n % 16)].length ≤ 9223372036854775807) = true := by simp; omega
        simp only [F37, e, ed, em, ew, i1, i2, el, Option.bind_some, cond_true, cond_false]
theorem c37 (n : Nat) (hb : n < 9223372036854775808) : C37 ((n : Int), ()) = some (hexU n, ()) := by
  rw [C37]
  exact refhex 15 n big (by omega) hb (by unfold big; omega)
end Go.Proofs.YtmfcepdbpdihgaaGreatDoor.W
set_option linter.unusedVariables false
set_option linter.unusedSimpArgs false
set_option maxRecDepth 100000
namespace Go.Proofs.YtmfcepdbpdihgaaGreatDoor.W
open Go Go.Ae Go.Pl
theorem bd64 {x : Int} (h : (Lit.int .i64 x).wf = true) : -9223372036854775808 ≤ x ∧ x ≤ 9223372036854775807 := by
  simp [Lit.wf, IntKind.min, IntKind.max, IntKind.signed, IntKind.bits] at h
  omega
def stS (n : Int) : List UInt8 := if n < 100 ∨ 999 < n then [53, 46, 48, 46, 48] else [b8 (48 + n / 100), 46, b8 (48 + n / 10 % 10), 46, b8 (48 + n % 10)]
theorem dig3 (m : Nat) (h0 : 100 ≤ m) (h1 : m ≤ 999) : digF 20 m = [UInt8.ofNat (48 + m / 100), UInt8.ofNat (48 + m / 10 % 10), UInt8.ofNat (48 + m % 10)] := by
  have e1 : ¬ m < 10 := by omega
  have e2 : ¬ m / 10 < 10 := by omega
  have e3 : m / 10 / 10 < 10 := by omega
  have e4 : m / 10 / 10 = m / 100 := by omega
  rw [digF, if_neg e1, digF, if_neg e2, digF, if_pos e3, e4]
  rfl
theorem b8n {n : Int} {m : Nat} (h : n = m) : b8 (48 + n) = UInt8.ofNat (48 + m) := by
  subst h; unfold b8; congr 1
theorem c13 (n : Int) (h0 : -9223372036854775808 ≤ n) (h1 : n ≤ 9223372036854775807) : C13 (n, ()) = some (stS n, ()) := by
  unfold stS
  by_cases ha : n < 100
  · have d : decide (n < 100) = true := by simp [ha]
    simp only [C13, F13, d, cond_true, if_pos (Or.inl ha : n < 100 ∨ 999 < n)]
  · by_cases hb : n > 999
    · have d : decide (n < 100) = false := by simp [ha]
      have d2 : decide (n > 999) = true := by simp; omega
      simp only [C13, F13, d, d2, cond_true, cond_false, if_pos (Or.inr hb : n < 100 ∨ 999 < n)]
    · have d : decide (n < 100) = false := by simp [ha]
      have d2 : decide (n > 999) = false := by simp; omega
      have hI : C38 (n, ()) = some ([UInt8.ofNat (48 + n.toNat / 100), UInt8.ofNat (48 + n.toNat / 10 % 10), UInt8.ofNat (48 + n.toNat % 10)], ()) := by
        rw [C38, if_pos ⟨h0, h1⟩]
        unfold itoaF
        rw [if_neg (by omega), dig3 _ (by omega) (by omega)]
      have hneg : ¬ (n < 100 ∨ 999 < n) := by omega
      rw [if_neg hneg, b8n (n := n / 100) (m := n.toNat / 100) (by omega), b8n (n := n / 10 % 10) (m := n.toNat / 10 % 10) (by omega), b8n (n := n % 10) (m := n.toNat % 10) (by omega)]
      simp only [C13, F13, d, d2, cond_false, hI, Option.bind_some]
      rfl
theorem num10 (m : Nat) (n : Nat) (h : n < 10) (hm : 0 < m) : recN (fun G => F39 G) m ((n : Int), ()) = some ([UInt8.ofNat (48 + n)], ()) := by
  match m with
  | m + 1 =>
    show F39 _ ((n : Int), ()) = _
    rcases (show n = 0 ∨ n = 1 ∨ n = 2 ∨ n = 3 ∨ n = 4 ∨ n = 5 ∨ n = 6 ∨ n = 7 ∨ n = 8 ∨ n = 9 by omega) with rfl | rfl | rfl | rfl | rfl | rfl | rfl | rfl | rfl | rfl <;> rfl
theorem c39_10 (n : Int) (h0 : 0 ≤ n) (h : n < 10) : C39 (n, ()) = some ([b8 (48 + n)], ()) := by
  rw [C39, b8n (m := n.toNat) (by omega)]
  have := num10 big n.toNat (by omega) (by unfold big; omega)
  rw [show ((n.toNat : Nat) : Int) = n by omega] at this
  exact this
theorem c14 (n : Int) : C14 (n, ()) = some (stS n, ()) := by
  unfold stS
  by_cases ha : n < 100
  · have d : decide (n < 100) = true := by simp [ha]
    simp only [C14, F14, d, cond_true, if_pos (Or.inl ha : n < 100 ∨ 999 < n)]
  · by_cases hb : n > 999
    · have d : decide (n < 100) = false := by simp [ha]
      have d2 : decide (n > 999) = true := by simp; omega
      simp only [C14, F14, d, d2, cond_true, cond_false, if_pos (Or.inr hb : n < 100 ∨ 999 < n)]
    · have d : decide (n < 100) = false := by simp [ha]
      have d2 : decide (n > 999) = false := by simp; omega
      have hneg : ¬ (n < 100 ∨ 999 < n) := by omega
      have e1 : IntKind.i64.wrap (n.tdiv 100) = n / 100 := by rw [tdiv_nn _ (by omega), w64] <;> omega
      have e2 : (IntKind.i64.wrap (n.tdiv 10)).tmod 10 = n / 10 % 10 := by rw [tdiv_nn _ (by omega), w64 (by omega) (by omega), tmod_nn _ (by omega)]
      have e3 : n.tmod 10 = n % 10 := tmod_nn _ (by omega)
      rw [if_neg hneg]
      simp only [C14, F14, d, d2, cond_false, e1, e2, e3, c39_10 (n / 100) (by omega) (by omega), c39_10 (n / 10 % 10) (by omega) (by omega), c39_10 (n % 10) (by omega) (by omega), Option.bind_some]
      rfl
theorem stS_inj {n m : Int} (hn : ¬ (n < 100 ∨ 999 < n)) (hm : ¬ (m < 100 ∨ 999 < m)) : (stS n == stS m) = (n == m) := by
  have hn' : stS n = [b8 (48 + n / 100), 46, b8 (48 + n / 10 % 10), 46, b8 (48 + n % 10)] := by rw [stS, if_neg hn]
  have hm' : stS m = [b8 (48 + m / 100), 46, b8 (48 + m / 10 % 10), 46, b8 (48 + m % 10)] := by rw [stS, if_neg hm]
  by_cases h : n = m
  · subst h; simp
  · rw [ibF h]
    rw [beq_eq_false_iff_ne]
    intro e
    rw [hn', hm'] at e
    simp only [List.cons.injEq, and_true, true_and] at e
    obtain ⟨a, b, c⟩ := e
    have a' := congrArg cv a
    have b' := congrArg cv b
    have c' := congrArg cv c
    rw [b8_cv (by omega) (by omega), b8_cv (by omega) (by omega)] at a' b' c'
    omega
end Go.Proofs.YtmfcepdbpdihgaaGreatDoor.W
set_option linter.unusedVariables false
set_option linter.unusedSimpArgs false
set_option maxRecDepth 100000
namespace Go.Proofs.YtmfcepdbpdihgaaGreatDoor.W
open Go Go.Ae Go.Pl
def plainB (v : Int) : Bool := decide (32 ≤ v) && (decide (v ≤ 126) && !decide (v = 92))
theorem plainB_iff {v : Int} : plainB v = true ↔ 32 ≤ v ∧ v ≤ 126 ∧ v ≠ 92 := by simp [plainB]
theorem c24 (v : Int) : C24 (v, ()) = some (plainB v, ()) := by
  simp only [C24, F24, plainB]
  by_cases h1 : v ≥ 32 <;> by_cases h2 : v ≤ 126 <;> by_cases h3 : v = 92 <;> simp [h1, h2, h3] <;> omega
theorem c29 (v : Int) : C29 (v, ()) = some (plainB v, ()) := by
  simp only [C29, F29, plainB]
  by_cases h1 : v ≥ 32 <;> by_cases h2 : v ≤ 126 <;> by_cases h3 : v = 92 <;> simp [h1, h2, h3] <;> omega
def escR (v : Int) : List UInt8 := if plainB v = true then [b8 v] else [92, 120, 123] ++ hexU v.toNat ++ [125]
def escB (c : UInt8) : List UInt8 := [92, 120, 123, 48, 48] ++ hexU c.toNat ++ [125]
def esc (s : List UInt8) : List UInt8 := (rl s).flatMap escR ++ (rr s).flatMap escB
theorem hexU_len (n : Nat) : (hexU n).length ≤ 16 := hexF_len dgu 16 n
theorem escR_len (v : Int) : (escR v).length ≤ 20 := by
  unfold escR; have := hexU_len v.toNat; split <;> simp; omega
theorem escB_len (c : UInt8) : (escB c).length ≤ 22 := by
  unfold escB; have := hexU_len c.toNat; simp; omega
theorem flat_len {α : Type} (f : α → List UInt8) (k : Nat) (hf : ∀ a, (f a).length ≤ k) : ∀ l : List α, (l.flatMap f).length ≤ k * l.length
  | [] => by simp
  | a :: l => by have := flat_len f k hf l; have := hf a; rw [List.flatMap_cons, List.length_append, List.length_cons, Nat.mul_succ]; omega
theorem esc_len (s : List UInt8) : (esc s).length ≤ 42 * s.length := by
  unfold esc
  have h1 := flat_len escR 20 escR_len (rl s)
  have h2 := flat_len escB 22 escB_len (rr s)
  have := rl_len s
  have := rr_le s
  rw [List.length_append]; omega
theorem c32 (c : Int) (out : List UInt8) (h : out.length ≤ 100000000000000) : C32 (c, out, ()) = some (out ++ [b8 c], ()) := by
  have e : decide (out.length + 1 ≤ 140737488355328 / 1) = true := by simp; omega
  simp only [C32, F32, C66, bldChk, Option.bind_some, List.length_cons, List.length_nil, Nat.zero_add, e, cond_true]
  rfl
theorem c33 (s out : List UInt8) (h : out.length + s.length ≤ 100000000000000) : C33 (s, out, ()) = some ((s.length : Int), out ++ s, ()) := by
  have e : decide (out.length + s.length ≤ 140737488355328 / 1) = true := by simp; omega
  simp only [C33, F33, C66, bldChk, Option.bind_some, e, cond_true]
theorem right_hex {v : Int} (hr : rightB v = true) : C34 (IntKind.i64.wrap v, ()) = some (hexU v.toNat, ()) := by
  have hi := rightB_iff.1 hr
  rw [w64 (by omega) (by omega), c34 v (by omega) (by omega)]
  have d : decide (v < 0) = false := by simp; omega
  rw [d, show v.natAbs = v.toNat by omega]
  rfl
theorem byte_hex (c : UInt8) : C34 (IntKind.i64.wrap ((c.toNat : Nat) : Int), ()) = some (hexU c.toNat, ()) := by
  have hc := c.toNat_lt
  rw [w64 (by omega) (by omega), c34 _ (by omega) (by omega)]
  have d : decide (((c.toNat : Nat) : Int) < 0) = false := by simp
  rw [d]; rfl
theorem erun0 (s : List UInt8) (at0 : Int) : ∀ (r pre : List Int) (N : Int) (out : List UInt8) (n : Nat), N = ((pre ++ r).length : Int) → (∀ v ∈ r, rightB v = true) → pre.length + r.length ≤ 1000000000 → out.length + 20 * r.length ≤ 1000000000000 → r.length < n →
    loopN (F11_l0 C24 C32 C33 C34) n (s, at0, pre ++ r, N, (pre.length : Int), out, ()) = some (s, at0, out ++ r.flatMap escR, ())
  | _, _, _, _, 0, _, _, _, _, hn => by omega
  | [], pre, N, out, n + 1, hN, hr, hl, ho, hn => by
    subst hN
    refine loopN_inr ?_
    have hi : decide ((pre.length : Int) < (pre.length : Int)) = false := by simp
    simp only [F11_l0, List.append_nil, hi, cond_false, List.flatMap_nil]
  | v :: r, pre, N, out, n + 1, hN, hr, hl, ho, hn => by
    subst hN
    simp only [List.length_cons] at hl ho hn
    have hi : decide ((pre.length : Int) < ((pre ++ v :: r).length : Int)) = true := by simp; omega
    have hi0 : decide (0 ≤ (pre.length : Int)) = true := by simp
    have hw : IntKind.i64.wrap ((pre.length : Int) + 1) = ((pre.length + 1 : Nat) : Int) := wrN _ (by omega)
    have hg : (pre ++ v :: r).getD ((pre.length : Int)).toNat 0 = v := by rw [Int.toNat_natCast]; exact gd rfl
    have hv := hr v List.mem_cons_self
    have hlen := escR_len v
    have step : F11_l0 C24 C32 C33 C34 (s, at0, pre ++ v :: r, ((pre ++ v :: r).length : Int), (pre.length : Int), out, ()) = some (.inl (s, at0, pre ++ v :: r, ((pre ++ v :: r).length : Int), ((pre.length + 1 : Nat) : Int), out ++ escR v, ())) := by
      cases hp : plainB v with
      | true =>
        have hp' := plainB_iff.1 hp
        have hwb := c32 (IntKind.u8.wrap v) out (by omega)
        rw [wu8 (by omega) (by omega)] at hwb
        have hu : IntKind.u8.wrap v = v := wu8 (by omega) (by omega)
        simp only [F11_l0, hi, hi0, hg, hw, hu, hwb, c24, hp, Option.bind_some, cond_true, Bool.and_self, escR, if_true]
      | false =>
        have hh := hexU_len v.toNat
        have e1 : decide ([92, 120, 123].length + (hexU v.toNat).length ≤ 9223372036854775807) = true := by simp; omega
        have e2 : decide (([92, 120, 123] ++ hexU v.toNat).length + [125].length ≤ 9223372036854775807) = true := by simp; omega
        have hws := c33 ([92, 120, 123] ++ hexU v.toNat ++ [125]) out (by simp; omega)
        simp only [F11_l0, hi, hi0, hg, hw, right_hex hv, e1, e2, hws, c24, hp, Option.bind_some, cond_true, cond_false, Bool.and_self, escR]
        rfl
    rw [loopN_inl step, shift, show ((pre.length + 1 : Nat) : Int) = ((pre ++ [v]).length : Int) by simp, erun0 s at0 r (pre ++ [v]) _ (out ++ escR v) n (by simp) (fun u hu => hr u (List.mem_cons_of_mem _ hu)) (by simp; omega) (by rw [List.length_append]; omega) (by omega)]
    rw [List.flatMap_cons, List.append_assoc]
theorem erun1 : ∀ (r pre : List UInt8) (N : Int) (out : List UInt8) (n : Nat), N = ((pre ++ r).length : Int) → pre.length + r.length ≤ 1000000000 → out.length + 22 * r.length ≤ 1000000000000 → r.length < n →
    loopN (F11_l1 C33 C34) n (pre ++ r, N, (pre.length : Int), out, ()) = some (out ++ r.flatMap escB, ())
  | _, _, _, _, 0, _, _, _, hn => by omega
  | [], pre, N, out, n + 1, hN, hl, ho, hn => by
    subst hN
    refine loopN_inr ?_
    have hi : decide ((pre.length : Int) < (pre.length : Int)) = false := by simp
    simp only [F11_l1, List.append_nil, hi, cond_false, List.flatMap_nil]
  | c :: r, pre, N, out, n + 1, hN, hl, ho, hn => by
    subst hN
    simp only [List.length_cons] at hl ho hn
    have hi : decide ((pre.length : Int) < ((pre ++ c :: r).length : Int)) = true := by simp; omega
    have hi0 : decide (0 ≤ (pre.length : Int)) = true := by simp
    have hw : IntKind.i64.wrap ((pre.length : Int) + 1) = ((pre.length + 1 : Nat) : Int) := wrN _ (by omega)
    have hg : (pre ++ c :: r).getD ((pre.length : Int)).toNat 0 = c := by rw [Int.toNat_natCast]; exact gd rfl
    have hlen := escB_len c
    have hh := hexU_len c.toNat
    have e1 : decide ([92, 120, 123, 48, 48].length + (hexU c.toNat).length ≤ 9223372036854775807) = true := by simp; omega
    have e2 : decide (([92, 120, 123, 48, 48] ++ hexU c.toNat).length + [125].length ≤ 9223372036854775807) = true := by simp; omega
    have hws := c33 ([92, 120, 123, 48, 48] ++ hexU c.toNat ++ [125]) out (by simp; omega)
    have step : F11_l1 C33 C34 (pre ++ c :: r, ((pre ++ c :: r).length : Int), (pre.length : Int), out, ()) = some (.inl (pre ++ c :: r, ((pre ++ c :: r).length : Int), ((pre.length + 1 : Nat) : Int), out ++ escB c, ())) := by
      simp only [F11_l1, hi, hi0, hg, hw, byte_hex, e1, e2, hws, Option.bind_some, cond_true, Bool.and_self, escB]
    rw [loopN_inl step, shift, show ((pre.length + 1 : Nat) : Int) = ((pre ++ [c]).length : Int) by simp, erun1 r (pre ++ [c]) _ (out ++ escB c) n (by simp) (by simp; omega) (by rw [List.length_append]; omega) (by omega)]
    rw [List.flatMap_cons, List.append_assoc]
theorem c11 (s : List UInt8) (hb : s.length ≤ 1000000) : C11 (s, ()) = some (esc s, ()) := by
  have hrl := rl_len s
  have hrr := rr_le s
  have h0 := erun0 s (badAt s) (rl s) [] ((rl s).length : Int) [] big (by simp) (rl_right s) (by simp; omega) (by simp; omega) (by unfold big; omega)
  have h0' : C11_l0 (s, badAt s, rl s, ((rl s).length : Int), 0, [], ()) = _ := h0
  have hf := flat_len escR 20 escR_len (rl s)
  have hB : ∀ x : List UInt8, C35 (x, ()) = some (x, ()) := fun x => rfl
  simp only [C11, F11, d21 s hb, h0', Option.bind_some, List.nil_append]
  by_cases ha : badAt s ≥ 0
  · obtain ⟨hd, hlt⟩ := badAt_drop ha
    have e1 : decide (badAt s ≥ 0) = true := by simp [ha]
    have e2 : decide (0 ≤ badAt s) = true := by simp; omega
    have e3 : decide (badAt s ≤ (s.length : Int)) = true := by simp; omega
    have e4 : decide ((rr s).length ≤ 9223372036854775807) = true := by simp; omega
    have h1 := erun1 (rr s) [] ((rr s).length : Int) ((rl s).flatMap escR) big (by simp) (by simp; omega) (by omega) (by unfold big; omega)
    have h1' : C11_l1 (rr s, ((rr s).length : Int), 0, (rl s).flatMap escR, ()) = _ := h1
    simp only [e1, e2, e3, hd, e4, h1', hB, Option.bind_some, cond_true, Bool.and_self]
    rfl
  · have e1 : decide (badAt s ≥ 0) = false := by simp; omega
    have hn := badAt_neg (s := s) (by omega)
    simp only [e1, hB, Option.bind_some, cond_false, esc, hn, List.flatMap_nil, List.append_nil]
end Go.Proofs.YtmfcepdbpdihgaaGreatDoor.W
