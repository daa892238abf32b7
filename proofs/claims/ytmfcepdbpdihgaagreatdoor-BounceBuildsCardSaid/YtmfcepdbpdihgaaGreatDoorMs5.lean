/- The texts of the proof, one behind the other: W7, W8, PUtf, PEnc, PEnc2, PHex, PStat, PEsc, PVal, PUnesc, PUnesc2. -/
import Derived.Test.YtmfcepdbpdihgaaGreatDoorMs4
import Derived.Test.YtmfcepdbpdihgaaGreatDoorMs2
set_option maxRecDepth 100000
set_option linter.unusedVariables false
namespace Go.Proofs.YtmfcepdbpdihgaaGreatDoor.W
open Go Go.Ae
def F167_l0  : Int × List UInt8 × Int × Unit → Option ((Int × List UInt8 × Int × Unit) ⊕ (Unit ⊕ (Bool × Unit))) := fun (x0, x1, x2, _) =>
 bif decide (x2 < (↑x1.length : Int)) then
 bif decide (0 ≤ x2) && decide (x2 < (↑x1.length : Int)) then
 bif (↑(x1.getD x2.toNat 0).toNat : Int) == x0 then some (Sum.inr (Sum.inr (true, ())))
 else some (Sum.inl (x0, x1, IntKind.i64.wrap (x2 + 1), ()))
 else none
 else some (Sum.inr (Sum.inl ()))
theorem h167_l0  (v : HS f167_l0_ins) : aev Γ (fun f => Ae.lookA f []) 0 (subc (code Tryz.f167) [1, 1, 1, 0, 1, 0, 0]) .nil (stof f167_l0_ins v) (around 0 f167_l0_ins f167_l0_outs) = F167_l0 v := by kernel_rfl
def C167_l0 (v : Int × List UInt8 × Int × Unit) : Option (Unit ⊕ (Bool × Unit)) := loopN (F167_l0) big v
theorem k167_l0 : FragOk Tryz.prog 0 (fun Q a w => (Code.loop (subc (code Tryz.f167) [1, 1, 1, 0, 1, 0, 0])).wp Tryz.prog Q a w) ⟨f167_l0_ins, f167_l0_outs, C167_l0⟩ :=
 frag_loop (ins := f167_l0_ins) (os := f167_l0_outs) (np := 0) (n := .nil) (F := F167_l0) hm hΓ (K := (fun f => Ae.lookA f [])) (kok_nil _) (fun _ => big)
 (ann_nil _) (fun v => h167_l0 v)
def F167 (f167_l0 : Int × List UInt8 × Int × Unit → Option (Unit ⊕ (Bool × Unit))) : Int × Unit → Option (Bool × Unit) := fun (x0, _) =>
 bif decide (x0 ≥ 97) then
 bif decide (x0 ≤ 122) then some (true, ())
 else
 bif decide (x0 ≥ 65) then
 bif decide (x0 ≤ 90) then some (true, ())
 else
 bif decide (x0 ≥ 48) then
 bif decide (x0 ≤ 57) then some (true, ())
 else
 bif decide (x0 ≥ 128) then some (true, ())
 else
 (f167_l0
 (x0,
 [33, 35, 36, 37, 38, 39, 42, 43, 45, 47, 61, 63, 94, 95] ++
 [96] ++
 [123, 124, 125, 126],
 0, ())).bind
 fun val => Sum.elim (fun val => some (false, ())) (fun val => some (val.1, ())) val
 else
 bif decide (x0 ≥ 128) then some (true, ())
 else
 (f167_l0
 (x0,
 [33, 35, 36, 37, 38, 39, 42, 43, 45, 47, 61, 63, 94, 95] ++ [96] ++
 [123, 124, 125, 126],
 0, ())).bind
 fun val => Sum.elim (fun val => some (false, ())) (fun val => some (val.1, ())) val
 else
 bif decide (x0 ≥ 48) then
 bif decide (x0 ≤ 57) then some (true, ())
 else
 bif decide (x0 ≥ 128) then some (true, ())
 else
 (f167_l0
 (x0,
 [33, 35, 36, 37, 38, 39, 42, 43, 45, 47, 61, 63, 94, 95] ++ [96] ++
 [123, 124, 125, 126],
 0, ())).bind
 fun val => Sum.elim (fun val => some (false, ())) (fun val => some (val.1, ())) val
 else
 bif decide (x0 ≥ 128) then some (true, ())
 else
 (f167_l0
 (x0,
 [33, 35, 36, 37, 38, 39, 42, 43, 45, 47, 61, 63, 94, 95] ++ [96] ++
 [123, 124, 125, 126],
 0, ())).bind
 fun val => Sum.elim (fun val => some (false, ())) (fun val => some (val.1, ())) val
 else
 bif decide (x0 ≥ 65) then
 bif decide (x0 ≤ 90) then some (true, ())
 else
 bif decide (x0 ≥ 48) then
 bif decide (x0 ≤ 57) then some (true, ())
 else
 bif decide (x0 ≥ 128) then some (true, ())
 else
 (f167_l0
 (x0,
 [33, 35, 36, 37, 38, 39, 42, 43, 45, 47, 61, 63, 94, 95] ++ [96] ++
 [123, 124, 125, 126],
 0, ())).bind
 fun val => Sum.elim (fun val => some (false, ())) (fun val => some (val.1, ())) val
 else
 bif decide (x0 ≥ 128) then some (true, ())
 else
 (f167_l0
 (x0,
 [33, 35, 36, 37, 38, 39, 42, 43, 45, 47, 61, 63, 94, 95] ++ [96] ++
 [123, 124, 125, 126],
 0, ())).bind
 fun val => Sum.elim (fun val => some (false, ())) (fun val => some (val.1, ())) val
 else
 bif decide (x0 ≥ 48) then
 bif decide (x0 ≤ 57) then some (true, ())
 else
 bif decide (x0 ≥ 128) then some (true, ())
 else
 (f167_l0
 (x0,
 [33, 35, 36, 37, 38, 39, 42, 43, 45, 47, 61, 63, 94, 95] ++ [96] ++
 [123, 124, 125, 126],
 0, ())).bind
 fun val => Sum.elim (fun val => some (false, ())) (fun val => some (val.1, ())) val
 else
 bif decide (x0 ≥ 128) then some (true, ())
 else
 (f167_l0
 (x0,
 [33, 35, 36, 37, 38, 39, 42, 43, 45, 47, 61, 63, 94, 95] ++ [96] ++
 [123, 124, 125, 126],
 0, ())).bind
 fun val => Sum.elim (fun val => some (false, ())) (fun val => some (val.1, ())) val
theorem h167 (f167_l0 : HS f167_l0_ins → Option (OTy f167_l0_outs)) (v : HS f167_ins) : afun Γ (fun f => Ae.lookA f []) 0 Tryz.f167.ntmps Tryz.f167.results.toList (code Tryz.f167) (.seq .nil (.seq .nil (.seq .nil (.seq (.seq .nil (.blk (.loop ⟨f167_l0_ins, f167_l0_outs, f167_l0⟩))) .nil)))) (em id f167_ins v).1 (em id f167_ins v).2 (ofin 0 f167_outs) = F167 f167_l0 v := by kernel_rfl
def C167 (v : Int × Unit) : Option (Bool × Unit) := F167 C167_l0 v
theorem ok167 : FnOk Tryz.prog 167 ⟨f167_ins, f167_outs, C167⟩ :=
 fn_ok (np := 0) (n := (.seq .nil (.seq .nil (.seq .nil (.seq (.seq .nil (.blk (.loop ⟨f167_l0_ins, f167_l0_outs, C167_l0⟩))) .nil))))) hm hΓ (K := (fun f => Ae.lookA f [])) (kok_nil _) Tryz.func167 (c := code Tryz.f167) (by kernel_rfl) (name_ne (by kernel_rfl))
 (ann_seq (a := (subc (code Tryz.f167) [0])) (b := (subc (code Tryz.f167) [1])) (by kernel_rfl) (ann_nil _) (ann_seq (a := (subc (code Tryz.f167) [1, 0])) (b := (subc (code Tryz.f167) [1, 1])) (by kernel_rfl) (ann_nil _) (ann_seq (a := (subc (code Tryz.f167) [1, 1, 0])) (b := (subc (code Tryz.f167) [1, 1, 1])) (by kernel_rfl) (ann_nil _) (ann_seq (a := (subc (code Tryz.f167) [1, 1, 1, 0])) (b := (subc (code Tryz.f167) [1, 1, 1, 1])) (by kernel_rfl) (ann_seq (a := (subc (code Tryz.f167) [1, 1, 1, 0, 0])) (b := (subc (code Tryz.f167) [1, 1, 1, 0, 1])) (by kernel_rfl) (ann_nil _) (ann_blk (x := (subc (code Tryz.f167) [1, 1, 1, 0, 1, 0])) (by kernel_rfl) (ann_loop (x := (subc (code Tryz.f167) [1, 1, 1, 0, 1, 0, 0])) (by kernel_rfl) k167_l0))) (ann_nil _))))) (fun v => Nat.le_of_ble_eq_true (by kernel_rfl)) (fun v => h167 C167_l0 v)
def F143_l0 (f167 : Int × Unit → Option (Bool × Unit)) : List UInt8 × Int × Unit → Option ((List UInt8 × Int × Unit) ⊕ ((List UInt8 × Unit) ⊕ (Bool × Unit))) := fun (x0, x1, _) =>
 bif decide (x1 < (↑x0.length : Int)) then
 bif decide (0 ≤ x1) && decide (x1 < (↑x0.length : Int)) then
 (f167 ((↑(x0.getD x1.toNat 0).toNat : Int), ())).bind fun val =>
 bif !val.1 then some (Sum.inr (Sum.inr (false, ())))
 else some (Sum.inl (x0, IntKind.i64.wrap (x1 + 1), ()))
 else none
 else some (Sum.inr (Sum.inl (x0, ())))
theorem h143_l0 (f167 : HS f167_ins → Option (OTy f167_outs)) (v : HS f143_l0_ins) : aev Γ (fun f => Ae.lookA f [(167, ⟨f167_ins, f167_outs, f167⟩)]) 0 (subc (code Tryz.f143) [1, 0, 1, 0, 0]) .nil (stof f143_l0_ins v) (around 0 f143_l0_ins f143_l0_outs) = F143_l0 f167 v := by kernel_rfl
def C143_l0 (v : List UInt8 × Int × Unit) : Option ((List UInt8 × Unit) ⊕ (Bool × Unit)) := loopN (F143_l0 C167) big v
theorem k143_l0 : FragOk Tryz.prog 0 (fun Q a w => (Code.loop (subc (code Tryz.f143) [1, 0, 1, 0, 0])).wp Tryz.prog Q a w) ⟨f143_l0_ins, f143_l0_outs, C143_l0⟩ :=
 frag_loop (ins := f143_l0_ins) (os := f143_l0_outs) (np := 0) (n := .nil) (F := F143_l0 C167) hm hΓ (K := (fun f => Ae.lookA f [(167, ⟨f167_ins, f167_outs, C167⟩)])) (kok_cons ok167 (kok_nil _)) (fun _ => big)
 (ann_nil _) (fun v => h143_l0 C167 v)
def F143 (f143_l0 : List UInt8 × Int × Unit → Option ((List UInt8 × Unit) ⊕ (Bool × Unit))) : List UInt8 × Unit → Option (Bool × Unit) := fun (x0, _) =>
 (f143_l0 (x0, 0, ())).bind fun val =>
 Sum.elim (fun val => some (bif val.1 == [] then false else true, ()))
 (fun val => some (val.1, ())) val
theorem h143 (f143_l0 : HS f143_l0_ins → Option (OTy f143_l0_outs)) (v : HS f143_ins) : afun Γ (fun f => Ae.lookA f []) 0 Tryz.f143.ntmps Tryz.f143.results.toList (code Tryz.f143) (.seq .nil (.seq (.seq .nil (.blk (.loop ⟨f143_l0_ins, f143_l0_outs, f143_l0⟩))) .nil)) (em id f143_ins v).1 (em id f143_ins v).2 (ofin 0 f143_outs) = F143 f143_l0 v := by kernel_rfl
def C143 (v : List UInt8 × Unit) : Option (Bool × Unit) := F143 C143_l0 v
theorem ok143 : FnOk Tryz.prog 143 ⟨f143_ins, f143_outs, C143⟩ :=
 fn_ok (np := 0) (n := (.seq .nil (.seq (.seq .nil (.blk (.loop ⟨f143_l0_ins, f143_l0_outs, C143_l0⟩))) .nil))) hm hΓ (K := (fun f => Ae.lookA f [])) (kok_nil _) Tryz.func143 (c := code Tryz.f143) (by kernel_rfl) (name_ne (by kernel_rfl))
 (ann_seq (a := (subc (code Tryz.f143) [0])) (b := (subc (code Tryz.f143) [1])) (by kernel_rfl) (ann_nil _) (ann_seq (a := (subc (code Tryz.f143) [1, 0])) (b := (subc (code Tryz.f143) [1, 1])) (by kernel_rfl) (ann_seq (a := (subc (code Tryz.f143) [1, 0, 0])) (b := (subc (code Tryz.f143) [1, 0, 1])) (by kernel_rfl) (ann_nil _) (ann_blk (x := (subc (code Tryz.f143) [1, 0, 1, 0])) (by kernel_rfl) (ann_loop (x := (subc (code Tryz.f143) [1, 0, 1, 0, 0])) (by kernel_rfl) k143_l0))) (ann_nil _))) (fun v => Nat.le_of_ble_eq_true (by kernel_rfl)) (fun v => h143 C143_l0 v)
def F103_c0 (f143 : List UInt8 × Unit → Option (Bool × Unit)) : List UInt8 × Int × Int × Bool × Unit → Option ((Bool × Unit) ⊕ (List UInt8 × Int × Int × Unit)) := fun (x0, x1, x2, x3, _) =>
 bif x3 then
 bif decide (0 ≤ x2) && decide (x2 ≤ (↑x0.length : Int)) then
 bif decide (0 ≤ x1) && decide (x1 ≤ x2) then
 (f143 (List.drop x1.toNat (List.take x2.toNat x0), ())).bind fun val =>
 bif !val.1 then some (Sum.inl (false, ()))
 else some (Sum.inr (x0, IntKind.i64.wrap (x2 + 1), x2, ()))
 else none
 else none
 else some (Sum.inr (x0, x1, x2, ()))
theorem h103_c0 (f143 : HS f143_ins → Option (OTy f143_outs)) (v : HS f103_c0_ins) : aev Γ (fun f => Ae.lookA f [(143, ⟨f143_ins, f143_outs, f143⟩)]) 0 (subc (code Tryz.f103) [1, 1, 0, 1, 0, 0, 1, 0, 0, 1]) .nil (stof f103_c0_ins v) (oout 0 f103_c0_outs) = F103_c0 f143 v := by kernel_rfl
def C103_c0 (v : List UInt8 × Int × Int × Bool × Unit) : Option ((Bool × Unit) ⊕ (List UInt8 × Int × Int × Unit)) := F103_c0 C143 v
theorem k103_c0 : FragOk Tryz.prog 0 (fun Q a w => ((subc (code Tryz.f103) [1, 1, 0, 1, 0, 0, 1, 0, 0, 1])).wp Tryz.prog Q a w) ⟨f103_c0_ins, f103_c0_outs, C103_c0⟩ :=
 frag_code (ins := f103_c0_ins) (os := f103_c0_outs) (np := 0) (n := .nil) (F := C103_c0) hm hΓ (K := (fun f => Ae.lookA f [(143, ⟨f143_ins, f143_outs, C143⟩)])) (kok_cons ok143 (kok_nil _))
 (ann_nil _) (fun v => h103_c0 C143 v)
def F103_l0 (f103_c0 : List UInt8 × Int × Int × Bool × Unit → Option ((Bool × Unit) ⊕ (List UInt8 × Int × Int × Unit))) : List UInt8 × Int × Int × Unit → Option ((List UInt8 × Int × Int × Unit) ⊕ (Unit ⊕ (Bool × Unit))) := fun (x0, x1, x2, _) =>
 bif decide (x2 ≤ (↑x0.length : Int)) then
 bif x2 == (↑x0.length : Int) then
 (f103_c0 (x0, x1, x2, true, ())).bind fun val =>
 Sum.elim (fun val => some (Sum.inr (Sum.inr (val.1, ()))))
 (fun val => some (Sum.inl (val.1, val.2.1, IntKind.i64.wrap (val.2.2.1 + 1), ()))) val
 else
 bif decide (0 ≤ x2) && decide (x2 < (↑x0.length : Int)) then
 (f103_c0 (x0, x1, x2, (↑(x0.getD x2.toNat 0).toNat : Int) == 46, ())).bind fun val =>
 Sum.elim (fun val => some (Sum.inr (Sum.inr (val.1, ()))))
 (fun val => some (Sum.inl (val.1, val.2.1, IntKind.i64.wrap (val.2.2.1 + 1), ()))) val
 else none
 else some (Sum.inr (Sum.inl ()))
theorem h103_l0 (f103_c0 : HS f103_c0_ins → Option (OTy f103_c0_outs)) (v : HS f103_l0_ins) : aev Γ (fun f => Ae.lookA f []) 0 (subc (code Tryz.f103) [1, 1, 0, 1, 0, 0]) (.seq .nil (.seq (.blk (.cut .nil ⟨f103_c0_ins, f103_c0_outs, f103_c0⟩)) .nil)) (stof f103_l0_ins v) (around 0 f103_l0_ins f103_l0_outs) = F103_l0 f103_c0 v := by kernel_rfl
def C103_l0 (v : List UInt8 × Int × Int × Unit) : Option (Unit ⊕ (Bool × Unit)) := loopN (F103_l0 C103_c0) big v
theorem k103_l0 : FragOk Tryz.prog 0 (fun Q a w => (Code.loop (subc (code Tryz.f103) [1, 1, 0, 1, 0, 0])).wp Tryz.prog Q a w) ⟨f103_l0_ins, f103_l0_outs, C103_l0⟩ :=
 frag_loop (ins := f103_l0_ins) (os := f103_l0_outs) (np := 0) (n := (.seq .nil (.seq (.blk (.cut .nil ⟨f103_c0_ins, f103_c0_outs, C103_c0⟩)) .nil))) (F := F103_l0 C103_c0) hm hΓ (K := (fun f => Ae.lookA f [])) (kok_nil _) (fun _ => big)
 (ann_seq (a := (subc (code Tryz.f103) [1, 1, 0, 1, 0, 0, 0])) (b := (subc (code Tryz.f103) [1, 1, 0, 1, 0, 0, 1])) (by kernel_rfl) (ann_nil _) (ann_seq (a := (subc (code Tryz.f103) [1, 1, 0, 1, 0, 0, 1, 0])) (b := (subc (code Tryz.f103) [1, 1, 0, 1, 0, 0, 1, 1])) (by kernel_rfl) (ann_blk (x := (subc (code Tryz.f103) [1, 1, 0, 1, 0, 0, 1, 0, 0])) (by kernel_rfl) (ann_cut (a := (subc (code Tryz.f103) [1, 1, 0, 1, 0, 0, 1, 0, 0, 0])) (b := (subc (code Tryz.f103) [1, 1, 0, 1, 0, 0, 1, 0, 0, 1])) (by kernel_rfl) (ann_nil _) k103_c0)) (ann_nil _))) (fun v => h103_l0 C103_c0 v)
def F103 (f103_l0 : List UInt8 × Int × Int × Unit → Option (Unit ⊕ (Bool × Unit))) : List UInt8 × Unit → Option (Bool × Unit) := fun (x0, _) =>
 (f103_l0 (x0, 0, 0, ())).bind fun val =>
 Sum.elim (fun val => some (true, ())) (fun val => some (val.1, ())) val
theorem h103 (f103_l0 : HS f103_l0_ins → Option (OTy f103_l0_outs)) (v : HS f103_ins) : afun Γ (fun f => Ae.lookA f []) 0 Tryz.f103.ntmps Tryz.f103.results.toList (code Tryz.f103) (.seq .nil (.seq .nil (.seq (.seq .nil (.blk (.loop ⟨f103_l0_ins, f103_l0_outs, f103_l0⟩))) .nil))) (em id f103_ins v).1 (em id f103_ins v).2 (ofin 0 f103_outs) = F103 f103_l0 v := by kernel_rfl
def C103 (v : List UInt8 × Unit) : Option (Bool × Unit) := F103 C103_l0 v
theorem ok103 : FnOk Tryz.prog 103 ⟨f103_ins, f103_outs, C103⟩ :=
 fn_ok (np := 0) (n := (.seq .nil (.seq .nil (.seq (.seq .nil (.blk (.loop ⟨f103_l0_ins, f103_l0_outs, C103_l0⟩))) .nil)))) hm hΓ (K := (fun f => Ae.lookA f [])) (kok_nil _) Tryz.func103 (c := code Tryz.f103) (by kernel_rfl) (name_ne (by kernel_rfl))
 (ann_seq (a := (subc (code Tryz.f103) [0])) (b := (subc (code Tryz.f103) [1])) (by kernel_rfl) (ann_nil _) (ann_seq (a := (subc (code Tryz.f103) [1, 0])) (b := (subc (code Tryz.f103) [1, 1])) (by kernel_rfl) (ann_nil _) (ann_seq (a := (subc (code Tryz.f103) [1, 1, 0])) (b := (subc (code Tryz.f103) [1, 1, 1])) (by kernel_rfl) (ann_seq (a := (subc (code Tryz.f103) [1, 1, 0, 0])) (b := (subc (code Tryz.f103) [1, 1, 0, 1])) (by kernel_rfl) (ann_nil _) (ann_blk (x := (subc (code Tryz.f103) [1, 1, 0, 1, 0])) (by kernel_rfl) (ann_loop (x := (subc (code Tryz.f103) [1, 1, 0, 1, 0, 0])) (by kernel_rfl) k103_l0))) (ann_nil _)))) (fun v => Nat.le_of_ble_eq_true (by kernel_rfl)) (fun v => h103 C103_l0 v)
def F104_c0  : Int × Int × List UInt8 × Int × List UInt8 × Unit → Option (Int × Int × List UInt8 × Int × List UInt8 × Unit) := fun (x0, x1, x2, x3, x4, _) =>
 bif decide (0 ≤ x0) && decide (x0 < (↑x2.length : Int)) then
 bif decide (x4.length + [UInt8.ofNat (↑(x2.getD x0.toNat 0).toNat : Int).toNat].length ≤ 140737488355328 / 1) then
 some (x0, x1, x2, x3, x4 ++ [UInt8.ofNat (↑(x2.getD x0.toNat 0).toNat : Int).toNat], ())
 else none
 else none
theorem h104_c0  (v : HS f104_c0_ins) : aev Γ (fun f => Ae.lookA f []) 0 (subc (code Tryz.f104) [1, 0, 1, 0, 1, 1, 1, 1, 1, 0, 1, 0, 1, 0, 0, 1, 0, 0, 1]) .nil (stof f104_c0_ins v) (oout 0 f104_c0_outs) = F104_c0 v := by kernel_rfl
def C104_c0 (v : Int × Int × List UInt8 × Int × List UInt8 × Unit) : Option (Int × Int × List UInt8 × Int × List UInt8 × Unit) := F104_c0 v
theorem k104_c0 : FragOk Tryz.prog 0 (fun Q a w => ((subc (code Tryz.f104) [1, 0, 1, 0, 1, 1, 1, 1, 1, 0, 1, 0, 1, 0, 0, 1, 0, 0, 1])).wp Tryz.prog Q a w) ⟨f104_c0_ins, f104_c0_outs, C104_c0⟩ :=
 frag_code (ins := f104_c0_ins) (os := f104_c0_outs) (np := 0) (n := .nil) (F := C104_c0) hm hΓ (K := (fun f => Ae.lookA f [])) (kok_nil _)
 (ann_nil _) (fun v => h104_c0 v)
def F104_l0 (f104_c0 : Int × Int × List UInt8 × Int × List UInt8 × Unit → Option (Int × Int × List UInt8 × Int × List UInt8 × Unit)) : Int × Int × List UInt8 × Int × List UInt8 × Unit → Option ((Int × Int × List UInt8 × Int × List UInt8 × Unit) ⊕ (List UInt8 × Unit)) := fun (x0, x1, x2, x3, x4, _) =>
 bif decide (x0 < (↑x2.length : Int)) then
 bif decide (0 ≤ x0) && decide (x0 < (↑x2.length : Int)) then
 bif (↑(x2.getD x0.toNat 0).toNat : Int) == 34 then
 bif decide (x4.length + [92].length ≤ 140737488355328 / 1) then
 (f104_c0 (x0, x1, x2, x3, x4 ++ [92], ())).bind fun val =>
 some
 (Sum.inl
 (IntKind.i64.wrap (val.1 + 1), val.2.1, val.2.2.1, val.2.2.2.1,
 val.2.2.2.2.1, ()))
 else none
 else
 bif decide (0 ≤ x0) && decide (x0 < (↑x2.length : Int)) then
 bif (↑(x2.getD x0.toNat 0).toNat : Int) == 92 then
 bif decide (x4.length + [92].length ≤ 140737488355328 / 1) then
 (f104_c0 (x0, x1, x2, x3, x4 ++ [92], ())).bind fun val =>
 some
 (Sum.inl
 (IntKind.i64.wrap (val.1 + 1), val.2.1, val.2.2.1, val.2.2.2.1,
 val.2.2.2.2.1, ()))
 else none
 else
 (f104_c0 (x0, x1, x2, x3, x4, ())).bind fun val =>
 some
 (Sum.inl
 (IntKind.i64.wrap (val.1 + 1), val.2.1, val.2.2.1, val.2.2.2.1,
 val.2.2.2.2.1, ()))
 else none
 else none
 else some (Sum.inr (x4, ()))
theorem h104_l0 (f104_c0 : HS f104_c0_ins → Option (OTy f104_c0_outs)) (v : HS f104_l0_ins) : aev Γ (fun f => Ae.lookA f []) 0 (subc (code Tryz.f104) [1, 0, 1, 0, 1, 1, 1, 1, 1, 0, 1, 0, 1, 0, 0]) (.seq .nil (.seq (.blk (.cut .nil ⟨f104_c0_ins, f104_c0_outs, f104_c0⟩)) .nil)) (stof f104_l0_ins v) (around 0 f104_l0_ins f104_l0_outs) = F104_l0 f104_c0 v := by kernel_rfl
def C104_l0 (v : Int × Int × List UInt8 × Int × List UInt8 × Unit) : Option (List UInt8 × Unit) := loopN (F104_l0 C104_c0) big v
theorem k104_l0 : FragOk Tryz.prog 0 (fun Q a w => (Code.loop (subc (code Tryz.f104) [1, 0, 1, 0, 1, 1, 1, 1, 1, 0, 1, 0, 1, 0, 0])).wp Tryz.prog Q a w) ⟨f104_l0_ins, f104_l0_outs, C104_l0⟩ :=
 frag_loop (ins := f104_l0_ins) (os := f104_l0_outs) (np := 0) (n := (.seq .nil (.seq (.blk (.cut .nil ⟨f104_c0_ins, f104_c0_outs, C104_c0⟩)) .nil))) (F := F104_l0 C104_c0) hm hΓ (K := (fun f => Ae.lookA f [])) (kok_nil _) (fun _ => big)
 (ann_seq (a := (subc (code Tryz.f104) [1, 0, 1, 0, 1, 1, 1, 1, 1, 0, 1, 0, 1, 0, 0, 0])) (b := (subc (code Tryz.f104) [1, 0, 1, 0, 1, 1, 1, 1, 1, 0, 1, 0, 1, 0, 0, 1])) (by kernel_rfl) (ann_nil _) (ann_seq (a := (subc (code Tryz.f104) [1, 0, 1, 0, 1, 1, 1, 1, 1, 0, 1, 0, 1, 0, 0, 1, 0])) (b := (subc (code Tryz.f104) [1, 0, 1, 0, 1, 1, 1, 1, 1, 0, 1, 0, 1, 0, 0, 1, 1])) (by kernel_rfl) (ann_blk (x := (subc (code Tryz.f104) [1, 0, 1, 0, 1, 1, 1, 1, 1, 0, 1, 0, 1, 0, 0, 1, 0, 0])) (by kernel_rfl) (ann_cut (a := (subc (code Tryz.f104) [1, 0, 1, 0, 1, 1, 1, 1, 1, 0, 1, 0, 1, 0, 0, 1, 0, 0, 0])) (b := (subc (code Tryz.f104) [1, 0, 1, 0, 1, 1, 1, 1, 1, 0, 1, 0, 1, 0, 0, 1, 0, 0, 1])) (by kernel_rfl) (ann_nil _) k104_c0)) (ann_nil _))) (fun v => h104_l0 C104_c0 v)
def F104 (f104_l0 : Int × Int × List UInt8 × Int × List UInt8 × Unit → Option (List UInt8 × Unit)) : Int × List UInt8 × Int × Unit → Option (List UInt8 × Unit) := fun (x0, x1, x2, _) =>
 bif x0 == 3 then
 bif decide ([40].length + x1.length ≤ 9223372036854775807) then
 bif decide (([40] ++ x1).length + [41].length ≤ 9223372036854775807) then
 some ([40] ++ x1 ++ [41], ())
 else none
 else none
 else
 bif x0 == 5 then
 bif decide ([91].length + x1.length ≤ 9223372036854775807) then
 bif decide (([91] ++ x1).length + [93].length ≤ 9223372036854775807) then
 some ([91] ++ x1 ++ [93], ())
 else none
 else none
 else
 bif x0 == 1 then
 (f104_l0 (0, x0, x1, x2, [34], ())).bind fun val =>
 bif decide (List.length val.1 + [34].length ≤ 140737488355328 / 1) then
 some (val.1 ++ [34], ())
 else none
 else some (x1, ())
theorem h104 (f104_l0 : HS f104_l0_ins → Option (OTy f104_l0_outs)) (v : HS f104_ins) : afun Γ (fun f => Ae.lookA f []) 0 Tryz.f104.ntmps Tryz.f104.results.toList (code Tryz.f104) (.seq .nil (.seq (.seq .nil (.blk (.seq .nil (.cond .nil (.seq .nil (.cond .nil (.seq .nil (.cond (.seq .nil (.seq (.seq .nil (.blk (.loop ⟨f104_l0_ins, f104_l0_outs, f104_l0⟩))) .nil)) .nil)))))))) .nil)) (em id f104_ins v).1 (em id f104_ins v).2 (ofin 0 f104_outs) = F104 f104_l0 v := by kernel_rfl
def C104 (v : Int × List UInt8 × Int × Unit) : Option (List UInt8 × Unit) := F104 C104_l0 v
theorem ok104 : FnOk Tryz.prog 104 ⟨f104_ins, f104_outs, C104⟩ :=
 fn_ok (np := 0) (n := (.seq .nil (.seq (.seq .nil (.blk (.seq .nil (.cond .nil (.seq .nil (.cond .nil (.seq .nil (.cond (.seq .nil (.seq (.seq .nil (.blk (.loop ⟨f104_l0_ins, f104_l0_outs, C104_l0⟩))) .nil)) .nil)))))))) .nil))) hm hΓ (K := (fun f => Ae.lookA f [])) (kok_nil _) Tryz.func104 (c := code Tryz.f104) (by kernel_rfl) (name_ne (by kernel_rfl))
 (ann_seq (a := (subc (code Tryz.f104) [0])) (b := (subc (code Tryz.f104) [1])) (by kernel_rfl) (ann_nil _) (ann_seq (a := (subc (code Tryz.f104) [1, 0])) (b := (subc (code Tryz.f104) [1, 1])) (by kernel_rfl) (ann_seq (a := (subc (code Tryz.f104) [1, 0, 0])) (b := (subc (code Tryz.f104) [1, 0, 1])) (by kernel_rfl) (ann_nil _) (ann_blk (x := (subc (code Tryz.f104) [1, 0, 1, 0])) (by kernel_rfl) (ann_seq (a := (subc (code Tryz.f104) [1, 0, 1, 0, 0])) (b := (subc (code Tryz.f104) [1, 0, 1, 0, 1])) (by kernel_rfl) (ann_nil _) (ann_cond (x := (subc (code Tryz.f104) [1, 0, 1, 0, 1, 0])) (y := (subc (code Tryz.f104) [1, 0, 1, 0, 1, 1])) (by kernel_rfl) (ann_nil _) (ann_seq (a := (subc (code Tryz.f104) [1, 0, 1, 0, 1, 1, 0])) (b := (subc (code Tryz.f104) [1, 0, 1, 0, 1, 1, 1])) (by kernel_rfl) (ann_nil _) (ann_cond (x := (subc (code Tryz.f104) [1, 0, 1, 0, 1, 1, 1, 0])) (y := (subc (code Tryz.f104) [1, 0, 1, 0, 1, 1, 1, 1])) (by kernel_rfl) (ann_nil _) (ann_seq (a := (subc (code Tryz.f104) [1, 0, 1, 0, 1, 1, 1, 1, 0])) (b := (subc (code Tryz.f104) [1, 0, 1, 0, 1, 1, 1, 1, 1])) (by kernel_rfl) (ann_nil _) (ann_cond (x := (subc (code Tryz.f104) [1, 0, 1, 0, 1, 1, 1, 1, 1, 0])) (y := (subc (code Tryz.f104) [1, 0, 1, 0, 1, 1, 1, 1, 1, 1])) (by kernel_rfl) (ann_seq (a := (subc (code Tryz.f104) [1, 0, 1, 0, 1, 1, 1, 1, 1, 0, 0])) (b := (subc (code Tryz.f104) [1, 0, 1, 0, 1, 1, 1, 1, 1, 0, 1])) (by kernel_rfl) (ann_nil _) (ann_seq (a := (subc (code Tryz.f104) [1, 0, 1, 0, 1, 1, 1, 1, 1, 0, 1, 0])) (b := (subc (code Tryz.f104) [1, 0, 1, 0, 1, 1, 1, 1, 1, 0, 1, 1])) (by kernel_rfl) (ann_seq (a := (subc (code Tryz.f104) [1, 0, 1, 0, 1, 1, 1, 1, 1, 0, 1, 0, 0])) (b := (subc (code Tryz.f104) [1, 0, 1, 0, 1, 1, 1, 1, 1, 0, 1, 0, 1])) (by kernel_rfl) (ann_nil _) (ann_blk (x := (subc (code Tryz.f104) [1, 0, 1, 0, 1, 1, 1, 1, 1, 0, 1, 0, 1, 0])) (by kernel_rfl) (ann_loop (x := (subc (code Tryz.f104) [1, 0, 1, 0, 1, 1, 1, 1, 1, 0, 1, 0, 1, 0, 0])) (by kernel_rfl) k104_l0))) (ann_nil _))) (ann_nil _))))))))) (ann_nil _))) (fun v => Nat.le_of_ble_eq_true (by kernel_rfl)) (fun v => h104 C104_l0 v)
def F77 (f103 : List UInt8 × Unit → Option (Bool × Unit)) (f104 : Int × List UInt8 × Int × Unit → Option (List UInt8 × Unit)) : List UInt8 × List UInt8 × Unit → Option (List UInt8 × Unit) := fun (x0, x1, _) =>
 (f103 (x0, ())).bind fun val =>
 bif val.1 then
 bif decide (x0.length + [64].length ≤ 9223372036854775807) then
 bif decide ((x0 ++ [64]).length + x1.length ≤ 9223372036854775807) then
 some (x0 ++ [64] ++ x1, ())
 else none
 else none
 else
 (f104 (1, x0, 0, ())).bind fun val =>
 bif decide (List.length val.1 + [64].length ≤ 9223372036854775807) then
 bif decide ((val.1 ++ [64]).length + x1.length ≤ 9223372036854775807) then
 some (val.1 ++ [64] ++ x1, ())
 else none
 else none
theorem h77 (f103 : HS f103_ins → Option (OTy f103_outs)) (f104 : HS f104_ins → Option (OTy f104_outs)) (v : HS f77_ins) : afun Γ (fun f => Ae.lookA f [(103, ⟨f103_ins, f103_outs, f103⟩), (104, ⟨f104_ins, f104_outs, f104⟩)]) 0 Tryz.f77.ntmps Tryz.f77.results.toList (code Tryz.f77) .nil (em id f77_ins v).1 (em id f77_ins v).2 (ofin 0 f77_outs) = F77 f103 f104 v := by kernel_rfl
def C77 (v : List UInt8 × List UInt8 × Unit) : Option (List UInt8 × Unit) := F77 C103 C104 v
theorem ok77 : FnOk Tryz.prog 77 ⟨f77_ins, f77_outs, C77⟩ :=
 fn_ok (np := 0) (n := .nil) hm hΓ (K := (fun f => Ae.lookA f [(103, ⟨f103_ins, f103_outs, C103⟩), (104, ⟨f104_ins, f104_outs, C104⟩)])) (kok_cons ok103 (kok_cons ok104 (kok_nil _))) Tryz.func77 (c := code Tryz.f77) (by kernel_rfl) (name_ne (by kernel_rfl))
 (ann_nil _) (fun v => Nat.le_of_ble_eq_true (by kernel_rfl)) (fun v => h77 C103 C104 v)
def F44 (f76 : Bool × List UInt8 × List UInt8 × Unit → Option (Bool × Unit)) (f77 : List UInt8 × List UInt8 × Unit → Option (List UInt8 × Unit)) : Bool × List UInt8 × List UInt8 × Unit → Option (List UInt8 × Unit) := fun (x0, x1, x2, _) =>
 bif x0 then some ([60, 62], ())
 else
 (f76 (x0, x1, x2, ())).bind fun val =>
 bif val.1 then
 bif decide ([60].length + x1.length ≤ 9223372036854775807) then
 bif decide (([60] ++ x1).length + [62].length ≤ 9223372036854775807) then
 some ([60] ++ x1 ++ [62], ())
 else none
 else none
 else
 (f77 (x1, x2, ())).bind fun val =>
 bif decide ([60].length + List.length val.1 ≤ 9223372036854775807) then
 bif decide (([60] ++ val.1).length + [62].length ≤ 9223372036854775807) then
 some ([60] ++ val.1 ++ [62], ())
 else none
 else none
theorem h44 (f76 : HS f76_ins → Option (OTy f76_outs)) (f77 : HS f77_ins → Option (OTy f77_outs)) (v : HS f44_ins) : afun Γ (fun f => Ae.lookA f [(76, ⟨f76_ins, f76_outs, f76⟩), (77, ⟨f77_ins, f77_outs, f77⟩)]) 0 Tryz.f44.ntmps Tryz.f44.results.toList (code Tryz.f44) .nil (em id f44_ins v).1 (em id f44_ins v).2 (ofin 0 f44_outs) = F44 f76 f77 v := by kernel_rfl
def C44 (v : Bool × List UInt8 × List UInt8 × Unit) : Option (List UInt8 × Unit) := F44 C76 C77 v
theorem ok44 : FnOk Tryz.prog 44 ⟨f44_ins, f44_outs, C44⟩ :=
 fn_ok (np := 0) (n := .nil) hm hΓ (K := (fun f => Ae.lookA f [(76, ⟨f76_ins, f76_outs, C76⟩), (77, ⟨f77_ins, f77_outs, C77⟩)])) (kok_cons ok76 (kok_cons ok77 (kok_nil _))) Tryz.func44 (c := code Tryz.f44) (by kernel_rfl) (name_ne (by kernel_rfl))
 (ann_nil _) (fun v => Nat.le_of_ble_eq_true (by kernel_rfl)) (fun v => h44 C76 C77 v)
def F42  : List UInt8 × List UInt8 × List UInt8 × List UInt8 × Unit → Option (List (List UInt8) × Unit) := fun (x0, x1, x2, x3, _) =>
 bif
 decide
 ([82, 101, 112, 111, 114, 116, 105, 110, 103, 45, 77, 84, 65, 58, 32, 100, 110, 115, 59, 32].length +
 x0.length ≤
 9223372036854775807) then
 bif
 decide
 ([79, 114, 105, 103, 105, 110, 97, 108, 45, 73, 68, 58, 32].length + x1.length ≤
 9223372036854775807) then
 bif
 decide
 ([70, 105, 110, 97, 108, 45, 82, 101, 99, 105, 112, 105, 101, 110, 116, 58, 32, 117, 116, 102, 45, 56, 59,
 32].length +
 x2.length ≤
 9223372036854775807) then
 bif decide ([83, 116, 97, 116, 117, 115, 58, 32].length + x3.length ≤ 9223372036854775807) then
 some
 ([[83, 117, 98, 106, 101, 99, 116, 58, 32, 110, 111, 116, 32, 100, 101, 108, 105, 118, 101, 114, 101,
 100],
 [77, 73, 77, 69, 45, 86, 101, 114, 115, 105, 111, 110, 58, 32, 49, 46, 48],
 [67, 111, 110, 116, 101, 110, 116, 45, 84, 121, 112, 101, 58, 32, 109, 101, 115, 115, 97, 103, 101, 47,
 103, 108, 111, 98, 97, 108, 45, 100, 101, 108, 105, 118, 101, 114, 121, 45, 115, 116, 97, 116, 117,
 115],
 [],
 [82, 101, 112, 111, 114, 116, 105, 110, 103, 45, 77, 84, 65, 58, 32, 100, 110, 115, 59, 32] ++ x0,
 [], [79, 114, 105, 103, 105, 110, 97, 108, 45, 73, 68, 58, 32] ++ x1,
 [70, 105, 110, 97, 108, 45, 82, 101, 99, 105, 112, 105, 101, 110, 116, 58, 32, 117, 116, 102, 45, 56, 59,
 32] ++
 x2,
 [65, 99, 116, 105, 111, 110, 58, 32, 102, 97, 105, 108, 101, 100],
 [83, 116, 97, 116, 117, 115, 58, 32] ++ x3],
 ())
 else none
 else none
 else none
 else none
theorem h42  (v : HS f42_ins) : afun Γ (fun f => Ae.lookA f []) 0 Tryz.f42.ntmps Tryz.f42.results.toList (code Tryz.f42) .nil (em id f42_ins v).1 (em id f42_ins v).2 (ofin 0 f42_outs) = F42 v := by kernel_rfl
def C42 (v : List UInt8 × List UInt8 × List UInt8 × List UInt8 × Unit) : Option (List (List UInt8) × Unit) := F42 v
theorem ok42 : FnOk Tryz.prog 42 ⟨f42_ins, f42_outs, C42⟩ :=
 fn_ok (np := 0) (n := .nil) hm hΓ (K := (fun f => Ae.lookA f [])) (kok_nil _) Tryz.func42 (c := code Tryz.f42) (by kernel_rfl) (name_ne (by kernel_rfl))
 (ann_nil _) (fun v => Nat.le_of_ble_eq_true (by kernel_rfl)) (fun v => h42 v)
def F78_l0  : List (List UInt8) × Int × Unit → Option ((List (List UInt8) × Int × Unit) ⊕ (Int × Unit)) := fun (x0, x1, _) =>
 bif decide (x1 < (↑x0.length : Int)) then
 bif decide (0 ≤ x1) && decide (x1 < (↑x0.length : Int)) then
 bif !x0.getD x1.toNat [] == [] then some (Sum.inl (x0, IntKind.i64.wrap (x1 + 1), ()))
 else some (Sum.inr (x1, ()))
 else none
 else some (Sum.inr (x1, ()))
theorem h78_l0  (v : HS f78_l0_ins) : aev Γ (fun f => Ae.lookA f []) 0 (subc (code Tryz.f78) [1, 1, 0, 0, 0]) .nil (stof f78_l0_ins v) (around 0 f78_l0_ins f78_l0_outs) = F78_l0 v := by kernel_rfl
def C78_l0 (v : List (List UInt8) × Int × Unit) : Option (Int × Unit) := loopN (F78_l0) big v
theorem k78_l0 : FragOk Tryz.prog 0 (fun Q a w => (Code.loop (subc (code Tryz.f78) [1, 1, 0, 0, 0])).wp Tryz.prog Q a w) ⟨f78_l0_ins, f78_l0_outs, C78_l0⟩ :=
 frag_loop (ins := f78_l0_ins) (os := f78_l0_outs) (np := 0) (n := .nil) (F := F78_l0) hm hΓ (K := (fun f => Ae.lookA f [])) (kok_nil _) (fun _ => big)
 (ann_nil _) (fun v => h78_l0 v)
def F78 (f78_l0 : List (List UInt8) × Int × Unit → Option (Int × Unit)) : List (List UInt8) × Unit → Option (Int × Unit) := fun (x0, _) =>
 (f78_l0 (x0, 0, ())).bind fun val => some (val.1, ())
theorem h78 (f78_l0 : HS f78_l0_ins → Option (OTy f78_l0_outs)) (v : HS f78_ins) : afun Γ (fun f => Ae.lookA f []) 0 Tryz.f78.ntmps Tryz.f78.results.toList (code Tryz.f78) (.seq .nil (.seq .nil (.seq (.blk (.loop ⟨f78_l0_ins, f78_l0_outs, f78_l0⟩)) .nil))) (em id f78_ins v).1 (em id f78_ins v).2 (ofin 0 f78_outs) = F78 f78_l0 v := by kernel_rfl
def C78 (v : List (List UInt8) × Unit) : Option (Int × Unit) := F78 C78_l0 v
theorem ok78 : FnOk Tryz.prog 78 ⟨f78_ins, f78_outs, C78⟩ :=
 fn_ok (np := 0) (n := (.seq .nil (.seq .nil (.seq (.blk (.loop ⟨f78_l0_ins, f78_l0_outs, C78_l0⟩)) .nil)))) hm hΓ (K := (fun f => Ae.lookA f [])) (kok_nil _) Tryz.func78 (c := code Tryz.f78) (by kernel_rfl) (name_ne (by kernel_rfl))
 (ann_seq (a := (subc (code Tryz.f78) [0])) (b := (subc (code Tryz.f78) [1])) (by kernel_rfl) (ann_nil _) (ann_seq (a := (subc (code Tryz.f78) [1, 0])) (b := (subc (code Tryz.f78) [1, 1])) (by kernel_rfl) (ann_nil _) (ann_seq (a := (subc (code Tryz.f78) [1, 1, 0])) (b := (subc (code Tryz.f78) [1, 1, 1])) (by kernel_rfl) (ann_blk (x := (subc (code Tryz.f78) [1, 1, 0, 0])) (by kernel_rfl) (ann_loop (x := (subc (code Tryz.f78) [1, 1, 0, 0, 0])) (by kernel_rfl) k78_l0)) (ann_nil _)))) (fun v => Nat.le_of_ble_eq_true (by kernel_rfl)) (fun v => h78 C78_l0 v)
def F79_l0  : List UInt8 × Int × Unit → Option ((List UInt8 × Int × Unit) ⊕ (Unit ⊕ (Int × Unit))) := fun (x0, x1, _) =>
 bif decide (x1 < (↑x0.length : Int)) then
 bif decide (0 ≤ x1) && decide (x1 < (↑x0.length : Int)) then
 bif decide ((↑(x0.getD x1.toNat 0).toNat : Int) > 127) then some (Sum.inr (Sum.inr (x1, ())))
 else some (Sum.inl (x0, IntKind.i64.wrap (x1 + 1), ()))
 else none
 else some (Sum.inr (Sum.inl ()))
theorem h79_l0  (v : HS f79_l0_ins) : aev Γ (fun f => Ae.lookA f []) 0 (subc (code Tryz.f79) [1, 0, 1, 0, 0]) .nil (stof f79_l0_ins v) (around 0 f79_l0_ins f79_l0_outs) = F79_l0 v := by kernel_rfl
def C79_l0 (v : List UInt8 × Int × Unit) : Option (Unit ⊕ (Int × Unit)) := loopN (F79_l0) big v
theorem k79_l0 : FragOk Tryz.prog 0 (fun Q a w => (Code.loop (subc (code Tryz.f79) [1, 0, 1, 0, 0])).wp Tryz.prog Q a w) ⟨f79_l0_ins, f79_l0_outs, C79_l0⟩ :=
 frag_loop (ins := f79_l0_ins) (os := f79_l0_outs) (np := 0) (n := .nil) (F := F79_l0) hm hΓ (K := (fun f => Ae.lookA f [])) (kok_nil _) (fun _ => big)
 (ann_nil _) (fun v => h79_l0 v)
def F79 (f79_l0 : List UInt8 × Int × Unit → Option (Unit ⊕ (Int × Unit))) : List UInt8 × Unit → Option (Int × Unit) := fun (x0, _) =>
 (f79_l0 (x0, 0, ())).bind fun val =>
 Sum.elim (fun val => some (-1, ())) (fun val => some (val.1, ())) val
theorem h79 (f79_l0 : HS f79_l0_ins → Option (OTy f79_l0_outs)) (v : HS f79_ins) : afun Γ (fun f => Ae.lookA f []) 0 Tryz.f79.ntmps Tryz.f79.results.toList (code Tryz.f79) (.seq .nil (.seq (.seq .nil (.blk (.loop ⟨f79_l0_ins, f79_l0_outs, f79_l0⟩))) .nil)) (em id f79_ins v).1 (em id f79_ins v).2 (ofin 0 f79_outs) = F79 f79_l0 v := by kernel_rfl
def C79 (v : List UInt8 × Unit) : Option (Int × Unit) := F79 C79_l0 v
theorem ok79 : FnOk Tryz.prog 79 ⟨f79_ins, f79_outs, C79⟩ :=
 fn_ok (np := 0) (n := (.seq .nil (.seq (.seq .nil (.blk (.loop ⟨f79_l0_ins, f79_l0_outs, C79_l0⟩))) .nil))) hm hΓ (K := (fun f => Ae.lookA f [])) (kok_nil _) Tryz.func79 (c := code Tryz.f79) (by kernel_rfl) (name_ne (by kernel_rfl))
 (ann_seq (a := (subc (code Tryz.f79) [0])) (b := (subc (code Tryz.f79) [1])) (by kernel_rfl) (ann_nil _) (ann_seq (a := (subc (code Tryz.f79) [1, 0])) (b := (subc (code Tryz.f79) [1, 1])) (by kernel_rfl) (ann_seq (a := (subc (code Tryz.f79) [1, 0, 0])) (b := (subc (code Tryz.f79) [1, 0, 1])) (by kernel_rfl) (ann_nil _) (ann_blk (x := (subc (code Tryz.f79) [1, 0, 1, 0])) (by kernel_rfl) (ann_loop (x := (subc (code Tryz.f79) [1, 0, 1, 0, 0])) (by kernel_rfl) k79_l0))) (ann_nil _))) (fun v => Nat.le_of_ble_eq_true (by kernel_rfl)) (fun v => h79 C79_l0 v)
def F105  : Int × Unit → Option (Bool × Unit) := fun (x0, _) =>
 bif x0 == 32 then some (true, ()) else some (x0 == 9, ())
theorem h105  (v : HS f105_ins) : afun Γ (fun f => Ae.lookA f []) 0 Tryz.f105.ntmps Tryz.f105.results.toList (code Tryz.f105) .nil (em id f105_ins v).1 (em id f105_ins v).2 (ofin 0 f105_outs) = F105 v := by kernel_rfl
def C105 (v : Int × Unit) : Option (Bool × Unit) := F105 v
theorem ok105 : FnOk Tryz.prog 105 ⟨f105_ins, f105_outs, C105⟩ :=
 fn_ok (np := 0) (n := .nil) hm hΓ (K := (fun f => Ae.lookA f [])) (kok_nil _) Tryz.func105 (c := code Tryz.f105) (by kernel_rfl) (name_ne (by kernel_rfl))
 (ann_nil _) (fun v => Nat.le_of_ble_eq_true (by kernel_rfl)) (fun v => h105 v)
def F106_l0  : List UInt8 × Int × Unit → Option ((List UInt8 × Int × Unit) ⊕ (Unit ⊕ (Int × Unit))) := fun (x0, x1, _) =>
 bif decide (x1 < (↑x0.length : Int)) then
 bif decide (0 ≤ x1) && decide (x1 < (↑x0.length : Int)) then
 bif (↑(x0.getD x1.toNat 0).toNat : Int) == 58 then some (Sum.inr (Sum.inr (x1, ())))
 else
 bif decide (0 ≤ x1) && decide (x1 < (↑x0.length : Int)) then
 bif decide ((↑(x0.getD x1.toNat 0).toNat : Int) < 33) then some (Sum.inr (Sum.inr (0, ())))
 else
 bif decide (0 ≤ x1) && decide (x1 < (↑x0.length : Int)) then
 bif decide ((↑(x0.getD x1.toNat 0).toNat : Int) > 126) then some (Sum.inr (Sum.inr (0, ())))
 else some (Sum.inl (x0, IntKind.i64.wrap (x1 + 1), ()))
 else none
 else none
 else none
 else some (Sum.inr (Sum.inl ()))
theorem h106_l0  (v : HS f106_l0_ins) : aev Γ (fun f => Ae.lookA f []) 0 (subc (code Tryz.f106) [1, 0, 1, 0, 0]) .nil (stof f106_l0_ins v) (around 0 f106_l0_ins f106_l0_outs) = F106_l0 v := by kernel_rfl
def C106_l0 (v : List UInt8 × Int × Unit) : Option (Unit ⊕ (Int × Unit)) := loopN (F106_l0) big v
theorem k106_l0 : FragOk Tryz.prog 0 (fun Q a w => (Code.loop (subc (code Tryz.f106) [1, 0, 1, 0, 0])).wp Tryz.prog Q a w) ⟨f106_l0_ins, f106_l0_outs, C106_l0⟩ :=
 frag_loop (ins := f106_l0_ins) (os := f106_l0_outs) (np := 0) (n := .nil) (F := F106_l0) hm hΓ (K := (fun f => Ae.lookA f [])) (kok_nil _) (fun _ => big)
 (ann_nil _) (fun v => h106_l0 v)
def F106 (f106_l0 : List UInt8 × Int × Unit → Option (Unit ⊕ (Int × Unit))) : List UInt8 × Unit → Option (Int × Unit) := fun (x0, _) =>
 (f106_l0 (x0, 0, ())).bind fun val =>
 Sum.elim (fun val => some (0, ())) (fun val => some (val.1, ())) val
theorem h106 (f106_l0 : HS f106_l0_ins → Option (OTy f106_l0_outs)) (v : HS f106_ins) : afun Γ (fun f => Ae.lookA f []) 0 Tryz.f106.ntmps Tryz.f106.results.toList (code Tryz.f106) (.seq .nil (.seq (.seq .nil (.blk (.loop ⟨f106_l0_ins, f106_l0_outs, f106_l0⟩))) .nil)) (em id f106_ins v).1 (em id f106_ins v).2 (ofin 0 f106_outs) = F106 f106_l0 v := by kernel_rfl
def C106 (v : List UInt8 × Unit) : Option (Int × Unit) := F106 C106_l0 v
theorem ok106 : FnOk Tryz.prog 106 ⟨f106_ins, f106_outs, C106⟩ :=
 fn_ok (np := 0) (n := (.seq .nil (.seq (.seq .nil (.blk (.loop ⟨f106_l0_ins, f106_l0_outs, C106_l0⟩))) .nil))) hm hΓ (K := (fun f => Ae.lookA f [])) (kok_nil _) Tryz.func106 (c := code Tryz.f106) (by kernel_rfl) (name_ne (by kernel_rfl))
 (ann_seq (a := (subc (code Tryz.f106) [0])) (b := (subc (code Tryz.f106) [1])) (by kernel_rfl) (ann_nil _) (ann_seq (a := (subc (code Tryz.f106) [1, 0])) (b := (subc (code Tryz.f106) [1, 1])) (by kernel_rfl) (ann_seq (a := (subc (code Tryz.f106) [1, 0, 0])) (b := (subc (code Tryz.f106) [1, 0, 1])) (by kernel_rfl) (ann_nil _) (ann_blk (x := (subc (code Tryz.f106) [1, 0, 1, 0])) (by kernel_rfl) (ann_loop (x := (subc (code Tryz.f106) [1, 0, 1, 0, 0])) (by kernel_rfl) k106_l0))) (ann_nil _))) (fun v => Nat.le_of_ble_eq_true (by kernel_rfl)) (fun v => h106 C106_l0 v)
def F107_l0 (f105 : Int × Unit → Option (Bool × Unit)) : List UInt8 × Int × Unit → Option ((List UInt8 × Int × Unit) ⊕ (List UInt8 × Int × Unit)) := fun (x0, x1, _) =>
 bif decide (x1 < (↑x0.length : Int)) then
 bif decide (0 ≤ x1) && decide (x1 < (↑x0.length : Int)) then
 (f105 ((↑(x0.getD x1.toNat 0).toNat : Int), ())).bind fun val =>
 bif val.1 then some (Sum.inl (x0, IntKind.i64.wrap (x1 + 1), ()))
 else some (Sum.inr (x0, x1, ()))
 else none
 else some (Sum.inr (x0, x1, ()))
theorem h107_l0 (f105 : HS f105_ins → Option (OTy f105_outs)) (v : HS f107_l0_ins) : aev Γ (fun f => Ae.lookA f [(105, ⟨f105_ins, f105_outs, f105⟩)]) 0 (subc (code Tryz.f107) [1, 1, 0, 0, 0]) .nil (stof f107_l0_ins v) (around 0 f107_l0_ins f107_l0_outs) = F107_l0 f105 v := by kernel_rfl
def C107_l0 (v : List UInt8 × Int × Unit) : Option (List UInt8 × Int × Unit) := loopN (F107_l0 C105) big v
theorem k107_l0 : FragOk Tryz.prog 0 (fun Q a w => (Code.loop (subc (code Tryz.f107) [1, 1, 0, 0, 0])).wp Tryz.prog Q a w) ⟨f107_l0_ins, f107_l0_outs, C107_l0⟩ :=
 frag_loop (ins := f107_l0_ins) (os := f107_l0_outs) (np := 0) (n := .nil) (F := F107_l0 C105) hm hΓ (K := (fun f => Ae.lookA f [(105, ⟨f105_ins, f105_outs, C105⟩)])) (kok_cons ok105 (kok_nil _)) (fun _ => big)
 (ann_nil _) (fun v => h107_l0 C105 v)
def F107_l1 (f105 : Int × Unit → Option (Bool × Unit)) : List UInt8 × Int × Int × Unit → Option ((List UInt8 × Int × Int × Unit) ⊕ (List UInt8 × Int × Int × Unit)) := fun (x0, x1, x2, _) =>
 bif decide (x2 > x1) then
 bif decide (0 ≤ IntKind.i64.wrap (x2 - 1)) && decide (IntKind.i64.wrap (x2 - 1) < (↑x0.length : Int)) then
 (f105 ((↑(x0.getD (IntKind.i64.wrap (x2 - 1)).toNat 0).toNat : Int), ())).bind fun val =>
 bif val.1 then some (Sum.inl (x0, x1, IntKind.i64.wrap (x2 - 1), ()))
 else some (Sum.inr (x0, x1, x2, ()))
 else none
 else some (Sum.inr (x0, x1, x2, ()))
theorem h107_l1 (f105 : HS f105_ins → Option (OTy f105_outs)) (v : HS f107_l1_ins) : aev Γ (fun f => Ae.lookA f [(105, ⟨f105_ins, f105_outs, f105⟩)]) 0 (subc (code Tryz.f107) [1, 1, 1, 1, 0, 0, 0]) .nil (stof f107_l1_ins v) (around 0 f107_l1_ins f107_l1_outs) = F107_l1 f105 v := by kernel_rfl
def C107_l1 (v : List UInt8 × Int × Int × Unit) : Option (List UInt8 × Int × Int × Unit) := loopN (F107_l1 C105) big v
theorem k107_l1 : FragOk Tryz.prog 0 (fun Q a w => (Code.loop (subc (code Tryz.f107) [1, 1, 1, 1, 0, 0, 0])).wp Tryz.prog Q a w) ⟨f107_l1_ins, f107_l1_outs, C107_l1⟩ :=
 frag_loop (ins := f107_l1_ins) (os := f107_l1_outs) (np := 0) (n := .nil) (F := F107_l1 C105) hm hΓ (K := (fun f => Ae.lookA f [(105, ⟨f105_ins, f105_outs, C105⟩)])) (kok_cons ok105 (kok_nil _)) (fun _ => big)
 (ann_nil _) (fun v => h107_l1 C105 v)
def F107 (f107_l0 : List UInt8 × Int × Unit → Option (List UInt8 × Int × Unit)) (f107_l1 : List UInt8 × Int × Int × Unit → Option (List UInt8 × Int × Int × Unit)) : List UInt8 × Unit → Option (List UInt8 × Unit) := fun (x0, _) =>
 (f107_l0 (x0, 0, ())).bind fun val =>
 (f107_l1 (val.1, val.2.1, (↑(List.length val.1) : Int), ())).bind fun val =>
 bif decide (0 ≤ val.2.2.1) && decide (val.2.2.1 ≤ (↑(List.length val.1) : Int)) then
 bif decide (0 ≤ val.2.1) && decide (val.2.1 ≤ val.2.2.1) then
 some (List.drop (Int.toNat val.2.1) (List.take (Int.toNat val.2.2.1) val.1), ())
 else none
 else none
theorem h107 (f107_l0 : HS f107_l0_ins → Option (OTy f107_l0_outs)) (f107_l1 : HS f107_l1_ins → Option (OTy f107_l1_outs)) (v : HS f107_ins) : afun Γ (fun f => Ae.lookA f []) 0 Tryz.f107.ntmps Tryz.f107.results.toList (code Tryz.f107) (.seq .nil (.seq .nil (.seq (.blk (.loop ⟨f107_l0_ins, f107_l0_outs, f107_l0⟩)) (.seq .nil (.seq (.blk (.loop ⟨f107_l1_ins, f107_l1_outs, f107_l1⟩)) .nil))))) (em id f107_ins v).1 (em id f107_ins v).2 (ofin 0 f107_outs) = F107 f107_l0 f107_l1 v := by kernel_rfl
def C107 (v : List UInt8 × Unit) : Option (List UInt8 × Unit) := F107 C107_l0 C107_l1 v
theorem ok107 : FnOk Tryz.prog 107 ⟨f107_ins, f107_outs, C107⟩ :=
 fn_ok (np := 0) (n := (.seq .nil (.seq .nil (.seq (.blk (.loop ⟨f107_l0_ins, f107_l0_outs, C107_l0⟩)) (.seq .nil (.seq (.blk (.loop ⟨f107_l1_ins, f107_l1_outs, C107_l1⟩)) .nil)))))) hm hΓ (K := (fun f => Ae.lookA f [])) (kok_nil _) Tryz.func107 (c := code Tryz.f107) (by kernel_rfl) (name_ne (by kernel_rfl))
 (ann_seq (a := (subc (code Tryz.f107) [0])) (b := (subc (code Tryz.f107) [1])) (by kernel_rfl) (ann_nil _) (ann_seq (a := (subc (code Tryz.f107) [1, 0])) (b := (subc (code Tryz.f107) [1, 1])) (by kernel_rfl) (ann_nil _) (ann_seq (a := (subc (code Tryz.f107) [1, 1, 0])) (b := (subc (code Tryz.f107) [1, 1, 1])) (by kernel_rfl) (ann_blk (x := (subc (code Tryz.f107) [1, 1, 0, 0])) (by kernel_rfl) (ann_loop (x := (subc (code Tryz.f107) [1, 1, 0, 0, 0])) (by kernel_rfl) k107_l0)) (ann_seq (a := (subc (code Tryz.f107) [1, 1, 1, 0])) (b := (subc (code Tryz.f107) [1, 1, 1, 1])) (by kernel_rfl) (ann_nil _) (ann_seq (a := (subc (code Tryz.f107) [1, 1, 1, 1, 0])) (b := (subc (code Tryz.f107) [1, 1, 1, 1, 1])) (by kernel_rfl) (ann_blk (x := (subc (code Tryz.f107) [1, 1, 1, 1, 0, 0])) (by kernel_rfl) (ann_loop (x := (subc (code Tryz.f107) [1, 1, 1, 1, 0, 0, 0])) (by kernel_rfl) k107_l1)) (ann_nil _)))))) (fun v => Nat.le_of_ble_eq_true (by kernel_rfl)) (fun v => h107 C107_l0 C107_l1 v)
def F80_l0 (f78 : List (List UInt8) × Unit → Option (Int × Unit)) (f102 : List UInt8 × Unit → Option (List UInt8 × Unit)) (f105 : Int × Unit → Option (Bool × Unit)) (f106 : List UInt8 × Unit → Option (Int × Unit)) : List (List UInt8) × Bool × Int × List ((List UInt8 × List UInt8)) × Unit → Option ((List (List UInt8) × Bool × Int × List ((List UInt8 × List UInt8)) × Unit) ⊕ (List ((List UInt8 × List UInt8)) × Unit)) := fun (x0, x1, x2, x3, _) =>
 (f78 (x0, ())).bind fun val =>
 bif decide (x2 < val.1) then
 bif decide (0 ≤ x2) && decide (x2 < (↑x0.length : Int)) then
 bif decide (0 < (↑(List.length (x0.getD x2.toNat [])) : Int)) then
 (f105 ((↑(List.getD (x0.getD x2.toNat []) 0 0).toNat : Int), ())).bind fun val =>
 bif val.1 then
 bif x1 then
 bif
 decide (0 ≤ IntKind.i64.wrap ((↑x3.length : Int) - 1)) &&
 decide (IntKind.i64.wrap ((↑x3.length : Int) - 1) < (↑x3.length : Int)) then
 bif
 decide
 (List.length
 (x3.getD (IntKind.i64.wrap ((↑x3.length : Int) - 1)).toNat ([], [])).2 +
 List.length (x0.getD x2.toNat []) ≤
 9223372036854775807) then
 bif
 decide (0 ≤ IntKind.i64.wrap ((↑x3.length : Int) - 1)) &&
 decide (IntKind.i64.wrap ((↑x3.length : Int) - 1) < (↑x3.length : Int)) then
 some
 (Sum.inl
 (x0, x1, IntKind.i64.wrap (x2 + 1),
 x3.set (IntKind.i64.wrap ((↑x3.length : Int) - 1)).toNat
 ((x3.getD (IntKind.i64.wrap ((↑x3.length : Int) - 1)).toNat ([], [])).1,
 (x3.getD (IntKind.i64.wrap ((↑x3.length : Int) - 1)).toNat
 ([], [])).2 ++
 x0.getD x2.toNat []),
 ()))
 else none
 else none
 else none
 else some (Sum.inl (x0, x1, IntKind.i64.wrap (x2 + 1), x3, ()))
 else
 (f106 (x0.getD x2.toNat [], ())).bind fun val =>
 bif decide (val.1 > 0) then
 bif
 decide (0 ≤ val.1) &&
 decide (val.1 ≤ (↑(List.length (x0.getD x2.toNat [])) : Int)) then
 (f102 (List.take (Int.toNat val.1) (x0.getD x2.toNat []), ())).bind fun val_1 =>
 bif
 decide (0 ≤ IntKind.i64.wrap (val.1 + 1)) &&
 decide
 (IntKind.i64.wrap (val.1 + 1) ≤
 (↑(List.length (x0.getD x2.toNat [])) : Int)) then
 bif
 decide
 (x3.length +
 [(val_1.1,
 List.drop (IntKind.i64.wrap (val.1 + 1)).toNat
 (x0.getD x2.toNat []))].length ≤
 140737488355328 / 32) then
 some
 (Sum.inl
 (x0, decide (val.1 > 0), IntKind.i64.wrap (x2 + 1),
 x3 ++
 [(val_1.1,
 List.drop (IntKind.i64.wrap (val.1 + 1)).toNat (x0.getD x2.toNat []))],
 ()))
 else none
 else none
 else none
 else some (Sum.inl (x0, decide (val.1 > 0), IntKind.i64.wrap (x2 + 1), x3, ()))
 else none
 else none
 else some (Sum.inr (x3, ()))
theorem h80_l0 (f78 : HS f78_ins → Option (OTy f78_outs)) (f102 : HS f102_ins → Option (OTy f102_outs)) (f105 : HS f105_ins → Option (OTy f105_outs)) (f106 : HS f106_ins → Option (OTy f106_outs)) (v : HS f80_l0_ins) : aev Γ (fun f => Ae.lookA f [(78, ⟨f78_ins, f78_outs, f78⟩), (102, ⟨f102_ins, f102_outs, f102⟩), (105, ⟨f105_ins, f105_outs, f105⟩), (106, ⟨f106_ins, f106_outs, f106⟩)]) 0 (subc (code Tryz.f80) [1, 1, 1, 0, 1, 0, 0]) .nil (stof f80_l0_ins v) (around 0 f80_l0_ins f80_l0_outs) = F80_l0 f78 f102 f105 f106 v := by kernel_rfl
def C80_l0 (v : List (List UInt8) × Bool × Int × List ((List UInt8 × List UInt8)) × Unit) : Option (List ((List UInt8 × List UInt8)) × Unit) := loopN (F80_l0 C78 C102 C105 C106) big v
theorem k80_l0 : FragOk Tryz.prog 0 (fun Q a w => (Code.loop (subc (code Tryz.f80) [1, 1, 1, 0, 1, 0, 0])).wp Tryz.prog Q a w) ⟨f80_l0_ins, f80_l0_outs, C80_l0⟩ :=
 frag_loop (ins := f80_l0_ins) (os := f80_l0_outs) (np := 0) (n := .nil) (F := F80_l0 C78 C102 C105 C106) hm hΓ (K := (fun f => Ae.lookA f [(78, ⟨f78_ins, f78_outs, C78⟩), (102, ⟨f102_ins, f102_outs, C102⟩), (105, ⟨f105_ins, f105_outs, C105⟩), (106, ⟨f106_ins, f106_outs, C106⟩)])) (kok_cons ok78 (kok_cons ok102 (kok_cons ok105 (kok_cons ok106 (kok_nil _))))) (fun _ => big)
 (ann_nil _) (fun v => h80_l0 C78 C102 C105 C106 v)
def F80_l1 (f107 : List UInt8 × Unit → Option (List UInt8 × Unit)) : Int × List ((List UInt8 × List UInt8)) × Unit → Option ((Int × List ((List UInt8 × List UInt8)) × Unit) ⊕ (List ((List UInt8 × List UInt8)) × Unit)) := fun (x0, x1, _) =>
 bif decide (x0 < (↑x1.length : Int)) then
 bif decide (0 ≤ x0) && decide (x0 < (↑x1.length : Int)) then
 (f107 ((x1.getD x0.toNat ([], [])).2, ())).bind fun val =>
 bif decide (0 ≤ x0) && decide (x0 < (↑x1.length : Int)) then
 some
 (Sum.inl
 (IntKind.i64.wrap (x0 + 1), x1.set x0.toNat ((x1.getD x0.toNat ([], [])).1, val.1),
 ()))
 else none
 else none
 else some (Sum.inr (x1, ()))
theorem h80_l1 (f107 : HS f107_ins → Option (OTy f107_outs)) (v : HS f80_l1_ins) : aev Γ (fun f => Ae.lookA f [(107, ⟨f107_ins, f107_outs, f107⟩)]) 0 (subc (code Tryz.f80) [1, 1, 1, 1, 0, 1, 0, 0]) .nil (stof f80_l1_ins v) (around 0 f80_l1_ins f80_l1_outs) = F80_l1 f107 v := by kernel_rfl
def C80_l1 (v : Int × List ((List UInt8 × List UInt8)) × Unit) : Option (List ((List UInt8 × List UInt8)) × Unit) := loopN (F80_l1 C107) big v
theorem k80_l1 : FragOk Tryz.prog 0 (fun Q a w => (Code.loop (subc (code Tryz.f80) [1, 1, 1, 1, 0, 1, 0, 0])).wp Tryz.prog Q a w) ⟨f80_l1_ins, f80_l1_outs, C80_l1⟩ :=
 frag_loop (ins := f80_l1_ins) (os := f80_l1_outs) (np := 0) (n := .nil) (F := F80_l1 C107) hm hΓ (K := (fun f => Ae.lookA f [(107, ⟨f107_ins, f107_outs, C107⟩)])) (kok_cons ok107 (kok_nil _)) (fun _ => big)
 (ann_nil _) (fun v => h80_l1 C107 v)
def F80 (f80_l0 : List (List UInt8) × Bool × Int × List ((List UInt8 × List UInt8)) × Unit → Option (List ((List UInt8 × List UInt8)) × Unit)) (f80_l1 : Int × List ((List UInt8 × List UInt8)) × Unit → Option (List ((List UInt8 × List UInt8)) × Unit)) : List (List UInt8) × Unit → Option (List ((List UInt8 × List UInt8)) × Unit) := fun (x0, _) =>
 (f80_l0 (x0, false, 0, [], ())).bind fun val => (f80_l1 (0, val.1, ())).bind fun val => some (val.1, ())
theorem h80 (f80_l0 : HS f80_l0_ins → Option (OTy f80_l0_outs)) (f80_l1 : HS f80_l1_ins → Option (OTy f80_l1_outs)) (v : HS f80_ins) : afun Γ (fun f => Ae.lookA f []) 0 Tryz.f80.ntmps Tryz.f80.results.toList (code Tryz.f80) (.seq .nil (.seq .nil (.seq .nil (.seq (.seq .nil (.blk (.loop ⟨f80_l0_ins, f80_l0_outs, f80_l0⟩))) (.seq (.seq .nil (.blk (.loop ⟨f80_l1_ins, f80_l1_outs, f80_l1⟩))) .nil))))) (em id f80_ins v).1 (em id f80_ins v).2 (ofin 0 f80_outs) = F80 f80_l0 f80_l1 v := by kernel_rfl
def C80 (v : List (List UInt8) × Unit) : Option (List ((List UInt8 × List UInt8)) × Unit) := F80 C80_l0 C80_l1 v
theorem ok80 : FnOk Tryz.prog 80 ⟨f80_ins, f80_outs, C80⟩ :=
 fn_ok (np := 0) (n := (.seq .nil (.seq .nil (.seq .nil (.seq (.seq .nil (.blk (.loop ⟨f80_l0_ins, f80_l0_outs, C80_l0⟩))) (.seq (.seq .nil (.blk (.loop ⟨f80_l1_ins, f80_l1_outs, C80_l1⟩))) .nil)))))) hm hΓ (K := (fun f => Ae.lookA f [])) (kok_nil _) Tryz.func80 (c := code Tryz.f80) (by kernel_rfl) (name_ne (by kernel_rfl))
 (ann_seq (a := (subc (code Tryz.f80) [0])) (b := (subc (code Tryz.f80) [1])) (by kernel_rfl) (ann_nil _) (ann_seq (a := (subc (code Tryz.f80) [1, 0])) (b := (subc (code Tryz.f80) [1, 1])) (by kernel_rfl) (ann_nil _) (ann_seq (a := (subc (code Tryz.f80) [1, 1, 0])) (b := (subc (code Tryz.f80) [1, 1, 1])) (by kernel_rfl) (ann_nil _) (ann_seq (a := (subc (code Tryz.f80) [1, 1, 1, 0])) (b := (subc (code Tryz.f80) [1, 1, 1, 1])) (by kernel_rfl) (ann_seq (a := (subc (code Tryz.f80) [1, 1, 1, 0, 0])) (b := (subc (code Tryz.f80) [1, 1, 1, 0, 1])) (by kernel_rfl) (ann_nil _) (ann_blk (x := (subc (code Tryz.f80) [1, 1, 1, 0, 1, 0])) (by kernel_rfl) (ann_loop (x := (subc (code Tryz.f80) [1, 1, 1, 0, 1, 0, 0])) (by kernel_rfl) k80_l0))) (ann_seq (a := (subc (code Tryz.f80) [1, 1, 1, 1, 0])) (b := (subc (code Tryz.f80) [1, 1, 1, 1, 1])) (by kernel_rfl) (ann_seq (a := (subc (code Tryz.f80) [1, 1, 1, 1, 0, 0])) (b := (subc (code Tryz.f80) [1, 1, 1, 1, 0, 1])) (by kernel_rfl) (ann_nil _) (ann_blk (x := (subc (code Tryz.f80) [1, 1, 1, 1, 0, 1, 0])) (by kernel_rfl) (ann_loop (x := (subc (code Tryz.f80) [1, 1, 1, 1, 0, 1, 0, 0])) (by kernel_rfl) k80_l1))) (ann_nil _)))))) (fun v => Nat.le_of_ble_eq_true (by kernel_rfl)) (fun v => h80 C80_l0 C80_l1 v)
def F45_c0  : List (List UInt8) × Int × Int × Int × Bool × Bool × Bool × Int × Int × Bool × Bool × Bool × Int × Int × Unit → Option (List (List UInt8) × Int × Int × Bool × Bool × Bool × Int × Int × Bool × Bool × Bool × Int × Int × Unit) := fun (x0, x1, x2, x3, x4, x5, x6, x7, x8, x9, x10, x11, x12, x13, _) =>
 bif x11 then some (x0, x1, x2, x4, x5, x6, x7, x8, x9, x10, true, x12, x13, ())
 else some (x0, x1, x2, x4, x5, x6, x7, x8, x9, x10, decide (x3 ≥ 0), x12, x13, ())
theorem h45_c0  (v : HS f45_c0_ins) : aev Γ (fun f => Ae.lookA f []) 0 (subc (code Tryz.f45) [1, 1, 1, 0, 1, 0, 0, 1, 0, 0, 1, 1, 1, 0, 1]) .nil (stof f45_c0_ins v) (oout 0 f45_c0_outs) = F45_c0 v := by kernel_rfl
def C45_c0 (v : List (List UInt8) × Int × Int × Int × Bool × Bool × Bool × Int × Int × Bool × Bool × Bool × Int × Int × Unit) : Option (List (List UInt8) × Int × Int × Bool × Bool × Bool × Int × Int × Bool × Bool × Bool × Int × Int × Unit) := F45_c0 v
theorem k45_c0 : FragOk Tryz.prog 0 (fun Q a w => ((subc (code Tryz.f45) [1, 1, 1, 0, 1, 0, 0, 1, 0, 0, 1, 1, 1, 0, 1])).wp Tryz.prog Q a w) ⟨f45_c0_ins, f45_c0_outs, C45_c0⟩ :=
 frag_code (ins := f45_c0_ins) (os := f45_c0_outs) (np := 0) (n := .nil) (F := C45_c0) hm hΓ (K := (fun f => Ae.lookA f [])) (kok_nil _)
 (ann_nil _) (fun v => h45_c0 v)
def F45_l0 (f36 : List UInt8 × Unit → Option (List (Int) × Int × Unit)) (f79 : List UInt8 × Unit → Option (Int × Unit)) (f45_c0 : List (List UInt8) × Int × Int × Int × Bool × Bool × Bool × Int × Int × Bool × Bool × Bool × Int × Int × Unit → Option (List (List UInt8) × Int × Int × Bool × Bool × Bool × Int × Int × Bool × Bool × Bool × Int × Int × Unit)) : List (List UInt8) × Int × Int × Bool × Bool × Bool × Int × Int × Bool × Bool × Bool × Int × Int × Unit → Option ((List (List UInt8) × Int × Int × Bool × Bool × Bool × Int × Int × Bool × Bool × Bool × Int × Int × Unit) ⊕ (List (List UInt8) × Bool × Bool × Bool × Int × Int × Bool × Bool × Bool × Int × Int × Unit)) := fun (x0, x1, x2, x3, x4, x5, x6, x7, x8, x9, x10, x11, x12, _) =>
 bif decide (x2 < (↑x0.length : Int)) then
 bif decide (0 ≤ x2) && decide (x2 < (↑x0.length : Int)) then
 (f79 (x0.getD x2.toNat [], ())).bind fun val =>
 bif decide (0 ≤ x2) && decide (x2 < (↑x0.length : Int)) then
 (f36 (x0.getD x2.toNat [], ())).bind fun val_1 =>
 bif decide (x2 < x1) then
 bif x8 then
 (f45_c0 (x0, x1, x2, val_1.2.1, x3, x4, x5, x6, x7, true, x9, x10, x11, x12, ())).bind fun val =>
 some
 (Sum.inl
 (val.1, val.2.1, IntKind.i64.wrap (val.2.2.1 + 1), val.2.2.2.1,
 val.2.2.2.2.1, val.2.2.2.2.2.1, val.2.2.2.2.2.2.1,
 val.2.2.2.2.2.2.2.1, val.2.2.2.2.2.2.2.2.1,
 val.2.2.2.2.2.2.2.2.2.1, val.2.2.2.2.2.2.2.2.2.2.1,
 val.2.2.2.2.2.2.2.2.2.2.2.1,
 val.2.2.2.2.2.2.2.2.2.2.2.2.1, ()))
 else
 (f45_c0 (x0, x1, x2, val_1.2.1, x3, x4, x5, x6, x7, decide (val.1 ≥ 0), x9, x10, x11, x12, ())).bind
 fun val =>
 some
 (Sum.inl
 (val.1, val.2.1, IntKind.i64.wrap (val.2.2.1 + 1), val.2.2.2.1,
 val.2.2.2.2.1, val.2.2.2.2.2.1, val.2.2.2.2.2.2.1,
 val.2.2.2.2.2.2.2.1, val.2.2.2.2.2.2.2.2.1,
 val.2.2.2.2.2.2.2.2.2.1, val.2.2.2.2.2.2.2.2.2.2.1,
 val.2.2.2.2.2.2.2.2.2.2.2.1,
 val.2.2.2.2.2.2.2.2.2.2.2.2.1, ()))
 else
 bif x9 then
 some
 (Sum.inl (x0, x1, IntKind.i64.wrap (x2 + 1), x3, x4, x5, x6, x7, x8, true, x10, x11, x12, ()))
 else
 some
 (Sum.inl
 (x0, x1, IntKind.i64.wrap (x2 + 1), x3, x4, x5, x6, x7, x8, decide (val.1 ≥ 0), x10, x11, x12,
 ()))
 else none
 else none
 else some (Sum.inr (x0, x3, x4, x5, x6, x7, x8, x9, x10, x11, x12, ()))
theorem h45_l0 (f36 : HS f36_ins → Option (OTy f36_outs)) (f79 : HS f79_ins → Option (OTy f79_outs)) (f45_c0 : HS f45_c0_ins → Option (OTy f45_c0_outs)) (v : HS f45_l0_ins) : aev Γ (fun f => Ae.lookA f [(36, ⟨f36_ins, f36_outs, f36⟩), (79, ⟨f79_ins, f79_outs, f79⟩)]) 0 (subc (code Tryz.f45) [1, 1, 1, 0, 1, 0, 0]) (.seq .nil (.seq (.blk (.seq .nil (.seq .nil (.seq .nil (.cond (.cut .nil ⟨f45_c0_ins, f45_c0_outs, f45_c0⟩) .nil))))) .nil)) (stof f45_l0_ins v) (around 0 f45_l0_ins f45_l0_outs) = F45_l0 f36 f79 f45_c0 v := by kernel_rfl
def C45_l0 (v : List (List UInt8) × Int × Int × Bool × Bool × Bool × Int × Int × Bool × Bool × Bool × Int × Int × Unit) : Option (List (List UInt8) × Bool × Bool × Bool × Int × Int × Bool × Bool × Bool × Int × Int × Unit) := loopN (F45_l0 C36 C79 C45_c0) big v
theorem k45_l0 : FragOk Tryz.prog 0 (fun Q a w => (Code.loop (subc (code Tryz.f45) [1, 1, 1, 0, 1, 0, 0])).wp Tryz.prog Q a w) ⟨f45_l0_ins, f45_l0_outs, C45_l0⟩ :=
 frag_loop (ins := f45_l0_ins) (os := f45_l0_outs) (np := 0) (n := (.seq .nil (.seq (.blk (.seq .nil (.seq .nil (.seq .nil (.cond (.cut .nil ⟨f45_c0_ins, f45_c0_outs, C45_c0⟩) .nil))))) .nil))) (F := F45_l0 C36 C79 C45_c0) hm hΓ (K := (fun f => Ae.lookA f [(36, ⟨f36_ins, f36_outs, C36⟩), (79, ⟨f79_ins, f79_outs, C79⟩)])) (kok_cons ok36 (kok_cons ok79 (kok_nil _))) (fun _ => big)
 (ann_seq (a := (subc (code Tryz.f45) [1, 1, 1, 0, 1, 0, 0, 0])) (b := (subc (code Tryz.f45) [1, 1, 1, 0, 1, 0, 0, 1])) (by kernel_rfl) (ann_nil _) (ann_seq (a := (subc (code Tryz.f45) [1, 1, 1, 0, 1, 0, 0, 1, 0])) (b := (subc (code Tryz.f45) [1, 1, 1, 0, 1, 0, 0, 1, 1])) (by kernel_rfl) (ann_blk (x := (subc (code Tryz.f45) [1, 1, 1, 0, 1, 0, 0, 1, 0, 0])) (by kernel_rfl) (ann_seq (a := (subc (code Tryz.f45) [1, 1, 1, 0, 1, 0, 0, 1, 0, 0, 0])) (b := (subc (code Tryz.f45) [1, 1, 1, 0, 1, 0, 0, 1, 0, 0, 1])) (by kernel_rfl) (ann_nil _) (ann_seq (a := (subc (code Tryz.f45) [1, 1, 1, 0, 1, 0, 0, 1, 0, 0, 1, 0])) (b := (subc (code Tryz.f45) [1, 1, 1, 0, 1, 0, 0, 1, 0, 0, 1, 1])) (by kernel_rfl) (ann_nil _) (ann_seq (a := (subc (code Tryz.f45) [1, 1, 1, 0, 1, 0, 0, 1, 0, 0, 1, 1, 0])) (b := (subc (code Tryz.f45) [1, 1, 1, 0, 1, 0, 0, 1, 0, 0, 1, 1, 1])) (by kernel_rfl) (ann_nil _) (ann_cond (x := (subc (code Tryz.f45) [1, 1, 1, 0, 1, 0, 0, 1, 0, 0, 1, 1, 1, 0])) (y := (subc (code Tryz.f45) [1, 1, 1, 0, 1, 0, 0, 1, 0, 0, 1, 1, 1, 1])) (by kernel_rfl) (ann_cut (a := (subc (code Tryz.f45) [1, 1, 1, 0, 1, 0, 0, 1, 0, 0, 1, 1, 1, 0, 0])) (b := (subc (code Tryz.f45) [1, 1, 1, 0, 1, 0, 0, 1, 0, 0, 1, 1, 1, 0, 1])) (by kernel_rfl) (ann_nil _) k45_c0) (ann_nil _)))))) (ann_nil _))) (fun v => h45_l0 C36 C79 C45_c0 v)
end Go.Proofs.YtmfcepdbpdihgaaGreatDoor.W
set_option maxRecDepth 100000
set_option linter.unusedVariables false
namespace Go.Proofs.YtmfcepdbpdihgaaGreatDoor.W
open Go Go.Ae
def F45_l1  : List ((List UInt8 × List UInt8)) × Int × Bool × Bool × Bool × Int × Int × Bool × Bool × Bool × Int × Int × Unit → Option ((List ((List UInt8 × List UInt8)) × Int × Bool × Bool × Bool × Int × Int × Bool × Bool × Bool × Int × Int × Unit) ⊕ (Bool × Bool × Bool × Int × Int × Bool × Bool × Bool × Int × Int × Unit)) := fun (x0, x1, x2, x3, x4, x5, x6, x7, x8, x9, x10, x11, _) =>
 bif decide (x1 < (↑x0.length : Int)) then
 bif decide (0 ≤ x1) && decide (x1 < (↑x0.length : Int)) then
 bif (x0.getD x1.toNat ([], [])).1 == [114, 101, 99, 101, 105, 118, 101, 100] then
 some
 (Sum.inl
 (x0, IntKind.i64.wrap (x1 + 1), x2, x3, x4, x5, x6, x7, x8, x9, x10, IntKind.i64.wrap (x11 + 1), ()))
 else some (Sum.inl (x0, IntKind.i64.wrap (x1 + 1), x2, x3, x4, x5, x6, x7, x8, x9, x10, x11, ()))
 else none
 else some (Sum.inr (x2, x3, x4, x5, x6, x7, x8, x9, x10, x11, ()))
theorem h45_l1  (v : HS f45_l1_ins) : aev Γ (fun f => Ae.lookA f []) 0 (subc (code Tryz.f45) [1, 1, 1, 1, 1, 0, 1, 0, 0]) .nil (stof f45_l1_ins v) (around 0 f45_l1_ins f45_l1_outs) = F45_l1 v := by kernel_rfl
def C45_l1 (v : List ((List UInt8 × List UInt8)) × Int × Bool × Bool × Bool × Int × Int × Bool × Bool × Bool × Int × Int × Unit) : Option (Bool × Bool × Bool × Int × Int × Bool × Bool × Bool × Int × Int × Unit) := loopN (F45_l1) big v
theorem k45_l1 : FragOk Tryz.prog 0 (fun Q a w => (Code.loop (subc (code Tryz.f45) [1, 1, 1, 1, 1, 0, 1, 0, 0])).wp Tryz.prog Q a w) ⟨f45_l1_ins, f45_l1_outs, C45_l1⟩ :=
 frag_loop (ins := f45_l1_ins) (os := f45_l1_outs) (np := 0) (n := .nil) (F := F45_l1) hm hΓ (K := (fun f => Ae.lookA f [])) (kok_nil _) (fun _ => big)
 (ann_nil _) (fun v => h45_l1 v)
def F45 (f78 : List (List UInt8) × Unit → Option (Int × Unit)) (f80 : List (List UInt8) × Unit → Option (List ((List UInt8 × List UInt8)) × Unit)) (f45_l0 : List (List UInt8) × Int × Int × Bool × Bool × Bool × Int × Int × Bool × Bool × Bool × Int × Int × Unit → Option (List (List UInt8) × Bool × Bool × Bool × Int × Int × Bool × Bool × Bool × Int × Int × Unit)) (f45_l1 : List ((List UInt8 × List UInt8)) × Int × Bool × Bool × Bool × Int × Int × Bool × Bool × Bool × Int × Int × Unit → Option (Bool × Bool × Bool × Int × Int × Bool × Bool × Bool × Int × Int × Unit)) : List (List UInt8) × Unit → Option (Bool × Bool × Bool × Int × Int × Unit) := fun (x0, _) =>
 (f78 (x0, ())).bind fun val =>
 (f45_l0 (x0, val.1, 0, false, false, false, 0, 0, false, false, false, val.1, 0, ())).bind fun val =>
 (f80 (val.1, ())).bind fun val_1 =>
 (f45_l1
 (val_1.1, 0, val.2.1, val.2.2.1, val.2.2.2.1, val.2.2.2.2.1,
 val.2.2.2.2.2.1, val.2.2.2.2.2.2.1, val.2.2.2.2.2.2.2.1,
 val.2.2.2.2.2.2.2.2.1, val.2.2.2.2.2.2.2.2.2.1,
 val.2.2.2.2.2.2.2.2.2.2.1, ())).bind
 fun val =>
 some
 (val.2.2.2.2.2.1, val.2.2.2.2.2.2.1, val.2.2.2.2.2.2.2.1,
 val.2.2.2.2.2.2.2.2.1, val.2.2.2.2.2.2.2.2.2.1, ())
theorem h45 (f78 : HS f78_ins → Option (OTy f78_outs)) (f80 : HS f80_ins → Option (OTy f80_outs)) (f45_l0 : HS f45_l0_ins → Option (OTy f45_l0_outs)) (f45_l1 : HS f45_l1_ins → Option (OTy f45_l1_outs)) (v : HS f45_ins) : afun Γ (fun f => Ae.lookA f [(78, ⟨f78_ins, f78_outs, f78⟩), (80, ⟨f80_ins, f80_outs, f80⟩)]) 0 Tryz.f45.ntmps Tryz.f45.results.toList (code Tryz.f45) (.seq .nil (.seq .nil (.seq .nil (.seq (.seq .nil (.blk (.loop ⟨f45_l0_ins, f45_l0_outs, f45_l0⟩))) (.seq .nil (.seq (.seq .nil (.blk (.loop ⟨f45_l1_ins, f45_l1_outs, f45_l1⟩))) .nil)))))) (em id f45_ins v).1 (em id f45_ins v).2 (ofin 0 f45_outs) = F45 f78 f80 f45_l0 f45_l1 v := by kernel_rfl
def C45 (v : List (List UInt8) × Unit) : Option (Bool × Bool × Bool × Int × Int × Unit) := F45 C78 C80 C45_l0 C45_l1 v
theorem ok45 : FnOk Tryz.prog 45 ⟨f45_ins, f45_outs, C45⟩ :=
 fn_ok (np := 0) (n := (.seq .nil (.seq .nil (.seq .nil (.seq (.seq .nil (.blk (.loop ⟨f45_l0_ins, f45_l0_outs, C45_l0⟩))) (.seq .nil (.seq (.seq .nil (.blk (.loop ⟨f45_l1_ins, f45_l1_outs, C45_l1⟩))) .nil))))))) hm hΓ (K := (fun f => Ae.lookA f [(78, ⟨f78_ins, f78_outs, C78⟩), (80, ⟨f80_ins, f80_outs, C80⟩)])) (kok_cons ok78 (kok_cons ok80 (kok_nil _))) Tryz.func45 (c := code Tryz.f45) (by kernel_rfl) (name_ne (by kernel_rfl))
 (ann_seq (a := (subc (code Tryz.f45) [0])) (b := (subc (code Tryz.f45) [1])) (by kernel_rfl) (ann_nil _) (ann_seq (a := (subc (code Tryz.f45) [1, 0])) (b := (subc (code Tryz.f45) [1, 1])) (by kernel_rfl) (ann_nil _) (ann_seq (a := (subc (code Tryz.f45) [1, 1, 0])) (b := (subc (code Tryz.f45) [1, 1, 1])) (by kernel_rfl) (ann_nil _) (ann_seq (a := (subc (code Tryz.f45) [1, 1, 1, 0])) (b := (subc (code Tryz.f45) [1, 1, 1, 1])) (by kernel_rfl) (ann_seq (a := (subc (code Tryz.f45) [1, 1, 1, 0, 0])) (b := (subc (code Tryz.f45) [1, 1, 1, 0, 1])) (by kernel_rfl) (ann_nil _) (ann_blk (x := (subc (code Tryz.f45) [1, 1, 1, 0, 1, 0])) (by kernel_rfl) (ann_loop (x := (subc (code Tryz.f45) [1, 1, 1, 0, 1, 0, 0])) (by kernel_rfl) k45_l0))) (ann_seq (a := (subc (code Tryz.f45) [1, 1, 1, 1, 0])) (b := (subc (code Tryz.f45) [1, 1, 1, 1, 1])) (by kernel_rfl) (ann_nil _) (ann_seq (a := (subc (code Tryz.f45) [1, 1, 1, 1, 1, 0])) (b := (subc (code Tryz.f45) [1, 1, 1, 1, 1, 1])) (by kernel_rfl) (ann_seq (a := (subc (code Tryz.f45) [1, 1, 1, 1, 1, 0, 0])) (b := (subc (code Tryz.f45) [1, 1, 1, 1, 1, 0, 1])) (by kernel_rfl) (ann_nil _) (ann_blk (x := (subc (code Tryz.f45) [1, 1, 1, 1, 1, 0, 1, 0])) (by kernel_rfl) (ann_loop (x := (subc (code Tryz.f45) [1, 1, 1, 1, 1, 0, 1, 0, 0])) (by kernel_rfl) k45_l1))) (ann_nil _))))))) (fun v => Nat.le_of_ble_eq_true (by kernel_rfl)) (fun v => h45 C78 C80 C45_l0 C45_l1 v)
def F17_l0  : List (List UInt8) × Int × Bool × List UInt8 × List UInt8 × Bool × Bool × Bool × Int × Int × Int × Bool × List UInt8 × List UInt8 × List (List UInt8) × Bool × Bool × Bool × Int × Int × Int × List ((Bool × (List UInt8 × List UInt8))) × Unit → Option ((List (List UInt8) × Int × Bool × List UInt8 × List UInt8 × Bool × Bool × Bool × Int × Int × Int × Bool × List UInt8 × List UInt8 × List (List UInt8) × Bool × Bool × Bool × Int × Int × Int × List ((Bool × (List UInt8 × List UInt8))) × Unit) ⊕ (Bool × List UInt8 × List UInt8 × Bool × Bool × Bool × Int × Int × Int × Bool × List UInt8 × List UInt8 × List (List UInt8) × Bool × Bool × Bool × Int × Int × Int × List ((Bool × (List UInt8 × List UInt8))) × Unit)) := fun (x0, x1, x2, x3, x4, x5, x6, x7, x8, x9, x10, x11, x12, x13, x14, x15, x16, x17, x18, x19, x20, x21, _) =>
 bif decide (x1 < (↑x0.length : Int)) then
 bif decide (0 ≤ x1) && decide (x1 < (↑x0.length : Int)) then
 some
 (Sum.inl
 (x0, IntKind.i64.wrap (x1 + 1), x2, x3, x4, x5, x6, x7, x8, x9, x10, x11, x12, x13, x14, x15, x16, x17, x18,
 x19, IntKind.i64.wrap (IntKind.i64.wrap (x20 + (↑(List.length (x0.getD x1.toNat [])) : Int)) + 2),
 x21, ()))
 else none
 else
 some
 (Sum.inr (x2, x3, x4, x5, x6, x7, x8, x9, x10, x11, x12, x13, x14, x15, x16, x17, x18, x19, x20, x21, ()))
theorem h17_l0  (v : HS f17_l0_ins) : aev Γ (fun f => Ae.lookA f []) 0 (subc (code Tryz.f17) [1, 1, 1, 1, 1, 1, 1, 1, 0, 1, 0, 0]) .nil (stof f17_l0_ins v) (around 0 f17_l0_ins f17_l0_outs) = F17_l0 v := by kernel_rfl
def C17_l0 (v : List (List UInt8) × Int × Bool × List UInt8 × List UInt8 × Bool × Bool × Bool × Int × Int × Int × Bool × List UInt8 × List UInt8 × List (List UInt8) × Bool × Bool × Bool × Int × Int × Int × List ((Bool × (List UInt8 × List UInt8))) × Unit) : Option (Bool × List UInt8 × List UInt8 × Bool × Bool × Bool × Int × Int × Int × Bool × List UInt8 × List UInt8 × List (List UInt8) × Bool × Bool × Bool × Int × Int × Int × List ((Bool × (List UInt8 × List UInt8))) × Unit) := loopN (F17_l0) big v
theorem k17_l0 : FragOk Tryz.prog 0 (fun Q a w => (Code.loop (subc (code Tryz.f17) [1, 1, 1, 1, 1, 1, 1, 1, 0, 1, 0, 0])).wp Tryz.prog Q a w) ⟨f17_l0_ins, f17_l0_outs, C17_l0⟩ :=
 frag_loop (ins := f17_l0_ins) (os := f17_l0_outs) (np := 0) (n := .nil) (F := F17_l0) hm hΓ (K := (fun f => Ae.lookA f [])) (kok_nil _) (fun _ => big)
 (ann_nil _) (fun v => h17_l0 v)
def F17_c0 (f45 : List (List UInt8) × Unit → Option (Bool × Bool × Bool × Int × Int × Unit)) (f17_l0 : List (List UInt8) × Int × Bool × List UInt8 × List UInt8 × Bool × Bool × Bool × Int × Int × Int × Bool × List UInt8 × List UInt8 × List (List UInt8) × Bool × Bool × Bool × Int × Int × Int × List ((Bool × (List UInt8 × List UInt8))) × Unit → Option (Bool × List UInt8 × List UInt8 × Bool × Bool × Bool × Int × Int × Int × Bool × List UInt8 × List UInt8 × List (List UInt8) × Bool × Bool × Bool × Int × Int × Int × List ((Bool × (List UInt8 × List UInt8))) × Unit)) : List (List UInt8) × Int × Bool × List UInt8 × List UInt8 × List (((Bool × (List UInt8 × List UInt8)) × (Int × (Int × (Int × Int))))) × List (List UInt8) × Bool × Bool × Bool × Int × Int × Int × Bool × List UInt8 × List UInt8 × Bool × Bool × Bool × Int × Int × Int × Unit → Option (Bool × Bool × List UInt8 × List UInt8 × List (List UInt8) × Bool × Bool × Bool × Int × Int × Int × List ((Bool × (List UInt8 × List UInt8))) × Unit) := fun (x0, x1, x2, x3, x4, x5, x6, x7, x8, x9, x10, x11, x12, x13, x14, x15, x16, x17, x18, x19, x20, x21, _) =>
 (f45 (x0, ())).bind fun val =>
 (f17_l0
 (x0, 0, x13, x14, x15, x16, x17, x18, x19, x20, x21, true, [], [], x0, val.1, val.2.1, val.2.2.1,
 val.2.2.2.1, val.2.2.2.2.1, 0, [(x2, x3, x4)], ())).bind
 fun val =>
 some
 (true, val.2.2.2.2.2.2.2.2.2.1, val.2.2.2.2.2.2.2.2.2.2.1,
 val.2.2.2.2.2.2.2.2.2.2.2.1, val.2.2.2.2.2.2.2.2.2.2.2.2.1,
 val.2.2.2.2.2.2.2.2.2.2.2.2.2.1,
 val.2.2.2.2.2.2.2.2.2.2.2.2.2.2.1,
 val.2.2.2.2.2.2.2.2.2.2.2.2.2.2.2.1,
 val.2.2.2.2.2.2.2.2.2.2.2.2.2.2.2.2.1,
 val.2.2.2.2.2.2.2.2.2.2.2.2.2.2.2.2.2.1,
 val.2.2.2.2.2.2.2.2.2.2.2.2.2.2.2.2.2.2.1,
 val.2.2.2.2.2.2.2.2.2.2.2.2.2.2.2.2.2.2.2.1, ())
theorem h17_c0 (f45 : HS f45_ins → Option (OTy f45_outs)) (f17_l0 : HS f17_l0_ins → Option (OTy f17_l0_outs)) (v : HS f17_c0_ins) : aev Γ (fun f => Ae.lookA f [(45, ⟨f45_ins, f45_outs, f45⟩)]) 0 (subc (code Tryz.f17) [1, 1, 1, 1, 1, 1, 1]) (.seq .nil (.seq (.seq .nil (.blk (.loop ⟨f17_l0_ins, f17_l0_outs, f17_l0⟩))) .nil)) (stof f17_c0_ins v) (oout 0 f17_c0_outs) = F17_c0 f45 f17_l0 v := by kernel_rfl
def C17_c0 (v : List (List UInt8) × Int × Bool × List UInt8 × List UInt8 × List (((Bool × (List UInt8 × List UInt8)) × (Int × (Int × (Int × Int))))) × List (List UInt8) × Bool × Bool × Bool × Int × Int × Int × Bool × List UInt8 × List UInt8 × Bool × Bool × Bool × Int × Int × Int × Unit) : Option (Bool × Bool × List UInt8 × List UInt8 × List (List UInt8) × Bool × Bool × Bool × Int × Int × Int × List ((Bool × (List UInt8 × List UInt8))) × Unit) := F17_c0 C45 C17_l0 v
theorem k17_c0 : FragOk Tryz.prog 0 (fun Q a w => ((subc (code Tryz.f17) [1, 1, 1, 1, 1, 1, 1])).wp Tryz.prog Q a w) ⟨f17_c0_ins, f17_c0_outs, C17_c0⟩ :=
 frag_code (ins := f17_c0_ins) (os := f17_c0_outs) (np := 0) (n := (.seq .nil (.seq (.seq .nil (.blk (.loop ⟨f17_l0_ins, f17_l0_outs, C17_l0⟩))) .nil))) (F := C17_c0) hm hΓ (K := (fun f => Ae.lookA f [(45, ⟨f45_ins, f45_outs, C45⟩)])) (kok_cons ok45 (kok_nil _))
 (ann_seq (a := (subc (code Tryz.f17) [1, 1, 1, 1, 1, 1, 1, 0])) (b := (subc (code Tryz.f17) [1, 1, 1, 1, 1, 1, 1, 1])) (by kernel_rfl) (ann_nil _) (ann_seq (a := (subc (code Tryz.f17) [1, 1, 1, 1, 1, 1, 1, 1, 0])) (b := (subc (code Tryz.f17) [1, 1, 1, 1, 1, 1, 1, 1, 1])) (by kernel_rfl) (ann_seq (a := (subc (code Tryz.f17) [1, 1, 1, 1, 1, 1, 1, 1, 0, 0])) (b := (subc (code Tryz.f17) [1, 1, 1, 1, 1, 1, 1, 1, 0, 1])) (by kernel_rfl) (ann_nil _) (ann_blk (x := (subc (code Tryz.f17) [1, 1, 1, 1, 1, 1, 1, 1, 0, 1, 0])) (by kernel_rfl) (ann_loop (x := (subc (code Tryz.f17) [1, 1, 1, 1, 1, 1, 1, 1, 0, 1, 0, 0])) (by kernel_rfl) k17_l0))) (ann_nil _))) (fun v => h17_c0 C45 C17_l0 v)
def F17_c1 (f12 : List UInt8 × Unit → Option (List UInt8 × Unit)) (f14 : Int × Unit → Option (List UInt8 × Unit)) (f42 : List UInt8 × List UInt8 × List UInt8 × List UInt8 × Unit → Option (List (List UInt8) × Unit)) (f43 : Int × Unit → Option (List UInt8 × Unit)) (f44 : Bool × List UInt8 × List UInt8 × Unit → Option (List UInt8 × Unit)) (f17_c0 : List (List UInt8) × Int × Bool × List UInt8 × List UInt8 × List (((Bool × (List UInt8 × List UInt8)) × (Int × (Int × (Int × Int))))) × List (List UInt8) × Bool × Bool × Bool × Int × Int × Int × Bool × List UInt8 × List UInt8 × Bool × Bool × Bool × Int × Int × Int × Unit → Option (Bool × Bool × List UInt8 × List UInt8 × List (List UInt8) × Bool × Bool × Bool × Int × Int × Int × List ((Bool × (List UInt8 × List UInt8))) × Unit)) : List UInt8 × Int × List UInt8 × Int × Int × Bool × List UInt8 × List UInt8 × List (((Bool × (List UInt8 × List UInt8)) × (Int × (Int × (Int × Int))))) × List (List UInt8) × Bool × Bool × Bool × Int × Int × Int × Bool × List UInt8 × List UInt8 × Bool × Bool × Bool × Int × Int × Int × Unit → Option (Bool × Bool × List UInt8 × List UInt8 × List (List UInt8) × Bool × Bool × Bool × Int × Int × Int × List ((Bool × (List UInt8 × List UInt8))) × Unit) := fun (x0, x1, x2, x3, x4, x5, x6, x7, x8, x9, x10, x11, x12, x13, x14, x15, x16, x17, x18, x19, x20, x21, x22, x23, x24, _) =>
 (f12 (x0, ())).bind fun val =>
 (f43 (x3, ())).bind fun val_1 =>
 bif decide (x2.length + List.length val_1.1 ≤ 9223372036854775807) then
 bif decide (0 ≤ x1) && decide (x1 < (↑x8.length : Int)) then
 (f44
 ((x8.getD x1.toNat
 ((false, ([], [])), (0, (0, (0, 0))))).1.1,
 (x8.getD x1.toNat
 ((false, ([], [])), (0, (0, (0, 0))))).1.2.1,
 (x8.getD x1.toNat
 ((false, ([], [])), (0, (0, (0, 0))))).1.2.2,
 ())).bind
 fun val_2 =>
 (f12 (val_2.1, ())).bind fun val_3 =>
 bif decide (0 ≤ x1) && decide (x1 < (↑x8.length : Int)) then
 (f14
 ((x8.getD x1.toNat
 ((false, ([], [])), (0, (0, (0, 0))))).2.2.2.2,
 ())).bind
 fun val_4 =>
 (f42 (val.1, x2 ++ val_1.1, val_3.1, val_4.1, ())).bind fun val =>
 (f17_c0
 (val.1, x4, x5, x6, x7, x8, x9, x10, x11, x12, x13, x14, x15, x16, x17, x18, x19, x20, x21,
 x22, x23, x24, ())).bind
 fun val =>
 some
 (val.1, val.2.1, val.2.2.1, val.2.2.2.1, val.2.2.2.2.1,
 val.2.2.2.2.2.1, val.2.2.2.2.2.2.1,
 val.2.2.2.2.2.2.2.1, val.2.2.2.2.2.2.2.2.1,
 val.2.2.2.2.2.2.2.2.2.1, val.2.2.2.2.2.2.2.2.2.2.1,
 val.2.2.2.2.2.2.2.2.2.2.2.1, ())
 else none
 else none
 else none
theorem h17_c1 (f12 : HS f12_ins → Option (OTy f12_outs)) (f14 : HS f14_ins → Option (OTy f14_outs)) (f42 : HS f42_ins → Option (OTy f42_outs)) (f43 : HS f43_ins → Option (OTy f43_outs)) (f44 : HS f44_ins → Option (OTy f44_outs)) (f17_c0 : HS f17_c0_ins → Option (OTy f17_c0_outs)) (v : HS f17_c1_ins) : aev Γ (fun f => Ae.lookA f [(12, ⟨f12_ins, f12_outs, f12⟩), (14, ⟨f14_ins, f14_outs, f14⟩), (42, ⟨f42_ins, f42_outs, f42⟩), (43, ⟨f43_ins, f43_outs, f43⟩), (44, ⟨f44_ins, f44_outs, f44⟩)]) 0 (subc (code Tryz.f17) [1, 1, 1, 1, 1, 1]) (.cut .nil ⟨f17_c0_ins, f17_c0_outs, f17_c0⟩) (stof f17_c1_ins v) (oout 0 f17_c1_outs) = F17_c1 f12 f14 f42 f43 f44 f17_c0 v := by kernel_rfl
def C17_c1 (v : List UInt8 × Int × List UInt8 × Int × Int × Bool × List UInt8 × List UInt8 × List (((Bool × (List UInt8 × List UInt8)) × (Int × (Int × (Int × Int))))) × List (List UInt8) × Bool × Bool × Bool × Int × Int × Int × Bool × List UInt8 × List UInt8 × Bool × Bool × Bool × Int × Int × Int × Unit) : Option (Bool × Bool × List UInt8 × List UInt8 × List (List UInt8) × Bool × Bool × Bool × Int × Int × Int × List ((Bool × (List UInt8 × List UInt8))) × Unit) := F17_c1 C12 C14 C42 C43 C44 C17_c0 v
theorem k17_c1 : FragOk Tryz.prog 0 (fun Q a w => ((subc (code Tryz.f17) [1, 1, 1, 1, 1, 1])).wp Tryz.prog Q a w) ⟨f17_c1_ins, f17_c1_outs, C17_c1⟩ :=
 frag_code (ins := f17_c1_ins) (os := f17_c1_outs) (np := 0) (n := (.cut .nil ⟨f17_c0_ins, f17_c0_outs, C17_c0⟩)) (F := C17_c1) hm hΓ (K := (fun f => Ae.lookA f [(12, ⟨f12_ins, f12_outs, C12⟩), (14, ⟨f14_ins, f14_outs, C14⟩), (42, ⟨f42_ins, f42_outs, C42⟩), (43, ⟨f43_ins, f43_outs, C43⟩), (44, ⟨f44_ins, f44_outs, C44⟩)])) (kok_cons ok12 (kok_cons ok14 (kok_cons ok42 (kok_cons ok43 (kok_cons ok44 (kok_nil _))))))
 (ann_cut (a := (subc (code Tryz.f17) [1, 1, 1, 1, 1, 1, 0])) (b := (subc (code Tryz.f17) [1, 1, 1, 1, 1, 1, 1])) (by kernel_rfl) (ann_nil _) k17_c0) (fun v => h17_c1 C12 C14 C42 C43 C44 C17_c0 v)
def F17_c2 (f17_c1 : List UInt8 × Int × List UInt8 × Int × Int × Bool × List UInt8 × List UInt8 × List (((Bool × (List UInt8 × List UInt8)) × (Int × (Int × (Int × Int))))) × List (List UInt8) × Bool × Bool × Bool × Int × Int × Int × Bool × List UInt8 × List UInt8 × Bool × Bool × Bool × Int × Int × Int × Unit → Option (Bool × Bool × List UInt8 × List UInt8 × List (List UInt8) × Bool × Bool × Bool × Int × Int × Int × List ((Bool × (List UInt8 × List UInt8))) × Unit)) : List UInt8 × Int × List UInt8 × Int × Bool × List UInt8 × List UInt8 × List (((Bool × (List UInt8 × List UInt8)) × (Int × (Int × (Int × Int))))) × List (List UInt8) × Bool × Bool × Bool × Int × Int × Int × Bool × List UInt8 × List UInt8 × Bool × Bool × Bool × Int × Int × Int × Unit → Option (Bool × Bool × List UInt8 × List UInt8 × List (List UInt8) × Bool × Bool × Bool × Int × Int × Int × List ((Bool × (List UInt8 × List UInt8))) × Unit) := fun (x0, x1, x2, x3, x4, x5, x6, x7, x8, x9, x10, x11, x12, x13, x14, x15, x16, x17, x18, x19, x20, x21, x22, x23, _) =>
 bif decide (x3 < 0) then
 (f17_c1
 (x0, x1, x2, IntKind.u64.wrap (0 - IntKind.u64.wrap x3), x3, x4, x5, x6, x7, x8, x9, x10, x11, x12, x13, x14,
 x15, x16, x17, x18, x19, x20, x21, x22, x23, ())).bind
 fun val =>
 some
 (val.1, val.2.1, val.2.2.1, val.2.2.2.1, val.2.2.2.2.1, val.2.2.2.2.2.1,
 val.2.2.2.2.2.2.1, val.2.2.2.2.2.2.2.1, val.2.2.2.2.2.2.2.2.1,
 val.2.2.2.2.2.2.2.2.2.1, val.2.2.2.2.2.2.2.2.2.2.1,
 val.2.2.2.2.2.2.2.2.2.2.2.1, ())
 else
 (f17_c1
 (x0, x1, x2, IntKind.u64.wrap x3, x3, x4, x5, x6, x7, x8, x9, x10, x11, x12, x13, x14, x15, x16, x17, x18, x19,
 x20, x21, x22, x23, ())).bind
 fun val =>
 some
 (val.1, val.2.1, val.2.2.1, val.2.2.2.1, val.2.2.2.2.1, val.2.2.2.2.2.1,
 val.2.2.2.2.2.2.1, val.2.2.2.2.2.2.2.1, val.2.2.2.2.2.2.2.2.1,
 val.2.2.2.2.2.2.2.2.2.1, val.2.2.2.2.2.2.2.2.2.2.1,
 val.2.2.2.2.2.2.2.2.2.2.2.1, ())
theorem h17_c2 (f17_c1 : HS f17_c1_ins → Option (OTy f17_c1_outs)) (v : HS f17_c2_ins) : aev Γ (fun f => Ae.lookA f []) 0 (subc (code Tryz.f17) [1, 1, 1, 1]) (.seq .nil (.cut .nil ⟨f17_c1_ins, f17_c1_outs, f17_c1⟩)) (stof f17_c2_ins v) (oout 0 f17_c2_outs) = F17_c2 f17_c1 v := by kernel_rfl
def C17_c2 (v : List UInt8 × Int × List UInt8 × Int × Bool × List UInt8 × List UInt8 × List (((Bool × (List UInt8 × List UInt8)) × (Int × (Int × (Int × Int))))) × List (List UInt8) × Bool × Bool × Bool × Int × Int × Int × Bool × List UInt8 × List UInt8 × Bool × Bool × Bool × Int × Int × Int × Unit) : Option (Bool × Bool × List UInt8 × List UInt8 × List (List UInt8) × Bool × Bool × Bool × Int × Int × Int × List ((Bool × (List UInt8 × List UInt8))) × Unit) := F17_c2 C17_c1 v
theorem k17_c2 : FragOk Tryz.prog 0 (fun Q a w => ((subc (code Tryz.f17) [1, 1, 1, 1])).wp Tryz.prog Q a w) ⟨f17_c2_ins, f17_c2_outs, C17_c2⟩ :=
 frag_code (ins := f17_c2_ins) (os := f17_c2_outs) (np := 0) (n := (.seq .nil (.cut .nil ⟨f17_c1_ins, f17_c1_outs, C17_c1⟩))) (F := C17_c2) hm hΓ (K := (fun f => Ae.lookA f [])) (kok_nil _)
 (ann_seq (a := (subc (code Tryz.f17) [1, 1, 1, 1, 0])) (b := (subc (code Tryz.f17) [1, 1, 1, 1, 1])) (by kernel_rfl) (ann_nil _) (ann_cut (a := (subc (code Tryz.f17) [1, 1, 1, 1, 1, 0])) (b := (subc (code Tryz.f17) [1, 1, 1, 1, 1, 1])) (by kernel_rfl) (ann_nil _) k17_c1)) (fun v => h17_c2 C17_c1 v)
def F17_c3 (f17_c2 : List UInt8 × Int × List UInt8 × Int × Bool × List UInt8 × List UInt8 × List (((Bool × (List UInt8 × List UInt8)) × (Int × (Int × (Int × Int))))) × List (List UInt8) × Bool × Bool × Bool × Int × Int × Int × Bool × List UInt8 × List UInt8 × Bool × Bool × Bool × Int × Int × Int × Unit → Option (Bool × Bool × List UInt8 × List UInt8 × List (List UInt8) × Bool × Bool × Bool × Int × Int × Int × List ((Bool × (List UInt8 × List UInt8))) × Unit)) : List UInt8 × Int × Int × Bool × List UInt8 × List UInt8 × List (((Bool × (List UInt8 × List UInt8)) × (Int × (Int × (Int × Int))))) × List (List UInt8) × Bool × Bool × Bool × Int × Int × Int × Bool × List UInt8 × List UInt8 × Bool × Bool × Bool × Int × Int × Int × Unit → Option (Bool × Bool × List UInt8 × List UInt8 × List (List UInt8) × Bool × Bool × Bool × Int × Int × Int × List ((Bool × (List UInt8 × List UInt8))) × Unit) := fun (x0, x1, x2, x3, x4, x5, x6, x7, x8, x9, x10, x11, x12, x13, x14, x15, x16, x17, x18, x19, x20, x21, x22, _) =>
 bif decide (x2 < 0) then
 (f17_c2
 (x0, x1, [45], x2, x3, x4, x5, x6, x7, x8, x9, x10, x11, x12, x13, x14, x15, x16, x17, x18, x19, x20,
 x21, x22, ())).bind
 fun val =>
 some
 (val.1, val.2.1, val.2.2.1, val.2.2.2.1, val.2.2.2.2.1, val.2.2.2.2.2.1,
 val.2.2.2.2.2.2.1, val.2.2.2.2.2.2.2.1, val.2.2.2.2.2.2.2.2.1,
 val.2.2.2.2.2.2.2.2.2.1, val.2.2.2.2.2.2.2.2.2.2.1,
 val.2.2.2.2.2.2.2.2.2.2.2.1, ())
 else
 (f17_c2
 (x0, x1, [], x2, x3, x4, x5, x6, x7, x8, x9, x10, x11, x12, x13, x14, x15, x16, x17, x18, x19, x20, x21,
 x22, ())).bind
 fun val =>
 some
 (val.1, val.2.1, val.2.2.1, val.2.2.2.1, val.2.2.2.2.1, val.2.2.2.2.2.1,
 val.2.2.2.2.2.2.1, val.2.2.2.2.2.2.2.1, val.2.2.2.2.2.2.2.2.1,
 val.2.2.2.2.2.2.2.2.2.1, val.2.2.2.2.2.2.2.2.2.2.1,
 val.2.2.2.2.2.2.2.2.2.2.2.1, ())
theorem h17_c3 (f17_c2 : HS f17_c2_ins → Option (OTy f17_c2_outs)) (v : HS f17_c3_ins) : aev Γ (fun f => Ae.lookA f []) 0 (subc (code Tryz.f17) [1, 1]) (.seq .nil (.cut .nil ⟨f17_c2_ins, f17_c2_outs, f17_c2⟩)) (stof f17_c3_ins v) (oout 0 f17_c3_outs) = F17_c3 f17_c2 v := by kernel_rfl
def C17_c3 (v : List UInt8 × Int × Int × Bool × List UInt8 × List UInt8 × List (((Bool × (List UInt8 × List UInt8)) × (Int × (Int × (Int × Int))))) × List (List UInt8) × Bool × Bool × Bool × Int × Int × Int × Bool × List UInt8 × List UInt8 × Bool × Bool × Bool × Int × Int × Int × Unit) : Option (Bool × Bool × List UInt8 × List UInt8 × List (List UInt8) × Bool × Bool × Bool × Int × Int × Int × List ((Bool × (List UInt8 × List UInt8))) × Unit) := F17_c3 C17_c2 v
theorem k17_c3 : FragOk Tryz.prog 0 (fun Q a w => ((subc (code Tryz.f17) [1, 1])).wp Tryz.prog Q a w) ⟨f17_c3_ins, f17_c3_outs, C17_c3⟩ :=
 frag_code (ins := f17_c3_ins) (os := f17_c3_outs) (np := 0) (n := (.seq .nil (.cut .nil ⟨f17_c2_ins, f17_c2_outs, C17_c2⟩))) (F := C17_c3) hm hΓ (K := (fun f => Ae.lookA f [])) (kok_nil _)
 (ann_seq (a := (subc (code Tryz.f17) [1, 1, 0])) (b := (subc (code Tryz.f17) [1, 1, 1])) (by kernel_rfl) (ann_nil _) (ann_cut (a := (subc (code Tryz.f17) [1, 1, 1, 0])) (b := (subc (code Tryz.f17) [1, 1, 1, 1])) (by kernel_rfl) (ann_nil _) k17_c2)) (fun v => h17_c3 C17_c2 v)
def F17 (f17_c3 : List UInt8 × Int × Int × Bool × List UInt8 × List UInt8 × List (((Bool × (List UInt8 × List UInt8)) × (Int × (Int × (Int × Int))))) × List (List UInt8) × Bool × Bool × Bool × Int × Int × Int × Bool × List UInt8 × List UInt8 × Bool × Bool × Bool × Int × Int × Int × Unit → Option (Bool × Bool × List UInt8 × List UInt8 × List (List UInt8) × Bool × Bool × Bool × Int × Int × Int × List ((Bool × (List UInt8 × List UInt8))) × Unit)) : List UInt8 × Int × Bool × List UInt8 × List UInt8 × List (((Bool × (List UInt8 × List UInt8)) × (Int × (Int × (Int × Int))))) × List (List UInt8) × Bool × Bool × Bool × Int × Int × Int × Int × Unit → Option (Bool × List UInt8 × List UInt8 × List ((Bool × (List UInt8 × List UInt8))) × List (List UInt8) × Bool × Bool × Bool × Int × Int × Int × Bool × Unit) := fun (x0, x1, x2, x3, x4, x5, x6, x7, x8, x9, x10, x11, x12, x13, _) =>
 bif x2 then some (false, [], [], [], [], false, false, false, 0, 0, 0, false, ())
 else
 bif decide (x13 < 0) then some (false, [], [], [], [], false, false, false, 0, 0, 0, false, ())
 else
 bif decide (x13 ≥ (↑x5.length : Int)) then
 some (false, [], [], [], [], false, false, false, 0, 0, 0, false, ())
 else
 bif decide (0 ≤ x13) && decide (x13 < (↑x5.length : Int)) then
 bif
 (x5.getD x13.toNat
 ((false, ([], [])), (0, (0, (0, 0))))).2.1 !=
 3 then
 some (false, [], [], [], [], false, false, false, 0, 0, 0, false, ())
 else
 (f17_c3
 (x0, x13, x1, x2, x3, x4, x5, x6, x7, x8, x9, x10, x11, x12, false, [], [], false, false, false, 0, 0,
 0, ())).bind
 fun val =>
 some
 (val.2.1, val.2.2.1, val.2.2.2.1, val.2.2.2.2.2.2.2.2.2.2.2.1,
 val.2.2.2.2.1, val.2.2.2.2.2.1, val.2.2.2.2.2.2.1,
 val.2.2.2.2.2.2.2.1, val.2.2.2.2.2.2.2.2.1,
 val.2.2.2.2.2.2.2.2.2.1, val.2.2.2.2.2.2.2.2.2.2.1, val.1,
 ())
 else none
theorem h17 (f17_c3 : HS f17_c3_ins → Option (OTy f17_c3_outs)) (v : HS f17_ins) : afun Γ (fun f => Ae.lookA f []) 0 Tryz.f17.ntmps Tryz.f17.results.toList (code Tryz.f17) (.seq .nil (.cut .nil ⟨f17_c3_ins, f17_c3_outs, f17_c3⟩)) (em id f17_ins v).1 (em id f17_ins v).2 (ofin 0 f17_outs) = F17 f17_c3 v := by kernel_rfl
def C17 (v : List UInt8 × Int × Bool × List UInt8 × List UInt8 × List (((Bool × (List UInt8 × List UInt8)) × (Int × (Int × (Int × Int))))) × List (List UInt8) × Bool × Bool × Bool × Int × Int × Int × Int × Unit) : Option (Bool × List UInt8 × List UInt8 × List ((Bool × (List UInt8 × List UInt8))) × List (List UInt8) × Bool × Bool × Bool × Int × Int × Int × Bool × Unit) := F17 C17_c3 v
theorem ok17 : FnOk Tryz.prog 17 ⟨f17_ins, f17_outs, C17⟩ :=
 fn_ok (np := 0) (n := (.seq .nil (.cut .nil ⟨f17_c3_ins, f17_c3_outs, C17_c3⟩))) hm hΓ (K := (fun f => Ae.lookA f [])) (kok_nil _) Tryz.func17 (c := code Tryz.f17) (by kernel_rfl) (name_ne (by kernel_rfl))
 (ann_seq (a := (subc (code Tryz.f17) [0])) (b := (subc (code Tryz.f17) [1])) (by kernel_rfl) (ann_nil _) (ann_cut (a := (subc (code Tryz.f17) [1, 0])) (b := (subc (code Tryz.f17) [1, 1])) (by kernel_rfl) (ann_nil _) k17_c3)) (fun v => Nat.le_of_ble_eq_true (by kernel_rfl)) (fun v => h17 C17_c3 v)
def F81_l0  : Int × Int × List (List UInt8) × Int × List (List UInt8) × Unit → Option ((Int × Int × List (List UInt8) × Int × List (List UInt8) × Unit) ⊕ (Unit ⊕ (Bool × Unit))) := fun (x0, x1, x2, x3, x4, _) =>
 bif decide (x0 < (↑x2.length : Int)) then
 bif decide (0 ≤ x0) && decide (x0 < (↑x2.length : Int)) then
 bif decide (0 ≤ x0) && decide (x0 < (↑x4.length : Int)) then
 bif !x2.getD x0.toNat [] == x4.getD x0.toNat [] then
 some (Sum.inr (Sum.inr (false, ())))
 else some (Sum.inl (IntKind.i64.wrap (x0 + 1), x1, x2, x3, x4, ()))
 else none
 else none
 else some (Sum.inr (Sum.inl ()))
theorem h81_l0  (v : HS f81_l0_ins) : aev Γ (fun f => Ae.lookA f []) 0 (subc (code Tryz.f81) [1, 1, 0, 1, 0, 0]) .nil (stof f81_l0_ins v) (around 0 f81_l0_ins f81_l0_outs) = F81_l0 v := by kernel_rfl
def C81_l0 (v : Int × Int × List (List UInt8) × Int × List (List UInt8) × Unit) : Option (Unit ⊕ (Bool × Unit)) := loopN (F81_l0) big v
theorem k81_l0 : FragOk Tryz.prog 0 (fun Q a w => (Code.loop (subc (code Tryz.f81) [1, 1, 0, 1, 0, 0])).wp Tryz.prog Q a w) ⟨f81_l0_ins, f81_l0_outs, C81_l0⟩ :=
 frag_loop (ins := f81_l0_ins) (os := f81_l0_outs) (np := 0) (n := .nil) (F := F81_l0) hm hΓ (K := (fun f => Ae.lookA f [])) (kok_nil _) (fun _ => big)
 (ann_nil _) (fun v => h81_l0 v)
def F81 (f81_l0 : Int × Int × List (List UInt8) × Int × List (List UInt8) × Unit → Option (Unit ⊕ (Bool × Unit))) : Int × List (List UInt8) × Int × List (List UInt8) × Unit → Option (Bool × Unit) := fun (x0, x1, x2, x3, _) =>
 bif x0 != x2 then some (false, ())
 else
 bif (↑x1.length : Int) != (↑x3.length : Int) then some (false, ())
 else
 (f81_l0 (0, x0, x1, x2, x3, ())).bind fun val =>
 Sum.elim (fun val => some (true, ())) (fun val => some (val.1, ())) val
theorem h81 (f81_l0 : HS f81_l0_ins → Option (OTy f81_l0_outs)) (v : HS f81_ins) : afun Γ (fun f => Ae.lookA f []) 0 Tryz.f81.ntmps Tryz.f81.results.toList (code Tryz.f81) (.seq .nil (.seq .nil (.seq (.seq .nil (.blk (.loop ⟨f81_l0_ins, f81_l0_outs, f81_l0⟩))) .nil))) (em id f81_ins v).1 (em id f81_ins v).2 (ofin 0 f81_outs) = F81 f81_l0 v := by kernel_rfl
def C81 (v : Int × List (List UInt8) × Int × List (List UInt8) × Unit) : Option (Bool × Unit) := F81 C81_l0 v
theorem ok81 : FnOk Tryz.prog 81 ⟨f81_ins, f81_outs, C81⟩ :=
 fn_ok (np := 0) (n := (.seq .nil (.seq .nil (.seq (.seq .nil (.blk (.loop ⟨f81_l0_ins, f81_l0_outs, C81_l0⟩))) .nil)))) hm hΓ (K := (fun f => Ae.lookA f [])) (kok_nil _) Tryz.func81 (c := code Tryz.f81) (by kernel_rfl) (name_ne (by kernel_rfl))
 (ann_seq (a := (subc (code Tryz.f81) [0])) (b := (subc (code Tryz.f81) [1])) (by kernel_rfl) (ann_nil _) (ann_seq (a := (subc (code Tryz.f81) [1, 0])) (b := (subc (code Tryz.f81) [1, 1])) (by kernel_rfl) (ann_nil _) (ann_seq (a := (subc (code Tryz.f81) [1, 1, 0])) (b := (subc (code Tryz.f81) [1, 1, 1])) (by kernel_rfl) (ann_seq (a := (subc (code Tryz.f81) [1, 1, 0, 0])) (b := (subc (code Tryz.f81) [1, 1, 0, 1])) (by kernel_rfl) (ann_nil _) (ann_blk (x := (subc (code Tryz.f81) [1, 1, 0, 1, 0])) (by kernel_rfl) (ann_loop (x := (subc (code Tryz.f81) [1, 1, 0, 1, 0, 0])) (by kernel_rfl) k81_l0))) (ann_nil _)))) (fun v => Nat.le_of_ble_eq_true (by kernel_rfl)) (fun v => h81 C81_l0 v)
def F46 (f81 : Int × List (List UInt8) × Int × List (List UInt8) × Unit → Option (Bool × Unit)) : List (List UInt8) × List (List UInt8) × Unit → Option (Bool × Unit) := fun (x0, x1, _) =>
 (f81 (0, x0, 0, x1, ())).bind fun val => some (val.1, ())
theorem h46 (f81 : HS f81_ins → Option (OTy f81_outs)) (v : HS f46_ins) : afun Γ (fun f => Ae.lookA f [(81, ⟨f81_ins, f81_outs, f81⟩)]) 0 Tryz.f46.ntmps Tryz.f46.results.toList (code Tryz.f46) .nil (em id f46_ins v).1 (em id f46_ins v).2 (ofin 0 f46_outs) = F46 f81 v := by kernel_rfl
def C46 (v : List (List UInt8) × List (List UInt8) × Unit) : Option (Bool × Unit) := F46 C81 v
theorem ok46 : FnOk Tryz.prog 46 ⟨f46_ins, f46_outs, C46⟩ :=
 fn_ok (np := 0) (n := .nil) hm hΓ (K := (fun f => Ae.lookA f [(81, ⟨f81_ins, f81_outs, C81⟩)])) (kok_cons ok81 (kok_nil _)) Tryz.func46 (c := code Tryz.f46) (by kernel_rfl) (name_ne (by kernel_rfl))
 (ann_nil _) (fun v => Nat.le_of_ble_eq_true (by kernel_rfl)) (fun v => h46 C81 v)
def F18_l0  : Int × Bool × List UInt8 × List UInt8 × List ((Bool × (List UInt8 × List UInt8))) × List (List UInt8) × Bool × Bool × Bool × Int × Int × Int × Bool × List UInt8 × List UInt8 × List ((Bool × (List UInt8 × List UInt8))) × List (List UInt8) × Bool × Bool × Bool × Int × Int × Int × Unit → Option ((Int × Bool × List UInt8 × List UInt8 × List ((Bool × (List UInt8 × List UInt8))) × List (List UInt8) × Bool × Bool × Bool × Int × Int × Int × Bool × List UInt8 × List UInt8 × List ((Bool × (List UInt8 × List UInt8))) × List (List UInt8) × Bool × Bool × Bool × Int × Int × Int × Unit) ⊕ (Unit ⊕ (Bool × Unit))) := fun (x0, x1, x2, x3, x4, x5, x6, x7, x8, x9, x10, x11, x12, x13, x14, x15, x16, x17, x18, x19, x20, x21, x22, _) =>
 bif decide (x0 < (↑x4.length : Int)) then
 bif decide (0 ≤ x0) && decide (x0 < (↑x4.length : Int)) then
 bif decide (0 ≤ x0) && decide (x0 < (↑x15.length : Int)) then
 bif
 !((x4.getD x0.toNat (false, ([], []))).1 ==
 (x15.getD x0.toNat (false, ([], []))).1 &&
 ((x4.getD x0.toNat (false, ([], []))).2.1 ==
 (x15.getD x0.toNat (false, ([], []))).2.1 &&
 ((x4.getD x0.toNat (false, ([], []))).2.2 ==
 (x15.getD x0.toNat (false, ([], []))).2.2 &&
 true) &&
 true)) then
 some (Sum.inr (Sum.inr (false, ())))
 else
 some
 (Sum.inl
 (IntKind.i64.wrap (x0 + 1), x1, x2, x3, x4, x5, x6, x7, x8, x9, x10, x11, x12, x13, x14, x15, x16, x17, x18,
 x19, x20, x21, x22, ()))
 else none
 else none
 else some (Sum.inr (Sum.inl ()))
theorem h18_l0  (v : HS f18_l0_ins) : aev Γ (fun f => Ae.lookA f []) 0 (subc (code Tryz.f18) [1, 1, 0, 1, 0, 0]) .nil (stof f18_l0_ins v) (around 0 f18_l0_ins f18_l0_outs) = F18_l0 v := by kernel_rfl
def C18_l0 (v : Int × Bool × List UInt8 × List UInt8 × List ((Bool × (List UInt8 × List UInt8))) × List (List UInt8) × Bool × Bool × Bool × Int × Int × Int × Bool × List UInt8 × List UInt8 × List ((Bool × (List UInt8 × List UInt8))) × List (List UInt8) × Bool × Bool × Bool × Int × Int × Int × Unit) : Option (Unit ⊕ (Bool × Unit)) := loopN (F18_l0) big v
theorem k18_l0 : FragOk Tryz.prog 0 (fun Q a w => (Code.loop (subc (code Tryz.f18) [1, 1, 0, 1, 0, 0])).wp Tryz.prog Q a w) ⟨f18_l0_ins, f18_l0_outs, C18_l0⟩ :=
 frag_loop (ins := f18_l0_ins) (os := f18_l0_outs) (np := 0) (n := .nil) (F := F18_l0) hm hΓ (K := (fun f => Ae.lookA f [])) (kok_nil _) (fun _ => big)
 (ann_nil _) (fun v => h18_l0 v)
def F18 (f46 : List (List UInt8) × List (List UInt8) × Unit → Option (Bool × Unit)) (f18_l0 : Int × Bool × List UInt8 × List UInt8 × List ((Bool × (List UInt8 × List UInt8))) × List (List UInt8) × Bool × Bool × Bool × Int × Int × Int × Bool × List UInt8 × List UInt8 × List ((Bool × (List UInt8 × List UInt8))) × List (List UInt8) × Bool × Bool × Bool × Int × Int × Int × Unit → Option (Unit ⊕ (Bool × Unit))) : Bool × List UInt8 × List UInt8 × List ((Bool × (List UInt8 × List UInt8))) × List (List UInt8) × Bool × Bool × Bool × Int × Int × Int × Bool × List UInt8 × List UInt8 × List ((Bool × (List UInt8 × List UInt8))) × List (List UInt8) × Bool × Bool × Bool × Int × Int × Int × Unit → Option (Bool × Unit) := fun (x0, x1, x2, x3, x4, x5, x6, x7, x8, x9, x10, x11, x12, x13, x14, x15, x16, x17, x18, x19, x20, x21, _) =>
 bif !(x0 == x11 && (x1 == x12 && (x2 == x13 && true) && true)) then some (false, ())
 else
 bif !(x5 == x16 && (x6 == x17 && (x7 == x18 && (x8 == x19 && (x9 == x20 && true))))) then some (false, ())
 else
 bif x10 != x21 then some (false, ())
 else
 bif (↑x3.length : Int) != (↑x14.length : Int) then some (false, ())
 else
 (f46 (x4, x15, ())).bind fun val =>
 bif !val.1 then some (false, ())
 else
 (f18_l0
 (0, x0, x1, x2, x3, x4, x5, x6, x7, x8, x9, x10, x11, x12, x13, x14, x15, x16, x17, x18, x19, x20,
 x21, ())).bind
 fun val => Sum.elim (fun val => some (true, ())) (fun val => some (val.1, ())) val
theorem h18 (f46 : HS f46_ins → Option (OTy f46_outs)) (f18_l0 : HS f18_l0_ins → Option (OTy f18_l0_outs)) (v : HS f18_ins) : afun Γ (fun f => Ae.lookA f [(46, ⟨f46_ins, f46_outs, f46⟩)]) 0 Tryz.f18.ntmps Tryz.f18.results.toList (code Tryz.f18) (.seq .nil (.seq .nil (.seq (.seq .nil (.blk (.loop ⟨f18_l0_ins, f18_l0_outs, f18_l0⟩))) .nil))) (em id f18_ins v).1 (em id f18_ins v).2 (ofin 0 f18_outs) = F18 f46 f18_l0 v := by kernel_rfl
def C18 (v : Bool × List UInt8 × List UInt8 × List ((Bool × (List UInt8 × List UInt8))) × List (List UInt8) × Bool × Bool × Bool × Int × Int × Int × Bool × List UInt8 × List UInt8 × List ((Bool × (List UInt8 × List UInt8))) × List (List UInt8) × Bool × Bool × Bool × Int × Int × Int × Unit) : Option (Bool × Unit) := F18 C46 C18_l0 v
theorem ok18 : FnOk Tryz.prog 18 ⟨f18_ins, f18_outs, C18⟩ :=
 fn_ok (np := 0) (n := (.seq .nil (.seq .nil (.seq (.seq .nil (.blk (.loop ⟨f18_l0_ins, f18_l0_outs, C18_l0⟩))) .nil)))) hm hΓ (K := (fun f => Ae.lookA f [(46, ⟨f46_ins, f46_outs, C46⟩)])) (kok_cons ok46 (kok_nil _)) Tryz.func18 (c := code Tryz.f18) (by kernel_rfl) (name_ne (by kernel_rfl))
 (ann_seq (a := (subc (code Tryz.f18) [0])) (b := (subc (code Tryz.f18) [1])) (by kernel_rfl) (ann_nil _) (ann_seq (a := (subc (code Tryz.f18) [1, 0])) (b := (subc (code Tryz.f18) [1, 1])) (by kernel_rfl) (ann_nil _) (ann_seq (a := (subc (code Tryz.f18) [1, 1, 0])) (b := (subc (code Tryz.f18) [1, 1, 1])) (by kernel_rfl) (ann_seq (a := (subc (code Tryz.f18) [1, 1, 0, 0])) (b := (subc (code Tryz.f18) [1, 1, 0, 1])) (by kernel_rfl) (ann_nil _) (ann_blk (x := (subc (code Tryz.f18) [1, 1, 0, 1, 0])) (by kernel_rfl) (ann_loop (x := (subc (code Tryz.f18) [1, 1, 0, 1, 0, 0])) (by kernel_rfl) k18_l0))) (ann_nil _)))) (fun v => Nat.le_of_ble_eq_true (by kernel_rfl)) (fun v => h18 C46 C18_l0 v)
def F56  : List UInt8 × List UInt8 × Unit → Option (List UInt8 × Bool × Unit) := fun (x0, x1, _) =>
 bif decide ((↑x0.length : Int) < (↑x1.length : Int)) then some ([], false, ())
 else
 bif decide (0 ≤ (↑x1.length : Int)) && decide ((↑x1.length : Int) ≤ (↑x0.length : Int)) then
 bif !List.take (↑x1.length : Int).toNat x0 == x1 then some ([], false, ())
 else
 bif decide (0 ≤ (↑x1.length : Int)) && decide ((↑x1.length : Int) ≤ (↑x0.length : Int)) then
 some (List.drop (↑x1.length : Int).toNat x0, true, ())
 else none
 else none
theorem h56  (v : HS f56_ins) : afun Γ (fun f => Ae.lookA f []) 0 Tryz.f56.ntmps Tryz.f56.results.toList (code Tryz.f56) .nil (em id f56_ins v).1 (em id f56_ins v).2 (ofin 0 f56_outs) = F56 v := by kernel_rfl
def C56 (v : List UInt8 × List UInt8 × Unit) : Option (List UInt8 × Bool × Unit) := F56 v
theorem ok56 : FnOk Tryz.prog 56 ⟨f56_ins, f56_outs, C56⟩ :=
 fn_ok (np := 0) (n := .nil) hm hΓ (K := (fun f => Ae.lookA f [])) (kok_nil _) Tryz.func56 (c := code Tryz.f56) (by kernel_rfl) (name_ne (by kernel_rfl))
 (ann_nil _) (fun v => Nat.le_of_ble_eq_true (by kernel_rfl)) (fun v => h56 v)
def F20_l0 (f14 : Int × Unit → Option (List UInt8 × Unit)) : List UInt8 × List UInt8 × Bool × Int × Unit → Option ((List UInt8 × List UInt8 × Bool × Int × Unit) ⊕ (Unit ⊕ (List UInt8 × Int × Bool × Unit))) := fun (x0, x1, x2, x3, _) =>
 bif decide (x3 < 1000) then
 bif x2 then
 (f14 (x3, ())).bind fun val =>
 bif val.1 == x0 then some (Sum.inr (Sum.inr (x1, x3, true, ())))
 else some (Sum.inl (x0, x1, x2, IntKind.i64.wrap (x3 + 1), ()))
 else some (Sum.inr (Sum.inl ()))
 else some (Sum.inr (Sum.inl ()))
theorem h20_l0 (f14 : HS f14_ins → Option (OTy f14_outs)) (v : HS f20_l0_ins) : aev Γ (fun f => Ae.lookA f [(14, ⟨f14_ins, f14_outs, f14⟩)]) 0 (subc (code Tryz.f20) [1, 1, 1, 1, 1, 1, 1, 1, 1, 0, 1, 0, 0]) .nil (stof f20_l0_ins v) (around 0 f20_l0_ins f20_l0_outs) = F20_l0 f14 v := by kernel_rfl
def C20_l0 (v : List UInt8 × List UInt8 × Bool × Int × Unit) : Option (Unit ⊕ (List UInt8 × Int × Bool × Unit)) := loopN (F20_l0 C14) big v
theorem k20_l0 : FragOk Tryz.prog 0 (fun Q a w => (Code.loop (subc (code Tryz.f20) [1, 1, 1, 1, 1, 1, 1, 1, 1, 0, 1, 0, 0])).wp Tryz.prog Q a w) ⟨f20_l0_ins, f20_l0_outs, C20_l0⟩ :=
 frag_loop (ins := f20_l0_ins) (os := f20_l0_outs) (np := 0) (n := .nil) (F := F20_l0 C14) hm hΓ (K := (fun f => Ae.lookA f [(14, ⟨f14_ins, f14_outs, C14⟩)])) (kok_cons ok14 (kok_nil _)) (fun _ => big)
 (ann_nil _) (fun v => h20_l0 C14 v)
def F20 (f10 : List UInt8 × Unit → Option (List UInt8 × Bool × Unit)) (f42 : List UInt8 × List UInt8 × List UInt8 × List UInt8 × Unit → Option (List (List UInt8) × Unit)) (f46 : List (List UInt8) × List (List UInt8) × Unit → Option (Bool × Unit)) (f56 : List UInt8 × List UInt8 × Unit → Option (List UInt8 × Bool × Unit)) (f20_l0 : List UInt8 × List UInt8 × Bool × Int × Unit → Option (Unit ⊕ (List UInt8 × Int × Bool × Unit))) : List (List UInt8) × Unit → Option (List UInt8 × Int × Bool × Unit) := fun (x0, _) =>
 bif (↑x0.length : Int) != 10 then some ([], 0, false, ())
 else
 bif decide (4 < (↑x0.length : Int)) then
 (f56
 (x0.getD 4 [],
 [82, 101, 112, 111, 114, 116, 105, 110, 103, 45, 77, 84, 65, 58, 32, 100, 110, 115, 59, 32],
 ())).bind
 fun val =>
 bif decide (6 < (↑x0.length : Int)) then
 (f56
 (x0.getD 6 [], [79, 114, 105, 103, 105, 110, 97, 108, 45, 73, 68, 58, 32],
 ())).bind
 fun val_1 =>
 bif decide (7 < (↑x0.length : Int)) then
 (f56
 (x0.getD 7 [],
 [70, 105, 110, 97, 108, 45, 82, 101, 99, 105, 112, 105, 101, 110, 116, 58, 32, 117, 116, 102, 45,
 56, 59, 32],
 ())).bind
 fun val_2 =>
 bif decide (9 < (↑x0.length : Int)) then
 (f56 (x0.getD 9 [], [83, 116, 97, 116, 117, 115, 58, 32], ())).bind
 fun val_3 =>
 (f42 (val.1, val_1.1, val_2.1, val_3.1, ())).bind fun val_4 =>
 bif !val.2.1 then some ([], 0, false, ())
 else
 bif !val_1.2.1 then some ([], 0, false, ())
 else
 bif !val_2.2.1 then some ([], 0, false, ())
 else
 bif !val_3.2.1 then some ([], 0, false, ())
 else
 (f46 (x0, val_4.1, ())).bind fun val =>
 bif !val.1 then some ([], 0, false, ())
 else
 (f10 (val_2.1, ())).bind fun val =>
 (f20_l0 (val_3.1, val.1, val.2.1, 100, ())).bind fun val =>
 Sum.elim (fun val => some ([], 0, false, ()))
 (fun val => some (val.1, val.2.1, val.2.2.1, ())) val
 else none
 else none
 else none
 else none
theorem h20 (f10 : HS f10_ins → Option (OTy f10_outs)) (f42 : HS f42_ins → Option (OTy f42_outs)) (f46 : HS f46_ins → Option (OTy f46_outs)) (f56 : HS f56_ins → Option (OTy f56_outs)) (f20_l0 : HS f20_l0_ins → Option (OTy f20_l0_outs)) (v : HS f20_ins) : afun Γ (fun f => Ae.lookA f [(10, ⟨f10_ins, f10_outs, f10⟩), (42, ⟨f42_ins, f42_outs, f42⟩), (46, ⟨f46_ins, f46_outs, f46⟩), (56, ⟨f56_ins, f56_outs, f56⟩)]) 0 Tryz.f20.ntmps Tryz.f20.results.toList (code Tryz.f20) (.seq .nil (.seq .nil (.seq .nil (.seq .nil (.seq .nil (.seq .nil (.seq .nil (.seq .nil (.seq .nil (.seq (.seq .nil (.blk (.loop ⟨f20_l0_ins, f20_l0_outs, f20_l0⟩))) .nil)))))))))) (em id f20_ins v).1 (em id f20_ins v).2 (ofin 0 f20_outs) = F20 f10 f42 f46 f56 f20_l0 v := by kernel_rfl
def C20 (v : List (List UInt8) × Unit) : Option (List UInt8 × Int × Bool × Unit) := F20 C10 C42 C46 C56 C20_l0 v
theorem ok20 : FnOk Tryz.prog 20 ⟨f20_ins, f20_outs, C20⟩ :=
 fn_ok (np := 0) (n := (.seq .nil (.seq .nil (.seq .nil (.seq .nil (.seq .nil (.seq .nil (.seq .nil (.seq .nil (.seq .nil (.seq (.seq .nil (.blk (.loop ⟨f20_l0_ins, f20_l0_outs, C20_l0⟩))) .nil))))))))))) hm hΓ (K := (fun f => Ae.lookA f [(10, ⟨f10_ins, f10_outs, C10⟩), (42, ⟨f42_ins, f42_outs, C42⟩), (46, ⟨f46_ins, f46_outs, C46⟩), (56, ⟨f56_ins, f56_outs, C56⟩)])) (kok_cons ok10 (kok_cons ok42 (kok_cons ok46 (kok_cons ok56 (kok_nil _))))) Tryz.func20 (c := code Tryz.f20) (by kernel_rfl) (name_ne (by kernel_rfl))
 (ann_seq (a := (subc (code Tryz.f20) [0])) (b := (subc (code Tryz.f20) [1])) (by kernel_rfl) (ann_nil _) (ann_seq (a := (subc (code Tryz.f20) [1, 0])) (b := (subc (code Tryz.f20) [1, 1])) (by kernel_rfl) (ann_nil _) (ann_seq (a := (subc (code Tryz.f20) [1, 1, 0])) (b := (subc (code Tryz.f20) [1, 1, 1])) (by kernel_rfl) (ann_nil _) (ann_seq (a := (subc (code Tryz.f20) [1, 1, 1, 0])) (b := (subc (code Tryz.f20) [1, 1, 1, 1])) (by kernel_rfl) (ann_nil _) (ann_seq (a := (subc (code Tryz.f20) [1, 1, 1, 1, 0])) (b := (subc (code Tryz.f20) [1, 1, 1, 1, 1])) (by kernel_rfl) (ann_nil _) (ann_seq (a := (subc (code Tryz.f20) [1, 1, 1, 1, 1, 0])) (b := (subc (code Tryz.f20) [1, 1, 1, 1, 1, 1])) (by kernel_rfl) (ann_nil _) (ann_seq (a := (subc (code Tryz.f20) [1, 1, 1, 1, 1, 1, 0])) (b := (subc (code Tryz.f20) [1, 1, 1, 1, 1, 1, 1])) (by kernel_rfl) (ann_nil _) (ann_seq (a := (subc (code Tryz.f20) [1, 1, 1, 1, 1, 1, 1, 0])) (b := (subc (code Tryz.f20) [1, 1, 1, 1, 1, 1, 1, 1])) (by kernel_rfl) (ann_nil _) (ann_seq (a := (subc (code Tryz.f20) [1, 1, 1, 1, 1, 1, 1, 1, 0])) (b := (subc (code Tryz.f20) [1, 1, 1, 1, 1, 1, 1, 1, 1])) (by kernel_rfl) (ann_nil _) (ann_seq (a := (subc (code Tryz.f20) [1, 1, 1, 1, 1, 1, 1, 1, 1, 0])) (b := (subc (code Tryz.f20) [1, 1, 1, 1, 1, 1, 1, 1, 1, 1])) (by kernel_rfl) (ann_seq (a := (subc (code Tryz.f20) [1, 1, 1, 1, 1, 1, 1, 1, 1, 0, 0])) (b := (subc (code Tryz.f20) [1, 1, 1, 1, 1, 1, 1, 1, 1, 0, 1])) (by kernel_rfl) (ann_nil _) (ann_blk (x := (subc (code Tryz.f20) [1, 1, 1, 1, 1, 1, 1, 1, 1, 0, 1, 0])) (by kernel_rfl) (ann_loop (x := (subc (code Tryz.f20) [1, 1, 1, 1, 1, 1, 1, 1, 1, 0, 1, 0, 0])) (by kernel_rfl) k20_l0))) (ann_nil _))))))))))) (fun v => Nat.le_of_ble_eq_true (by kernel_rfl)) (fun v => h20 C10 C42 C46 C56 C20_l0 v)
def F4_l0  : List (List UInt8) × Bool × Int × Unit → Option ((List (List UInt8) × Bool × Int × Unit) ⊕ ((List (List UInt8) × Bool × Unit) ⊕ (Bool × Unit))) := fun (x0, x1, x2, _) =>
 bif decide (x2 < (↑x0.length : Int)) then
 bif decide (0 ≤ x2) && decide (x2 < (↑x0.length : Int)) then
 bif decide ((↑(List.length (x0.getD x2.toNat [])) : Int) > 500) then
 some (Sum.inr (Sum.inr (x1, ())))
 else some (Sum.inl (x0, x1, IntKind.i64.wrap (x2 + 1), ()))
 else none
 else some (Sum.inr (Sum.inl (x0, x1, ())))
theorem h4_l0  (v : HS f4_l0_ins) : aev Γ (fun f => Ae.lookA f []) 0 (subc (code Tryz.f4) [1, 1, 1, 1, 1, 1, 1, 0, 1, 0, 0]) .nil (stof f4_l0_ins v) (around 0 f4_l0_ins f4_l0_outs) = F4_l0 v := by kernel_rfl
def C4_l0 (v : List (List UInt8) × Bool × Int × Unit) : Option ((List (List UInt8) × Bool × Unit) ⊕ (Bool × Unit)) := loopN (F4_l0) big v
theorem k4_l0 : FragOk Tryz.prog 0 (fun Q a w => (Code.loop (subc (code Tryz.f4) [1, 1, 1, 1, 1, 1, 1, 0, 1, 0, 0])).wp Tryz.prog Q a w) ⟨f4_l0_ins, f4_l0_outs, C4_l0⟩ :=
 frag_loop (ins := f4_l0_ins) (os := f4_l0_outs) (np := 0) (n := .nil) (F := F4_l0) hm hΓ (K := (fun f => Ae.lookA f [])) (kok_nil _) (fun _ => big)
 (ann_nil _) (fun v => h4_l0 v)
def F4 (f8 : Unit → Option (Bool × Unit)) (f15 : Int × Bool × List UInt8 × List UInt8 × List (((Bool × (List UInt8 × List UInt8)) × (Int × (Int × (Int × Int))))) × List (List UInt8) × Bool × Bool × Bool × Int × Int × Int × Unit → Option (Bool × Unit)) (f16 : List UInt8 × Int × Bool × List UInt8 × List UInt8 × List (((Bool × (List UInt8 × List UInt8)) × (Int × (Int × (Int × Int))))) × List (List UInt8) × Bool × Bool × Bool × Int × Int × Int × Int × Unit → Option (Bool × List UInt8 × List UInt8 × List ((Bool × (List UInt8 × List UInt8))) × List (List UInt8) × Bool × Bool × Bool × Int × Int × Int × Bool × Unit)) (f17 : List UInt8 × Int × Bool × List UInt8 × List UInt8 × List (((Bool × (List UInt8 × List UInt8)) × (Int × (Int × (Int × Int))))) × List (List UInt8) × Bool × Bool × Bool × Int × Int × Int × Int × Unit → Option (Bool × List UInt8 × List UInt8 × List ((Bool × (List UInt8 × List UInt8))) × List (List UInt8) × Bool × Bool × Bool × Int × Int × Int × Bool × Unit)) (f18 : Bool × List UInt8 × List UInt8 × List ((Bool × (List UInt8 × List UInt8))) × List (List UInt8) × Bool × Bool × Bool × Int × Int × Int × Bool × List UInt8 × List UInt8 × List ((Bool × (List UInt8 × List UInt8))) × List (List UInt8) × Bool × Bool × Bool × Int × Int × Int × Unit → Option (Bool × Unit)) (f19 : List (List UInt8) × Unit → Option (List UInt8 × Int × Bool × Unit)) (f20 : List (List UInt8) × Unit → Option (List UInt8 × Int × Bool × Unit)) (f4_l0 : List (List UInt8) × Bool × Int × Unit → Option ((List (List UInt8) × Bool × Unit) ⊕ (Bool × Unit))) : List UInt8 × Int × Bool × List UInt8 × List UInt8 × List (((Bool × (List UInt8 × List UInt8)) × (Int × (Int × (Int × Int))))) × List (List UInt8) × Bool × Bool × Bool × Int × Int × Int × Int × List (List UInt8) × Unit → Option (Bool × Unit) := fun (x0, x1, x2, x3, x4, x5, x6, x7, x8, x9, x10, x11, x12, x13, x14, _) =>
 (f8 ()).bind fun val =>
 (f15 (x1, x2, x3, x4, x5, x6, x7, x8, x9, x10, x11, x12, ())).bind fun val_1 =>
 bif !val_1.1 then some (val.1, ())
 else
 bif decide ((↑x0.length : Int) > 200) then some (val.1, ())
 else
 bif decide ((↑x14.length : Int) > 20) then some (val.1, ())
 else
 (f16 (x0, x1, x2, x3, x4, x5, x6, x7, x8, x9, x10, x11, x12, x13, ())).bind fun val_2 =>
 (f17 (x0, x1, x2, x3, x4, x5, x6, x7, x8, x9, x10, x11, x12, x13, ())).bind fun val_3 =>
 (f18
 (val_2.1, val_2.2.1, val_2.2.2.1, val_2.2.2.2.1, val_2.2.2.2.2.1,
 val_2.2.2.2.2.2.1, val_2.2.2.2.2.2.2.1,
 val_2.2.2.2.2.2.2.2.1, val_2.2.2.2.2.2.2.2.2.1,
 val_2.2.2.2.2.2.2.2.2.2.1, val_2.2.2.2.2.2.2.2.2.2.2.1,
 val_3.1, val_3.2.1, val_3.2.2.1, val_3.2.2.2.1, val_3.2.2.2.2.1,
 val_3.2.2.2.2.2.1, val_3.2.2.2.2.2.2.1,
 val_3.2.2.2.2.2.2.2.1, val_3.2.2.2.2.2.2.2.2.1,
 val_3.2.2.2.2.2.2.2.2.2.1, val_3.2.2.2.2.2.2.2.2.2.2.1,
 ())).bind
 fun val_4 =>
 bif !val_4.1 then some (false, ())
 else
 bif
 !val_2.2.2.2.2.2.2.2.2.2.2.2.1 ==
 val_3.2.2.2.2.2.2.2.2.2.2.2.1 then
 some (false, ())
 else
 (f4_l0 (x14, val.1, 0, ())).bind fun val =>
 Sum.elim
 (fun val =>
 (f19 (val.1, ())).bind fun val_5 =>
 (f20 (val.1, ())).bind fun val_6 =>
 bif val.2.1 then
 bif val_5.1 == val_6.1 then
 bif val_5.2.1 == val_6.2.1 then
 some (val_5.2.2.1 == val_6.2.2.1, ())
 else some (false, ())
 else some (false, ())
 else some (false, ()))
 (fun val => some (val.1, ())) val
theorem h4 (f8 : HS f8_ins → Option (OTy f8_outs)) (f15 : HS f15_ins → Option (OTy f15_outs)) (f16 : HS f16_ins → Option (OTy f16_outs)) (f17 : HS f17_ins → Option (OTy f17_outs)) (f18 : HS f18_ins → Option (OTy f18_outs)) (f19 : HS f19_ins → Option (OTy f19_outs)) (f20 : HS f20_ins → Option (OTy f20_outs)) (f4_l0 : HS f4_l0_ins → Option (OTy f4_l0_outs)) (v : HS f4_ins) : afun Γ (fun f => Ae.lookA f [(8, ⟨f8_ins, f8_outs, f8⟩), (15, ⟨f15_ins, f15_outs, f15⟩), (16, ⟨f16_ins, f16_outs, f16⟩), (17, ⟨f17_ins, f17_outs, f17⟩), (18, ⟨f18_ins, f18_outs, f18⟩), (19, ⟨f19_ins, f19_outs, f19⟩), (20, ⟨f20_ins, f20_outs, f20⟩)]) 0 Tryz.f4.ntmps Tryz.f4.results.toList (code Tryz.f4) (.seq .nil (.seq .nil (.seq .nil (.seq .nil (.seq .nil (.seq .nil (.seq .nil (.seq (.seq .nil (.blk (.loop ⟨f4_l0_ins, f4_l0_outs, f4_l0⟩))) .nil)))))))) (em id f4_ins v).1 (em id f4_ins v).2 (ofin 0 f4_outs) = F4 f8 f15 f16 f17 f18 f19 f20 f4_l0 v := by kernel_rfl
def C4 (v : List UInt8 × Int × Bool × List UInt8 × List UInt8 × List (((Bool × (List UInt8 × List UInt8)) × (Int × (Int × (Int × Int))))) × List (List UInt8) × Bool × Bool × Bool × Int × Int × Int × Int × List (List UInt8) × Unit) : Option (Bool × Unit) := F4 C8 C15 C16 C17 C18 C19 C20 C4_l0 v
theorem ok4 : FnOk Tryz.prog 4 ⟨f4_ins, f4_outs, C4⟩ :=
 fn_ok (np := 0) (n := (.seq .nil (.seq .nil (.seq .nil (.seq .nil (.seq .nil (.seq .nil (.seq .nil (.seq (.seq .nil (.blk (.loop ⟨f4_l0_ins, f4_l0_outs, C4_l0⟩))) .nil))))))))) hm hΓ (K := (fun f => Ae.lookA f [(8, ⟨f8_ins, f8_outs, C8⟩), (15, ⟨f15_ins, f15_outs, C15⟩), (16, ⟨f16_ins, f16_outs, C16⟩), (17, ⟨f17_ins, f17_outs, C17⟩), (18, ⟨f18_ins, f18_outs, C18⟩), (19, ⟨f19_ins, f19_outs, C19⟩), (20, ⟨f20_ins, f20_outs, C20⟩)])) (kok_cons ok8 (kok_cons ok15 (kok_cons ok16 (kok_cons ok17 (kok_cons ok18 (kok_cons ok19 (kok_cons ok20 (kok_nil _)))))))) Tryz.func4 (c := code Tryz.f4) (by kernel_rfl) (name_ne (by kernel_rfl))
 (ann_seq (a := (subc (code Tryz.f4) [0])) (b := (subc (code Tryz.f4) [1])) (by kernel_rfl) (ann_nil _) (ann_seq (a := (subc (code Tryz.f4) [1, 0])) (b := (subc (code Tryz.f4) [1, 1])) (by kernel_rfl) (ann_nil _) (ann_seq (a := (subc (code Tryz.f4) [1, 1, 0])) (b := (subc (code Tryz.f4) [1, 1, 1])) (by kernel_rfl) (ann_nil _) (ann_seq (a := (subc (code Tryz.f4) [1, 1, 1, 0])) (b := (subc (code Tryz.f4) [1, 1, 1, 1])) (by kernel_rfl) (ann_nil _) (ann_seq (a := (subc (code Tryz.f4) [1, 1, 1, 1, 0])) (b := (subc (code Tryz.f4) [1, 1, 1, 1, 1])) (by kernel_rfl) (ann_nil _) (ann_seq (a := (subc (code Tryz.f4) [1, 1, 1, 1, 1, 0])) (b := (subc (code Tryz.f4) [1, 1, 1, 1, 1, 1])) (by kernel_rfl) (ann_nil _) (ann_seq (a := (subc (code Tryz.f4) [1, 1, 1, 1, 1, 1, 0])) (b := (subc (code Tryz.f4) [1, 1, 1, 1, 1, 1, 1])) (by kernel_rfl) (ann_nil _) (ann_seq (a := (subc (code Tryz.f4) [1, 1, 1, 1, 1, 1, 1, 0])) (b := (subc (code Tryz.f4) [1, 1, 1, 1, 1, 1, 1, 1])) (by kernel_rfl) (ann_seq (a := (subc (code Tryz.f4) [1, 1, 1, 1, 1, 1, 1, 0, 0])) (b := (subc (code Tryz.f4) [1, 1, 1, 1, 1, 1, 1, 0, 1])) (by kernel_rfl) (ann_nil _) (ann_blk (x := (subc (code Tryz.f4) [1, 1, 1, 1, 1, 1, 1, 0, 1, 0])) (by kernel_rfl) (ann_loop (x := (subc (code Tryz.f4) [1, 1, 1, 1, 1, 1, 1, 0, 1, 0, 0])) (by kernel_rfl) k4_l0))) (ann_nil _))))))))) (fun v => Nat.le_of_ble_eq_true (by kernel_rfl)) (fun v => h4 C8 C15 C16 C17 C18 C19 C20 C4_l0 v)
def F5 (f8 : Unit → Option (Bool × Unit)) (f9 : List UInt8 × Unit → Option (List UInt8 × Bool × Unit)) (f11 : List UInt8 × Unit → Option (List UInt8 × Unit)) (f21 : List UInt8 × Unit → Option (List (Int) × Int × Unit)) (f5_l0 : List UInt8 × List UInt8 × Bool × List UInt8 × Int × Unit → Option ((List UInt8 × List UInt8 × Bool × List UInt8 × Unit) ⊕ (Bool × Unit))) : List UInt8 × List UInt8 × Unit → Option (Bool × Unit) := fun (x0, x1, _) =>
 (f8 ()).bind fun val =>
 bif decide ((↑x0.length : Int) > 500) then some (val.1, ())
 else
 bif decide ((↑x1.length : Int) > 500) then some (val.1, ())
 else
 (f11 (x0, ())).bind fun val_1 =>
 (f5_l0 (x0, x1, val.1, val_1.1, 0, ())).bind fun val =>
 Sum.elim
 (fun val =>
 (f21 (val.1, ())).bind fun val_2 =>
 (f9 (val.2.2.2.1, ())).bind fun val_3 =>
 bif !val_3.2.1 == decide (val_2.2.1 < 0) then some (false, ())
 else
 bif val_3.2.1 then
 bif !val_3.1 == val.1 then some (false, ())
 else
 (f9 (val.2.1, ())).bind fun val_4 =>
 bif val.2.2.1 then
 bif val_4.2.1 then
 bif !val_4.2.1 then some (true, ())
 else (f11 (val_4.1, ())).bind fun val_5 => some (val_5.1 == val.2.1, ())
 else
 bif val_4.1 == [] then
 bif !val_4.2.1 then some (true, ())
 else (f11 (val_4.1, ())).bind fun val_5 => some (val_5.1 == val.2.1, ())
 else some (false, ())
 else some (false, ())
 else
 (f9 (val.2.1, ())).bind fun val_4 =>
 bif val.2.2.1 then
 bif val_4.2.1 then
 bif !val_4.2.1 then some (true, ())
 else (f11 (val_4.1, ())).bind fun val_5 => some (val_5.1 == val.2.1, ())
 else
 bif val_4.1 == [] then
 bif !val_4.2.1 then some (true, ())
 else (f11 (val_4.1, ())).bind fun val_5 => some (val_5.1 == val.2.1, ())
 else some (false, ())
 else some (false, ()))
 (fun val => some (val.1, ())) val
theorem h5 (f8 : HS f8_ins → Option (OTy f8_outs)) (f9 : HS f9_ins → Option (OTy f9_outs)) (f11 : HS f11_ins → Option (OTy f11_outs)) (f21 : HS f21_ins → Option (OTy f21_outs)) (f5_l0 : HS f5_l0_ins → Option (OTy f5_l0_outs)) (v : HS f5_ins) : afun Γ (fun f => Ae.lookA f [(8, ⟨f8_ins, f8_outs, f8⟩), (9, ⟨f9_ins, f9_outs, f9⟩), (11, ⟨f11_ins, f11_outs, f11⟩), (21, ⟨f21_ins, f21_outs, f21⟩)]) 0 Tryz.f5.ntmps Tryz.f5.results.toList (code Tryz.f5) (.seq .nil (.seq .nil (.seq .nil (.seq .nil (.seq (.seq .nil (.blk (.loop ⟨f5_l0_ins, f5_l0_outs, f5_l0⟩))) .nil))))) (em id f5_ins v).1 (em id f5_ins v).2 (ofin 0 f5_outs) = F5 f8 f9 f11 f21 f5_l0 v := by kernel_rfl
def F7 (f8 : Unit → Option (Bool × Unit)) (f13 : Int × Unit → Option (List UInt8 × Unit)) (f7_c0 : Int × Int × Bool × List UInt8 × List UInt8 × Bool × Unit → Option ((Bool × Unit) ⊕ (Int × Int × Bool × List UInt8 × List UInt8 × Unit))) (f7_c1 : Int × Int × Bool × List UInt8 × List UInt8 × Unit → Option (Bool × Unit)) : Int × Int × Unit → Option (Bool × Unit) := fun (x0, x1, _) =>
 (f8 ()).bind fun val =>
 (f13 (x0, ())).bind fun val_1 =>
 (f13 (x1, ())).bind fun val_2 =>
 bif decide (x0 < 100) then
 (f7_c0 (x0, x1, val.1, val_1.1, val_2.1, true, ())).bind fun val =>
 Sum.elim (fun val => some (val.1, ()))
 (fun val =>
 (f7_c1 (val.1, val.2.1, val.2.2.1, val.2.2.2.1, val.2.2.2.2.1, ())).bind
 fun val => some (val.1, ()))
 val
 else
 bif decide (x0 > 999) then
 (f7_c0 (x0, x1, val.1, val_1.1, val_2.1, true, ())).bind fun val =>
 Sum.elim (fun val => some (val.1, ()))
 (fun val =>
 (f7_c1 (val.1, val.2.1, val.2.2.1, val.2.2.2.1, val.2.2.2.2.1, ())).bind
 fun val => some (val.1, ()))
 val
 else
 bif decide (x1 < 100) then
 (f7_c0 (x0, x1, val.1, val_1.1, val_2.1, true, ())).bind fun val =>
 Sum.elim (fun val => some (val.1, ()))
 (fun val =>
 (f7_c1 (val.1, val.2.1, val.2.2.1, val.2.2.2.1, val.2.2.2.2.1, ())).bind
 fun val => some (val.1, ()))
 val
 else
 (f7_c0 (x0, x1, val.1, val_1.1, val_2.1, decide (x1 > 999), ())).bind fun val =>
 Sum.elim (fun val => some (val.1, ()))
 (fun val =>
 (f7_c1 (val.1, val.2.1, val.2.2.1, val.2.2.2.1, val.2.2.2.2.1, ())).bind
 fun val => some (val.1, ()))
 val
theorem h7 (f8 : HS f8_ins → Option (OTy f8_outs)) (f13 : HS f13_ins → Option (OTy f13_outs)) (f7_c0 : HS f7_c0_ins → Option (OTy f7_c0_outs)) (f7_c1 : HS f7_c1_ins → Option (OTy f7_c1_outs)) (v : HS f7_ins) : afun Γ (fun f => Ae.lookA f [(8, ⟨f8_ins, f8_outs, f8⟩), (13, ⟨f13_ins, f13_outs, f13⟩)]) 0 Tryz.f7.ntmps Tryz.f7.results.toList (code Tryz.f7) (.seq .nil (.seq .nil (.seq .nil (.seq .nil (.cut (.cut .nil ⟨f7_c0_ins, f7_c0_outs, f7_c0⟩) ⟨f7_c1_ins, f7_c1_outs, f7_c1⟩))))) (em id f7_ins v).1 (em id f7_ins v).2 (ofin 0 f7_outs) = F7 f8 f13 f7_c0 f7_c1 v := by kernel_rfl
end Go.Proofs.YtmfcepdbpdihgaaGreatDoor.W
set_option linter.unusedVariables false
set_option linter.unusedSimpArgs false
set_option maxRecDepth 100000
namespace Go.Proofs.YtmfcepdbpdihgaaGreatDoor.W
open Go Go.Ae Go.Pl
def g1 (o : Option (Int × Int × Unit)) : Int := match o with | some (n, _, _) => n | none => 0
def g2 (o : Option (Int × Int × Unit)) : Int := match o with | some (_, v, _) => v | none => 0
def ok2 (o : Option (Int × Int × Unit)) : Bool := match o with | some _ => true | none => false
theorem ok2_some {o : Option (Int × Int × Unit)} (h : ok2 o = true) : o = some (g1 o, g2 o, ()) := by
  cases o with
  | none => cases h
  | some x => rfl
def leadN (c : UInt8) : Int := g1 (C57 ((c.toNat : Int), ()))
def leadV (c : UInt8) : Int := g2 (C57 ((c.toNat : Int), ()))
theorem c57k : ((List.range 256).all fun n => (fun c : UInt8 => ok2 (C57 ((c.toNat : Int), ()))) (UInt8.ofNat n)) = true := by kernel_rfl
theorem c57 (c : UInt8) : C57 ((c.toNat : Int), ()) = some (leadN c, leadV c, ()) := ok2_some (all256 (fun c => ok2 (C57 ((c.toNat : Int), ()))) c57k c)
def rngB : Int → Bool
  | .ofNat n => Nat.ble n 3
  | .negSucc n => Nat.beq n 0
theorem lead_k : ((List.range 256).all fun n => (fun c : UInt8 => rngB (leadN c)) (UInt8.ofNat n)) = true := by kernel_rfl
theorem lead_rng (c : UInt8) : leadN c = -1 ∨ 0 ≤ leadN c ∧ leadN c ≤ 3 := by
  have h : rngB (leadN c) = true := all256 (fun c => rngB (leadN c)) lead_k c
  generalize leadN c = x at h
  cases x with
  | ofNat n => have := Nat.le_of_ble_eq_true h; right; simp; omega
  | negSucc n => have := Nat.eq_of_beq_eq_true h; subst this; left; rfl
def lenR (v : Int) : Int := match C58 (v, ()) with | some (n, _) => n | none => 0
theorem c58 (v : Int) : C58 (v, ()) = some (lenR v, ()) := by
  have h : ∃ n, C58 (v, ()) = some (n, ()) := by
    show ∃ n, F58 C85 (v, ()) = some (n, ())
    have h29 : ∃ b, C85 (v, ()) = some (b, ()) := by
      simp only [C85, F85]
      cases decide (v ≥ 0) <;> cases decide (v ≤ 1114111) <;> cases decide (v ≥ 55296) <;> exact ⟨_, rfl⟩
    obtain ⟨b, hb⟩ := h29
    simp only [F58, hb, Option.bind_some]
    cases b <;> cases decide (v ≤ 127) <;> cases decide (v ≤ 2047) <;> cases decide (v ≤ 65535) <;> exact ⟨_, rfl⟩
  obtain ⟨n, hn⟩ := h
  rw [lenR, hn]
def contB (c : UInt8) : Bool := !(intBits BinOp.andNot IntKind.u8 (c.toNat : Int) 63 != 128)
def stepV (v : Int) (c : UInt8) : Int := intBits BinOp.or IntKind.i32 (IntKind.i32.wrap (v * 2 ^ min 6 IntKind.i32.bits)) (IntKind.i32.wrap (intBits BinOp.and IntKind.u8 (c.toNat : Int) 63))
def conts : Nat → List UInt8 → Int → Option Int
  | 0, _, v => some v
  | _ + 1, [], _ => none
  | n + 1, c :: r, v => bif contB c then conts n r (stepV v c) else none
def ch : List UInt8 → Nat
  | [] => 0
  | c :: r => if leadN c < 0 then 0 else if r.length < (leadN c).toNat then 0 else
    match conts (leadN c).toNat r (leadV c) with
    | none => 0
    | some v => if lenR v = leadN c + 1 then (leadN c).toNat + 1 else 0
theorem ch_le : ∀ s, ch s ≤ s.length
  | [] => Nat.le_refl _
  | c :: r => by
    simp only [ch, List.length_cons]
    split
    · omega
    · split
      · omega
      · split
        · omega
        · split <;> omega
def res0 (s : List UInt8) (n a : Int) (out : List Int) : Option Int → (List UInt8 × Int × Int × Int × List Int × Unit) ⊕ (Int × List Int × Unit)
  | some v => .inl (s, n, v, a, out, ())
  | none => .inr (a, out, ())
theorem lrun0 (a : Nat) (m : Nat) (out : List Int) : ∀ (j : Nat) (r pre : List UInt8) (v : Int) (k n : Nat), pre.length = k → k + j = a + m + 1 → j ≤ r.length → j < n → k + r.length ≤ 140737488355320 → m ≤ 3 →
    loopN F21_l0 n (pre ++ r, (m : Int), v, (a : Int), (k : Int), out, ()) = some (res0 (pre ++ r) m a out (conts j r v))
  | _, _, _, _, _, 0, _, _, _, hn, _, _ => by omega
  | 0, r, pre, v, k, n + 1, hk, hj, hr, hn, hb, hm => by
    refine loopN_inr ?_
    have h : IntKind.i64.wrap ((a : Int) + (m : Int)) = (a : Int) + m := w64 (by omega) (by omega)
    simp (disch := (first | omega | (simp only [List.length_append, List.length_cons, List.length_nil]; omega))) only [F21_l0, h, decide_eq_true, decide_eq_false, cond_true, cond_false, Bool.and_self, Bool.true_and, Bool.and_true, Bool.false_and, Bool.and_false, Bool.not_true, Bool.not_false, List.length_append, List.length_cons, List.length_nil, Int.toNat_natCast, ibT, ibF, inT, inF, wrN, gd, dr, Option.bind_some, Sum.elim_inl, Sum.elim_inr, byte_back, of_to, conts, res0]
  | j + 1, [], pre, v, k, n + 1, hk, hj, hr, hn, hb, hm => by simp at hr
  | j + 1, c :: r, pre, v, k, n + 1, hk, hj, hr, hn, hb, hm => by
    simp only [List.length_cons] at hr hb
    have h : IntKind.i64.wrap ((a : Int) + (m : Int)) = (a : Int) + m := w64 (by omega) (by omega)
    cases hc : contB c with
    | true =>
      have hc' : (intBits BinOp.andNot IntKind.u8 (c.toNat : Int) 63 != 128) = false := by simpa [contB] using hc
      rw [loopN_inl (v' := (pre ++ c :: r, (m : Int), stepV v c, (a : Int), ((k + 1 : Nat) : Int), out, ())) (by
        simp (disch := (first | omega | (simp only [List.length_append, List.length_cons, List.length_nil]; omega))) only [F21_l0, h, decide_eq_true, decide_eq_false, cond_true, cond_false, Bool.and_self, Bool.true_and, Bool.and_true, Bool.false_and, Bool.and_false, Bool.not_true, Bool.not_false, List.length_append, List.length_cons, List.length_nil, Int.toNat_natCast, ibT, ibF, inT, inF, wrN, gd, dr, Option.bind_some, Sum.elim_inl, Sum.elim_inr, byte_back, of_to, hc']
        rfl)]
      rw [shift, lrun0 a m out j r (pre ++ [c]) (stepV v c) (k + 1) n (by simp [hk]) (by omega) (by omega) (by omega) (by omega) hm]
      simp only [conts, hc, cond_true]
    | false =>
      have hc' : (intBits BinOp.andNot IntKind.u8 (c.toNat : Int) 63 != 128) = true := by simpa [contB] using hc
      refine loopN_inr ?_
      simp (disch := (first | omega | (simp only [List.length_append, List.length_cons, List.length_nil]; omega))) only [F21_l0, h, decide_eq_true, decide_eq_false, cond_true, cond_false, Bool.and_self, Bool.true_and, Bool.and_true, Bool.false_and, Bool.and_false, Bool.not_true, Bool.not_false, List.length_append, List.length_cons, List.length_nil, Int.toNat_natCast, ibT, ibF, inT, inF, wrN, gd, dr, Option.bind_some, Sum.elim_inl, Sum.elim_inr, byte_back, of_to, hc', conts, hc, res0]
def ut : Nat → List UInt8 → Nat → Option Nat
  | 0, _, _ => none
  | n + 1, s, p => if s = [] then none else if ch s = 0 then some p else ut n (s.drop (ch s)) (p + ch s)
def rrun (out : List Int) : Option Nat → (List Int × Unit) ⊕ (Int × List Int × Unit)
  | none => .inl (out, ())
  | some b => .inr ((b : Int), out, ())
theorem rrun1 (c : UInt8) (r pre : List UInt8) (out : List Int) (p : Nat) (hp : pre.length = p) (hb : p + r.length ≤ 140737488355000) (ho : out.length ≤ 1000000000) :
    F21_l1 C57 C58 C21_l0 (pre ++ c :: r, (p : Int), out, ()) = some (if ch (c :: r) = 0 then .inr (.inr ((p : Int), out, ())) else
      .inl (pre ++ c :: r, ((p + ch (c :: r) : Nat) : Int), out ++ [((conts (leadN c).toNat r (leadV c)).getD 0)], ())) := by
  have hrng := lead_rng c
  by_cases h1 : leadN c < 0
  · have : ch (c :: r) = 0 := by simp [ch, h1]
    rw [if_pos this]
    simp (disch := (first | omega | (simp only [List.length_append, List.length_cons, List.length_nil]; omega))) only [F21_l1, decide_eq_true, decide_eq_false, cond_true, cond_false, Bool.and_self, Bool.true_and, Bool.and_true, Bool.false_and, Bool.and_false, Bool.not_true, Bool.not_false, List.length_append, List.length_cons, List.length_nil, Int.toNat_natCast, ibT, ibF, inT, inF, wrN, gd, dr, Option.bind_some, Sum.elim_inl, Sum.elim_inr, byte_back, of_to, c57]
  · have hw : IntKind.i64.wrap (((pre.length + (r.length + 1) : Nat) : Int) - (p : Int)) = (r.length : Int) + 1 := by rw [w64] <;> omega
    obtain ⟨m, hm⟩ : ∃ m : Nat, leadN c = m := ⟨(leadN c).toNat, by omega⟩
    by_cases h2 : r.length < m
    · have : ch (c :: r) = 0 := by simp [ch, hm, h2]
      rw [if_pos this]
      simp (disch := (first | omega | (simp only [List.length_append, List.length_cons, List.length_nil]; omega))) only [F21_l1, decide_eq_true, decide_eq_false, cond_true, cond_false, Bool.and_self, Bool.true_and, Bool.and_true, Bool.false_and, Bool.and_false, Bool.not_true, Bool.not_false, List.length_append, List.length_cons, List.length_nil, Int.toNat_natCast, ibT, ibF, inT, inF, wrN, gd, dr, Option.bind_some, Sum.elim_inl, Sum.elim_inr, byte_back, of_to, c57, hw, hm]
    · have hl := lrun0 p m out m r (pre ++ [c]) (leadV c) (p + 1) big (by simp [hp]) (by omega) (by omega) (by unfold big; omega) (by omega) (by omega)
      rw [← shift] at hl
      have hl' : C21_l0 (pre ++ c :: r, (m : Int), leadV c, (p : Int), ((p + 1 : Nat) : Int), out, ()) = _ := hl
      cases hc : conts m r (leadV c) with
      | none =>
        have : ch (c :: r) = 0 := by simp [ch, hm, h2, hc]
        rw [if_pos this]
        simp (disch := (first | omega | (simp only [List.length_append, List.length_cons, List.length_nil]; omega))) only [F21_l1, decide_eq_true, decide_eq_false, cond_true, cond_false, Bool.and_self, Bool.true_and, Bool.and_true, Bool.false_and, Bool.and_false, Bool.not_true, Bool.not_false, List.length_append, List.length_cons, List.length_nil, Int.toNat_natCast, ibT, ibF, inT, inF, wrN, gd, dr, Option.bind_some, Sum.elim_inl, Sum.elim_inr, byte_back, of_to, c57, hw, hm, hl', hc, res0]
      | some v =>
        have hw2 : IntKind.i64.wrap ((m : Int) + 1) = (m : Int) + 1 := w64 (by omega) (by omega)
        by_cases h3 : lenR v = m + 1
        · have hch : ch (c :: r) = m + 1 := by simp [ch, hm, h2, hc, h3]
          have hw3 : IntKind.i64.wrap ((p : Int) + ((m : Int) + 1)) = ((p + (m + 1) : Nat) : Int) := by rw [w64] <;> omega
          rw [if_neg (by omega), hch]
          simp (disch := (first | omega | (simp only [List.length_append, List.length_cons, List.length_nil]; omega))) only [F21_l1, hw2, hw3, decide_eq_true, decide_eq_false, cond_true, cond_false, Bool.and_self, List.length_append, List.length_cons, List.length_nil, Int.toNat_natCast, inF, gd, Option.bind_some, Sum.elim_inl, wrN, c57, hw, hm, hl', hc, res0, c58, Option.getD_some]
        · have : ch (c :: r) = 0 := by simp [ch, hm, h2, hc, h3]
          rw [if_pos this]
          simp (disch := (first | omega | (simp only [List.length_append, List.length_cons, List.length_nil]; omega))) only [F21_l1, hw2, decide_eq_true, decide_eq_false, cond_true, cond_false, Bool.and_self, Bool.true_and, Bool.and_true, Bool.false_and, Bool.and_false, Bool.not_true, Bool.not_false, List.length_append, List.length_cons, List.length_nil, Int.toNat_natCast, ibT, ibF, inT, inF, wrN, gd, dr, Option.bind_some, Sum.elim_inl, Sum.elim_inr, byte_back, of_to, c57, hw, hm, hl', hc, res0, c58]
theorem lrun1 : ∀ (m : Nat) (r pre : List UInt8) (out : List Int) (p n : Nat), r.length ≤ m → pre.length = p → r.length < n → p + r.length ≤ 140737488355000 → out.length + r.length ≤ 1000000000 →
    ∃ o, loopN (F21_l1 C57 C58 C21_l0) n (pre ++ r, (p : Int), out, ()) = some (rrun o (ut n r p))
  | _, _, _, _, _, 0, _, _, hn, _, _ => by omega
  | m, [], pre, out, p, n + 1, hm, hp, hn, hb, ho => by
    refine ⟨out, loopN_inr ?_⟩
    simp (disch := (first | omega | (simp only [List.length_append, List.length_cons, List.length_nil]; omega))) only [F21_l1, decide_eq_true, decide_eq_false, cond_true, cond_false, Bool.and_self, Bool.true_and, Bool.and_true, Bool.false_and, Bool.and_false, Bool.not_true, Bool.not_false, List.length_append, List.length_cons, List.length_nil, Int.toNat_natCast, ibT, ibF, inT, inF, wrN, gd, dr, Option.bind_some, Sum.elim_inl, Sum.elim_inr, byte_back, of_to, List.append_nil, ut, if_true, rrun]
  | 0, c :: r, pre, out, p, n + 1, hm, hp, hn, hb, ho => by simp at hm
  | m + 1, c :: r, pre, out, p, n + 1, hm, hp, hn, hb, ho => by
    simp only [List.length_cons] at hm hn hb ho
    have hr := rrun1 c r pre out p hp (by omega) (by omega)
    by_cases h : ch (c :: r) = 0
    · rw [if_pos h] at hr
      refine ⟨out, ?_⟩
      rw [loopN_inr hr]
      simp [ut, h, rrun]
    · rw [if_neg h] at hr
      have hle := ch_le (c :: r)
      simp only [List.length_cons] at hle
      have hsplit : pre ++ c :: r = (pre ++ (c :: r).take (ch (c :: r))) ++ (c :: r).drop (ch (c :: r)) := by rw [List.append_assoc, List.take_append_drop]
      obtain ⟨o, ho'⟩ := lrun1 m ((c :: r).drop (ch (c :: r))) (pre ++ (c :: r).take (ch (c :: r))) (out ++ [((conts (leadN c).toNat r (leadV c)).getD 0)]) (p + ch (c :: r)) n (by simp; omega) (by simp [hp]; omega) (by simp; omega) (by simp; omega) (by simp; omega)
      refine ⟨o, ?_⟩
      rw [loopN_inl hr]
      rw [← hsplit] at ho'
      rw [ho']
      simp [ut, h]
def utf (s : List UInt8) : Option Nat := ut big s 0
theorem c21 (s : List UInt8) (hb : s.length ≤ 1000000) : ∃ o, C21 (s, ()) = some (o, (match utf s with | none => -1 | some b => (b : Int)), ()) := by
  obtain ⟨o, h⟩ := lrun1 s.length s [] [] 0 big (Nat.le_refl _) rfl (by unfold big; omega) (by omega) (by simp; omega)
  have h' : C21_l1 (s, 0, [], ()) = some (rrun o (utf s)) := h
  refine ⟨o, ?_⟩
  have hg : ∀ (b : Int) (o : List Int), C21_g0 (b, o, ()) = some (b, o, ()) := by
    intro b o
    show loopN _ big _ = _
    rw [show big = 999999999999999999999 + 1 from rfl]
    exact loopN_inr rfl
  simp only [C21, F21, h', Option.bind_some]
  cases utf s <;> simp [rrun, hg]
end Go.Proofs.YtmfcepdbpdihgaaGreatDoor.W
set_option linter.unusedVariables false
set_option linter.unusedSimpArgs false
set_option maxRecDepth 100000
namespace Go.Proofs.YtmfcepdbpdihgaaGreatDoor.W
open Go Go.Ae Go.Pl
theorem c85 (v : Int) : C85 (v, ()) = some (rightB v, ()) := by
  simp only [C85, F85, rightB]
  by_cases h1 : v ≥ 0 <;> by_cases h2 : v ≤ 1114111 <;> by_cases h3 : v ≥ 55296 <;> by_cases h4 : v ≤ 57343 <;> simp [h1, h2, h3, h4] <;> omega
theorem lenR_eq (v : Int) : lenR v = (lenE v : Int) := by
  have h := c58 v
  simp only [C58, F58, c85, Option.bind_some] at h
  have h' : (some (((lenE v : Nat) : Int), ()) : Option (Int × Unit)) = some (lenR v, ()) := by
    rw [← h]
    unfold lenE
    cases rightB v with
    | false => rfl
    | true => cases decide (v ≤ 127) <;> cases decide (v ≤ 2047) <;> cases decide (v ≤ 65535) <;> rfl
  simp only [Option.some.injEq, Prod.mk.injEq, and_true] at h'
  exact h'.symm
def ldB (c : UInt8) : Bool :=
  bif Nat.blt c.toNat 128 then decide (leadN c = 0) && decide (leadV c = (c.toNat : Int))
  else bif Nat.blt c.toNat 194 then decide (leadN c = -1)
  else bif Nat.blt c.toNat 224 then decide (leadN c = 1) && decide (leadV c = ((c.toNat - 192 : Nat) : Int))
  else bif Nat.blt c.toNat 240 then decide (leadN c = 2) && decide (leadV c = ((c.toNat - 224 : Nat) : Int))
  else bif Nat.blt c.toNat 245 then decide (leadN c = 3) && decide (leadV c = ((c.toNat - 240 : Nat) : Int))
  else decide (leadN c = -1)
theorem ldB_k : ((List.range 256).all fun n => ldB (UInt8.ofNat n)) = true := by kernel_rfl
theorem ld1 {c : UInt8} (h : cv c < 128) : leadN c = 0 ∧ leadV c = cv c := by
  have k := all256 ldB ldB_k c
  unfold cv at *
  have h1 : Nat.blt c.toNat 128 = true := by rw [Nat.blt_eq]; omega
  simpa [ldB, h1] using k
theorem ld0 {c : UInt8} (h : 128 ≤ cv c) (h2 : cv c < 194 ∨ 245 ≤ cv c) : leadN c = -1 := by
  have k := all256 ldB ldB_k c
  unfold cv at *
  have h1 : Nat.blt c.toNat 128 = false := by rw [← Bool.not_eq_true, Nat.blt_eq]; omega
  rcases h2 with h2 | h2
  · have h3 : Nat.blt c.toNat 194 = true := by rw [Nat.blt_eq]; omega
    simpa [ldB, h1, h3] using k
  · have h3 : Nat.blt c.toNat 194 = false := by rw [← Bool.not_eq_true, Nat.blt_eq]; omega
    have h4 : Nat.blt c.toNat 224 = false := by rw [← Bool.not_eq_true, Nat.blt_eq]; omega
    have h5 : Nat.blt c.toNat 240 = false := by rw [← Bool.not_eq_true, Nat.blt_eq]; omega
    have h6 : Nat.blt c.toNat 245 = false := by rw [← Bool.not_eq_true, Nat.blt_eq]; omega
    simpa [ldB, h1, h3, h4, h5, h6] using k
theorem ld2 {c : UInt8} (h : 194 ≤ cv c) (h2 : cv c < 224) : leadN c = 1 ∧ leadV c = cv c - 192 := by
  have k := all256 ldB ldB_k c
  unfold cv at *
  have h1 : Nat.blt c.toNat 128 = false := by rw [← Bool.not_eq_true, Nat.blt_eq]; omega
  have h3 : Nat.blt c.toNat 194 = false := by rw [← Bool.not_eq_true, Nat.blt_eq]; omega
  have h4 : Nat.blt c.toNat 224 = true := by rw [Nat.blt_eq]; omega
  simp [ldB, h1, h3, h4] at k
  exact ⟨k.1, by rw [k.2]; omega⟩
theorem ld3 {c : UInt8} (h : 224 ≤ cv c) (h2 : cv c < 240) : leadN c = 2 ∧ leadV c = cv c - 224 := by
  have k := all256 ldB ldB_k c
  unfold cv at *
  have h1 : Nat.blt c.toNat 128 = false := by rw [← Bool.not_eq_true, Nat.blt_eq]; omega
  have h3 : Nat.blt c.toNat 194 = false := by rw [← Bool.not_eq_true, Nat.blt_eq]; omega
  have h4 : Nat.blt c.toNat 224 = false := by rw [← Bool.not_eq_true, Nat.blt_eq]; omega
  have h5 : Nat.blt c.toNat 240 = true := by rw [Nat.blt_eq]; omega
  simp [ldB, h1, h3, h4, h5] at k
  exact ⟨k.1, by rw [k.2]; omega⟩
theorem ld4 {c : UInt8} (h : 240 ≤ cv c) (h2 : cv c < 245) : leadN c = 3 ∧ leadV c = cv c - 240 := by
  have k := all256 ldB ldB_k c
  unfold cv at *
  have h1 : Nat.blt c.toNat 128 = false := by rw [← Bool.not_eq_true, Nat.blt_eq]; omega
  have h3 : Nat.blt c.toNat 194 = false := by rw [← Bool.not_eq_true, Nat.blt_eq]; omega
  have h4 : Nat.blt c.toNat 224 = false := by rw [← Bool.not_eq_true, Nat.blt_eq]; omega
  have h5 : Nat.blt c.toNat 240 = false := by rw [← Bool.not_eq_true, Nat.blt_eq]; omega
  have h6 : Nat.blt c.toNat 245 = true := by rw [Nat.blt_eq]; omega
  simp [ldB, h1, h3, h4, h5, h6] at k
  exact ⟨k.1, by rw [k.2]; omega⟩
def ctB (c : UInt8) : Bool := bif contB c then (Nat.ble 128 c.toNat && Nat.blt c.toNat 192) else !(Nat.ble 128 c.toNat && Nat.blt c.toNat 192)
def ctV (c : UInt8) : Bool := !(Nat.ble 128 c.toNat && Nat.blt c.toNat 192) || decide (IntKind.i32.wrap (intBits BinOp.and IntKind.u8 (c.toNat : Int) 63) = ((c.toNat - 128 : Nat) : Int))
theorem ctB_k : ((List.range 256).all fun n => ctB (UInt8.ofNat n)) = true := by kernel_rfl
theorem ctV_k : ((List.range 256).all fun n => ctV (UInt8.ofNat n)) = true := by kernel_rfl
theorem contB_eq (c : UInt8) : contB c = contC c := by
  have k := all256 ctB ctB_k c
  have k2 : contB c = (Nat.ble 128 c.toNat && Nat.blt c.toNat 192) := by
    unfold ctB at k
    revert k
    cases contB c <;> cases (Nat.ble 128 c.toNat && Nat.blt c.toNat 192) <;> simp
  rw [k2]
  unfold contC cv
  by_cases h1 : 128 ≤ c.toNat <;> by_cases h2 : c.toNat < 192
  · have e1 : Nat.ble 128 c.toNat = true := Nat.ble_eq_true_of_le h1
    have e2 : Nat.blt c.toNat 192 = true := by rw [Nat.blt_eq]; exact h2
    rw [e1, e2]; simp; omega
  · have e2 : Nat.blt c.toNat 192 = false := by rw [← Bool.not_eq_true, Nat.blt_eq]; exact h2
    rw [e2]; simp; omega
  · have e1 : Nat.ble 128 c.toNat = false := by rw [← Bool.not_eq_true, Nat.ble_eq]; exact h1
    rw [e1]; simp; omega
  · have e1 : Nat.ble 128 c.toNat = false := by rw [← Bool.not_eq_true, Nat.ble_eq]; exact h1
    rw [e1]; simp; omega
theorem stepV_eq {c : UInt8} (hc : contC c = true) {v : Int} (h0 : 0 ≤ v) (h1 : v < 33554432) : stepV v c = v * 64 + (cv c - 128) := by
  have h := contC_iff.1 hc
  have k := all256 ctV ctV_k c
  unfold cv at *
  have e1 : Nat.ble 128 c.toNat = true := Nat.ble_eq_true_of_le (by omega)
  have e2 : Nat.blt c.toNat 192 = true := by rw [Nat.blt_eq]; omega
  have e3 : IntKind.i32.wrap (intBits BinOp.and IntKind.u8 (c.toNat : Int) 63) = ((c.toNat - 128 : Nat) : Int) := by simpa [ctV, e1, e2] using k
  unfold stepV
  rw [e3]
  have e4 : IntKind.i32.wrap (v * 2 ^ min 6 IntKind.i32.bits) = v * 64 := by
    have : (2 : Int) ^ min 6 IntKind.i32.bits = 64 := by decide
    rw [this]
    simp only [IntKind.wrap, IntKind.signed, IntKind.bits]; simp; omega
  rw [e4, or_shift h0 h1 (by omega) (by omega)]
  omega
theorem ch_dec (c : UInt8) (r : List UInt8) : match dec (c :: r) with
    | some v => ch (c :: r) = lenE v ∧ conts (leadN c).toNat r (leadV c) = some v
    | none => ch (c :: r) = 0 := by
  have hr := cv_rng c
  rw [dec_cons, decC]
  by_cases h1 : cv c < 128
  · obtain ⟨e1, e2⟩ := ld1 h1
    have hl := lenE1 hr.1 (by omega : cv c ≤ 127)
    simp only [h1, decide_true, cond_true]
    simp [ch, e1, e2, conts, lenR_eq, hl]
  · by_cases h2 : cv c < 194
    · have e1 := ld0 (by omega) (.inl h2)
      simp [h1, h2, ch, e1]
    · by_cases h3 : cv c < 224
      · obtain ⟨e1, e2⟩ := ld2 (by omega) h3
        simp only [h1, h2, h3, decide_true, decide_false, cond_true, cond_false]
        cases r with
        | nil => simp [dec2, ch, e1]
        | cons b t =>
          rw [dec2_cons]
          cases hb : contC b with
          | false => simp [ch, e1, e2, conts, contB_eq, hb]
          | true =>
            have hb' := contC_iff.1 hb
            have es := stepV_eq hb (v := cv c - 192) (by omega) (by omega)
            simp only [cond_true, ifLen]
            cases hl : Nat.beq (lenE ((cv c - 192) * 64 + (cv b - 128))) 2 with
            | true =>
              have hl' := Nat.eq_of_beq_eq_true hl
              simp [ch, e1, e2, conts, contB_eq, hb, es, lenR_eq, hl']
            | false =>
              have hl' := Nat.ne_of_beq_eq_false hl
              simp [ch, e1, e2, conts, contB_eq, hb, es, lenR_eq]
              omega
      · by_cases h4 : cv c < 240
        · obtain ⟨e1, e2⟩ := ld3 (by omega) h4
          simp only [h1, h2, h3, h4, decide_true, decide_false, cond_true, cond_false]
          rcases r with _ | ⟨b, _ | ⟨d, t⟩⟩
          · simp [dec3, ch, e1]
          · simp [dec3, ch, e1]
          · rw [dec3_cons]
            cases hb : contC b with
            | false => simp [ch, e1, e2, conts, contB_eq, hb]
            | true =>
              have hb' := contC_iff.1 hb
              have es := stepV_eq hb (v := cv c - 224) (by omega) (by omega)
              cases hd : contC d with
              | false => simp [ch, e1, e2, conts, contB_eq, hb, hd]
              | true =>
                have hd' := contC_iff.1 hd
                have es2 := stepV_eq hd (v := (cv c - 224) * 64 + (cv b - 128)) (by omega) (by omega)
                have ev : ((cv c - 224) * 64 + (cv b - 128)) * 64 + (cv d - 128) = (cv c - 224) * 4096 + (cv b - 128) * 64 + (cv d - 128) := by omega
                simp only [Bool.and_self, cond_true, ifLen]
                cases hl : Nat.beq (lenE ((cv c - 224) * 4096 + (cv b - 128) * 64 + (cv d - 128))) 3 with
                | true =>
                  have hl' := Nat.eq_of_beq_eq_true hl
                  simp [ch, e1, e2, conts, contB_eq, hb, hd, es, es2, ev, lenR_eq, hl']
                | false =>
                  have hl' := Nat.ne_of_beq_eq_false hl
                  simp [ch, e1, e2, conts, contB_eq, hb, hd, es, es2, ev, lenR_eq]
                  omega
        · by_cases h5 : cv c < 245
          · obtain ⟨e1, e2⟩ := ld4 (by omega) h5
            simp only [h1, h2, h3, h4, h5, decide_true, decide_false, cond_true, cond_false]
            rcases r with _ | ⟨b, _ | ⟨d, _ | ⟨e, t⟩⟩⟩
            · simp [dec4, ch, e1]
            · simp [dec4, ch, e1]
            · simp [dec4, ch, e1]
            · rw [dec4_cons]
              cases hb : contC b with
              | false => simp [ch, e1, e2, conts, contB_eq, hb]
              | true =>
                have hb' := contC_iff.1 hb
                have es := stepV_eq hb (v := cv c - 240) (by omega) (by omega)
                cases hd : contC d with
                | false => simp [ch, e1, e2, conts, contB_eq, hb, hd]
                | true =>
                  have hd' := contC_iff.1 hd
                  have es2 := stepV_eq hd (v := (cv c - 240) * 64 + (cv b - 128)) (by omega) (by omega)
                  cases he : contC e with
                  | false => simp [ch, e1, e2, conts, contB_eq, hb, hd, he]
                  | true =>
                    have he' := contC_iff.1 he
                    have es3 := stepV_eq he (v := ((cv c - 240) * 64 + (cv b - 128)) * 64 + (cv d - 128)) (by omega) (by omega)
                    have ev : (((cv c - 240) * 64 + (cv b - 128)) * 64 + (cv d - 128)) * 64 + (cv e - 128) = (cv c - 240) * 262144 + (cv b - 128) * 4096 + (cv d - 128) * 64 + (cv e - 128) := by omega
                    simp only [Bool.and_self, cond_true, ifLen]
                    cases hl : Nat.beq (lenE ((cv c - 240) * 262144 + (cv b - 128) * 4096 + (cv d - 128) * 64 + (cv e - 128))) 4 with
                    | true =>
                      have hl' := Nat.eq_of_beq_eq_true hl
                      simp [ch, e1, e2, conts, contB_eq, hb, hd, he, es, es2, es3, ev, lenR_eq, hl']
                    | false =>
                      have hl' := Nat.ne_of_beq_eq_false hl
                      simp [ch, e1, e2, conts, contB_eq, hb, hd, he, es, es2, es3, ev, lenR_eq]
                      omega
          · have e1 := ld0 (c := c) (by omega) (.inr (by omega))
            simp [h1, h2, h3, h4, h5, ch, e1]
theorem prun : ∀ (m : Nat) (r pre : List UInt8) (out : List Int) (p n : Nat), r.length ≤ m → pre.length = p → r.length < n → p + r.length ≤ 140737488355000 → out.length + r.length ≤ 1000000000 →
    loopN (F21_l1 C57 C58 C21_l0) n (pre ++ r, (p : Int), out, ()) = some (if rr r = [] then .inl (out ++ rl r, ()) else .inr (((p + (r.length - (rr r).length) : Nat) : Int), out ++ rl r, ()))
  | _, _, _, _, _, 0, _, _, hn, _, _ => by omega
  | m, [], pre, out, p, n + 1, hm, hp, hn, hb, ho => by
    have h := runes_none (s := []) rfl
    rw [h.1, h.2, if_pos rfl]
    refine loopN_inr ?_
    simp (disch := (first | omega | (simp only [List.length_append, List.length_cons, List.length_nil]; omega))) only [F21_l1, decide_eq_true, decide_eq_false, cond_true, cond_false, Bool.and_self, Bool.true_and, Bool.and_true, Bool.false_and, Bool.and_false, Bool.not_true, Bool.not_false, List.length_append, List.length_cons, List.length_nil, Int.toNat_natCast, ibT, ibF, inT, inF, wrN, gd, dr, Option.bind_some, Sum.elim_inl, Sum.elim_inr, byte_back, of_to, List.append_nil]
  | 0, c :: r, pre, out, p, n + 1, hm, hp, hn, hb, ho => by simp at hm
  | m + 1, c :: r, pre, out, p, n + 1, hm, hp, hn, hb, ho => by
    simp only [List.length_cons] at hm hn hb ho
    have hr := rrun1 c r pre out p hp (by omega) (by omega)
    have hd := ch_dec c r
    cases he : dec (c :: r) with
    | none =>
      rw [he] at hd
      have h := runes_none he
      rw [if_pos hd] at hr
      rw [h.1, h.2, if_neg (by simp), loopN_inr hr]
      simp
    | some v =>
      rw [he] at hd
      obtain ⟨h1, h2⟩ := hd
      have h := runes_some he
      have hl := dec_len he
      rw [if_neg (by omega), h1, h2] at hr
      simp only [List.length_cons] at hl
      have hsplit : pre ++ c :: r = (pre ++ (c :: r).take (lenE v)) ++ (c :: r).drop (lenE v) := by rw [List.append_assoc, List.take_append_drop]
      have ih := prun m ((c :: r).drop (lenE v)) (pre ++ (c :: r).take (lenE v)) (out ++ [v]) (p + lenE v) n (by simp; omega) (by simp [hp]; omega) (by simp; omega) (by simp; omega) (by simp; omega)
      rw [loopN_inl hr]
      rw [← hsplit] at ih
      rw [Option.getD_some, ih, h.1, h.2]
      have hle := rr_le ((c :: r).drop (lenE v))
      simp only [List.length_drop, List.length_cons] at hle ⊢
      split
      · simp
      · rw [List.append_assoc]
        have : p + lenE v + (r.length + 1 - lenE v - (rr ((c :: r).drop (lenE v))).length) = p + (r.length + 1 - (rr ((c :: r).drop (lenE v))).length) := by omega
        rw [this]; rfl
theorem d21 (s : List UInt8) (hb : s.length ≤ 1000000) : C21 (s, ()) = some (rl s, badAt s, ()) := by
  have h := prun s.length s [] [] 0 big (Nat.le_refl _) rfl (by unfold big; omega) (by omega) (by simp; omega)
  have h' : C21_l1 (s, 0, [], ()) = _ := h
  have hg : ∀ (b : Int) (o : List Int), C21_g0 (b, o, ()) = some (b, o, ()) := by
    intro b o
    show loopN _ big _ = _
    rw [show big = 999999999999999999999 + 1 from rfl]
    exact loopN_inr rfl
  simp only [C21, F21, h', Option.bind_some]
  by_cases hr : rr s = []
  · rw [if_pos hr, badAt_nil hr]; simp
  · rw [if_neg hr, badAt_some hr]; simp [hg]
theorem c64 (v : Int) : C64 (v, ()) = some (rightB v, ()) := by
  simp only [C64, F64, rightB]
  by_cases h1 : v ≥ 0 <;> by_cases h2 : v ≤ 1114111 <;> by_cases h3 : v < 55296 <;> by_cases h4 : v > 57343 <;> simp [h1, h2, h3, h4] <;> omega
theorem c92 (v : Int) : C92 (v, ()) = some ((lenE v : Int), ()) := by
  simp only [C92, F92, c64, Option.bind_some]
  unfold lenE
  cases rightB v with
  | false => rfl
  | true => cases decide (v ≤ 127) <;> cases decide (v ≤ 2047) <;> cases decide (v ≤ 65535) <;> rfl
theorem w32 {n : Int} (h0 : -2147483648 ≤ n) (h1 : n ≤ 2147483647) : IntKind.i32.wrap n = n := by
  simp only [IntKind.wrap, IntKind.signed, IntKind.bits]; simp; omega
theorem wu8 {n : Int} (h0 : 0 ≤ n) (h1 : n ≤ 255) : IntKind.u8.wrap n = n := by
  simp only [IntKind.wrap, IntKind.signed, IntKind.bits]; simp; omega
theorem tdiv_nn {a : Int} (b : Int) (h : 0 ≤ a) : a.tdiv b = a / b := Int.tdiv_eq_ediv_of_nonneg h
theorem tmod_nn {a : Int} (b : Int) (h : 0 ≤ a) : a.tmod b = a % b := Int.tmod_eq_emod_of_nonneg h
theorem c65 (v : Int) : C65 (v, ()) = some (enc v, ()) := by
  simp only [C65, F65, c92, Option.bind_some]
  cases hr : rightB v with
  | false => simp [lenE0 hr, enc]
  | true =>
    rcases lenE_cases hr with ⟨h, h1, h2⟩ | ⟨h, h1, h2⟩ | ⟨h, h1, h2⟩ | ⟨h, h1, h2⟩
    · rw [enc1 h, h, wu8 h1 (by omega)]; rfl
    · rw [enc2 h, h, tdiv_nn 64 (by omega), tmod_nn 64 (by omega), w32 (n := v / 64) (by omega) (by omega), w32 (n := 192 + v / 64) (by omega) (by omega), w32 (n := 128 + v % 64) (by omega) (by omega), wu8 (n := 192 + v / 64) (by omega) (by omega), wu8 (n := 128 + v % 64) (by omega) (by omega)]
      rfl
    · rw [enc3 h, h, tdiv_nn 64 (by omega), tdiv_nn 4096 (by omega), tmod_nn (a := v) 64 (by omega), w32 (n := v / 64) (by omega) (by omega), w32 (n := v / 4096) (by omega) (by omega), tmod_nn (a := v / 64) 64 (by omega),
        w32 (n := 224 + v / 4096) (by omega) (by omega), w32 (n := 128 + v / 64 % 64) (by omega) (by omega), w32 (n := 128 + v % 64) (by omega) (by omega), wu8 (n := 224 + v / 4096) (by omega) (by omega), wu8 (n := 128 + v / 64 % 64) (by omega) (by omega), wu8 (n := 128 + v % 64) (by omega) (by omega)]
      rfl
    · rw [enc4 h, h, tdiv_nn 64 (by omega), tdiv_nn 4096 (by omega), tdiv_nn 262144 (by omega), tmod_nn (a := v) 64 (by omega), w32 (n := v / 64) (by omega) (by omega), w32 (n := v / 4096) (by omega) (by omega), w32 (n := v / 262144) (by omega) (by omega), tmod_nn (a := v / 64) 64 (by omega), tmod_nn (a := v / 4096) 64 (by omega),
        w32 (n := 240 + v / 262144) (by omega) (by omega), w32 (n := 128 + v / 4096 % 64) (by omega) (by omega), w32 (n := 128 + v / 64 % 64) (by omega) (by omega), w32 (n := 128 + v % 64) (by omega) (by omega), wu8 (n := 240 + v / 262144) (by omega) (by omega), wu8 (n := 128 + v / 4096 % 64) (by omega) (by omega), wu8 (n := 128 + v / 64 % 64) (by omega) (by omega), wu8 (n := 128 + v % 64) (by omega) (by omega)]
      rfl
end Go.Proofs.YtmfcepdbpdihgaaGreatDoor.W
set_option linter.unusedVariables false
set_option linter.unusedSimpArgs false
set_option maxRecDepth 100000
namespace Go.Proofs.YtmfcepdbpdihgaaGreatDoor.W
open Go Go.Ae Go.Pl
def or8B (c : UInt8) : Bool :=
  ((!Nat.blt c.toNat 32 || decide (intBits BinOp.or IntKind.u8 192 (c.toNat : Int) = ((192 + c.toNat : Nat) : Int))) && (!Nat.blt c.toNat 16 || decide (intBits BinOp.or IntKind.u8 224 (c.toNat : Int) = ((224 + c.toNat : Nat) : Int)))) &&
  ((!Nat.blt c.toNat 8 || decide (intBits BinOp.or IntKind.u8 240 (c.toNat : Int) = ((240 + c.toNat : Nat) : Int))) && (!Nat.blt c.toNat 64 || decide (intBits BinOp.or IntKind.u8 128 (c.toNat : Int) = ((128 + c.toNat : Nat) : Int))))
theorem or8_k : ((List.range 256).all fun n => or8B (UInt8.ofNat n)) = true := by kernel_rfl
theorem or8 (x : Int) (h0 : 0 ≤ x) : (x < 32 → intBits BinOp.or IntKind.u8 192 x = 192 + x) ∧ (x < 16 → intBits BinOp.or IntKind.u8 224 x = 224 + x) ∧ (x < 8 → intBits BinOp.or IntKind.u8 240 x = 240 + x) ∧ (x < 64 → intBits BinOp.or IntKind.u8 128 x = 128 + x) := by
  have key : ∀ m : Nat, m < 256 → or8B (UInt8.ofNat m) = true := fun m hm => List.all_eq_true.1 or8_k m (List.mem_range.2 hm)
  have val : ∀ m : Nat, m < 256 → (UInt8.ofNat m).toNat = m := fun m hm => by simp; omega
  refine ⟨fun h => ?_, fun h => ?_, fun h => ?_, fun h => ?_⟩
  all_goals
    have k := key x.toNat (by omega)
    unfold or8B at k
    rw [val _ (by omega)] at k
    have e : ((x.toNat : Nat) : Int) = x := by omega
    rw [e] at k
  · have hb : Nat.blt x.toNat 32 = true := by rw [Nat.blt_eq]; omega
    simp [hb] at k; rw [k.1.1]; omega
  · have hb : Nat.blt x.toNat 16 = true := by rw [Nat.blt_eq]; omega
    simp [hb] at k; rw [k.1.2]; omega
  · have hb : Nat.blt x.toNat 8 = true := by rw [Nat.blt_eq]; omega
    simp [hb] at k; rw [k.2.1]; omega
  · have hb : Nat.blt x.toNat 64 = true := by rw [Nat.blt_eq]; omega
    simp [hb] at k; rw [k.2.2]; omega
theorem fdiv_nn {a : Int} {b : Int} (h : 0 ≤ b) : a.fdiv b = a / b := Int.fdiv_eq_ediv_of_nonneg a h
theorem p6 : (2 : Int) ^ min 6 IntKind.i32.bits = 64 := by decide
theorem p12 : (2 : Int) ^ min 12 IntKind.i32.bits = 4096 := by decide
theorem p18 : (2 : Int) ^ min 18 IntKind.i32.bits = 262144 := by decide
def strE : List Int → Option (List UInt8)
  | [] => some []
  | v :: l => if rightB v = true then (strE l).map (enc v ++ ·) else none
theorem sstep (v : Int) (pre r : List Int) (N : Int) (out : List UInt8) (hN : N = ((pre ++ v :: r).length : Int)) (hl : pre.length + r.length ≤ 1000000000) (ho : out.length ≤ 100000000000000) :
    F28_l0 C58 (pre ++ v :: r, N, (pre.length : Int), out, ()) = some (if rightB v = true then .inl (pre ++ v :: r, N, ((pre.length + 1 : Nat) : Int), out ++ enc v, ()) else .inr (.inr ([], false, ()))) := by
  subst hN
  have hi : decide ((pre.length : Int) < ((pre ++ v :: r).length : Int)) = true := by simp; omega
  have hi0 : decide (0 ≤ (pre.length : Int)) = true := by simp
  have hw : IntKind.i64.wrap ((pre.length : Int) + 1) = ((pre.length + 1 : Nat) : Int) := wrN _ (by omega)
  have hg : (pre ++ v :: r).getD ((pre.length : Int)).toNat 0 = v := by rw [Int.toNat_natCast]; exact gd rfl
  cases hr : rightB v with
  | false =>
    simp only [F28_l0, hi, hi0, hg, c58, lenR_eq, lenE0 hr, Option.bind_some, cond_true, Bool.and_self]
    rfl
  | true =>
    have ol : ∀ k : Nat, k ≤ 4 → decide (out.length + k ≤ 140737488355328 / 1) = true := fun k hk => by simp; omega
    have f6 : Int.fdiv v (2 ^ min 6 IntKind.i32.bits) = v / 64 := by rw [p6, fdiv_nn (by omega)]
    have f12 : Int.fdiv v (2 ^ min 12 IntKind.i32.bits) = v / 4096 := by rw [p12, fdiv_nn (by omega)]
    have f18 : Int.fdiv v (2 ^ min 18 IntKind.i32.bits) = v / 262144 := by rw [p18, fdiv_nn (by omega)]
    have hi' := rightB_iff.1 hr
    have a0 := and63 (x := v) (by omega) (by omega)
    have a6 := and63 (x := v / 64) (by omega) (by omega)
    have a12 := and63 (x := v / 4096) (by omega) (by omega)
    have u0 : IntKind.u8.wrap (v % 64) = v % 64 := wu8 (by omega) (by omega)
    have u6 : IntKind.u8.wrap (v / 64 % 64) = v / 64 % 64 := wu8 (by omega) (by omega)
    have u12 : IntKind.u8.wrap (v / 4096 % 64) = v / 4096 % 64 := wu8 (by omega) (by omega)
    have o0 := (or8 (v % 64) (by omega)).2.2.2 (by omega)
    have o6 := (or8 (v / 64 % 64) (by omega)).2.2.2 (by omega)
    have o12 := (or8 (v / 4096 % 64) (by omega)).2.2.2 (by omega)
    rcases lenE_cases hr with ⟨h, h1, h2⟩ | ⟨h, h1, h2⟩ | ⟨h, h1, h2⟩ | ⟨h, h1, h2⟩
    · have e0 : (((1 : Nat) : Int) == 0) = false := rfl
      have e1 : (((1 : Nat) : Int) == 1) = true := rfl
      simp only [F28_l0, hi, hi0, hg, hw, c58, lenR_eq, h, e0, e1, Option.bind_some, cond_true, cond_false, Bool.and_self, List.length_cons, List.length_nil, ol 1 (by omega), enc1 h, if_true, wu8 h1 (by omega : v ≤ 255)]
      rfl
    · have e0 : (((2 : Nat) : Int) == 0) = false := rfl
      have e1 : (((2 : Nat) : Int) == 1) = false := rfl
      have e2 : (((2 : Nat) : Int) == 2) = true := rfl
      have u : IntKind.u8.wrap (v / 64) = v / 64 := wu8 (by omega) (by omega)
      have o := (or8 (v / 64) (by omega)).1 (by omega)
      simp only [F28_l0, hi, hi0, hg, hw, c58, lenR_eq, h, e0, e1, e2, Option.bind_some, cond_true, cond_false, Bool.and_self, List.length_cons, List.length_nil, ol 2 (by omega), enc2 h, if_true, f6, a0, u, u0, o, o0]
      rfl
    · have e0 : (((3 : Nat) : Int) == 0) = false := rfl
      have e1 : (((3 : Nat) : Int) == 1) = false := rfl
      have e2 : (((3 : Nat) : Int) == 2) = false := rfl
      have e3 : (((3 : Nat) : Int) == 3) = true := rfl
      have u : IntKind.u8.wrap (v / 4096) = v / 4096 := wu8 (by omega) (by omega)
      have o := (or8 (v / 4096) (by omega)).2.1 (by omega)
      simp only [F28_l0, hi, hi0, hg, hw, c58, lenR_eq, h, e0, e1, e2, e3, Option.bind_some, cond_true, cond_false, Bool.and_self, List.length_cons, List.length_nil, ol 3 (by omega), enc3 h, if_true, f6, f12, a0, a6, u, u0, u6, o, o0, o6]
      rfl
    · have e0 : (((4 : Nat) : Int) == 0) = false := rfl
      have e1 : (((4 : Nat) : Int) == 1) = false := rfl
      have e2 : (((4 : Nat) : Int) == 2) = false := rfl
      have e3 : (((4 : Nat) : Int) == 3) = false := rfl
      have e4 : (((4 : Nat) : Int) == 4) = true := rfl
      have u : IntKind.u8.wrap (v / 262144) = v / 262144 := wu8 (by omega) (by omega)
      have o := (or8 (v / 262144) (by omega)).2.2.1 (by omega)
      simp only [F28_l0, hi, hi0, hg, hw, c58, lenR_eq, h, e0, e1, e2, e3, e4, Option.bind_some, cond_true, cond_false, Bool.and_self, List.length_cons, List.length_nil, ol 4 (by omega), enc4 h, if_true, f6, f12, f18, a0, a6, a12, u, u0, u6, u12, o, o0, o6, o12]
      rfl
theorem srun : ∀ (r pre : List Int) (N : Int) (out : List UInt8) (n : Nat), N = ((pre ++ r).length : Int) → pre.length + r.length ≤ 1000000000 → out.length + 4 * r.length ≤ 100000000000000 → r.length < n →
    loopN (F28_l0 C58) n (pre ++ r, N, (pre.length : Int), out, ()) = some (match strE r with | some e => .inl (out ++ e, ()) | none => .inr ([], false, ()))
  | _, _, _, _, 0, _, _, _, hn => by omega
  | [], pre, N, out, n + 1, hN, hl, ho, hn => by
    subst hN
    refine loopN_inr ?_
    have hi : decide ((pre.length : Int) < (pre.length : Int)) = false := by simp
    simp only [F28_l0, hi, cond_false, strE, List.append_nil]
  | v :: r, pre, N, out, n + 1, hN, hl, ho, hn => by
    simp only [List.length_cons] at hl ho hn
    have hs := sstep v pre r N out hN (by omega) (by omega)
    cases hr : rightB v with
    | false =>
      rw [hr, if_neg (by simp)] at hs
      rw [loopN_inr hs]
      simp [strE, hr]
    | true =>
      rw [hr, if_pos rfl] at hs
      have hl4 := (lenE_pos hr).2
      rw [loopN_inl hs, shift, show ((pre.length + 1 : Nat) : Int) = ((pre ++ [v]).length : Int) by simp, srun r (pre ++ [v]) N (out ++ enc v) n (by rw [hN]; simp) (by simp; omega) (by rw [List.length_append, enc_len]; omega) (by omega)]
      rw [strE, if_pos hr]
      cases strE r <;> simp
theorem c28 (l : List Int) (hl : l.length ≤ 100000000) : C28 (l, ()) = some (match strE l with | some e => (e, true, ()) | none => ([], false, ())) := by
  have h := srun l [] (l.length : Int) [] big (by simp) (by simp; omega) (by simp; omega) (by unfold big; omega)
  have h' : C28_l0 (l, (l.length : Int), 0, [], ()) = _ := h
  simp only [C28, F28, h', Option.bind_some]
  cases strE l <;> rfl
theorem rsrun : ∀ (r pre : List Int) (out : List UInt8) (n : Nat), pre.length + r.length ≤ 1000000000 → out.length + 4 * r.length ≤ 100000000000000 → r.length < n →
    loopN (F31_l0 C64 C65) n (pre ++ r, (pre.length : Int), out, ()) = some (match strE r with | some e => .inl (out ++ e, ()) | none => .inr ([], false, ()))
  | _, _, _, 0, _, _, hn => by omega
  | [], pre, out, n + 1, hl, ho, hn => by
    refine loopN_inr ?_
    have hi : decide ((pre.length : Int) < (pre.length : Int)) = false := by simp
    simp only [F31_l0, hi, cond_false, strE, List.append_nil]
  | v :: r, pre, out, n + 1, hl, ho, hn => by
    simp only [List.length_cons] at hl ho hn
    have hi : decide ((pre.length : Int) < ((pre ++ v :: r).length : Int)) = true := by simp; omega
    have hi0 : decide (0 ≤ (pre.length : Int)) = true := by simp
    have hw : IntKind.i64.wrap ((pre.length : Int) + 1) = ((pre.length + 1 : Nat) : Int) := wrN _ (by omega)
    have hg : (pre ++ v :: r).getD ((pre.length : Int)).toNat 0 = v := by rw [Int.toNat_natCast]; exact gd rfl
    cases hr : rightB v with
    | false =>
      rw [loopN_inr (y := .inr ([], false, ())) (by simp only [F31_l0, hi, hi0, hg, c64, hr, Option.bind_some, cond_true, Bool.and_self]; rfl)]
      simp [strE, hr]
    | true =>
      have hl4 := (lenE_pos hr).2
      have ol : decide (out.length + (enc v).length ≤ 140737488355328 / 1) = true := by rw [enc_len]; simp; omega
      rw [loopN_inl (v' := (pre ++ v :: r, ((pre.length + 1 : Nat) : Int), out ++ enc v, ())) (by simp only [F31_l0, hi, hi0, hg, hw, c64, c65, hr, ol, Option.bind_some, cond_true, cond_false, Bool.and_self, Bool.not_true])]
      rw [shift, show ((pre.length + 1 : Nat) : Int) = ((pre ++ [v]).length : Int) by simp, rsrun r (pre ++ [v]) (out ++ enc v) n (by simp; omega) (by rw [List.length_append, enc_len]; omega) (by omega)]
      rw [strE, if_pos hr]
      cases strE r <;> simp
theorem c31 (l : List Int) (hl : l.length ≤ 100000000) : C31 (l, ()) = some (match strE l with | some e => (e, true, ()) | none => ([], false, ())) := by
  have h := rsrun l [] [] big (by simp; omega) (by simp; omega) (by unfold big; omega)
  have h' : C31_l0 (l, 0, [], ()) = _ := h
  simp only [C31, F31, h', Option.bind_some]
  cases strE l <;> rfl
def trN (s : List UInt8) : Nat → Int
  | 1 => cv (s.getD 0 0)
  | 2 => cv (s.getD 0 0) % 32 * 64 + cv (s.getD 1 0) % 64
  | 3 => cv (s.getD 0 0) % 16 * 4096 + cv (s.getD 1 0) % 64 * 64 + cv (s.getD 2 0) % 64
  | _ => cv (s.getD 0 0) % 8 * 262144 + cv (s.getD 1 0) % 64 * 4096 + cv (s.getD 2 0) % 64 * 64 + cv (s.getD 3 0) % 64
theorem oc0 (s : List UInt8) (n : Nat) (v : Int) (hn : n ≤ s.length) : C69_c0 (s, (n : Int), v, ()) = some (if lenE v = n ∧ enc v = s.take n then .inl (v, (n : Int), ()) else .inr (s, (n : Int), ())) := by
  have h0 : decide (0 ≤ (n : Int)) = true := by simp
  have h1 : decide ((n : Int) ≤ (s.length : Int)) = true := by simp; omega
  simp only [C69_c0, F69_c0, c92, c65, Option.bind_some, h0, h1, Bool.and_self, cond_true, Int.toNat_natCast]
  by_cases hl : lenE v = n
  · have e : (((lenE v : Nat) : Int) == (n : Int)) = true := by rw [hl]; simp
    rw [e]
    by_cases he : enc v = s.take n
    · have e2 : (enc v == s.take n) = true := by rw [he]; simp
      rw [e2, if_pos ⟨hl, he⟩]; rfl
    · have e2 : (enc v == s.take n) = false := by simpa using he
      rw [e2, if_neg (fun h => he h.2)]; rfl
  · have e : (((lenE v : Nat) : Int) == (n : Int)) = false := by rw [ibF]; omega
    rw [e, if_neg (fun h => hl h.1)]; rfl
theorem ostep (s : List UInt8) (n : Nat) (h1 : 1 ≤ n) (h4 : n ≤ 4) (hn : n ≤ s.length) :
    F69_l0 C69_c0 (s, (n : Int), ()) = some (if lenE (trN s n) = n ∧ enc (trN s n) = s.take n then .inr (.inr (trN s n, (n : Int), ())) else .inl (s, ((n + 1 : Nat) : Int), ())) := by
  have b0 := cv_rng (s.getD 0 0)
  have b1 := cv_rng (s.getD 1 0)
  have b2 := cv_rng (s.getD 2 0)
  have b3 := cv_rng (s.getD 3 0)
  have d0 : decide (0 < (s.length : Int)) = true := by simp; omega
  have dl : decide ((n : Int) ≤ (s.length : Int)) = true := by simp; omega
  have d4 : decide ((n : Int) ≤ 4) = true := by simp; omega
  have hw : IntKind.i64.wrap ((n : Int) + 1) = ((n + 1 : Nat) : Int) := wrN _ (by omega)
  have i0 : IntKind.i32.wrap ((s.getD 0 0).toNat : Int) = cv (s.getD 0 0) := w32 (by unfold cv at b0; omega) (by unfold cv at b0; omega)
  have i1 : IntKind.i32.wrap ((s.getD 1 0).toNat : Int) = cv (s.getD 1 0) := w32 (by unfold cv at b1; omega) (by unfold cv at b1; omega)
  have i2 : IntKind.i32.wrap ((s.getD 2 0).toNat : Int) = cv (s.getD 2 0) := w32 (by unfold cv at b2; omega) (by unfold cv at b2; omega)
  have i3 : IntKind.i32.wrap ((s.getD 3 0).toNat : Int) = cv (s.getD 3 0) := w32 (by unfold cv at b3; omega) (by unfold cv at b3; omega)
  have m1 := tmod_nn (a := cv (s.getD 1 0)) 64 b1.1
  have m2 := tmod_nn (a := cv (s.getD 2 0)) 64 b2.1
  have m3 := tmod_nn (a := cv (s.getD 3 0)) 64 b3.1
  have key : ∀ v : Int, (C69_c0 (s, (n : Int), v, ())).bind (fun val => Sum.elim (fun val => some (Sum.inr (Sum.inr (val.fst, val.snd.fst, ())))) (fun val => some (Sum.inl (val.fst, IntKind.i64.wrap (val.snd.fst + 1), ()))) val) =
      (some (if lenE v = n ∧ enc v = s.take n then .inr (.inr (v, (n : Int), ())) else .inl (s, ((n + 1 : Nat) : Int), ())) : Option ((List UInt8 × Int × Unit) ⊕ (Unit ⊕ (Int × Int × Unit)))) := by
    intro v
    rw [oc0 s n v hn, Option.bind_some]
    split
    · rfl
    · simp only [Sum.elim_inr, hw]
  rcases (show n = 1 ∨ n = 2 ∨ n = 3 ∨ n = 4 by omega) with rfl | rfl | rfl | rfl
  · have e2 : (((1 : Nat) : Int) == 2) = false := rfl
    have e3 : (((1 : Nat) : Int) == 3) = false := rfl
    have e4 : (((1 : Nat) : Int) == 4) = false := rfl
    rw [← key (trN s 1)]
    simp only [F69_l0, d4, dl, d0, e2, e3, e4, cond_true, cond_false, i0]
    rfl
  · have e2 : (((2 : Nat) : Int) == 2) = true := rfl
    have d1 : decide (1 < (s.length : Int)) = true := by simp; omega
    have m0 := tmod_nn (a := cv (s.getD 0 0)) 32 b0.1
    rw [← key (trN s 2)]
    have t1 : IntKind.i32.wrap (cv (s.getD 0 0) % 32 * 64) = cv (s.getD 0 0) % 32 * 64 := w32 (by omega) (by omega)
    have t2 : IntKind.i32.wrap (cv (s.getD 0 0) % 32 * 64 + cv (s.getD 1 0) % 64) = cv (s.getD 0 0) % 32 * 64 + cv (s.getD 1 0) % 64 := w32 (by omega) (by omega)
    simp only [F69_l0, d4, dl, d0, d1, e2, cond_true, cond_false, i0, i1, m0, m1, t1, t2]
    rfl
  · have e2 : (((3 : Nat) : Int) == 2) = false := rfl
    have e3 : (((3 : Nat) : Int) == 3) = true := rfl
    have d1 : decide (1 < (s.length : Int)) = true := by simp; omega
    have d2 : decide (2 < (s.length : Int)) = true := by simp; omega
    have m0 := tmod_nn (a := cv (s.getD 0 0)) 16 b0.1
    rw [← key (trN s 3)]
    have t1 : IntKind.i32.wrap (cv (s.getD 0 0) % 16 * 4096) = cv (s.getD 0 0) % 16 * 4096 := w32 (by omega) (by omega)
    have t2 : IntKind.i32.wrap (cv (s.getD 1 0) % 64 * 64) = cv (s.getD 1 0) % 64 * 64 := w32 (by omega) (by omega)
    have t3 : IntKind.i32.wrap (cv (s.getD 0 0) % 16 * 4096 + cv (s.getD 1 0) % 64 * 64) = cv (s.getD 0 0) % 16 * 4096 + cv (s.getD 1 0) % 64 * 64 := w32 (by omega) (by omega)
    have t4 : IntKind.i32.wrap (cv (s.getD 0 0) % 16 * 4096 + cv (s.getD 1 0) % 64 * 64 + cv (s.getD 2 0) % 64) = cv (s.getD 0 0) % 16 * 4096 + cv (s.getD 1 0) % 64 * 64 + cv (s.getD 2 0) % 64 := w32 (by omega) (by omega)
    simp only [F69_l0, d4, dl, d0, d1, d2, e2, e3, cond_true, cond_false, i0, i1, i2, m0, m1, m2, t1, t2, t3, t4]
    rfl
  · have e2 : (((4 : Nat) : Int) == 2) = false := rfl
    have e3 : (((4 : Nat) : Int) == 3) = false := rfl
    have e4 : (((4 : Nat) : Int) == 4) = true := rfl
    have d1 : decide (1 < (s.length : Int)) = true := by simp; omega
    have d2 : decide (2 < (s.length : Int)) = true := by simp; omega
    have d3 : decide (3 < (s.length : Int)) = true := by simp; omega
    have m0 := tmod_nn (a := cv (s.getD 0 0)) 8 b0.1
    rw [← key (trN s 4)]
    have t1 : IntKind.i32.wrap (cv (s.getD 0 0) % 8 * 262144) = cv (s.getD 0 0) % 8 * 262144 := w32 (by omega) (by omega)
    have t2 : IntKind.i32.wrap (cv (s.getD 1 0) % 64 * 4096) = cv (s.getD 1 0) % 64 * 4096 := w32 (by omega) (by omega)
    have t3 : IntKind.i32.wrap (cv (s.getD 2 0) % 64 * 64) = cv (s.getD 2 0) % 64 * 64 := w32 (by omega) (by omega)
    have t4 : IntKind.i32.wrap (cv (s.getD 0 0) % 8 * 262144 + cv (s.getD 1 0) % 64 * 4096) = cv (s.getD 0 0) % 8 * 262144 + cv (s.getD 1 0) % 64 * 4096 := w32 (by omega) (by omega)
    have t5 : IntKind.i32.wrap (cv (s.getD 0 0) % 8 * 262144 + cv (s.getD 1 0) % 64 * 4096 + cv (s.getD 2 0) % 64 * 64) = cv (s.getD 0 0) % 8 * 262144 + cv (s.getD 1 0) % 64 * 4096 + cv (s.getD 2 0) % 64 * 64 := w32 (by omega) (by omega)
    have t6 : IntKind.i32.wrap (cv (s.getD 0 0) % 8 * 262144 + cv (s.getD 1 0) % 64 * 4096 + cv (s.getD 2 0) % 64 * 64 + cv (s.getD 3 0) % 64) = cv (s.getD 0 0) % 8 * 262144 + cv (s.getD 1 0) % 64 * 4096 + cv (s.getD 2 0) % 64 * 64 + cv (s.getD 3 0) % 64 := w32 (by omega) (by omega)
    simp only [F69_l0, d4, dl, d0, d1, d2, d3, e2, e3, e4, cond_true, cond_false, i0, i1, i2, i3, m0, m1, m2, m3, t1, t2, t3, t4, t5, t6]
    rfl
theorem try_dec {s : List UInt8} {n : Nat} (h1 : 1 ≤ n) {v : Int} (h : lenE v = n ∧ enc v = s.take n) : dec s = some v := by
  have hr : rightB v = true := by
    cases hr : rightB v with
    | true => rfl
    | false => rw [lenE0 hr] at h; omega
  exact dec_iff.2 ⟨hr, s.drop n, by rw [h.2, List.take_append_drop]⟩
theorem dec_try {s : List UInt8} {v : Int} (h : dec s = some v) : trN s (lenE v) = v ∧ enc v = s.take (lenE v) := by
  obtain ⟨hr, t, rfl⟩ := dec_at h
  refine ⟨?_, by rw [← enc_len, List.take_left]⟩
  have hi := rightB_iff.1 hr
  rcases lenE_cases hr with ⟨h, h1, h2⟩ | ⟨h, h1, h2⟩ | ⟨h, h1, h2⟩ | ⟨h, h1, h2⟩
  · rw [h, enc1 h]
    have e := b8_cv h1 (by omega : v < 256)
    show cv (b8 v) = v
    exact e
  · rw [h, enc2 h]
    have e1 := b8_cv (n := 192 + v / 64) (by omega) (by omega)
    have e2 := b8_cv (n := 128 + v % 64) (by omega) (by omega)
    show cv (b8 (192 + v / 64)) % 32 * 64 + cv (b8 (128 + v % 64)) % 64 = v
    rw [e1, e2]; omega
  · rw [h, enc3 h]
    have e1 := b8_cv (n := 224 + v / 4096) (by omega) (by omega)
    have e2 := b8_cv (n := 128 + v / 64 % 64) (by omega) (by omega)
    have e3 := b8_cv (n := 128 + v % 64) (by omega) (by omega)
    show cv (b8 (224 + v / 4096)) % 16 * 4096 + cv (b8 (128 + v / 64 % 64)) % 64 * 64 + cv (b8 (128 + v % 64)) % 64 = v
    rw [e1, e2, e3]; omega
  · rw [h, enc4 h]
    have e1 := b8_cv (n := 240 + v / 262144) (by omega) (by omega)
    have e2 := b8_cv (n := 128 + v / 4096 % 64) (by omega) (by omega)
    have e3 := b8_cv (n := 128 + v / 64 % 64) (by omega) (by omega)
    have e4 := b8_cv (n := 128 + v % 64) (by omega) (by omega)
    show cv (b8 (240 + v / 262144)) % 8 * 262144 + cv (b8 (128 + v / 4096 % 64)) % 64 * 4096 + cv (b8 (128 + v / 64 % 64)) % 64 * 64 + cv (b8 (128 + v % 64)) % 64 = v
    rw [e1, e2, e3, e4]; omega
theorem orun (s : List UInt8) : ∀ (k n : Nat), n + k = 5 → 1 ≤ n → (∀ v, dec s = some v → n ≤ lenE v) → ∀ m, k < m →
    loopN (F69_l0 C69_c0) m (s, (n : Int), ()) = some (match dec s with | some v => .inr (v, (lenE v : Int), ()) | none => .inl ())
  | _, _, _, _, _, 0, hm => by omega
  | 0, n, hk, h1, hd, m + 1, hm => by
    have : n = 5 := by omega
    subst this
    cases he : dec s with
    | some v =>
      have := hd v he
      have := lenE_pos (dec_at he).1
      omega
    | none => exact loopN_inr rfl
  | k + 1, n, hk, h1, hd, m + 1, hm => by
    by_cases hn : n ≤ s.length
    · have hs := ostep s n h1 (by omega) hn
      by_cases ht : lenE (trN s n) = n ∧ enc (trN s n) = s.take n
      · rw [if_pos ht] at hs
        rw [loopN_inr hs, try_dec h1 ht]
        simp only [ht.1]
      · rw [if_neg ht] at hs
        rw [loopN_inl hs]
        refine orun s k (n + 1) (by omega) (by omega) (fun v hv => ?_) m (by omega)
        have h2 := hd v hv
        have h3 := dec_try hv
        rcases Nat.lt_or_ge n (lenE v) with h | h
        · exact h
        · have : lenE v = n := by omega
          rw [this] at h3
          exact absurd ⟨by rw [h3.1]; exact this, by rw [h3.1]; exact h3.2⟩ ht
    · cases he : dec s with
      | some v =>
        have := hd v he
        have := dec_len he
        omega
      | none =>
        refine loopN_inr ?_
        have d4 : decide ((n : Int) ≤ 4) = true := by simp; omega
        have dl : decide ((n : Int) ≤ (s.length : Int)) = false := by simp; omega
        simp only [F69_l0, d4, dl, cond_true, cond_false]
theorem c69 (s : List UInt8) : C69 (s, ()) = some (match dec s with | some v => (v, (lenE v : Int), ()) | none => (0, 0, ())) := by
  have h := orun s 4 1 rfl (Nat.le_refl _) (fun v hv => (dec_len hv).1) big (by unfold big; omega)
  have h' : C69_l0 (s, 1, ()) = _ := h
  simp only [C69, F69, h', Option.bind_some]
  cases dec s <;> rfl
theorem rrun2 : ∀ (m : Nat) (r pre : List UInt8) (out : List Int) (n : Nat), r.length ≤ m → r.length < n → pre.length + r.length ≤ 1000000000 → out.length + r.length ≤ 1000000000 →
    loopN (F36_l0 C69) n (pre ++ r, (pre.length : Int), out, ()) = some (if rr r = [] then .inl (out ++ rl r, ()) else .inr (((pre.length + (r.length - (rr r).length) : Nat) : Int), out ++ rl r, ()))
  | _, _, _, _, 0, _, hn, _, _ => by omega
  | m, [], pre, out, n + 1, hm, hn, hb, ho => by
    have h := runes_none (s := []) rfl
    rw [h.1, h.2, if_pos rfl]
    refine loopN_inr ?_
    have hi : decide ((pre.length : Int) < (pre.length : Int)) = false := by simp
    simp only [F36_l0, hi, cond_false, List.append_nil]
  | 0, c :: r, pre, out, n + 1, hm, hn, hb, ho => by simp at hm
  | m + 1, c :: r, pre, out, n + 1, hm, hn, hb, ho => by
    simp only [List.length_cons] at hm hn hb ho
    have hi : decide ((pre.length : Int) < ((pre ++ c :: r).length : Int)) = true := by simp; omega
    have hi0 : decide (0 ≤ (pre.length : Int)) = true := by simp
    have hi1 : decide ((pre.length : Int) ≤ ((pre ++ c :: r).length : Int)) = true := by simp; omega
    have hd : List.drop ((pre.length : Int)).toNat (pre ++ c :: r) = c :: r := by rw [Int.toNat_natCast]; exact dr rfl
    cases he : dec (c :: r) with
    | none =>
      have h := runes_none he
      rw [h.1, h.2, if_neg (by simp)]
      rw [loopN_inr (y := .inr ((pre.length : Int), out, ())) (by
        simp only [F36_l0, hi, hi0, hi1, hd, c69, he, Option.bind_some, cond_true, Bool.and_self]; rfl)]
      simp
    | some v =>
      have h := runes_some he
      have hl := dec_len he
      simp only [List.length_cons] at hl
      have hz : ((lenE v : Int) == 0) = false := by rw [ibF]; omega
      have hw : IntKind.i64.wrap ((pre.length : Int) + (lenE v : Int)) = ((pre.length + lenE v : Nat) : Int) := by rw [w64] <;> omega
      have ol : decide (out.length + 1 ≤ 140737488355328 / 4) = true := by simp; omega
      have hsplit : pre ++ c :: r = (pre ++ (c :: r).take (lenE v)) ++ (c :: r).drop (lenE v) := by rw [List.append_assoc, List.take_append_drop]
      have hlen : (pre ++ (c :: r).take (lenE v)).length = pre.length + lenE v := by simp; omega
      rw [loopN_inl (v' := (pre ++ c :: r, ((pre.length + lenE v : Nat) : Int), out ++ [v], ())) (by
        simp only [F36_l0, hi, hi0, hi1, hd, c69, he, hz, hw, ol, List.length_cons, List.length_nil, Nat.zero_add, Option.bind_some, cond_true, cond_false, Bool.and_self])]
      have ih := rrun2 m ((c :: r).drop (lenE v)) (pre ++ (c :: r).take (lenE v)) (out ++ [v]) n (by simp; omega) (by simp; omega) (by simp; omega) (by simp; omega)
      rw [← hsplit, hlen] at ih
      rw [ih, h.1, h.2]
      have hle := rr_le ((c :: r).drop (lenE v))
      simp only [List.length_drop, List.length_cons] at hle ⊢
      split
      · simp
      · rw [List.append_assoc]
        have : pre.length + lenE v + (r.length + 1 - lenE v - (rr ((c :: r).drop (lenE v))).length) = pre.length + (r.length + 1 - (rr ((c :: r).drop (lenE v))).length) := by omega
        rw [this]; rfl
theorem c36 (s : List UInt8) (hb : s.length ≤ 1000000) : C36 (s, ()) = some (rl s, badAt s, ()) := by
  have h := rrun2 s.length s [] [] big (Nat.le_refl _) (by unfold big; omega) (by simp; omega) (by simp; omega)
  have h' : C36_l0 (s, 0, [], ()) = _ := h
  simp only [C36, F36, h', Option.bind_some]
  by_cases hr : rr s = []
  · rw [if_pos hr, badAt_nil hr]; simp
  · rw [if_neg hr, badAt_some hr]; simp
end Go.Proofs.YtmfcepdbpdihgaaGreatDoor.W
set_option linter.unusedVariables false
set_option linter.unusedSimpArgs false
set_option maxRecDepth 100000
namespace Go.Proofs.YtmfcepdbpdihgaaGreatDoor.W
open Go Go.Ae Go.Pl
def lowT : List UInt8 := [48, 49, 50, 51, 52, 53, 54, 55, 56, 57, 97, 98, 99, 100, 101, 102, 103, 104, 105, 106, 107, 108, 109, 110, 111, 112, 113, 114, 115, 116, 117, 118, 119, 120, 121, 122]
def upT : List UInt8 := [48, 49, 50, 51, 52, 53, 54, 55, 56, 57, 65, 66, 67, 68, 69, 70]
def dgl (n : Nat) : UInt8 := lowT.getD n 0
def dgu (n : Nat) : UInt8 := upT.getD n 0
def hexF (d : Nat → UInt8) : Nat → Nat → List UInt8
  | 0, _ => []
  | f + 1, n => bif Nat.blt n 16 then [d n] else hexF d f (n / 16) ++ [d (n % 16)]
theorem hexF_lo (d : Nat → UInt8) (f n : Nat) (h : n < 16) : hexF d (f + 1) n = [d n] := by
  have : Nat.blt n 16 = true := by rw [Nat.blt_eq]; exact h
  simp [hexF, this]
theorem hexF_hi (d : Nat → UInt8) (f n : Nat) (h : 16 ≤ n) : hexF d (f + 1) n = hexF d f (n / 16) ++ [d (n % 16)] := by
  have : Nat.blt n 16 = false := by rw [← Bool.not_eq_true, Nat.blt_eq]; omega
  simp [hexF, this]
theorem hexF_more (d : Nat → UInt8) : ∀ (f g n : Nat), n < 16 ^ (f + 1) → f ≤ g → hexF d (g + 1) n = hexF d (f + 1) n
  | 0, g, n, h, _ => by rw [hexF_lo d g n (by simpa using h), hexF_lo d 0 n (by simpa using h)]
  | f + 1, 0, n, h, hg => by omega
  | f + 1, g + 1, n, h, hg => by
    by_cases h16 : n < 16
    · rw [hexF_lo d _ n h16, hexF_lo d _ n h16]
    · rw [hexF_hi d _ n (by omega), hexF_hi d _ n (by omega), hexF_more d f g (n / 16) (by rw [Nat.pow_succ] at h; omega) (by omega)]
theorem hexF_map (u : UInt8 → UInt8) (d e : Nat → UInt8) (hde : ∀ n, n < 16 → u (d n) = e n) : ∀ (f n : Nat), (hexF d f n).map u = hexF e f n
  | 0, n => rfl
  | f + 1, n => by
    by_cases h16 : n < 16
    · rw [hexF_lo d _ n h16, hexF_lo e _ n h16]; simp [hde n h16]
    · rw [hexF_hi d _ n (by omega), hexF_hi e _ n (by omega), List.map_append, hexF_map u d e hde f]; simp [hde (n % 16) (by omega)]
theorem hexF_all (p : UInt8 → Bool) (d : Nat → UInt8) (hd : ∀ n, n < 16 → p (d n) = true) : ∀ (f n : Nat), (hexF d f n).all p = true
  | 0, n => rfl
  | f + 1, n => by
    by_cases h16 : n < 16
    · rw [hexF_lo d _ n h16]; simp [hd n h16]
    · rw [hexF_hi d _ n (by omega), List.all_append, hexF_all p d hd f]; simp [hd (n % 16) (by omega)]
theorem hexF_len (d : Nat → UInt8) : ∀ (f n : Nat), (hexF d f n).length ≤ f
  | 0, n => Nat.le_refl _
  | f + 1, n => by
    by_cases h16 : n < 16
    · rw [hexF_lo d _ n h16]; simp
    · rw [hexF_hi d _ n (by omega)]; have := hexF_len d f (n / 16); simp; omega
def hexU (n : Nat) : List UInt8 := hexF dgu 16 n
theorem fin16 {p : Nat → Bool} (h : ((List.range 16).all p) = true) : ∀ n, n < 16 → p n = true := fun n hn => List.all_eq_true.1 h n (List.mem_range.2 hn)
theorem dgu_up : ∀ n, n < 16 → Lib.upperB (dgl n) = dgu n := fun n hn => by
  have := fin16 (p := fun n => decide (Lib.upperB (dgl n) = dgu n)) (by decide) n hn
  simpa using this
theorem dgl_low : ∀ n, n < 16 → decide ((dgl n).toNat < 128) = true := fin16 (p := fun n => decide ((dgl n).toNat < 128)) (by decide)
theorem dgu_slice : ∀ n, n < 16 → List.drop n (List.take (n + 1) upT) = [dgu n] := fun n hn => by
  have := fin16 (p := fun n => decide (List.drop n (List.take (n + 1) upT) = [dgu n])) (by decide) n hn
  simpa using this
theorem and15 {x : Int} (h0 : 0 ≤ x) (h1 : x < 18446744073709551616) : intBits .and .u64 x 15 = x % 16 := by
  have h := and64 (m := 4) h0 h1 (by omega)
  have e1 : (2 : Int) ^ 4 - 1 = 15 := by decide
  have e2 : (2 : Int) ^ 4 = 16 := by decide
  rw [e1, e2] at h
  exact h
theorem set_drop {l : List UInt8} {i : Nat} {x : UInt8} (h1 : 1 ≤ i) (h2 : i ≤ l.length) : (l.set (i - 1) x).drop (i - 1) = x :: l.drop i := by
  rw [List.drop_eq_getElem_cons (by simp; omega)]
  simp only [List.getElem_set_self, List.drop_set]
  rw [if_pos (by omega)]
  congr 2; omega
theorem bits_loop (b1 b2 : Bool) (p q : List UInt8) : ∀ (f : Nat) (u : Nat) (i : Nat) (arr : List UInt8) (n : Nat), u < 16 ^ (f + 1) → u < 18446744073709551616 → f + 1 ≤ i → i ≤ 65 → arr.length = 65 → f < n →
    ∃ (u' : Nat) (i' : Nat) (arr' : List UInt8), loopN F133_l0 n (p, (u : Int), b1, b2, q, (i : Int), 4, 16, 15, arr, ()) = some (p, (u' : Int), b1, b2, q, (i' : Int), arr', ()) ∧ u' < 16 ∧ arr'.length = 65 ∧ i ≤ i' + f ∧ i' ≤ i ∧ dgl u' :: arr'.drop i' = hexF dgl (f + 1) u ++ arr.drop i
  | _, _, _, _, 0, _, _, _, _, _, hn => by omega
  | 0, u, i, arr, n + 1, hu, hu2, hi, hi2, ha, hn => by
    have h16 : u < 16 := by simpa using hu
    refine ⟨u, i, arr, loopN_inr ?_, h16, ha, by omega, Nat.le_refl _, by rw [hexF_lo _ _ _ h16]; rfl⟩
    have e : decide ((u : Int) ≥ 16) = false := by simp; omega
    simp only [F133_l0, e, cond_false]
  | f + 1, u, i, arr, n + 1, hu, hu2, hi, hi2, ha, hn => by
    by_cases h16 : u < 16
    · refine ⟨u, i, arr, loopN_inr ?_, h16, ha, by omega, Nat.le_refl _, by rw [hexF_lo _ _ _ h16]; rfl⟩
      have e : decide ((u : Int) ≥ 16) = false := by simp; omega
      simp only [F133_l0, e, cond_false]
    · have e : decide ((u : Int) ≥ 16) = true := by simp; omega
      have ea := and15 (x := (u : Int)) (by omega) (by omega)
      have e1 : decide (0 ≤ (u : Int) % 16) = true := by simp; omega
      have e2 : decide ((u : Int) % 16 < (([48, 49, 50, 51, 52, 53, 54, 55, 56, 57, 97, 98, 99, 100, 101, 102, 103, 104, 105, 106, 107, 108, 109, 110, 111, 112, 113, 114, 115, 116, 117, 118, 119, 120, 121, 122].length : Nat) : Int)) = true := by simp; omega
      have ew : IntKind.i64.wrap ((i : Int) - 1) = ((i - 1 : Nat) : Int) := by rw [w64] <;> omega
      have e3 : decide (arr.length = 65) = true := by simp [ha]
      have e4 : decide (0 ≤ ((i - 1 : Nat) : Int)) = true := by simp
      have e5 : decide (((i - 1 : Nat) : Int) < (65 : Int)) = true := by simp; omega
      have e6 : decide (i - 1 < arr.length) = true := by simp; omega
      have e7 : decide ((0 : Int) ≤ 4) = true := by decide
      have ef : (u : Int).fdiv (2 ^ min (4 : Int).toNat IntKind.u64.bits) = ((u / 16 : Nat) : Int) := by
        have : (2 : Int) ^ min (4 : Int).toNat IntKind.u64.bits = 16 := by decide
        rw [this, fdiv_nn (by omega)]; omega
      have et : ((u : Int) % 16).toNat = u % 16 := by omega
      have es : F133_l0 (p, (u : Int), b1, b2, q, (i : Int), 4, 16, 15, arr, ()) = some (.inl (p, ((u / 16 : Nat) : Int), b1, b2, q, ((i - 1 : Nat) : Int), 4, 16, 15, arr.set (i - 1) (dgl (u % 16)), ())) := by
        simp only [F133_l0, e, ea, e1, e2, ew, e3, e4, e5, e6, e7, ef, et, Int.toNat_natCast, cond_true, Bool.and_self, byte_back, of_to]
        rfl
      obtain ⟨u', i', arr', h1, h2, h3, h4, h5, h6⟩ := bits_loop b1 b2 p q f (u / 16) (i - 1) (arr.set (i - 1) (dgl (u % 16))) n (by rw [Nat.pow_succ] at hu; omega) (by omega) (by omega) (by omega) (by simp [ha]) (by omega)
      have g1 : i ≤ i' + (f + 1) := by clear es h1 h6 e5 e6; omega
      have g2 : i' ≤ i := by clear es h1 h6 e5 e6; omega
      refine ⟨u', i', arr', by rw [loopN_inl es]; exact h1, h2, h3, g1, g2, ?_⟩
      rw [h6, hexF_hi dgl (f + 1) u (by omega), set_drop (by omega) (by omega), List.append_assoc]
      rfl
theorem pow2_16 : C161 (16, ()) = some (true, ()) := by kernel_rfl
theorem bits16 (neg : Bool) (u : Nat) (hu : u < 18446744073709551616) (arr : List UInt8) (ha : arr.length = 65) (p q : List UInt8) :
    C133_c2 (p, (u : Int), 16, neg, false, q, 65, arr, ()) = some ((bif neg then [45] else []) ++ hexF dgl 16 u, ()) := by
  obtain ⟨u', i', arr', h1, h2, h3, h4, h5, h6⟩ := bits_loop neg false p q 15 u 65 arr big (by omega) hu (by omega) (by omega) ha (by unfold big; omega)
  have h1' : C133_l0 (p, (u : Int), neg, false, q, 65, 4, 16, 15, arr, ()) = _ := h1
  have w1 : IntKind.u64.wrap 16 = 16 := by decide
  have w2 : IntKind.u64.wrap 4 = 4 := by decide
  have w3 : IntKind.u64.wrap (16 - 1) = 15 := by decide
  have t16 : C162 (16, ()) = some (4, ()) := by simp [C162]
  have e1 : decide (0 ≤ (u' : Int)) = true := by simp
  have e2 : decide ((u' : Int) < (([48, 49, 50, 51, 52, 53, 54, 55, 56, 57, 97, 98, 99, 100, 101, 102, 103, 104, 105, 106, 107, 108, 109, 110, 111, 112, 113, 114, 115, 116, 117, 118, 119, 120, 121, 122].length : Nat) : Int)) = true := by simp; omega
  have ew : IntKind.i64.wrap ((i' : Int) - 1) = ((i' - 1 : Nat) : Int) := by rw [w64] <;> omega
  have e3 : decide (arr'.length = 65) = true := by simp [h3]
  have e4 : decide (0 ≤ ((i' - 1 : Nat) : Int)) = true := by simp
  have e5 : decide (((i' - 1 : Nat) : Int) < (65 : Int)) = true := by simp; omega
  have e6 : decide (i' - 1 < arr'.length) = true := by simp; omega
  have e7 : decide ((arr'.set (i' - 1) (dgl u')).length = 65) = true := by simp [h3]
  have e8 : decide (((i' - 1 : Nat) : Int) ≤ ((arr'.set (i' - 1) (dgl u')).length : Int)) = true := by simp; omega
  have hd := set_drop (l := arr') (i := i') (x := dgl u') (by omega) (by omega)
  have hdl : arr.drop 65 = [] := List.drop_eq_nil_of_le (by omega)
  rw [h6, hdl, List.append_nil] at hd
  have hfin : C133_c1 (p, neg, false, q, ((i' - 1 : Nat) : Int), arr'.set (i' - 1) (dgl u'), ()) = some ((bif neg then [45] else []) ++ hexF dgl 16 u, ()) := by
    cases neg with
    | false =>
      simp only [C133_c1, F133_c1, C133_c0, F133_c0, cond_true, cond_false, e7, e4, e8, Bool.and_self, Int.toNat_natCast, Option.bind_some, hd, List.nil_append]
    | true =>
      have ew2 : IntKind.i64.wrap (((i' - 1 : Nat) : Int) - 1) = ((i' - 1 - 1 : Nat) : Int) := by rw [w64] <;> omega
      have g4 : decide (0 ≤ ((i' - 1 - 1 : Nat) : Int)) = true := by simp
      have g5 : decide (((i' - 1 - 1 : Nat) : Int) < (65 : Int)) = true := by simp; omega
      have g6 : decide (i' - 1 - 1 < (arr'.set (i' - 1) (dgl u')).length) = true := by simp; omega
      have g7 : decide (((arr'.set (i' - 1) (dgl u')).set (i' - 1 - 1) 45).length = 65) = true := by simp [h3]
      have g8 : decide (((i' - 1 - 1 : Nat) : Int) ≤ (((arr'.set (i' - 1) (dgl u')).set (i' - 1 - 1) 45).length : Int)) = true := by simp; omega
      have hd2 := set_drop (l := arr'.set (i' - 1) (dgl u')) (i := i' - 1) (x := 45) (by omega) (by simp; omega)
      rw [hd] at hd2
      simp only [C133_c1, F133_c1, C133_c0, F133_c0, cond_true, cond_false, e7, ew2, g4, g5, g6, g7, g8, Bool.and_self, Int.toNat_natCast, Option.bind_some, hd2]
      rfl
  simp only [C133_c2, F133_c2, pow2_16, w1, w2, w3, t16, h1', Option.bind_some, cond_true, e1, e2, Bool.and_self, ew, e3, e4, e5, e6, Int.toNat_natCast, byte_back, of_to]
  have hk : ∀ x : UInt8, x = dgl u' → (C133_c1 (p, neg, false, q, ((i' - 1 : Nat) : Int), arr'.set (i' - 1) x, ())).bind (fun val => some (val.fst, ())) = some ((bif neg then [45] else []) ++ hexF dgl 16 u, ()) := fun x hx => by
    rw [hx, hfin]; rfl
  exact hk _ rfl
theorem fmt16 (n : Int) (h0 : -9223372036854775807 ≤ n) (h1 : n ≤ 9223372036854775807) : C68 (n, 16, ()) = some ((bif decide (n < 0) then [45] else []) ++ hexF dgl 16 n.natAbs, ()) := by
  have e10 : ((16 : Int) == 10) = false := rfl
  have e2 : decide ((16 : Int) < 2) = false := rfl
  have e36 : decide ((16 : Int) > 36) = false := rfl
  by_cases hn : n < 0
  · have d : decide (n < 0) = true := by simp [hn]
    have hw : IntKind.u64.wrap (0 - IntKind.u64.wrap n) = ((n.natAbs : Nat) : Int) := by rw [IntKind.wrap_u64, IntKind.wrap_u64]; omega
    simp only [C68, F68, C97, F97, C133, F133, e10, e2, e36, d, hw, cond_true, cond_false]
    rw [bits16 true n.natAbs (by omega) _ rfl]
    rfl
  · have d : decide (n < 0) = false := by simp [hn]
    have hw : IntKind.u64.wrap n = ((n.natAbs : Nat) : Int) := by rw [IntKind.wrap_u64]; omega
    simp only [C68, F68, C97, F97, C133, F133, e10, e2, e36, d, hw, cond_true, cond_false]
    rw [bits16 false n.natAbs (by omega) _ rfl]
    rfl
theorem c34 (n : Int) (h0 : -9223372036854775807 ≤ n) (h1 : n ≤ 9223372036854775807) : C34 (n, ()) = some ((bif decide (n < 0) then [45] else []) ++ hexU n.natAbs, ()) := by
  have hl := hexF_len dgl 16 n.natAbs
  have ha := hexF_all (fun b => decide (b.toNat < 128)) dgl dgl_low 16 n.natAbs
  have hm := hexF_map Lib.upperB dgl dgu dgu_up 16 n.natAbs
  simp only [C34, F34, fmt16 n h0 h1, Option.bind_some, C67]
  cases decide (n < 0) with
  | false =>
    rw [if_pos ⟨by simp; omega, by simpa using ha⟩]
    simp only [cond_false, List.nil_append, hm, Option.bind_some, hexU]
  | true =>
    rw [if_pos ⟨by simp; omega, by simpa using ha⟩]
    simp only [cond_true, List.cons_append, List.nil_append, List.map_cons, hm, Option.bind_some, hexU]
    rfl
theorem refhex : ∀ (f n m : Nat), n < 16 ^ (f + 1) → n < 9223372036854775808 → f < m → recN (fun G => F37 G) m ((n : Int), ()) = some (hexF dgu (f + 1) n, ())
  | _, _, 0, _, _, hm => by omega
  | f, n, m + 1, hn, hb, hm => by
    show F37 (recN (fun G => F37 G) m) ((n : Int), ()) = _
    by_cases h16 : n < 16
    · have e : decide ((n : Int) < 16) = true := by simp; omega
      have ew : IntKind.i64.wrap ((n : Int) + 1) = ((n + 1 : Nat) : Int) := wrN _ (by omega)
      have e1 : decide (0 ≤ ((n + 1 : Nat) : Int)) = true := by simp; omega
      have e2 : decide (((n + 1 : Nat) : Int) ≤ (([48, 49, 50, 51, 52, 53, 54, 55, 56, 57, 65, 66, 67, 68, 69, 70].length : Nat) : Int)) = true := by simp; omega
      have e3 : decide (0 ≤ (n : Int)) = true := by simp
      have e4 : decide ((n : Int) ≤ ((n + 1 : Nat) : Int)) = true := by simp; omega
      have hs := dgu_slice n h16
      simp only [F37, e, ew, e1, e2, e3, e4, cond_true, Bool.and_self, Int.toNat_natCast]
      rw [hexF_lo _ _ _ h16]
      exact congrArg (fun x => some (x, ())) hs
    · match f, hn with
      | 0, hn => omega
      | f + 1, hn =>
        have e : decide ((n : Int) < 16) = false := by simp; omega
        have ed : (n : Int).tdiv 16 = ((n / 16 : Nat) : Int) := by rw [tdiv_nn _ (by omega)]; omega
        have em : (n : Int).tmod 16 = ((n % 16 : Nat) : Int) := by rw [tmod_nn _ (by omega)]; omega
        have ew : IntKind.i64.wrap ((n / 16 : Nat) : Int) = ((n / 16 : Nat) : Int) := by rw [w64] <;> omega
        have i1 := refhex f (n / 16) m (by rw [Nat.pow_succ] at hn; omega) (by omega) (by omega)
        have i2 := refhex f (n % 16) m (by have : n % 16 < 16 := Nat.mod_lt _ (by omega); have := Nat.one_le_two_pow (n := f); rw [Nat.pow_succ]; have := Nat.one_le_pow f 16 (by omega); omega) (by omega) (by omega)
        have hl := hexF_len dgu (f + 1) (n / 16)
        rw [hexF_lo _ _ _ (Nat.mod_lt _ (by omega))] at i2
        rw [hexF_hi _ _ _ (by omega)]
        have hlen : (hexF dgu (f + 1) (n / 16)).length ≤ 9223372036854775000 := by
          have := hexF_more dgu 15 (f + 1) (n / 16)
          by_cases hf : f ≤ 15
          · omega
          · have h2 := hexF_more dgu 15 f (n / 16) (by omega) (by omega)
            rw [h2]
            have := hexF_len dgu (15 + 1) (n / 16)
            omega
        have el : decide ((hexF dgu (f + 1) (n / 16)).length + [dgu (n % 16)].length ≤ 9223372036854775807) = true := by simp; omega
        simp only [F37, e, ed, em, ew, i1, i2, el, Option.bind_some, cond_true, cond_false]
theorem c37 (n : Nat) (hb : n < 9223372036854775808) : C37 ((n : Int), ()) = some (hexU n, ()) := by
  rw [C37]
  exact refhex 15 n big (by omega) hb (by unfold big; omega)
end Go.Proofs.YtmfcepdbpdihgaaGreatDoor.W
set_option linter.unusedVariables false
set_option linter.unusedSimpArgs false
set_option maxRecDepth 100000
namespace Go.Proofs.YtmfcepdbpdihgaaGreatDoor.W
open Go Go.Ae Go.Pl
theorem bd64 {x : Int} (h : (Lit.int .i64 x).wf = true) : -9223372036854775808 ≤ x ∧ x ≤ 9223372036854775807 := by
  simp [Lit.wf, IntKind.min, IntKind.max, IntKind.signed, IntKind.bits] at h
  omega
def stS (n : Int) : List UInt8 := if n < 100 ∨ 999 < n then [53, 46, 48, 46, 48] else [b8 (48 + n / 100), 46, b8 (48 + n / 10 % 10), 46, b8 (48 + n % 10)]
theorem dig3 (m : Nat) (h0 : 100 ≤ m) (h1 : m ≤ 999) : digF 20 m = [UInt8.ofNat (48 + m / 100), UInt8.ofNat (48 + m / 10 % 10), UInt8.ofNat (48 + m % 10)] := by
  have e1 : ¬ m < 10 := by omega
  have e2 : ¬ m / 10 < 10 := by omega
  have e3 : m / 10 / 10 < 10 := by omega
  have e4 : m / 10 / 10 = m / 100 := by omega
  rw [digF, if_neg e1, digF, if_neg e2, digF, if_pos e3, e4]
  rfl
theorem b8n {n : Int} {m : Nat} (h : n = m) : b8 (48 + n) = UInt8.ofNat (48 + m) := by
  subst h; unfold b8; congr 1
theorem c13 (n : Int) (h0 : -9223372036854775808 ≤ n) (h1 : n ≤ 9223372036854775807) : C13 (n, ()) = some (stS n, ()) := by
  unfold stS
  by_cases ha : n < 100
  · have d : decide (n < 100) = true := by simp [ha]
    simp only [C13, F13, d, cond_true, if_pos (Or.inl ha : n < 100 ∨ 999 < n)]
  · by_cases hb : n > 999
    · have d : decide (n < 100) = false := by simp [ha]
      have d2 : decide (n > 999) = true := by simp; omega
      simp only [C13, F13, d, d2, cond_true, cond_false, if_pos (Or.inr hb : n < 100 ∨ 999 < n)]
    · have d : decide (n < 100) = false := by simp [ha]
      have d2 : decide (n > 999) = false := by simp; omega
      have hI : C38 (n, ()) = some ([UInt8.ofNat (48 + n.toNat / 100), UInt8.ofNat (48 + n.toNat / 10 % 10), UInt8.ofNat (48 + n.toNat % 10)], ()) := by
        rw [C38, if_pos ⟨h0, h1⟩]
        unfold itoaF
        rw [if_neg (by omega), dig3 _ (by omega) (by omega)]
      have hneg : ¬ (n < 100 ∨ 999 < n) := by omega
      rw [if_neg hneg, b8n (n := n / 100) (m := n.toNat / 100) (by omega), b8n (n := n / 10 % 10) (m := n.toNat / 10 % 10) (by omega), b8n (n := n % 10) (m := n.toNat % 10) (by omega)]
      simp only [C13, F13, d, d2, cond_false, hI, Option.bind_some]
      rfl
theorem num10 (m : Nat) (n : Nat) (h : n < 10) (hm : 0 < m) : recN (fun G => F39 G) m ((n : Int), ()) = some ([UInt8.ofNat (48 + n)], ()) := by
  match m with
  | m + 1 =>
    show F39 _ ((n : Int), ()) = _
    rcases (show n = 0 ∨ n = 1 ∨ n = 2 ∨ n = 3 ∨ n = 4 ∨ n = 5 ∨ n = 6 ∨ n = 7 ∨ n = 8 ∨ n = 9 by omega) with rfl | rfl | rfl | rfl | rfl | rfl | rfl | rfl | rfl | rfl <;> rfl
theorem c39_10 (n : Int) (h0 : 0 ≤ n) (h : n < 10) : C39 (n, ()) = some ([b8 (48 + n)], ()) := by
  rw [C39, b8n (m := n.toNat) (by omega)]
  have := num10 big n.toNat (by omega) (by unfold big; omega)
  rw [show ((n.toNat : Nat) : Int) = n by omega] at this
  exact this
theorem c14 (n : Int) : C14 (n, ()) = some (stS n, ()) := by
  unfold stS
  by_cases ha : n < 100
  · have d : decide (n < 100) = true := by simp [ha]
    simp only [C14, F14, d, cond_true, if_pos (Or.inl ha : n < 100 ∨ 999 < n)]
  · by_cases hb : n > 999
    · have d : decide (n < 100) = false := by simp [ha]
      have d2 : decide (n > 999) = true := by simp; omega
      simp only [C14, F14, d, d2, cond_true, cond_false, if_pos (Or.inr hb : n < 100 ∨ 999 < n)]
    · have d : decide (n < 100) = false := by simp [ha]
      have d2 : decide (n > 999) = false := by simp; omega
      have hneg : ¬ (n < 100 ∨ 999 < n) := by omega
      have e1 : IntKind.i64.wrap (n.tdiv 100) = n / 100 := by rw [tdiv_nn _ (by omega), w64] <;> omega
      have e2 : (IntKind.i64.wrap (n.tdiv 10)).tmod 10 = n / 10 % 10 := by rw [tdiv_nn _ (by omega), w64 (by omega) (by omega), tmod_nn _ (by omega)]
      have e3 : n.tmod 10 = n % 10 := tmod_nn _ (by omega)
      rw [if_neg hneg]
      simp only [C14, F14, d, d2, cond_false, e1, e2, e3, c39_10 (n / 100) (by omega) (by omega), c39_10 (n / 10 % 10) (by omega) (by omega), c39_10 (n % 10) (by omega) (by omega), Option.bind_some]
      rfl
theorem stS_inj {n m : Int} (hn : ¬ (n < 100 ∨ 999 < n)) (hm : ¬ (m < 100 ∨ 999 < m)) : (stS n == stS m) = (n == m) := by
  have hn' : stS n = [b8 (48 + n / 100), 46, b8 (48 + n / 10 % 10), 46, b8 (48 + n % 10)] := by rw [stS, if_neg hn]
  have hm' : stS m = [b8 (48 + m / 100), 46, b8 (48 + m / 10 % 10), 46, b8 (48 + m % 10)] := by rw [stS, if_neg hm]
  by_cases h : n = m
  · subst h; simp
  · rw [ibF h]
    rw [beq_eq_false_iff_ne]
    intro e
    rw [hn', hm'] at e
    simp only [List.cons.injEq, and_true, true_and] at e
    obtain ⟨a, b, c⟩ := e
    have a' := congrArg cv a
    have b' := congrArg cv b
    have c' := congrArg cv c
    rw [b8_cv (by omega) (by omega), b8_cv (by omega) (by omega)] at a' b' c'
    omega
end Go.Proofs.YtmfcepdbpdihgaaGreatDoor.W
set_option linter.unusedVariables false
set_option linter.unusedSimpArgs false
set_option maxRecDepth 100000
namespace Go.Proofs.YtmfcepdbpdihgaaGreatDoor.W
open Go Go.Ae Go.Pl
def plainB (v : Int) : Bool := decide (32 ≤ v) && (decide (v ≤ 126) && !decide (v = 92))
theorem plainB_iff {v : Int} : plainB v = true ↔ 32 ≤ v ∧ v ≤ 126 ∧ v ≠ 92 := by simp [plainB]
theorem c24 (v : Int) : C24 (v, ()) = some (plainB v, ()) := by
  simp only [C24, F24, plainB]
  by_cases h1 : v ≥ 32 <;> by_cases h2 : v ≤ 126 <;> by_cases h3 : v = 92 <;> simp [h1, h2, h3] <;> omega
theorem c29 (v : Int) : C29 (v, ()) = some (plainB v, ()) := by
  simp only [C29, F29, plainB]
  by_cases h1 : v ≥ 32 <;> by_cases h2 : v ≤ 126 <;> by_cases h3 : v = 92 <;> simp [h1, h2, h3] <;> omega
def escR (v : Int) : List UInt8 := if plainB v = true then [b8 v] else [92, 120, 123] ++ hexU v.toNat ++ [125]
def escB (c : UInt8) : List UInt8 := [92, 120, 123, 48, 48] ++ hexU c.toNat ++ [125]
def esc (s : List UInt8) : List UInt8 := (rl s).flatMap escR ++ (rr s).flatMap escB
theorem hexU_len (n : Nat) : (hexU n).length ≤ 16 := hexF_len dgu 16 n
theorem escR_len (v : Int) : (escR v).length ≤ 20 := by
  unfold escR; have := hexU_len v.toNat; split <;> simp; omega
theorem escB_len (c : UInt8) : (escB c).length ≤ 22 := by
  unfold escB; have := hexU_len c.toNat; simp; omega
theorem flat_len {α : Type} (f : α → List UInt8) (k : Nat) (hf : ∀ a, (f a).length ≤ k) : ∀ l : List α, (l.flatMap f).length ≤ k * l.length
  | [] => by simp
  | a :: l => by have := flat_len f k hf l; have := hf a; rw [List.flatMap_cons, List.length_append, List.length_cons, Nat.mul_succ]; omega
theorem esc_len (s : List UInt8) : (esc s).length ≤ 42 * s.length := by
  unfold esc
  have h1 := flat_len escR 20 escR_len (rl s)
  have h2 := flat_len escB 22 escB_len (rr s)
  have := rl_len s
  have := rr_le s
  rw [List.length_append]; omega
theorem c32 (c : Int) (out : List UInt8) (h : out.length ≤ 100000000000000) : C32 (c, out, ()) = some (out ++ [b8 c], ()) := by
  have e : decide (out.length + 1 ≤ 140737488355328 / 1) = true := by simp; omega
  simp only [C32, F32, C66, bldChk, Option.bind_some, List.length_cons, List.length_nil, Nat.zero_add, e, cond_true]
  rfl
theorem c33 (s out : List UInt8) (h : out.length + s.length ≤ 100000000000000) : C33 (s, out, ()) = some ((s.length : Int), out ++ s, ()) := by
  have e : decide (out.length + s.length ≤ 140737488355328 / 1) = true := by simp; omega
  simp only [C33, F33, C66, bldChk, Option.bind_some, e, cond_true]
theorem right_hex {v : Int} (hr : rightB v = true) : C34 (IntKind.i64.wrap v, ()) = some (hexU v.toNat, ()) := by
  have hi := rightB_iff.1 hr
  rw [w64 (by omega) (by omega), c34 v (by omega) (by omega)]
  have d : decide (v < 0) = false := by simp; omega
  rw [d, show v.natAbs = v.toNat by omega]
  rfl
theorem byte_hex (c : UInt8) : C34 (IntKind.i64.wrap ((c.toNat : Nat) : Int), ()) = some (hexU c.toNat, ()) := by
  have hc := c.toNat_lt
  rw [w64 (by omega) (by omega), c34 _ (by omega) (by omega)]
  have d : decide (((c.toNat : Nat) : Int) < 0) = false := by simp
  rw [d]; rfl
theorem erun0 (s : List UInt8) (at0 : Int) : ∀ (r pre : List Int) (N : Int) (out : List UInt8) (n : Nat), N = ((pre ++ r).length : Int) → (∀ v ∈ r, rightB v = true) → pre.length + r.length ≤ 1000000000 → out.length + 20 * r.length ≤ 1000000000000 → r.length < n →
    loopN (F11_l0 C24 C32 C33 C34) n (s, at0, pre ++ r, N, (pre.length : Int), out, ()) = some (s, at0, out ++ r.flatMap escR, ())
  | _, _, _, _, 0, _, _, _, _, hn => by omega
  | [], pre, N, out, n + 1, hN, hr, hl, ho, hn => by
    subst hN
    refine loopN_inr ?_
    have hi : decide ((pre.length : Int) < (pre.length : Int)) = false := by simp
    simp only [F11_l0, List.append_nil, hi, cond_false, List.flatMap_nil]
  | v :: r, pre, N, out, n + 1, hN, hr, hl, ho, hn => by
    subst hN
    simp only [List.length_cons] at hl ho hn
    have hi : decide ((pre.length : Int) < ((pre ++ v :: r).length : Int)) = true := by simp; omega
    have hi0 : decide (0 ≤ (pre.length : Int)) = true := by simp
    have hw : IntKind.i64.wrap ((pre.length : Int) + 1) = ((pre.length + 1 : Nat) : Int) := wrN _ (by omega)
    have hg : (pre ++ v :: r).getD ((pre.length : Int)).toNat 0 = v := by rw [Int.toNat_natCast]; exact gd rfl
    have hv := hr v List.mem_cons_self
    have hlen := escR_len v
    have step : F11_l0 C24 C32 C33 C34 (s, at0, pre ++ v :: r, ((pre ++ v :: r).length : Int), (pre.length : Int), out, ()) = some (.inl (s, at0, pre ++ v :: r, ((pre ++ v :: r).length : Int), ((pre.length + 1 : Nat) : Int), out ++ escR v, ())) := by
      cases hp : plainB v with
      | true =>
        have hp' := plainB_iff.1 hp
        have hwb := c32 (IntKind.u8.wrap v) out (by omega)
        rw [wu8 (by omega) (by omega)] at hwb
        have hu : IntKind.u8.wrap v = v := wu8 (by omega) (by omega)
        simp only [F11_l0, hi, hi0, hg, hw, hu, hwb, c24, hp, Option.bind_some, cond_true, Bool.and_self, escR, if_true]
      | false =>
        have hh := hexU_len v.toNat
        have e1 : decide ([92, 120, 123].length + (hexU v.toNat).length ≤ 9223372036854775807) = true := by simp; omega
        have e2 : decide (([92, 120, 123] ++ hexU v.toNat).length + [125].length ≤ 9223372036854775807) = true := by simp; omega
        have hws := c33 ([92, 120, 123] ++ hexU v.toNat ++ [125]) out (by simp; omega)
        simp only [F11_l0, hi, hi0, hg, hw, right_hex hv, e1, e2, hws, c24, hp, Option.bind_some, cond_true, cond_false, Bool.and_self, escR]
        rfl
    rw [loopN_inl step, shift, show ((pre.length + 1 : Nat) : Int) = ((pre ++ [v]).length : Int) by simp, erun0 s at0 r (pre ++ [v]) _ (out ++ escR v) n (by simp) (fun u hu => hr u (List.mem_cons_of_mem _ hu)) (by simp; omega) (by rw [List.length_append]; omega) (by omega)]
    rw [List.flatMap_cons, List.append_assoc]
theorem erun1 : ∀ (r pre : List UInt8) (N : Int) (out : List UInt8) (n : Nat), N = ((pre ++ r).length : Int) → pre.length + r.length ≤ 1000000000 → out.length + 22 * r.length ≤ 1000000000000 → r.length < n →
    loopN (F11_l1 C33 C34) n (pre ++ r, N, (pre.length : Int), out, ()) = some (out ++ r.flatMap escB, ())
  | _, _, _, _, 0, _, _, _, hn => by omega
  | [], pre, N, out, n + 1, hN, hl, ho, hn => by
    subst hN
    refine loopN_inr ?_
    have hi : decide ((pre.length : Int) < (pre.length : Int)) = false := by simp
    simp only [F11_l1, List.append_nil, hi, cond_false, List.flatMap_nil]
  | c :: r, pre, N, out, n + 1, hN, hl, ho, hn => by
    subst hN
    simp only [List.length_cons] at hl ho hn
    have hi : decide ((pre.length : Int) < ((pre ++ c :: r).length : Int)) = true := by simp; omega
    have hi0 : decide (0 ≤ (pre.length : Int)) = true := by simp
    have hw : IntKind.i64.wrap ((pre.length : Int) + 1) = ((pre.length + 1 : Nat) : Int) := wrN _ (by omega)
    have hg : (pre ++ c :: r).getD ((pre.length : Int)).toNat 0 = c := by rw [Int.toNat_natCast]; exact gd rfl
    have hlen := escB_len c
    have hh := hexU_len c.toNat
    have e1 : decide ([92, 120, 123, 48, 48].length + (hexU c.toNat).length ≤ 9223372036854775807) = true := by simp; omega
    have e2 : decide (([92, 120, 123, 48, 48] ++ hexU c.toNat).length + [125].length ≤ 9223372036854775807) = true := by simp; omega
    have hws := c33 ([92, 120, 123, 48, 48] ++ hexU c.toNat ++ [125]) out (by simp; omega)
    have step : F11_l1 C33 C34 (pre ++ c :: r, ((pre ++ c :: r).length : Int), (pre.length : Int), out, ()) = some (.inl (pre ++ c :: r, ((pre ++ c :: r).length : Int), ((pre.length + 1 : Nat) : Int), out ++ escB c, ())) := by
      simp only [F11_l1, hi, hi0, hg, hw, byte_hex, e1, e2, hws, Option.bind_some, cond_true, Bool.and_self, escB]
    rw [loopN_inl step, shift, show ((pre.length + 1 : Nat) : Int) = ((pre ++ [c]).length : Int) by simp, erun1 r (pre ++ [c]) _ (out ++ escB c) n (by simp) (by simp; omega) (by rw [List.length_append]; omega) (by omega)]
    rw [List.flatMap_cons, List.append_assoc]
theorem c11 (s : List UInt8) (hb : s.length ≤ 1000000) : C11 (s, ()) = some (esc s, ()) := by
  have hrl := rl_len s
  have hrr := rr_le s
  have h0 := erun0 s (badAt s) (rl s) [] ((rl s).length : Int) [] big (by simp) (rl_right s) (by simp; omega) (by simp; omega) (by unfold big; omega)
  have h0' : C11_l0 (s, badAt s, rl s, ((rl s).length : Int), 0, [], ()) = _ := h0
  have hf := flat_len escR 20 escR_len (rl s)
  have hB : ∀ x : List UInt8, C35 (x, ()) = some (x, ()) := fun x => rfl
  simp only [C11, F11, d21 s hb, h0', Option.bind_some, List.nil_append]
  by_cases ha : badAt s ≥ 0
  · obtain ⟨hd, hlt⟩ := badAt_drop ha
    have e1 : decide (badAt s ≥ 0) = true := by simp [ha]
    have e2 : decide (0 ≤ badAt s) = true := by simp; omega
    have e3 : decide (badAt s ≤ (s.length : Int)) = true := by simp; omega
    have e4 : decide ((rr s).length ≤ 9223372036854775807) = true := by simp; omega
    have h1 := erun1 (rr s) [] ((rr s).length : Int) ((rl s).flatMap escR) big (by simp) (by simp; omega) (by omega) (by unfold big; omega)
    have h1' : C11_l1 (rr s, ((rr s).length : Int), 0, (rl s).flatMap escR, ()) = _ := h1
    simp only [e1, e2, e3, hd, e4, h1', hB, Option.bind_some, cond_true, Bool.and_self]
    rfl
  · have e1 : decide (badAt s ≥ 0) = false := by simp; omega
    have hn := badAt_neg (s := s) (by omega)
    simp only [e1, hB, Option.bind_some, cond_false, esc, hn, List.flatMap_nil, List.append_nil]
theorem frun0 (s : List UInt8) (at0 : Int) : ∀ (r pre : List Int) (out : List UInt8) (n : Nat), (∀ v ∈ r, rightB v = true) → pre.length + r.length ≤ 1000000000 → out.length + 20 * r.length ≤ 1000000000000 → r.length < n →
    loopN (F12_l0 C29 C37) n (s, pre ++ r, at0, out, (pre.length : Int), ()) = some (s, at0, out ++ r.flatMap escR, ())
  | _, _, _, 0, _, _, _, hn => by omega
  | [], pre, out, n + 1, hr, hl, ho, hn => by
    refine loopN_inr ?_
    have hi : decide ((pre.length : Int) < (pre.length : Int)) = false := by simp
    simp only [F12_l0, List.append_nil, hi, cond_false, List.flatMap_nil]
  | v :: r, pre, out, n + 1, hr, hl, ho, hn => by
    simp only [List.length_cons] at hl ho hn
    have hi : decide ((pre.length : Int) < ((pre ++ v :: r).length : Int)) = true := by simp; omega
    have hi0 : decide (0 ≤ (pre.length : Int)) = true := by simp
    have hw : IntKind.i64.wrap ((pre.length : Int) + 1) = ((pre.length + 1 : Nat) : Int) := wrN _ (by omega)
    have hg : (pre ++ v :: r).getD ((pre.length : Int)).toNat 0 = v := by rw [Int.toNat_natCast]; exact gd rfl
    have hv := hr v List.mem_cons_self
    have hi' := rightB_iff.1 hv
    have hlen := escR_len v
    have hh := hexU_len v.toNat
    have hx : C37 (IntKind.i64.wrap v, ()) = some (hexU v.toNat, ()) := by
      rw [w64 (by omega) (by omega)]
      have := c37 v.toNat (by omega)
      rw [show ((v.toNat : Nat) : Int) = v by omega] at this
      exact this
    have step : F12_l0 C29 C37 (s, pre ++ v :: r, at0, out, (pre.length : Int), ()) = some (.inl (s, pre ++ v :: r, at0, out ++ escR v, ((pre.length + 1 : Nat) : Int), ())) := by
      cases hp : plainB v with
      | true =>
        have hp' := plainB_iff.1 hp
        have hu : IntKind.u8.wrap v = v := wu8 (by omega) (by omega)
        have e1 : decide (out.length + 1 ≤ 9223372036854775807) = true := by simp; omega
        simp only [F12_l0, hi, hi0, hg, hw, hu, e1, List.length_cons, List.length_nil, Nat.zero_add, c29, hp, Option.bind_some, cond_true, Bool.and_self, escR, if_true]
        rfl
      | false =>
        have e1 : ∀ k : Nat, k ≤ 100 → decide (out.length + k ≤ 9223372036854775807) = true := fun k hk => by simp; omega
        have e1' : decide (out.length + 1 ≤ 9223372036854775807) = true := e1 1 (by omega)
        have e2 : decide (out.length + (0 + 1) + (0 + 1 + 1) ≤ 9223372036854775807) = true := by simp; omega
        have e3 : decide (out.length + (0 + 1) + (0 + 1 + 1) + (hexU v.toNat).length ≤ 9223372036854775807) = true := by simp; omega
        have e4 : decide (out.length + (0 + 1) + (0 + 1 + 1) + (hexU v.toNat).length + (0 + 1) ≤ 9223372036854775807) = true := by simp; omega
        have e5 : decide (out.length + (0 + 1) ≤ 9223372036854775807) = true := e1 1 (by omega)
        have hi2 : decide ((pre.length : Int) < ((pre.length + (r.length + 1) : Nat) : Int)) = true := by simp; omega
        simp only [F12_l0, hi, hi2, hi0, hg, hw, hx, List.length_append, List.length_cons, List.length_nil, e2, e3, e4, e5, c29, hp, Option.bind_some, cond_true, cond_false, Bool.and_self, escR]
        simp only [List.append_assoc, List.cons_append, List.nil_append]
        rfl
    rw [loopN_inl step, shift, show ((pre.length + 1 : Nat) : Int) = ((pre ++ [v]).length : Int) by simp, frun0 s at0 r (pre ++ [v]) (out ++ escR v) n (fun u hu => hr u (List.mem_cons_of_mem _ hu)) (by simp; omega) (by rw [List.length_append]; omega) (by omega)]
    rw [List.flatMap_cons, List.append_assoc]
theorem frun1 (at0 : Int) (ha : 0 ≤ at0) : ∀ (r pre : List UInt8) (out : List UInt8) (n : Nat), pre.length + r.length ≤ 1000000000 → out.length + 22 * r.length ≤ 1000000000000 → r.length < n →
    loopN (F12_l1 C37) n (pre ++ r, at0, out, (pre.length : Int), ()) = some (out ++ r.flatMap escB, ())
  | _, _, _, 0, _, _, hn => by omega
  | [], pre, out, n + 1, hl, ho, hn => by
    refine loopN_inr ?_
    have e0 : decide (at0 ≥ 0) = true := by simp [ha]
    have hi : decide ((pre.length : Int) < (pre.length : Int)) = false := by simp
    simp only [F12_l1, List.append_nil, e0, hi, cond_true, cond_false, List.flatMap_nil]
  | c :: r, pre, out, n + 1, hl, ho, hn => by
    simp only [List.length_cons] at hl ho hn
    have e0 : decide (at0 ≥ 0) = true := by simp [ha]
    have hi : decide ((pre.length : Int) < ((pre ++ c :: r).length : Int)) = true := by simp; omega
    have hi0 : decide (0 ≤ (pre.length : Int)) = true := by simp
    have hw : IntKind.i64.wrap ((pre.length : Int) + 1) = ((pre.length + 1 : Nat) : Int) := wrN _ (by omega)
    have hg : (pre ++ c :: r).getD ((pre.length : Int)).toNat 0 = c := by rw [Int.toNat_natCast]; exact gd rfl
    have hc := c.toNat_lt
    have hlen := escB_len c
    have hh := hexU_len c.toNat
    have hx : C37 (IntKind.i64.wrap ((c.toNat : Nat) : Int), ()) = some (hexU c.toNat, ()) := by
      rw [w64 (by omega) (by omega)]
      exact c37 c.toNat (by omega)
    have e2 : decide (out.length + (0 + 1) + (0 + 1 + 1 + 1 + 1) ≤ 9223372036854775807) = true := by simp; omega
    have e3 : decide (out.length + (0 + 1) + (0 + 1 + 1 + 1 + 1) + (hexU c.toNat).length ≤ 9223372036854775807) = true := by simp; omega
    have e4 : decide (out.length + (0 + 1) + (0 + 1 + 1 + 1 + 1) + (hexU c.toNat).length + (0 + 1) ≤ 9223372036854775807) = true := by simp; omega
    have e5 : decide (out.length + (0 + 1) ≤ 9223372036854775807) = true := by simp; omega
    have step : F12_l1 C37 (pre ++ c :: r, at0, out, (pre.length : Int), ()) = some (.inl (pre ++ c :: r, at0, out ++ escB c, ((pre.length + 1 : Nat) : Int), ())) := by
      have hi2 : decide ((pre.length : Int) < ((pre.length + (r.length + 1) : Nat) : Int)) = true := by simp; omega
      simp only [F12_l1, e0, hi, hi2, hi0, hg, hw, hx, List.length_append, List.length_cons, List.length_nil, e2, e3, e4, e5, Option.bind_some, cond_true, cond_false, Bool.and_self, escB]
      simp only [List.append_assoc, List.cons_append, List.nil_append]
    rw [loopN_inl step, shift, show ((pre.length + 1 : Nat) : Int) = ((pre ++ [c]).length : Int) by simp, frun1 at0 ha r (pre ++ [c]) (out ++ escB c) n (by simp; omega) (by rw [List.length_append]; omega) (by omega)]
    rw [List.flatMap_cons, List.append_assoc]
theorem c12 (s : List UInt8) (hb : s.length ≤ 1000000) : C12 (s, ()) = some (esc s, ()) := by
  have hrl := rl_len s
  have hrr := rr_le s
  have h0 := frun0 s (badAt s) (rl s) [] [] big (rl_right s) (by simp; omega) (by simp; omega) (by unfold big; omega)
  have h0' : C12_l0 (s, rl s, badAt s, [], 0, ()) = _ := h0
  have hf := flat_len escR 20 escR_len (rl s)
  simp only [C12, F12, c36 s hb, h0', Option.bind_some, List.nil_append]
  by_cases ha : 0 ≤ badAt s
  · obtain ⟨hd, hlt⟩ := badAt_drop ha
    have hs : s = s.take (badAt s).toNat ++ rr s := by rw [← hd, List.take_append_drop]
    have hp : ((s.take (badAt s).toNat).length : Int) = badAt s := by simp; omega
    have h1 := frun1 (badAt s) ha (rr s) (s.take (badAt s).toNat) ((rl s).flatMap escR) big (by simp; omega) (by omega) (by unfold big; omega)
    rw [← hs, hp] at h1
    have h1' : C12_l1 (s, badAt s, (rl s).flatMap escR, badAt s, ()) = _ := h1
    simp only [h1', Option.bind_some]
    rfl
  · have hn := badAt_neg (s := s) (by omega)
    have e0 : decide (badAt s ≥ 0) = false := by simp; omega
    have h1 : C12_l1 (s, badAt s, (rl s).flatMap escR, badAt s, ()) = some ((rl s).flatMap escR, ()) := by
      show loopN _ big _ = _
      rw [show big = 999999999999999999999 + 1 from rfl]
      refine loopN_inr ?_
      simp only [F12_l1, e0, cond_false]
    simp only [h1, Option.bind_some, esc, hn, List.flatMap_nil, List.append_nil]
end Go.Proofs.YtmfcepdbpdihgaaGreatDoor.W
set_option linter.unusedVariables false
set_option linter.unusedSimpArgs false
set_option maxRecDepth 100000
namespace Go.Proofs.YtmfcepdbpdihgaaGreatDoor.W
open Go Go.Ae Go.Pl
def uv (c : UInt8) : Option Nat := bif Nat.ble 48 c.toNat && Nat.ble c.toNat 57 then some (c.toNat - 48) else bif Nat.ble 65 c.toNat && Nat.ble c.toNat 70 then some (c.toNat - 55) else none
def valU : Nat → List UInt8 → Option Nat
  | a, [] => some a
  | a, c :: r => match uv c with
    | some x => valU (16 * a + x) r
    | none => none
def hexV (d : List UInt8) : Option Nat :=
  bif Nat.ble 1 d.length && Nat.ble d.length 6 then bif Nat.beq d.length 1 || !(d.headD 0 == 48) then valU 0 d else none else none
theorem valU_app : ∀ (l : List UInt8) (a : Nat) (r : List UInt8), valU a (l ++ r) = (valU a l).bind fun b => valU b r
  | [], a, r => rfl
  | c :: l, a, r => by
    simp only [List.cons_append, valU]
    cases uv c with
    | none => rfl
    | some x => exact valU_app l _ r
theorem uv_dgu : ∀ n, n < 16 → uv (dgu n) = some n := fun n hn => by
  have := fin16 (p := fun n => decide (uv (dgu n) = some n)) (by decide) n hn
  simpa using this
def uvB (c : UInt8) : Bool := match uv c with | some n => decide (n < 16) && decide (dgu n = c) | none => true
theorem uvB_k : ((List.range 256).all fun n => uvB (UInt8.ofNat n)) = true := by kernel_rfl
theorem dgu_uv {c : UInt8} {n : Nat} (h : uv c = some n) : n < 16 ∧ dgu n = c := by
  have k := all256 uvB uvB_k c
  simpa [uvB, h] using k
theorem valU_hex : ∀ (f n : Nat), n < 16 ^ (f + 1) → valU 0 (hexF dgu (f + 1) n) = some n
  | 0, n, h => by
    have h16 : n < 16 := by simpa using h
    rw [hexF_lo _ _ _ h16]; simp [valU, uv_dgu n h16]
  | f + 1, n, h => by
    by_cases h16 : n < 16
    · rw [hexF_lo _ _ _ h16]; simp [valU, uv_dgu n h16]
    · rw [hexF_hi _ _ _ (by omega), valU_app, valU_hex f (n / 16) (by rw [Nat.pow_succ] at h; omega)]
      simp only [Option.bind_some, valU, uv_dgu (n % 16) (Nat.mod_lt _ (by omega))]
      congr 1; omega
theorem hexF_len_lo : ∀ (f n k : Nat), n < 16 ^ (f + 1) → (hexF dgu (f + 1) n).length ≤ k + 1 → n < 16 ^ (k + 1)
  | 0, n, k, h, _ => by
    have h16 : n < 16 := by simpa using h
    have := Nat.one_le_pow k 16 (by omega)
    rw [Nat.pow_succ]; omega
  | f + 1, n, k, h, hl => by
    by_cases h16 : n < 16
    · have := Nat.one_le_pow k 16 (by omega)
      rw [Nat.pow_succ]; omega
    · rw [hexF_hi _ _ _ (by omega), List.length_append] at hl
      simp only [List.length_cons, List.length_nil] at hl
      have hne : 1 ≤ (hexF dgu (f + 1) (n / 16)).length := by
        by_cases h2 : n / 16 < 16
        · rw [hexF_lo _ _ _ h2]; simp
        · rw [hexF_hi _ _ _ (by omega)]; simp
      match k with
      | 0 => omega
      | k + 1 =>
        have := hexF_len_lo f (n / 16) k (by rw [Nat.pow_succ] at h; omega) (by omega)
        rw [Nat.pow_succ]; omega
theorem hexF_head : ∀ (f n : Nat), 1 ≤ n → n < 16 ^ (f + 1) → (hexF dgu (f + 1) n).headD 0 ≠ 48
  | 0, n, h1, h => by
    have h16 : n < 16 := by simpa using h
    rw [hexF_lo _ _ _ h16]
    have := fin16 (p := fun n => Nat.beq n 0 || decide (dgu n ≠ 48)) (by decide) n h16
    have h0 : Nat.beq n 0 = false := by rw [← Bool.not_eq_true]; intro e; have := Nat.eq_of_beq_eq_true e; omega
    simpa [h0] using this
  | f + 1, n, h1, h => by
    by_cases h16 : n < 16
    · rw [hexF_lo _ _ _ h16]
      have := fin16 (p := fun n => Nat.beq n 0 || decide (dgu n ≠ 48)) (by decide) n h16
      have h0 : Nat.beq n 0 = false := by rw [← Bool.not_eq_true]; intro e; have := Nat.eq_of_beq_eq_true e; omega
      simpa [h0] using this
    · have ih := hexF_head f (n / 16) (by omega) (by rw [Nat.pow_succ] at h; omega)
      rw [hexF_hi _ _ _ (by omega)]
      have hne : hexF dgu (f + 1) (n / 16) ≠ [] := by
        by_cases h2 : n / 16 < 16
        · rw [hexF_lo _ _ _ h2]; simp
        · rw [hexF_hi _ _ _ (by omega)]; simp
      cases hx : hexF dgu (f + 1) (n / 16) with
      | nil => exact absurd hx hne
      | cons a l => rw [hx] at ih; simpa using ih
theorem hexF_one : ∀ (f n : Nat), 16 ≤ n → 2 ≤ (hexF dgu (f + 2) n).length := fun f n h => by
  rw [hexF_hi _ _ _ h, List.length_append]
  have hne : 1 ≤ (hexF dgu (f + 1) (n / 16)).length := by
    by_cases h2 : n / 16 < 16
    · rw [hexF_lo _ _ _ h2]; simp
    · rw [hexF_hi _ _ _ (by omega)]; simp
  simp; omega
theorem hexV_of {n : Nat} (hn : n < 18446744073709551616) (hl : (hexU n).length ≤ 6) : hexV (hexU n) = some n := by
  have h6 := hexF_len_lo 15 n 5 (by omega) hl
  have hv := valU_hex 15 n (by omega)
  unfold hexV
  have h1 : 1 ≤ (hexU n).length := by
    unfold hexU
    by_cases h16 : n < 16
    · rw [hexF_lo _ _ _ h16]; simp
    · have h2 : 2 ≤ (hexF dgu 16 n).length := hexF_one 14 n (by omega)
      omega
  have e1 : (Nat.ble 1 (hexU n).length && Nat.ble (hexU n).length 6) = true := by rw [Bool.and_eq_true]; exact ⟨Nat.ble_eq_true_of_le h1, Nat.ble_eq_true_of_le hl⟩
  rw [e1, cond_true]
  have e2 : (Nat.beq (hexU n).length 1 || !((hexU n).headD 0 == 48)) = true := by
    rw [Bool.or_eq_true]
    by_cases h0 : n = 0
    · left; subst h0; rfl
    · right
      have := hexF_head 15 n (by omega) (by omega)
      simpa [hexU] using this
  rw [e2, cond_true]
  exact hv
theorem valU_snoc : ∀ (k : Nat) (d : List UInt8), d.length = k + 1 → (k = 0 ∨ d.headD 0 ≠ 48) → ∀ n, valU 0 d = some n → hexF dgu (k + 1) n = d ∧ n < 16 ^ (k + 1) ∧ (d.headD 0 ≠ 48 → 1 ≤ n)
  | 0, d, hl, _, n, h => by
    match d, hl with
    | [c], _ =>
      simp only [valU] at h
      cases hc : uv c with
      | none => rw [hc] at h; cases h
      | some x =>
        rw [hc] at h
        simp only [Option.some.injEq] at h
        obtain ⟨h1, h2⟩ := dgu_uv hc
        have hx : n = x := by omega
        subst hx
        refine ⟨by rw [hexF_lo _ _ _ h1, h2], by simpa using h1, fun hh => ?_⟩
        rcases Nat.eq_zero_or_pos n with h0 | h0
        · subst h0; exact absurd (by rw [List.headD_cons, ← h2]; rfl) hh
        · exact h0
  | k + 1, d, hl, hh, n, h => by
    have hne : d ≠ [] := by intro e; rw [e] at hl; simp at hl
    obtain ⟨l, c, rfl⟩ : ∃ l c, d = l ++ [c] := ⟨d.dropLast, d.getLast hne, (List.dropLast_concat_getLast hne).symm⟩
    have hll : l.length = k + 1 := by simpa using hl
    have hhd : (l ++ [c]).headD 0 = l.headD 0 := by
      cases l with
      | nil => simp at hll
      | cons a l => rfl
    have hl48 : l.headD 0 ≠ 48 := by rw [← hhd]; rcases hh with hh | hh; omega; exact hh
    rw [valU_app] at h
    cases hv : valU 0 l with
    | none => rw [hv] at h; cases h
    | some a =>
      rw [hv] at h
      simp only [Option.bind_some, valU] at h
      obtain ⟨i1, i2, i3⟩ := valU_snoc k l hll (.inr hl48) a hv
      have ha := i3 hl48
      cases hc : uv c with
      | none => rw [hc] at h; cases h
      | some x =>
        rw [hc] at h
        simp only [Option.some.injEq] at h
        obtain ⟨h1, h2⟩ := dgu_uv hc
        subst h
        refine ⟨?_, by rw [Nat.pow_succ]; omega, fun _ => by omega⟩
        rw [hexF_hi _ _ _ (by omega), show (16 * a + x) / 16 = a by omega, show (16 * a + x) % 16 = x by omega, i1, h2]
theorem hexV_back {d : List UInt8} {n : Nat} (h : hexV d = some n) : hexU n = d ∧ d.length ≤ 6 ∧ n < 16777216 := by
  unfold hexV at h
  cases e1 : (Nat.ble 1 d.length && Nat.ble d.length 6) with
  | false => rw [e1] at h; cases h
  | true =>
    rw [e1, cond_true] at h
    rw [Bool.and_eq_true] at e1
    have g1 := Nat.le_of_ble_eq_true e1.1
    have g2 := Nat.le_of_ble_eq_true e1.2
    cases e2 : (Nat.beq d.length 1 || !(d.headD 0 == 48)) with
    | false => rw [e2] at h; cases h
    | true =>
      rw [e2, cond_true] at h
      rw [Bool.or_eq_true] at e2
      have hh : d.length - 1 = 0 ∨ d.headD 0 ≠ 48 := by
        rcases e2 with e2 | e2
        · left; have := Nat.eq_of_beq_eq_true e2; omega
        · right; simpa using e2
      obtain ⟨i1, i2, _⟩ := valU_snoc (d.length - 1) d (by omega) hh n h
      have hp : 16 ^ (d.length - 1 + 1) ≤ 16 ^ 6 := Nat.pow_le_pow_right (by omega) (by omega)
      refine ⟨?_, g2, by have : (16 : Nat) ^ 6 = 16777216 := by decide
                         omega⟩
      unfold hexU
      rw [← i1]
      exact hexF_more dgu (d.length - 1) 15 n i2 (by omega)
def dvI (c : Int) : Option Int :=
  bif decide (48 ≤ c) && decide (c ≤ 57) then some (IntKind.u8.wrap (c - 48))
  else bif decide (97 ≤ intBits BinOp.or IntKind.u8 c 32) && decide (intBits BinOp.or IntKind.u8 c 32 ≤ 122) then some (IntKind.u8.wrap (IntKind.u8.wrap (intBits BinOp.or IntKind.u8 c 32 - 97) + 10))
  else none
def dvB (c : UInt8) : Bool := match dvI (c.toNat : Int) with | some x => (decide (0 ≤ x) && decide (x ≤ 255)) && (match uv c with | some n => decide (x = (n : Int)) | none => true) | none => (match uv c with | some _ => false | none => true)
theorem dvB_k : ((List.range 256).all fun n => dvB (UInt8.ofNat n)) = true := by kernel_rfl
theorem dv_rng {c : UInt8} {x : Int} (h : dvI (c.toNat : Int) = some x) : 0 ≤ x ∧ x ≤ 255 := by
  have k := all256 dvB dvB_k c
  simp only [dvB, h, Bool.and_eq_true, decide_eq_true_eq] at k
  exact k.1
theorem dv_uv {c : UInt8} {n : Nat} (h : uv c = some n) : dvI (c.toNat : Int) = some (n : Int) := by
  have k := all256 dvB dvB_k c
  unfold dvB at k
  cases hd : dvI (c.toNat : Int) with
  | none => rw [hd, h] at k; cases k
  | some x =>
    rw [hd, h] at k
    simp only [Bool.and_eq_true, decide_eq_true_eq] at k
    rw [k.2]
def puS : Int → List UInt8 → (Int × Int × Unit) ⊕ (Int × Unit)
  | n, [] => .inr (n, ())
  | n, c :: r => match dvI (c.toNat : Int) with
    | none => .inl (0, 2, ())
    | some x => if 16 ≤ x then .inl (0, 2, ()) else if 4294967295 < n * 16 + x then .inl (4294967295, 1, ()) else puS (n * 16 + x) r
theorem puS_rng : ∀ (l : List UInt8) (n : Int), 0 ≤ n → n ≤ 4294967295 → (∀ v u, puS n l = .inr (v, u) → 0 ≤ v ∧ v ≤ 4294967295) ∧ (∀ v e u, puS n l = .inl (v, e, u) → (v = 0 ∧ e = 2) ∨ (v = 4294967295 ∧ e = 1))
  | [], n, h0, h1 => ⟨fun v u h => (by cases h; exact ⟨h0, h1⟩), fun v e u h => (by cases h)⟩
  | c :: r, n, h0, h1 => by
    unfold puS
    cases hd : dvI (c.toNat : Int) with
    | none => exact ⟨fun v u h => (by cases h), fun v e u h => (by cases h; exact .inl ⟨rfl, rfl⟩)⟩
    | some x =>
      have hx := dv_rng hd
      simp only
      split
      · exact ⟨fun v u h => (by cases h), fun v e u h => (by cases h; exact .inl ⟨rfl, rfl⟩)⟩
      · split
        · exact ⟨fun v u h => (by cases h), fun v e u h => (by cases h; exact .inr ⟨rfl, rfl⟩)⟩
        · exact puS_rng r (n * 16 + x) (by omega) (by omega)
theorem valU_ge : ∀ (l : List UInt8) (a m : Nat), valU a l = some m → a ≤ m
  | [], a, m, h => by cases h; exact Nat.le_refl _
  | c :: r, a, m, h => by
    simp only [valU] at h
    cases hc : uv c with
    | none => rw [hc] at h; cases h
    | some x => rw [hc] at h; have := valU_ge r _ m h; omega
theorem puS_val : ∀ (l : List UInt8) (a m : Nat), valU a l = some m → m ≤ 4294967295 → puS (a : Int) l = .inr ((m : Int), ())
  | [], a, m, h, _ => by cases h; rfl
  | c :: r, a, m, h, hm => by
    simp only [valU] at h
    cases hc : uv c with
    | none => rw [hc] at h; cases h
    | some x =>
      rw [hc] at h
      have hx := (dgu_uv hc).1
      have hge := valU_ge r _ m h
      unfold puS
      rw [dv_uv hc]
      simp only
      rw [if_neg (by omega), if_neg (by omega)]
      have := puS_val r (16 * a + x) m h hm
      rw [show ((16 * a + x : Nat) : Int) = (a : Int) * 16 + (x : Int) by omega] at this
      exact this
end Go.Proofs.YtmfcepdbpdihgaaGreatDoor.W
set_option linter.unusedVariables false
set_option linter.unusedSimpArgs false
set_option maxRecDepth 100000
namespace Go.Proofs.YtmfcepdbpdihgaaGreatDoor.W
open Go Go.Ae Go.Pl
theorem pc6 (s0 d : List UInt8) (n N i c : Int) : C119_c6 (16, false, s0, 1152921504606846976, 4294967295, false, n, c, d, N, i, false, ()) =
    some (match dvI c with | some x => .inr (.inl (16, false, s0, 1152921504606846976, 4294967295, false, n, x, d, N, i, ())) | none => .inr (.inr (0, 2, ()))) := by
  have h150 : ∀ c : Int, C150 (c, ()) = some (intBits BinOp.or IntKind.u8 c 32, ()) := fun c => rfl
  simp only [C119_c6, F119_c6, C119_c5, F119_c5, C119_c4, F119_c4, h150, dvI, Option.bind_some, cond_false]
  cases decide (48 ≤ c) <;> cases decide (c ≤ 57) <;> cases decide (97 ≤ intBits BinOp.or IntKind.u8 c 32) <;> cases decide (intBits BinOp.or IntKind.u8 c 32 ≤ 122) <;> rfl
def puR (s0 : List UInt8) : (Int × Int × Unit) ⊕ (Int × Unit) → (List UInt8 × Bool × Int × Unit) ⊕ (Int × Int × Unit)
  | .inl (v, e, _) => .inr (v, e, ())
  | .inr (n, _) => .inl (s0, false, n, ())
theorem pstep (s0 pre r : List UInt8) (c : UInt8) (n : Int) (h0 : 0 ≤ n) (h1 : n ≤ 4294967295) (hl : pre.length + r.length ≤ 1000000000) :
    F119_l0 C119_c6 (16, false, s0, 1152921504606846976, 4294967295, false, n, pre ++ c :: r, ((pre ++ c :: r).length : Int), (pre.length : Int), ()) =
      some (match dvI (c.toNat : Int) with
        | none => .inr (.inr (0, 2, ()))
        | some x => if 16 ≤ x then .inr (.inr (0, 2, ())) else if 4294967295 < n * 16 + x then .inr (.inr (4294967295, 1, ())) else
            .inl (16, false, s0, 1152921504606846976, 4294967295, false, n * 16 + x, pre ++ c :: r, ((pre ++ c :: r).length : Int), ((pre.length + 1 : Nat) : Int), ())) := by
  have hi : decide ((pre.length : Int) < ((pre ++ c :: r).length : Int)) = true := by simp; omega
  have hi0 : decide (0 ≤ (pre.length : Int)) = true := by simp
  have hw : IntKind.i64.wrap ((pre.length : Int) + 1) = ((pre.length + 1 : Nat) : Int) := wrN _ (by omega)
  have hg : (pre ++ c :: r).getD ((pre.length : Int)).toNat 0 = c := by rw [Int.toNat_natCast]; exact gd rfl
  have w16 : IntKind.u8.wrap 16 = 16 := by decide
  have w16' : IntKind.u64.wrap 16 = 16 := by decide
  simp only [F119_l0, hi, hi0, hg, pc6, Option.bind_some, cond_true, Bool.and_self]
  have key : ∀ b : Bool, (bif b then (Sum.elim (fun val => some (Sum.inl (val.fst, val.snd.fst, val.snd.snd.fst, val.snd.snd.snd.fst, val.snd.snd.snd.snd.fst, val.snd.snd.snd.snd.snd.fst, val.snd.snd.snd.snd.snd.snd.fst, val.snd.snd.snd.snd.snd.snd.snd.fst, val.snd.snd.snd.snd.snd.snd.snd.snd.fst, val.snd.snd.snd.snd.snd.snd.snd.snd.snd.fst, ()))) (fun _ => none) (.inl ((0 : Int), false, s0, (0 : Int), (0 : Int), false, (0 : Int), pre, (0 : Int), (0 : Int), ()) : (Int × Bool × List UInt8 × Int × Int × Bool × Int × List UInt8 × Int × Int × Unit) ⊕ Unit) : Option ((Int × Bool × List UInt8 × Int × Int × Bool × Int × List UInt8 × Int × Int × Unit) ⊕ Unit)) else none) = none ∨ True := fun _ => .inr trivial
  clear key
  cases hd : dvI (c.toNat : Int) with
  | none => simp only [Sum.elim_inr, Bool.cond_self]
  | some x =>
    have hx := dv_rng hd
    have wx : IntKind.u64.wrap x = x := by rw [IntKind.wrap_u64]; omega
    have wn : IntKind.u64.wrap (n * 16) = n * 16 := by rw [IntKind.wrap_u64]; omega
    have ws : IntKind.u64.wrap (n * 16 + x) = n * 16 + x := by rw [IntKind.wrap_u64]; omega
    have c1 : decide (n ≥ 1152921504606846976) = false := by simp; omega
    have c2 : decide (n * 16 + x < n * 16) = false := by simp; omega
    simp only [Sum.elim_inr, Sum.elim_inl, w16, w16', wx, wn, ws, c1, c2, cond_false, hw, Bool.cond_self]
    by_cases h16 : 16 ≤ x
    · have d1 : decide (x ≥ 16) = true := by simp [h16]
      rw [d1, if_pos h16]; rfl
    · have d1 : decide (x ≥ 16) = false := by simp; omega
      rw [d1, if_neg h16, cond_false]
      by_cases hm : 4294967295 < n * 16 + x
      · have d2 : decide (n * 16 + x > 4294967295) = true := by simp [hm]
        rw [d2, if_pos hm]; rfl
      · have d2 : decide (n * 16 + x > 4294967295) = false := by simp; omega
        rw [d2, if_neg hm]; rfl
theorem prun16 (s0 : List UInt8) : ∀ (r pre : List UInt8) (n : Int) (N : Int) (m : Nat), N = ((pre ++ r).length : Int) → 0 ≤ n → n ≤ 4294967295 → pre.length + r.length ≤ 1000000000 → r.length < m →
    loopN (F119_l0 C119_c6) m (16, false, s0, 1152921504606846976, 4294967295, false, n, pre ++ r, N, (pre.length : Int), ()) = some (puR s0 (puS n r))
  | _, _, _, _, 0, _, _, _, _, hm => by omega
  | [], pre, n, N, m + 1, hN, h0, h1, hl, hm => by
    subst hN
    refine loopN_inr ?_
    have hi : decide ((pre.length : Int) < (pre.length : Int)) = false := by simp
    simp only [F119_l0, List.append_nil, hi, cond_false, puS, puR]
  | c :: r, pre, n, N, m + 1, hN, h0, h1, hl, hm => by
    subst hN
    simp only [List.length_cons] at hl hm
    have hs := pstep s0 pre r c n h0 h1 (by omega)
    unfold puS
    cases hd : dvI (c.toNat : Int) with
    | none => rw [hd] at hs; rw [loopN_inr hs]; rfl
    | some x =>
      have hx := dv_rng hd
      rw [hd] at hs
      simp only at hs ⊢
      by_cases h16 : 16 ≤ x
      · rw [if_pos h16] at hs ⊢; rw [loopN_inr hs]; rfl
      · rw [if_neg h16] at hs ⊢
        by_cases hmx : 4294967295 < n * 16 + x
        · rw [if_pos hmx] at hs ⊢; rw [loopN_inr hs]; rfl
        · rw [if_neg hmx] at hs ⊢
          rw [loopN_inl hs, shift, show ((pre.length + 1 : Nat) : Int) = ((pre ++ [c]).length : Int) by simp]
          exact prun16 s0 r (pre ++ [c]) (n * 16 + x) _ m (by simp) (by omega) (by omega) (by simp; omega) (by omega)
theorem pu16 (d : List UInt8) (hd : d ≠ []) (hl : d.length ≤ 1000000) : C119 (d, 16, 32, ()) = some (puS 0 d) := by
  have h := prun16 d d [] 0 (d.length : Int) big (by simp) (by omega) (by omega) (by simp; omega) (by unfold big; omega)
  have h' : C119_l0 (16, false, d, 1152921504606846976, 4294967295, false, 0, d, (d.length : Int), 0, ()) = _ := h
  have hn : (d == []) = false := by simpa using hd
  have e1 : decide ((2 : Int) ≤ 16) = true := by decide
  have e2 : decide ((16 : Int) ≤ 36) = true := by decide
  have e3 : ((16 : Int) == 0) = false := rfl
  have e4 : ((32 : Int) == 0) = false := rfl
  have e5 : decide ((32 : Int) < 0) = false := by decide
  have e6 : decide ((32 : Int) > 64) = false := by decide
  have e7 : ((16 : Int) == 10) = false := rfl
  have e8 : ((16 : Int) == 16) = true := rfl
  have e9 : decide (0 ≤ IntKind.u64.wrap 32) = true := by decide
  have e10 : decide (d.length ≤ 9223372036854775807) = true := by simp; omega
  have e11 : IntKind.u64.wrap (IntKind.u64.wrap (1 * 2 ^ min (IntKind.u64.wrap 32).toNat IntKind.u64.bits) - 1) = 4294967295 := by decide
  simp only [C119, F119, C119_c3, F119_c3, C119_c8, F119_c8, C119_c7, F119_c7, hn, e1, e2, e3, e4, e5, e6, e7, e8, e9, e10, e11, h', Option.bind_some, cond_true, cond_false, Sum.elim_inl]
  cases puS 0 d with
  | inl x => obtain ⟨v, e, u⟩ := x; rfl
  | inr x => obtain ⟨v, u⟩ := x; rfl
def rngS (neg : Bool) (u : Int) : (Int × Int × Unit) ⊕ (Int × Unit) :=
  bif neg then (if 2147483648 < u then .inl (-2147483648, 1, ()) else .inr (-u, ())) else (if 2147483648 ≤ u then .inl (2147483647, 1, ()) else .inr (u, ()))
theorem rc0 (neg : Bool) (u : Int) (h0 : 0 ≤ u) (h1 : u ≤ 4294967295) : C90_c0 (32, neg, u, ()) = some (rngS neg u) := by
  have e1 : decide (0 ≤ IntKind.u64.wrap (IntKind.i64.wrap (32 - 1))) = true := by decide
  have e2 : IntKind.u64.wrap (1 * 2 ^ min (IntKind.u64.wrap (IntKind.i64.wrap (32 - 1))).toNat IntKind.u64.bits) = 2147483648 := by decide
  have e3 : IntKind.i64.wrap (IntKind.u64.wrap (2147483648 - 1)) = 2147483647 := by decide
  have e4 : IntKind.i64.wrap (0 - IntKind.i64.wrap 2147483648) = -2147483648 := by decide
  have e5 : IntKind.i64.wrap u = u := w64 (by omega) (by omega)
  have e6 : IntKind.i64.wrap (0 - u) = -u := by rw [w64] <;> omega
  simp only [C90_c0, F90_c0, e1, e2, e3, e4, e5, e6, cond_true]
  cases neg with
  | false =>
    by_cases hu : 2147483648 ≤ u
    · have d1 : decide (u ≥ 2147483648) = true := by simp [hu]
      simp [d1, rngS, hu]
    · have d1 : decide (u ≥ 2147483648) = false := by simp; omega
      simp only [d1, rngS, Bool.not_false, cond_true, cond_false]
      rw [if_neg hu]
  | true =>
    by_cases hu : 2147483648 < u
    · have d1 : decide (u > 2147483648) = true := by simp [hu]
      simp [d1, rngS, hu]
    · have d1 : decide (u > 2147483648) = false := by simp; omega
      simp only [d1, rngS, Bool.not_true, cond_true, cond_false]
      rw [if_neg hu]
def piS (neg : Bool) (d : List UInt8) : (Int × Int × Unit) ⊕ (Int × Unit) :=
  if d = [] then .inl (0, 2, ()) else match puS 0 d with
    | .inl (v, e, _) => if e = 1 then rngS neg v else .inl (0, e, ())
    | .inr (u, _) => rngS neg u
theorem rc1 (neg : Bool) (d : List UInt8) (hl : d.length ≤ 1000000) : C90_c1 (d, 16, 32, neg, ()) = some (piS neg d) := by
  have e4 : ((32 : Int) == 0) = false := rfl
  by_cases hd : d = []
  · subst hd
    simp only [C90_c1, F90_c1, piS, if_true]
    rfl
  · have hp := pu16 d hd hl
    have hr := puS_rng d 0 (by omega) (by omega)
    simp only [C90_c1, F90_c1, hp, piS, if_neg hd, e4, Option.bind_some, cond_false]
    cases hq : puS 0 d with
    | inl x =>
      obtain ⟨v, e, u⟩ := x
      rcases hr.2 v e u hq with ⟨rfl, rfl⟩ | ⟨rfl, rfl⟩
      · rfl
      · simp only [Sum.elim_inl, rc0 neg 4294967295 (by omega) (by omega), Option.bind_some, if_true]
        have : ((1 : Int) == 1) = true := rfl
        simp only [this, Bool.not_true, cond_false]
        cases rngS neg 4294967295 <;> rfl
    | inr x =>
      obtain ⟨v, u⟩ := x
      have := hr.1 v u hq
      simp only [Sum.elim_inr, rc0 neg v this.1 this.2, Option.bind_some]
      cases rngS neg v <;> rfl
theorem piS_rng (neg : Bool) (d : List UInt8) : (∀ v e u, piS neg d = .inl (v, e, u) → e = 1 ∨ e = 2) ∧ (∀ v u, piS neg d = .inr (v, u) → -2147483648 ≤ v ∧ v ≤ 2147483647) := by
  have hr := puS_rng d 0 (by omega) (by omega)
  have hg : ∀ u : Int, 0 ≤ u → (∀ v e w, rngS neg u = .inl (v, e, w) → e = 1 ∨ e = 2) ∧ (∀ v w, rngS neg u = .inr (v, w) → -2147483648 ≤ v ∧ v ≤ 2147483647) := by
    intro u hu
    unfold rngS
    cases neg with
    | false =>
      simp only [cond_false]
      split
      · exact ⟨fun v e w h => (by cases h; exact .inl rfl), fun v w h => (by cases h)⟩
      · exact ⟨fun v e w h => (by cases h), fun v w h => (by cases h; omega)⟩
    | true =>
      simp only [cond_true]
      split
      · exact ⟨fun v e w h => (by cases h; exact .inl rfl), fun v w h => (by cases h)⟩
      · exact ⟨fun v e w h => (by cases h), fun v w h => (by cases h; omega)⟩
  unfold piS
  split
  · exact ⟨fun v e w h => (by cases h; exact .inr rfl), fun v w h => (by cases h)⟩
  · split
    · rename_i v e u hq
      rcases hr.2 v e u hq with ⟨rfl, rfl⟩ | ⟨rfl, rfl⟩
      · rw [if_neg (by decide)]; exact ⟨fun v e w h => (by cases h; exact .inr rfl), fun v w h => (by cases h)⟩
      · rw [if_pos rfl]; exact hg _ (by omega)
    · rename_i u w hq
      exact hg u (hr.1 u w hq).1
def piT (d : List UInt8) : (Int × Int × Unit) ⊕ (Int × Unit) := match d with
  | [] => .inl (0, 2, ())
  | c :: r => bif c.toNat == 43 then piS false r else bif c.toNat == 45 then piS true r else piS false (c :: r)
theorem pi16 (d : List UInt8) (hl : d.length ≤ 1000000) : C90 (d, 16, 32, ()) = some (piT d) := by
  cases d with
  | nil => rfl
  | cons c r =>
    simp only [List.length_cons] at hl
    have hn : ((c :: r) == ([] : List UInt8)) = false := rfl
    have e0 : decide ((0 : Int) < ((c :: r).length : Int)) = true := by simp
    have e1 : decide ((1 : Int) ≤ ((c :: r).length : Int)) = true := by simp; omega
    have hg : (c :: r).getD 0 0 = c := rfl
    have hdr : List.drop 1 (c :: r) = r := rfl
    have b43 : (((c.toNat : Nat) : Int) == 43) = (c.toNat == 43) := by
      by_cases h : c.toNat = 43
      · rw [h]; rfl
      · rw [ibF (by omega)]; simp [h]
    have b45 : (((c.toNat : Nat) : Int) == 45) = (c.toNat == 45) := by
      by_cases h : c.toNat = 45
      · rw [h]; rfl
      · rw [ibF (by omega)]; simp [h]
    simp only [C90, F90, hn, e0, e1, hg, hdr, b43, b45, rc1 false r (by omega), rc1 true r (by omega), rc1 false (c :: r) (by simp; omega), piT, Option.bind_some, cond_true, cond_false]
    cases c.toNat == 43 with
    | true =>
      simp only [cond_true]
      cases piS false r with
      | inl x => obtain ⟨v, e, u⟩ := x; rfl
      | inr x => obtain ⟨v, u⟩ := x; rfl
    | false =>
      cases c.toNat == 45 with
      | true =>
        simp only [cond_true, cond_false]
        cases piS true r with
        | inl x => obtain ⟨v, e, u⟩ := x; rfl
        | inr x => obtain ⟨v, u⟩ := x; rfl
      | false =>
        simp only [cond_false]
        cases piS false (c :: r) with
        | inl x => obtain ⟨v, e, u⟩ := x; rfl
        | inr x => obtain ⟨v, u⟩ := x; rfl
theorem piT_rng (d : List UInt8) : (∀ v e u, piT d = .inl (v, e, u) → e = 1 ∨ e = 2) ∧ (∀ v u, piT d = .inr (v, u) → -2147483648 ≤ v ∧ v ≤ 2147483647) := by
  cases d with
  | nil => exact ⟨fun v e w h => (by cases h; exact .inr rfl), fun v w h => (by cases h)⟩
  | cons c r =>
    unfold piT
    simp only
    cases c.toNat == 43 with
    | true => exact piS_rng false r
    | false =>
      cases c.toNat == 45 with
      | true => exact piS_rng true r
      | false => exact piS_rng false (c :: r)
theorem piT_val {d : List UInt8} {n : Nat} (h : hexV d = some n) : piT d = .inr ((n : Int), ()) := by
  obtain ⟨hu, hl, hn⟩ := hexV_back h
  have hv := valU_hex 15 n (by omega)
  change valU 0 (hexU n) = some n at hv
  rw [hu] at hv
  have hp := puS_val d 0 n hv (by omega)
  cases d with
  | nil =>
    have : hexU n ≠ [] := by
      unfold hexU
      by_cases h2 : n < 16
      · rw [hexF_lo _ _ _ h2]; simp
      · rw [hexF_hi _ _ _ (by omega)]; simp
    exact absurd hu this
  | cons c r =>
    have hc : ∃ x, uv c = some x := by
      simp only [valU] at hv
      cases hc : uv c with
      | none => rw [hc] at hv; cases hv
      | some x => exact ⟨x, rfl⟩
    obtain ⟨x, hc⟩ := hc
    have b43 : (c.toNat == 43) = false := by
      cases hb : c.toNat == 43 with
      | false => rfl
      | true => have : c.toNat = 43 := by simpa using hb
                unfold uv at hc; rw [this] at hc; cases hc
    have b45 : (c.toNat == 45) = false := by
      cases hb : c.toNat == 45 with
      | false => rfl
      | true => have : c.toNat = 45 := by simpa using hb
                unfold uv at hc; rw [this] at hc; cases hc
    unfold piT
    simp only [b43, b45, cond_false]
    unfold piS
    rw [if_neg (by simp)]
    have hp' : puS 0 (c :: r) = .inr ((n : Int), ()) := hp
    rw [hp']
    simp only [rngS, cond_false]
    rw [if_neg (by omega)]
theorem c27 (d : List UInt8) (hl : d.length ≤ 1000000) : ∃ r, C27 (d, ()) = some (r, ()) ∧ (match hexV d with | some n => if plainB (n : Int) = true then r < 0 else r = (n : Int) | none => r < 0) := by
  have hrng := piT_rng d
  have h63 : C63 (d, 16, 32, ()) = some (match piT d with | .inl (v, e, _) => .inl (v, ()) | .inr (v, _) => .inr (v, ())) := by
    simp only [C63, F63, pi16 d hl, Option.bind_some]
    cases hp : piT d with
    | inl x =>
      obtain ⟨v, e, u⟩ := x
      have he := hrng.1 v e u hp
      have ht : C91 ([80, 97, 114, 115, 101, 73, 110, 116], d, 16, 32, e, ()) = some () := by
        rw [C91, if_pos ⟨(show d.length ≤ 281474976710656 by omega), he⟩]
      simp only [Sum.elim_inl, ht, Option.bind_some]
    | inr x => obtain ⟨v, u⟩ := x; rfl
  cases hp : piT d with
  | inl x =>
    obtain ⟨v, e, u⟩ := x
    rw [hp] at h63
    refine ⟨-1, ?_, ?_⟩
    · simp only [C27, F27, h63, Option.bind_some, Sum.elim_inl]
    · cases hv : hexV d with
      | none => simp
      | some n => rw [piT_val hv] at hp; cases hp
  | inr x =>
    obtain ⟨v, u⟩ := x
    have hvr := hrng.2 v u hp
    rw [hp] at h63
    by_cases h6 : d.length > 6
    · have e6 : decide ((d.length : Int) > 6) = true := by simp; omega
      refine ⟨-1, ?_, ?_⟩
      · simp only [C27, F27, h63, e6, Option.bind_some, Sum.elim_inr, cond_true]
      · cases hv : hexV d with
        | none => simp
        | some n => have := (hexV_back hv).2.1; omega
    · have e6 : decide ((d.length : Int) > 6) = false := by simp; omega
      have hh := c34 v (by omega) (by omega)
      by_cases he : (bif decide (v < 0) then [45] else []) ++ hexU v.natAbs = d
      · have eb : (((bif decide (v < 0) then [45] else []) ++ hexU v.natAbs) == d) = true := by rw [he]; simp
        refine ⟨bif plainB (IntKind.i32.wrap v) then -1 else IntKind.i32.wrap v, ?_, ?_⟩
        · simp only [C27, F27, h63, e6, hh, eb, c24, Option.bind_some, Sum.elim_inr, cond_false, Bool.not_true]
          cases plainB (IntKind.i32.wrap v) <;> rfl
        · rw [w32 (n := v) (by omega) (by omega)]
          by_cases hneg : v < 0
          · have d1 : decide (v < 0) = true := by simp [hneg]
            rw [d1] at he
            have hnone : hexV d = none := by
              cases hv : hexV d with
              | none => rfl
              | some n => have := piT_val hv; rw [hp] at this; simp only [Sum.inr.injEq, Prod.mk.injEq] at this; omega
            rw [hnone]
            cases plainB v
            · exact hneg
            · exact (by decide : (-1 : Int) < 0)
          · have d1 : decide (v < 0) = false := by simp; omega
            rw [d1] at he
            simp only [cond_false, List.nil_append] at he
            have hsome : hexV d = some v.natAbs := by
              rw [← he]
              exact hexV_of (by omega) (by rw [he]; omega)
            rw [hsome]
            simp only
            rw [show ((v.natAbs : Nat) : Int) = v by omega]
            cases plainB v
            · simp
            · simp
      · have eb : (((bif decide (v < 0) then [45] else []) ++ hexU v.natAbs) == d) = false := by simpa using he
        refine ⟨-1, ?_, ?_⟩
        · simp only [C27, F27, h63, e6, hh, eb, Option.bind_some, Sum.elim_inr, cond_false, cond_true, Bool.not_false]
        · cases hv : hexV d with
          | none => simp
          | some n =>
            have h1 := piT_val hv
            rw [hp] at h1
            simp only [Sum.inr.injEq, Prod.mk.injEq, and_true] at h1
            obtain ⟨h2, _, h3⟩ := hexV_back hv
            refine absurd ?_ he
            have d1 : decide (v < 0) = false := by simp; omega
            rw [d1, h1]
            simpa using h2
end Go.Proofs.YtmfcepdbpdihgaaGreatDoor.W
set_option linter.unusedVariables false
set_option linter.unusedSimpArgs false
set_option maxRecDepth 100000
namespace Go.Proofs.YtmfcepdbpdihgaaGreatDoor.W
open Go Go.Ae Go.Pl
def e125 (x : UInt8) : Bool := x == 125
theorem iB (s : List UInt8) (c : UInt8) : Lib.indexByte s c = fnd (fun x => x == c) s := by
  induction s with
  | nil => rfl
  | cons b r ih =>
    unfold Lib.indexByte fnd
    by_cases h : (b == c) = true
    · simp [h, fp]
    · simp only [Bool.not_eq_true] at h
      simp only [h, ih, fp, cond_false, List.length_cons, fnd]
      simp only [Bool.false_eq_true, if_false]
      by_cases h2 : fp (fun x => x == c) r < r.length
      · simp only [if_pos h2, if_pos (show fp (fun x => x == c) r + 1 < r.length + 1 by omega)]
        rw [if_neg (by simp)]
        rfl
      · simp [h2]
def cutAt (c : UInt8) (s : List UInt8) : List UInt8 × List UInt8 × Bool :=
  if fp (fun x => x == c) s < s.length then (s.take (fp (fun x => x == c) s), s.drop (fp (fun x => x == c) s + 1), true) else (s, [], false)
theorem c115 (s : List UInt8) (c : UInt8) : C115 (s, (c.toNat : Int), ()) = some (fnd (fun x => x == c) s, ()) := by
  simp only [C115, F115, C148, Option.bind_some]
  rw [← iB]
  congr 2
  simp
theorem c89_1 (s : List UInt8) (c : UInt8) : C89 (s, [c], ()) = some (fnd (fun x => x == c) s, ()) := by
  have e0 : (((1 : Nat) : Int) == 0) = false := rfl
  have e1 : (((1 : Nat) : Int) == 1) = true := rfl
  have e2 : decide (0 < ((1 : Nat) : Int)) = true := rfl
  have hg : [c].getD 0 0 = c := rfl
  simp only [C89, F89, C89_c0, F89_c0, List.length_cons, List.length_nil, Nat.zero_add, e0, e1, e2, hg, c115, Option.bind_some, cond_true, cond_false]
  cases hx : ([c] == s) with
  | false => rfl
  | true =>
    have hs : [c] = s := by simpa using hx
    subst hs
    simp [fnd, fp]
theorem c26_1 (s : List UInt8) (c : UInt8) (hl : s.length ≤ 1000000000) : C26 (s, [c], ()) = some ((cutAt c s).1, (cutAt c s).2.1, (cutAt c s).2.2, ()) := by
  simp only [C26, F26, C62, F62, c89_1, Option.bind_some]
  unfold cutAt fnd
  by_cases h : fp (fun x => x == c) s < s.length
  · have e1 : decide (((fp (fun x => x == c) s : Nat) : Int) ≥ 0) = true := by simp
    have e2 : decide (0 ≤ ((fp (fun x => x == c) s : Nat) : Int)) = true := by simp
    have e3 : decide (((fp (fun x => x == c) s : Nat) : Int) ≤ (s.length : Int)) = true := by simp; omega
    have hw : IntKind.i64.wrap (((fp (fun x => x == c) s : Nat) : Int) + (([c].length : Nat) : Int)) = ((fp (fun x => x == c) s + 1 : Nat) : Int) := wrN _ (by omega)
    have e4 : decide (0 ≤ ((fp (fun x => x == c) s + 1 : Nat) : Int)) = true := by simp; omega
    have e5 : decide (((fp (fun x => x == c) s + 1 : Nat) : Int) ≤ (s.length : Int)) = true := by simp; omega
    simp only [if_pos h, e1, e2, e3, hw, e4, e5, cond_true, Bool.and_self, Int.toNat_natCast, Option.bind_some]
  · have e1 : decide ((-1 : Int) ≥ 0) = false := by decide
    simp only [if_neg h, e1, cond_false, Option.bind_some]
def hasP (p s : List UInt8) : Bool := s.take p.length == p
theorem hasP_len {p s : List UInt8} (h : hasP p s = true) : p.length ≤ s.length ∧ s = p ++ s.drop p.length := by
  have h' : s.take p.length = p := by simpa [hasP] using h
  have hl := congrArg List.length h'
  rw [List.length_take] at hl
  exact ⟨by omega, by conv => lhs; rw [← List.take_append_drop p.length s, h']⟩
theorem c82 (s p : List UInt8) : C82 (s, p, ()) = some (hasP p s, ()) := by
  simp only [C82, F82]
  by_cases h : p.length ≤ s.length
  · have e1 : decide ((s.length : Int) ≥ (p.length : Int)) = true := by simp; omega
    have e2 : decide (0 ≤ (p.length : Int)) = true := by simp
    have e3 : decide ((p.length : Int) ≤ (s.length : Int)) = true := by simp; omega
    simp only [e1, e2, e3, cond_true, Bool.and_self, Int.toNat_natCast, hasP]
  · have e1 : decide ((s.length : Int) ≥ (p.length : Int)) = false := by simp; omega
    have : hasP p s = false := by
      cases hh : hasP p s with
      | false => rfl
      | true => exact absurd (hasP_len hh).1 h
    simp only [e1, cond_false, this]
theorem c25 (s p : List UInt8) : C25 (s, p, ()) = some (if hasP p s = true then (s.drop p.length, true, ()) else (s, false, ())) := by
  simp only [C25, F25, C61, F61, c82, Option.bind_some]
  cases h : hasP p s with
  | false => rfl
  | true =>
    have hl := (hasP_len h).1
    have e2 : decide (0 ≤ (p.length : Int)) = true := by simp
    have e3 : decide ((p.length : Int) ≤ (s.length : Int)) = true := by simp; omega
    simp only [Bool.not_true, cond_false, e2, e3, cond_true, Bool.and_self, Int.toNat_natCast, Option.bind_some, if_true]
def escAt (s : List UInt8) : Option (Int × List UInt8) :=
  if hasP [92, 120, 123] s = true then
    (if fp e125 (s.drop 3) < (s.drop 3).length then
      (match hexV ((s.drop 3).take (fp e125 (s.drop 3))) with
        | some n => if plainB (n : Int) = true then none else some ((n : Int), (s.drop 3).drop (fp e125 (s.drop 3) + 1))
        | none => none)
    else none)
  else none
theorem escAt_len {s : List UInt8} {v : Int} {t : List UInt8} (h : escAt s = some (v, t)) : t.length < s.length := by
  unfold escAt at h
  split at h
  · rename_i hp
    have hl := (hasP_len hp).1
    simp only [List.length_cons, List.length_nil] at hl
    split at h
    · split at h
      · split at h
        · cases h
        · simp only [Option.some.injEq, Prod.mk.injEq] at h
          obtain ⟨_, rfl⟩ := h
          simp only [List.length_drop]; omega
      · cases h
    · cases h
  · cases h
def unesc : Nat → List UInt8 → Option (List Int)
  | 0, _ => none
  | _ + 1, [] => some []
  | n + 1, c :: r => bif plainB (cv c) then (unesc n r).map (cv c :: ·) else match escAt (c :: r) with
    | some (v, t) => (unesc n t).map (v :: ·)
    | none => none
theorem cv32 (c : UInt8) : IntKind.i32.wrap ((c.toNat : Nat) : Int) = cv c := by have := c.toNat_lt; rw [w32 (by omega) (by omega)]; rfl
theorem ustep (c : UInt8) (r : List UInt8) (out : List Int) (hl : r.length ≤ 900000) (ho : out.length ≤ 1000000) :
    F9_l0 C24 C25 C26 C27 (c :: r, out, ()) = some (bif plainB (cv c) then .inl (r, out ++ [cv c], ()) else match escAt (c :: r) with
      | some (v, t) => .inl (t, out ++ [v], ())
      | none => .inr (.inr ([], false, ()))) := by
  have e0 : ((c :: r) == ([] : List UInt8)) = false := rfl
  have e1 : decide ((0 : Int) < ((c :: r).length : Int)) = true := by simp
  have e2 : decide ((1 : Int) ≤ ((c :: r).length : Int)) = true := by simp; omega
  have hg : (c :: r).getD 0 0 = c := rfl
  have eo : decide (out.length + 1 ≤ 140737488355328 / 4) = true := by simp; omega
  have hdr : List.drop 1 (c :: r) = r := rfl
  simp only [F9_l0, e0, e1, e2, hg, hdr, cv32, c24, List.length_cons, List.length_nil, Nat.zero_add, eo, Option.bind_some, cond_true, Bool.not_false]
  cases hp : plainB (cv c) with
  | true =>
    have e1' : decide ((0 : Int) < ((r.length + 1 : Nat) : Int)) = true := by simp
    have e2' : decide ((1 : Int) ≤ ((r.length + 1 : Nat) : Int)) = true := by simp; omega
    simp only [cond_true, e1', e2']
  | false =>
    have e1' : decide ((0 : Int) < ((r.length + 1 : Nat) : Int)) = true := by simp
    simp only [cond_false, e1', cond_true]
    rw [c25]
    unfold escAt
    by_cases hh : hasP [92, 120, 123] (c :: r) = true
    · rw [if_pos hh, if_pos hh]
      have h3 : List.drop [92, 120, 123].length (c :: r) = List.drop 3 (c :: r) := rfl
      simp only [Option.bind_some, h3]
      have hl3 : ((c :: r).drop 3).length ≤ 900000 := by simp; omega
      generalize (c :: r).drop 3 = t at hl3
      rw [c26_1 t 125 (by omega)]
      simp only [Option.bind_some]
      have hc : (cutAt 125 t).1.length ≤ 1000000 := by
        unfold cutAt; split
        · simp; omega
        · simp; omega
      obtain ⟨x, hx, hxs⟩ := c27 (cutAt 125 t).1 hc
      rw [hx]
      simp only [Option.bind_some, Bool.not_true, cond_false]
      unfold cutAt at hxs ⊢
      have hfe : (fun x : UInt8 => x == 125) = e125 := rfl
      rw [hfe] at hxs ⊢
      by_cases hf : fp e125 t < t.length
      · simp only [if_pos hf] at hxs ⊢
        simp only [Bool.not_true, cond_false]
        cases hv : hexV (t.take (fp e125 t)) with
        | none =>
          rw [hv] at hxs
          have d : decide (x < 0) = true := by simpa using hxs
          rw [d]; rfl
        | some n =>
          rw [hv] at hxs
          simp only at hxs ⊢
          by_cases hpl : plainB (n : Int) = true
          · rw [if_pos hpl] at hxs ⊢
            have d : decide (x < 0) = true := by simpa using hxs
            rw [d]; rfl
          · rw [if_neg hpl] at hxs ⊢
            subst hxs
            have d : decide ((n : Int) < 0) = false := by simp
            rw [d]; rfl
      · simp only [if_neg hf, Bool.not_false, cond_true]
    · rw [if_neg hh, if_neg hh]
      simp only [Option.bind_some]
      rw [c26_1 (c :: r) 125 (by simp; omega)]
      simp only [Option.bind_some]
      have hc : (cutAt 125 (c :: r)).1.length ≤ 1000000 := by
        unfold cutAt; split
        · simp; omega
        · simp; omega
      obtain ⟨x, hx, hxs⟩ := c27 (cutAt 125 (c :: r)).1 hc
      rw [hx]
      rfl
theorem urun : ∀ (n : Nat) (s : List UInt8) (out : List Int) (m : Nat), s.length < n → s.length < m → s.length ≤ 800000 → out.length + s.length ≤ 1000000 →
    loopN (F9_l0 C24 C25 C26 C27) m (s, out, ()) = some (match unesc n s with | some l => .inl (out ++ l, ()) | none => .inr ([], false, ()))
  | 0, _, _, _, hn, _, _, _ => by omega
  | _, _, _, 0, _, hm, _, _ => by omega
  | n + 1, [], out, m + 1, hn, hm, hl, ho => by
    refine loopN_inr ?_
    simp only [F9_l0, unesc, List.append_nil]
    rfl
  | n + 1, c :: r, out, m + 1, hn, hm, hl, ho => by
    simp only [List.length_cons] at hn hm hl ho
    have hs := ustep c r out (by omega) (by omega)
    unfold unesc
    cases hp : plainB (cv c) with
    | true =>
      rw [hp, cond_true] at hs
      rw [loopN_inl hs, urun n r (out ++ [cv c]) m (by omega) (by omega) (by omega) (by simp; omega), cond_true]
      cases unesc n r <;> simp
    | false =>
      rw [hp, cond_false] at hs
      rw [cond_false]
      cases he : escAt (c :: r) with
      | none => rw [he] at hs; rw [loopN_inr hs]
      | some x =>
        obtain ⟨v, t⟩ := x
        have ht := escAt_len he
        simp only [List.length_cons] at ht
        rw [he] at hs
        rw [loopN_inl hs, urun n t (out ++ [v]) m (by omega) (by omega) (by omega) (by simp; omega)]
        simp only
        cases unesc n t <;> simp
def fin2 : Option (List Int) → List UInt8 × Bool × Unit
  | some l => match strE l with | some e => (e, true, ()) | none => ([], false, ())
  | none => ([], false, ())
def unE (s : List UInt8) : Option (List Int) := unesc (s.length + 1) s
theorem unesc_len : ∀ (n : Nat) (s : List UInt8) (l : List Int), unesc n s = some l → l.length ≤ s.length
  | 0, _, _, h => by cases h
  | n + 1, [], l, h => by cases h; simp
  | n + 1, c :: r, l, h => by
    unfold unesc at h
    cases hp : plainB (cv c) with
    | true =>
      rw [hp, cond_true] at h
      obtain ⟨l', h1, rfl⟩ := Option.map_eq_some_iff.1 h
      have := unesc_len n r l' h1
      simp; omega
    | false =>
      rw [hp, cond_false] at h
      cases he : escAt (c :: r) with
      | none => rw [he] at h; cases h
      | some x =>
        obtain ⟨v, t⟩ := x
        rw [he] at h
        simp only at h
        obtain ⟨l', h1, rfl⟩ := Option.map_eq_some_iff.1 h
        have := unesc_len n t l' h1
        have := escAt_len he
        simp at *; omega
theorem c9 (s : List UInt8) (hl : s.length ≤ 800000) : C9 (s, ()) = some (fin2 (unE s)) := by
  have h := urun (s.length + 1) s [] big (by omega) (by unfold big; omega) hl (by simp; omega)
  have h' : C9_l0 (s, [], ()) = _ := h
  simp only [C9, F9, h', Option.bind_some]
  unfold unE fin2
  cases hu : unesc (s.length + 1) s with
  | none => rfl
  | some l =>
    have hll := unesc_len _ _ _ hu
    simp only [Sum.elim_inl, List.nil_append, c28 l (by omega), Option.bind_some]
    all_goals (cases strE l <;> rfl)
theorem vstep (c : UInt8) (pre r : List UInt8) (n : Nat) (hn : n ≤ 100000000) (hl : pre.length + r.length ≤ 1000) :
    F30_l0 C30_c1 (pre ++ c :: r, (n : Int), (pre.length : Int), ()) = some (match uv c with
      | some x => .inl (pre ++ c :: r, ((16 * n + x : Nat) : Int), ((pre.length + 1 : Nat) : Int), ())
      | none => .inr (.inr (-1, ()))) := by
  have hc := c.toNat_lt
  have hi : decide ((pre.length : Int) < ((pre ++ c :: r).length : Int)) = true := by simp; omega
  have hi0 : decide (0 ≤ (pre.length : Int)) = true := by simp
  have hw : IntKind.i64.wrap ((pre.length : Int) + 1) = ((pre.length + 1 : Nat) : Int) := wrN _ (by omega)
  have hg : (pre ++ c :: r).getD ((pre.length : Int)).toNat 0 = c := by rw [Int.toNat_natCast]; exact gd rfl
  have w1 : IntKind.i64.wrap (16 * (n : Int)) = 16 * (n : Int) := w64 (by omega) (by omega)
  unfold uv
  by_cases h48 : 48 ≤ c.toNat
  · have d48 : decide (((c.toNat : Nat) : Int) ≥ 48) = true := by simp; omega
    have b48 : Nat.ble 48 c.toNat = true := Nat.ble_eq_true_of_le h48
    by_cases h57 : c.toNat ≤ 57
    · have d57 : decide (((c.toNat : Nat) : Int) ≤ 57) = true := by simp; omega
      have b57 : Nat.ble c.toNat 57 = true := Nat.ble_eq_true_of_le h57
      have w2 : IntKind.i64.wrap (IntKind.u8.wrap (((c.toNat : Nat) : Int) - 48)) = ((c.toNat : Nat) : Int) - 48 := by rw [wu8 (by omega) (by omega), w64 (by omega) (by omega)]
      have w3 : IntKind.i64.wrap (16 * (n : Int) + (((c.toNat : Nat) : Int) - 48)) = ((16 * n + (c.toNat - 48) : Nat) : Int) := by rw [w64] <;> omega
      simp only [F30_l0, C30_c1, F30_c1, hi, hi0, hg, hw, w1, w2, w3, d48, d57, b48, b57, cond_true, Bool.and_self, Option.bind_some, Sum.elim_inl]
    · have d57 : decide (((c.toNat : Nat) : Int) ≤ 57) = false := by simp; omega
      have b57 : Nat.ble c.toNat 57 = false := by rw [← Bool.not_eq_true, Nat.ble_eq]; exact h57
      by_cases h65 : 65 ≤ c.toNat
      · have d65 : decide (((c.toNat : Nat) : Int) ≥ 65) = true := by simp; omega
        have b65 : Nat.ble 65 c.toNat = true := Nat.ble_eq_true_of_le h65
        by_cases h70 : c.toNat ≤ 70
        · have d70 : decide (((c.toNat : Nat) : Int) ≤ 70) = true := by simp; omega
          have b70 : Nat.ble c.toNat 70 = true := Nat.ble_eq_true_of_le h70
          have w2 : IntKind.i64.wrap (IntKind.u8.wrap (((c.toNat : Nat) : Int) - 65)) = ((c.toNat : Nat) : Int) - 65 := by rw [wu8 (by omega) (by omega), w64 (by omega) (by omega)]
          have w3 : IntKind.i64.wrap (IntKind.i64.wrap (16 * (n : Int) + (((c.toNat : Nat) : Int) - 65)) + 10) = ((16 * n + (c.toNat - 55) : Nat) : Int) := by
            rw [w64 (n := 16 * (n : Int) + (((c.toNat : Nat) : Int) - 65)) (by omega) (by omega), w64 (by omega) (by omega)]; omega
          simp only [F30_l0, C30_c1, F30_c1, C30_c0, F30_c0, hi, hi0, hg, hw, w1, w2, w3, d48, d57, d65, d70, b48, b57, b65, b70, cond_true, cond_false, Bool.and_self, Bool.and_false, Option.bind_some, Sum.elim_inl]
        · have d70 : decide (((c.toNat : Nat) : Int) ≤ 70) = false := by simp; omega
          have b70 : Nat.ble c.toNat 70 = false := by rw [← Bool.not_eq_true, Nat.ble_eq]; exact h70
          simp only [F30_l0, C30_c1, F30_c1, C30_c0, F30_c0, hi, hi0, hg, hw, d48, d57, d65, d70, b48, b57, b65, b70, cond_true, cond_false, Bool.and_self, Bool.and_false, Option.bind_some, Sum.elim_inl, Sum.elim_inr]
      · have d65 : decide (((c.toNat : Nat) : Int) ≥ 65) = false := by simp; omega
        have b65 : Nat.ble 65 c.toNat = false := by rw [← Bool.not_eq_true, Nat.ble_eq]; exact h65
        simp only [F30_l0, C30_c1, F30_c1, C30_c0, F30_c0, hi, hi0, hg, hw, d48, d57, d65, b48, b57, b65, cond_true, cond_false, Bool.and_self, Bool.and_false, Bool.false_and, Option.bind_some, Sum.elim_inl, Sum.elim_inr]
  · have d48 : decide (((c.toNat : Nat) : Int) ≥ 48) = false := by simp; omega
    have b48 : Nat.ble 48 c.toNat = false := by rw [← Bool.not_eq_true, Nat.ble_eq]; exact h48
    have d65 : decide (((c.toNat : Nat) : Int) ≥ 65) = false := by simp; omega
    have b65 : Nat.ble 65 c.toNat = false := by rw [← Bool.not_eq_true, Nat.ble_eq]; omega
    simp only [F30_l0, C30_c1, F30_c1, C30_c0, F30_c0, hi, hi0, hg, hw, d48, d65, b48, b65, cond_true, cond_false, Bool.and_self, Bool.and_false, Bool.false_and, Option.bind_some, Sum.elim_inl, Sum.elim_inr]
theorem vrun : ∀ (r pre : List UInt8) (n m : Nat), n < 16 ^ pre.length → pre.length + r.length ≤ 6 → r.length < m →
    loopN (F30_l0 C30_c1) m (pre ++ r, (n : Int), (pre.length : Int), ()) = some (match valU n r with | some v => .inl ((v : Int), ()) | none => .inr (-1, ()))
  | _, _, _, 0, _, _, hm => by omega
  | [], pre, n, m + 1, hn, hl, hm => by
    refine loopN_inr ?_
    have hi : decide ((pre.length : Int) < (pre.length : Int)) = false := by simp
    simp only [F30_l0, List.append_nil, hi, cond_false, valU]
  | c :: r, pre, n, m + 1, hn, hl, hm => by
    simp only [List.length_cons] at hl hm
    have hp : 16 ^ pre.length ≤ 16 ^ 6 := Nat.pow_le_pow_right (by omega) (by omega)
    have h6 : (16 : Nat) ^ 6 = 16777216 := by decide
    have hs := vstep c pre r n (by omega) (by omega)
    unfold valU
    cases hc : uv c with
    | none => rw [hc] at hs; rw [loopN_inr hs]
    | some x =>
      have hx := (dgu_uv hc).1
      rw [hc] at hs
      simp only at hs ⊢
      rw [loopN_inl hs, shift, show ((pre.length + 1 : Nat) : Int) = ((pre ++ [c]).length : Int) by simp]
      exact vrun r (pre ++ [c]) (16 * n + x) m (by rw [List.length_append, List.length_cons, List.length_nil, Nat.pow_succ]; omega) (by simp; omega) (by omega)
theorem c30 (d : List UInt8) : C30 (d, ()) = some ((match hexV d with | some n => (n : Int) | none => -1), ()) := by
  unfold hexV
  by_cases h1 : d.length < 1
  · have d1 : decide ((d.length : Int) < 1) = true := by simp; omega
    have b1 : Nat.ble 1 d.length = false := by rw [← Bool.not_eq_true, Nat.ble_eq]; omega
    simp only [C30, F30, d1, b1, cond_true, Bool.false_and, cond_false]
  · have d1 : decide ((d.length : Int) < 1) = false := by simp; omega
    have b1 : Nat.ble 1 d.length = true := Nat.ble_eq_true_of_le (by omega)
    by_cases h6 : d.length > 6
    · have d6 : decide ((d.length : Int) > 6) = true := by simp; omega
      have b6 : Nat.ble d.length 6 = false := by rw [← Bool.not_eq_true, Nat.ble_eq]; omega
      simp only [C30, F30, d1, d6, b1, b6, cond_true, cond_false, Bool.and_false]
    · have d6 : decide ((d.length : Int) > 6) = false := by simp; omega
      have b6 : Nat.ble d.length 6 = true := Nat.ble_eq_true_of_le (by omega)
      have h := vrun d [] 0 big (by simp) (by simp; omega) (by unfold big; omega)
      have h' : C30_l0 (d, 0, 0, ()) = _ := h
      have hc2 : C30_c2 (d, ()) = some ((match valU 0 d with | some n => (n : Int) | none => -1), ()) := by
        simp only [C30_c2, F30_c2, h', Option.bind_some]
        cases valU 0 d <;> rfl
      by_cases hg : d.length > 1
      · have dg : decide ((d.length : Int) > 1) = true := by simp; omega
        have d0 : decide (0 < (d.length : Int)) = true := by simp; omega
        have bg : Nat.beq d.length 1 = false := by rw [← Bool.not_eq_true]; intro e; have := Nat.eq_of_beq_eq_true e; omega
        have hh : (((d.getD 0 0).toNat : Int) == 48) = (d.headD 0 == 48) := by
          cases d with
          | nil => simp at hg
          | cons c r =>
            show (((c.toNat : Nat) : Int) == 48) = (c == 48)
            by_cases hc : c = 48
            · subst hc; rfl
            · have h1 : (c == 48) = false := by simpa using hc
              rw [h1, ibF]
              intro e
              exact hc (u8_eq (n := 48) (by omega))
        simp only [C30, F30, d1, d6, dg, d0, hh, hc2, b1, b6, bg, cond_true, cond_false, Bool.and_self, Bool.false_or, Option.bind_some]
        cases d.headD 0 == 48 <;> rfl
      · have dg : decide ((d.length : Int) > 1) = false := by simp; omega
        have bg : Nat.beq d.length 1 = true := by rw [show d.length = 1 by omega]; rfl
        simp only [C30, F30, d1, d6, dg, hc2, b1, b6, bg, cond_true, cond_false, Bool.and_self, Bool.true_or, Option.bind_some]
end Go.Proofs.YtmfcepdbpdihgaaGreatDoor.W
