/- Plain forms of functions. Written by a program. -/
import Derived.Test.YtkmojkibclbmjaaDoorW1
set_option maxRecDepth 100000
set_option linter.unusedVariables false
namespace Go.Proofs.YtkmojkibclbmjaaDoor.W
open Go Go.Ae

def F30 (f36 : List UInt8 × Int × Unit → Option (Int × Unit)) : List UInt8 × Int × Unit → Option (Int × Unit) := fun (x0, x1, _) =>
  (f36 (x0, x1, ())).bind fun val => some (val.fst, ())
theorem h30 (f36 : HS f36_ins → Option (OTy f36_outs)) (v : HS f30_ins) : afun Γ (fun f => Ae.look f [(36, ⟨f36_ins, f36_outs, f36⟩)]) 0 Tryd.f30.ntmps Tryd.f30.results.toList (code Tryd.f30) .nil (em id f30_ins v).1 (em id f30_ins v).2 (ofin 0 f30_outs) = F30 f36 v := by kernel_rfl
def C30 (v : List UInt8 × Int × Unit) : Option (Int × Unit) := F30 C36 v
theorem ok30 : FnOk Tryd.prog 30 ⟨f30_ins, f30_outs, C30⟩ :=
  fn_ok (np := 0) (n := .nil) hm hΓ (K := (fun f => Ae.look f [(36, ⟨f36_ins, f36_outs, C36⟩)])) (kok_cons ok36 (kok_nil _)) Tryd.func30 (c := code Tryd.f30) (by kernel_rfl) (name_ne (by kernel_rfl))
    (ann_nil _) (fun v => Nat.le_of_ble_eq_true (by kernel_rfl)) (fun v => h30 C36 v)

def F22 (f30 : List UInt8 × Int × Unit → Option (Int × Unit)) : List UInt8 × Int × Unit → Option (Int × Unit) := fun (x0, x1, _) =>
  (f30 (x0, x1, ())).bind fun val => some (val.fst, ())
theorem h22 (f30 : HS f30_ins → Option (OTy f30_outs)) (v : HS f22_ins) : afun Γ (fun f => Ae.look f [(30, ⟨f30_ins, f30_outs, f30⟩)]) 0 Tryd.f22.ntmps Tryd.f22.results.toList (code Tryd.f22) .nil (em id f22_ins v).1 (em id f22_ins v).2 (ofin 0 f22_outs) = F22 f30 v := by kernel_rfl
def C22 (v : List UInt8 × Int × Unit) : Option (Int × Unit) := F22 C30 v
theorem ok22 : FnOk Tryd.prog 22 ⟨f22_ins, f22_outs, C22⟩ :=
  fn_ok (np := 0) (n := .nil) hm hΓ (K := (fun f => Ae.look f [(30, ⟨f30_ins, f30_outs, C30⟩)])) (kok_cons ok30 (kok_nil _)) Tryd.func22 (c := code Tryd.f22) (by kernel_rfl) (name_ne (by kernel_rfl))
    (ann_nil _) (fun v => Nat.le_of_ble_eq_true (by kernel_rfl)) (fun v => h22 C30 v)

def F17_c0  : Int × Bool × Unit → Option (Int × Bool × Unit) := fun (x0, x1, _) =>
  bif x1 then some (x0, true, ())
  else
    bif decide (x0 ≥ 48) then
      bif decide (x0 ≤ 57) then some (x0, true, ()) else some (x0, decide (x0 ≥ 128), ())
    else some (x0, decide (x0 ≥ 128), ())
theorem h17_c0  (v : HS f17_c0_ins) : aev Γ (fun f => Ae.look f []) 0 (subc (code Tryd.f17) [1, 0, 0, 0, 1, 1, 1]) .nil (stof f17_c0_ins v) (oout 0 f17_c0_outs) = F17_c0 v := by kernel_rfl
def C17_c0 (v : Int × Bool × Unit) : Option (Int × Bool × Unit) := F17_c0 v
theorem k17_c0 : FragOk Tryd.prog 0 (fun Q a w => ((subc (code Tryd.f17) [1, 0, 0, 0, 1, 1, 1])).wp Tryd.prog Q a w) ⟨f17_c0_ins, f17_c0_outs, C17_c0⟩ :=
  frag_code (ins := f17_c0_ins) (os := f17_c0_outs) (np := 0) (n := .nil) (F := C17_c0) hm hΓ (K := (fun f => Ae.look f [])) (kok_nil _)
    (ann_nil _) (fun v => h17_c0 v)

def F17_c1 (f17_c0 : Int × Bool × Unit → Option (Int × Bool × Unit)) : Int × Bool × Unit → Option (Int × Bool × Unit) := fun (x0, x1, _) =>
  bif x1 then some (x0, true, ())
  else
    bif decide (x0 ≥ 65) then (f17_c0 (x0, decide (x0 ≤ 90), ())).bind fun val => some (val.fst, val.snd.fst, ())
    else (f17_c0 (x0, false, ())).bind fun val => some (val.fst, val.snd.fst, ())
theorem h17_c1 (f17_c0 : HS f17_c0_ins → Option (OTy f17_c0_outs)) (v : HS f17_c1_ins) : aev Γ (fun f => Ae.look f []) 0 (subc (code Tryd.f17) [1, 0, 0, 0, 1]) (.cond .nil (.cut .nil ⟨f17_c0_ins, f17_c0_outs, f17_c0⟩)) (stof f17_c1_ins v) (oout 0 f17_c1_outs) = F17_c1 f17_c0 v := by kernel_rfl
def C17_c1 (v : Int × Bool × Unit) : Option (Int × Bool × Unit) := F17_c1 C17_c0 v
theorem k17_c1 : FragOk Tryd.prog 0 (fun Q a w => ((subc (code Tryd.f17) [1, 0, 0, 0, 1])).wp Tryd.prog Q a w) ⟨f17_c1_ins, f17_c1_outs, C17_c1⟩ :=
  frag_code (ins := f17_c1_ins) (os := f17_c1_outs) (np := 0) (n := (.cond .nil (.cut .nil ⟨f17_c0_ins, f17_c0_outs, C17_c0⟩))) (F := C17_c1) hm hΓ (K := (fun f => Ae.look f [])) (kok_nil _)
    (ann_cond (x := (subc (code Tryd.f17) [1, 0, 0, 0, 1, 0])) (y := (subc (code Tryd.f17) [1, 0, 0, 0, 1, 1])) (by kernel_rfl) (ann_nil _) (ann_cut (a := (subc (code Tryd.f17) [1, 0, 0, 0, 1, 1, 0])) (b := (subc (code Tryd.f17) [1, 0, 0, 0, 1, 1, 1])) (by kernel_rfl) (ann_nil _) k17_c0)) (fun v => h17_c1 C17_c0 v)

def F17 (f22 : List UInt8 × Int × Unit → Option (Int × Unit)) (f17_c1 : Int × Bool × Unit → Option (Int × Bool × Unit)) : Int × Unit → Option (Bool × Unit) := fun (x0, _) =>
  bif decide (x0 ≥ 97) then
    (f17_c1 (x0, decide (x0 ≤ 122), ())).bind fun val =>
      bif val.snd.fst then some (true, ())
      else
        (f22 ([33, 35, 36, 37, 38, 39, 42, 43, 45, 47, 61, 63, 94, 95, 96, 123, 124, 125, 126], val.fst, ())).bind
          fun val => some (decide (val.fst ≥ 0), ())
  else
    (f17_c1 (x0, false, ())).bind fun val =>
      bif val.snd.fst then some (true, ())
      else
        (f22 ([33, 35, 36, 37, 38, 39, 42, 43, 45, 47, 61, 63, 94, 95, 96, 123, 124, 125, 126], val.fst, ())).bind
          fun val => some (decide (val.fst ≥ 0), ())
theorem h17 (f22 : HS f22_ins → Option (OTy f22_outs)) (f17_c1 : HS f17_c1_ins → Option (OTy f17_c1_outs)) (v : HS f17_ins) : afun Γ (fun f => Ae.look f [(22, ⟨f22_ins, f22_outs, f22⟩)]) 0 Tryd.f17.ntmps Tryd.f17.results.toList (code Tryd.f17) (.seq .nil (.seq (.blk (.seq (.cut .nil ⟨f17_c1_ins, f17_c1_outs, f17_c1⟩) .nil)) .nil)) (em id f17_ins v).1 (em id f17_ins v).2 (ofin 0 f17_outs) = F17 f22 f17_c1 v := by kernel_rfl
def C17 (v : Int × Unit) : Option (Bool × Unit) := F17 C22 C17_c1 v
theorem ok17 : FnOk Tryd.prog 17 ⟨f17_ins, f17_outs, C17⟩ :=
  fn_ok (np := 0) (n := (.seq .nil (.seq (.blk (.seq (.cut .nil ⟨f17_c1_ins, f17_c1_outs, C17_c1⟩) .nil)) .nil))) hm hΓ (K := (fun f => Ae.look f [(22, ⟨f22_ins, f22_outs, C22⟩)])) (kok_cons ok22 (kok_nil _)) Tryd.func17 (c := code Tryd.f17) (by kernel_rfl) (name_ne (by kernel_rfl))
    (ann_seq (a := (subc (code Tryd.f17) [0])) (b := (subc (code Tryd.f17) [1])) (by kernel_rfl) (ann_nil _) (ann_seq (a := (subc (code Tryd.f17) [1, 0])) (b := (subc (code Tryd.f17) [1, 1])) (by kernel_rfl) (ann_blk (x := (subc (code Tryd.f17) [1, 0, 0])) (by kernel_rfl) (ann_seq (a := (subc (code Tryd.f17) [1, 0, 0, 0])) (b := (subc (code Tryd.f17) [1, 0, 0, 1])) (by kernel_rfl) (ann_cut (a := (subc (code Tryd.f17) [1, 0, 0, 0, 0])) (b := (subc (code Tryd.f17) [1, 0, 0, 0, 1])) (by kernel_rfl) (ann_nil _) k17_c1) (ann_nil _))) (ann_nil _))) (fun v => Nat.le_of_ble_eq_true (by kernel_rfl)) (fun v => h17 C22 C17_c1 v)

def F21_l0 (f17 : Int × Unit → Option (Bool × Unit)) : Int × List UInt8 × Int × Int × Int × Unit → Option ((Int × List UInt8 × Int × Int × Int × Unit) ⊕ (Int × List UInt8 × Int × Int × Int × Unit)) := fun (x0, x1, x2, x3, x4, _) =>
  bif decide (x2 < (↑x1.length : Int)) then
    bif decide (0 ≤ x2) && decide (x2 < (↑x1.length : Int)) then
      (f17 ((↑(x1.getD x2.toNat 0).toNat : Int), ())).bind fun val =>
        bif val.fst then some (Sum.inl (x0, x1, IntKind.i64.wrap (x2 + 1), x3, x4, ()))
        else some (Sum.inr (x0, x1, x2, x3, x4, ()))
    else none
  else some (Sum.inr (x0, x1, x2, x3, x4, ()))
theorem h21_l0 (f17 : HS f17_ins → Option (OTy f17_outs)) (v : HS f21_l0_ins) : aev Γ (fun f => Ae.look f [(17, ⟨f17_ins, f17_outs, f17⟩)]) 1 (subc (code Tryd.f21) [1, 1, 0, 0, 0]) .nil (stof f21_l0_ins v) (around 1 f21_l0_ins f21_l0_outs) = F21_l0 f17 v := by kernel_rfl
def C21_l0 (v : Int × List UInt8 × Int × Int × Int × Unit) : Option (Int × List UInt8 × Int × Int × Int × Unit) := loopN (F21_l0 C17) big v
theorem k21_l0 : FragOk Tryd.prog 1 (fun Q a w => (Code.loop (subc (code Tryd.f21) [1, 1, 0, 0, 0])).wp Tryd.prog Q a w) ⟨f21_l0_ins, f21_l0_outs, C21_l0⟩ :=
  frag_loop (ins := f21_l0_ins) (os := f21_l0_outs) (np := 1) (n := .nil) (F := F21_l0 C17) hm hΓ (K := (fun f => Ae.look f [(17, ⟨f17_ins, f17_outs, C17⟩)])) (kok_cons ok17 (kok_nil _)) (fun _ => big)
    (ann_nil _) (fun v => h21_l0 C17 v)

def F21 (f17 : Int × Unit → Option (Bool × Unit)) (f21_l0 : Int × List UInt8 × Int × Int × Int × Unit → Option (Int × List UInt8 × Int × Int × Int × Unit)) : List UInt8 × Int × Int × Int × Unit → Option (List UInt8 × List UInt8 × Int × Int × Int × Unit) := fun (x0, x1, x2, x3, _) =>
  (f21_l0 (x1, x0, x1, x2, x3, ())).bind fun val =>
    bif decide (0 ≤ val.snd.snd.fst) && decide (val.snd.snd.fst ≤ (↑(List.length val.snd.fst) : Int)) then
      bif decide (0 ≤ val.fst) && decide (val.fst ≤ val.snd.snd.fst) then
        some
          (List.drop (Int.toNat val.fst) (List.take (Int.toNat val.snd.snd.fst) val.snd.fst), val.snd.fst,
            val.snd.snd.fst, val.snd.snd.snd.fst, val.snd.snd.snd.snd.fst, ())
      else none
    else none
theorem h21 (f17 : HS f17_ins → Option (OTy f17_outs)) (f21_l0 : HS f21_l0_ins → Option (OTy f21_l0_outs)) (v : HS f21_ins) : afun Γ (fun f => Ae.look f [(17, ⟨f17_ins, f17_outs, f17⟩)]) 1 Tryd.f21.ntmps Tryd.f21.results.toList (code Tryd.f21) (.seq .nil (.seq .nil (.seq (.blk (.loop ⟨f21_l0_ins, f21_l0_outs, f21_l0⟩)) .nil))) (em id f21_ins v).1 (em id f21_ins v).2 (ofin 1 f21_outs) = F21 f17 f21_l0 v := by kernel_rfl
def C21 (v : List UInt8 × Int × Int × Int × Unit) : Option (List UInt8 × List UInt8 × Int × Int × Int × Unit) := F21 C17 C21_l0 v
theorem ok21 : FnOk Tryd.prog 21 ⟨f21_ins, f21_outs, C21⟩ :=
  fn_ok (np := 1) (n := (.seq .nil (.seq .nil (.seq (.blk (.loop ⟨f21_l0_ins, f21_l0_outs, C21_l0⟩)) .nil)))) hm hΓ (K := (fun f => Ae.look f [(17, ⟨f17_ins, f17_outs, C17⟩)])) (kok_cons ok17 (kok_nil _)) Tryd.func21 (c := code Tryd.f21) (by kernel_rfl) (name_ne (by kernel_rfl))
    (ann_seq (a := (subc (code Tryd.f21) [0])) (b := (subc (code Tryd.f21) [1])) (by kernel_rfl) (ann_nil _) (ann_seq (a := (subc (code Tryd.f21) [1, 0])) (b := (subc (code Tryd.f21) [1, 1])) (by kernel_rfl) (ann_nil _) (ann_seq (a := (subc (code Tryd.f21) [1, 1, 0])) (b := (subc (code Tryd.f21) [1, 1, 1])) (by kernel_rfl) (ann_blk (x := (subc (code Tryd.f21) [1, 1, 0, 0])) (by kernel_rfl) (ann_loop (x := (subc (code Tryd.f21) [1, 1, 0, 0, 0])) (by kernel_rfl) k21_l0)) (ann_nil _)))) (fun v => Nat.le_of_ble_eq_true (by kernel_rfl)) (fun v => h21 C17 C21_l0 v)

def F32 (f22 : List UInt8 × Int × Unit → Option (Int × Unit)) : Int × Unit → Option (Bool × Unit) := fun (x0, _) =>
  (f22 ([32, 9], x0, ())).bind fun val => some (decide (val.fst ≥ 0), ())
theorem h32 (f22 : HS f22_ins → Option (OTy f22_outs)) (v : HS f32_ins) : afun Γ (fun f => Ae.look f [(22, ⟨f22_ins, f22_outs, f22⟩)]) 0 Tryd.f32.ntmps Tryd.f32.results.toList (code Tryd.f32) .nil (em id f32_ins v).1 (em id f32_ins v).2 (ofin 0 f32_outs) = F32 f22 v := by kernel_rfl
def C32 (v : Int × Unit) : Option (Bool × Unit) := F32 C22 v
theorem ok32 : FnOk Tryd.prog 32 ⟨f32_ins, f32_outs, C32⟩ :=
  fn_ok (np := 0) (n := .nil) hm hΓ (K := (fun f => Ae.look f [(22, ⟨f22_ins, f22_outs, C22⟩)])) (kok_cons ok22 (kok_nil _)) Tryd.func32 (c := code Tryd.f32) (by kernel_rfl) (name_ne (by kernel_rfl))
    (ann_nil _) (fun v => Nat.le_of_ble_eq_true (by kernel_rfl)) (fun v => h32 C22 v)

def F31 (f32 : Int × Unit → Option (Bool × Unit)) : Int × Unit → Option (Bool × Unit) := fun (x0, _) =>
  (f32 (x0, ())).bind fun val =>
    bif val.fst then some (true, ())
    else bif decide (x0 > 32) then some (bif x0 == 127 then false else true, ()) else some (false, ())
theorem h31 (f32 : HS f32_ins → Option (OTy f32_outs)) (v : HS f31_ins) : afun Γ (fun f => Ae.look f [(32, ⟨f32_ins, f32_outs, f32⟩)]) 0 Tryd.f31.ntmps Tryd.f31.results.toList (code Tryd.f31) .nil (em id f31_ins v).1 (em id f31_ins v).2 (ofin 0 f31_outs) = F31 f32 v := by kernel_rfl
def C31 (v : Int × Unit) : Option (Bool × Unit) := F31 C32 v
theorem ok31 : FnOk Tryd.prog 31 ⟨f31_ins, f31_outs, C31⟩ :=
  fn_ok (np := 0) (n := .nil) hm hΓ (K := (fun f => Ae.look f [(32, ⟨f32_ins, f32_outs, C32⟩)])) (kok_cons ok32 (kok_nil _)) Tryd.func31 (c := code Tryd.f31) (by kernel_rfl) (name_ne (by kernel_rfl))
    (ann_nil _) (fun v => Nat.le_of_ble_eq_true (by kernel_rfl)) (fun v => h31 C32 v)
end Go.Proofs.YtkmojkibclbmjaaDoor.W
