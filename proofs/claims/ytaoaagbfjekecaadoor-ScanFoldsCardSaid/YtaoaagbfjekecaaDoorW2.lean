/- Plain forms of functions. Written by a program. -/
import Derived.Test.YtaoaagbfjekecaaDoorW1
set_option maxRecDepth 100000
set_option linter.unusedVariables false
namespace Go.Proofs.YtaoaagbfjekecaaDoor.W
open Go Go.Ae

def F22_l0 (f23 : Int × Unit → Option (Int × Unit)) : List UInt8 × Int × Int × List UInt8 × Unit → Option ((List UInt8 × Int × Int × List UInt8 × Unit) ⊕ (List UInt8 × Unit)) := fun (x0, x1, x2, x3, _) =>
  bif decide (x2 < x1) then
    bif decide (0 ≤ x2) && decide (x2 < (↑x0.length : Int)) then
      (f23 ((↑(UInt8.toNat (x0.getD x2.toNat 0)) : Int), ())).bind fun val =>
        bif decide (x3.length + [UInt8.ofNat (Int.toNat val.fst)].length ≤ 140737488355328 / 1) then
          some (Sum.inl (x0, x1, IntKind.i64.wrap (x2 + 1), x3 ++ [UInt8.ofNat (Int.toNat val.fst)], ()))
        else none
    else none
  else some (Sum.inr (x3, ()))
theorem h22_l0 (f23 : HS f23_ins → Option (OTy f23_outs)) (v : HS f22_l0_ins) : aev Γ (fun f => Ae.lookA f [(23, ⟨f23_ins, f23_outs, f23⟩)]) 0 (subc (code Tryd.f22) [1, 1, 0, 1, 0, 0]) .nil (stof f22_l0_ins v) (around 0 f22_l0_ins f22_l0_outs) = F22_l0 f23 v := by kernel_rfl
def C22_l0 (v : List UInt8 × Int × Int × List UInt8 × Unit) : Option (List UInt8 × Unit) := loopN (F22_l0 C23) big v
theorem k22_l0 : FragOk Tryd.prog 0 (fun Q a w => (Code.loop (subc (code Tryd.f22) [1, 1, 0, 1, 0, 0])).wp Tryd.prog Q a w) ⟨f22_l0_ins, f22_l0_outs, C22_l0⟩ :=
  frag_loop (ins := f22_l0_ins) (os := f22_l0_outs) (np := 0) (n := .nil) (F := F22_l0 C23) hm hΓ (K := (fun f => Ae.lookA f [(23, ⟨f23_ins, f23_outs, C23⟩)])) (kok_cons ok23 (kok_nil _)) (fun _ => big)
    (ann_nil _) (fun v => h22_l0 C23 v)

def F22 (f22_l0 : List UInt8 × Int × Int × List UInt8 × Unit → Option (List UInt8 × Unit)) : List UInt8 × Unit → Option (List UInt8 × Unit) := fun (x0, _) =>
  (f22_l0 (x0, (↑x0.length : Int), 0, [], ())).bind fun val => some (val.fst, ())
theorem h22 (f22_l0 : HS f22_l0_ins → Option (OTy f22_l0_outs)) (v : HS f22_ins) : afun Γ (fun f => Ae.lookA f []) 0 Tryd.f22.ntmps Tryd.f22.results.toList (code Tryd.f22) (.seq .nil (.seq .nil (.seq (.seq .nil (.blk (.loop ⟨f22_l0_ins, f22_l0_outs, f22_l0⟩))) .nil))) (em id f22_ins v).1 (em id f22_ins v).2 (ofin 0 f22_outs) = F22 f22_l0 v := by kernel_rfl
def C22 (v : List UInt8 × Unit) : Option (List UInt8 × Unit) := F22 C22_l0 v
theorem ok22 : FnOk Tryd.prog 22 ⟨f22_ins, f22_outs, C22⟩ :=
  fn_ok (np := 0) (n := (.seq .nil (.seq .nil (.seq (.seq .nil (.blk (.loop ⟨f22_l0_ins, f22_l0_outs, C22_l0⟩))) .nil)))) hm hΓ (K := (fun f => Ae.lookA f [])) (kok_nil _) Tryd.func22 (c := code Tryd.f22) (by kernel_rfl) (name_ne (by kernel_rfl))
    (ann_seq (a := (subc (code Tryd.f22) [0])) (b := (subc (code Tryd.f22) [1])) (by kernel_rfl) (ann_nil _) (ann_seq (a := (subc (code Tryd.f22) [1, 0])) (b := (subc (code Tryd.f22) [1, 1])) (by kernel_rfl) (ann_nil _) (ann_seq (a := (subc (code Tryd.f22) [1, 1, 0])) (b := (subc (code Tryd.f22) [1, 1, 1])) (by kernel_rfl) (ann_seq (a := (subc (code Tryd.f22) [1, 1, 0, 0])) (b := (subc (code Tryd.f22) [1, 1, 0, 1])) (by kernel_rfl) (ann_nil _) (ann_blk (x := (subc (code Tryd.f22) [1, 1, 0, 1, 0])) (by kernel_rfl) (ann_loop (x := (subc (code Tryd.f22) [1, 1, 0, 1, 0, 0])) (by kernel_rfl) k22_l0))) (ann_nil _)))) (fun v => Nat.le_of_ble_eq_true (by kernel_rfl)) (fun v => h22 C22_l0 v)

def F13 (f22 : List UInt8 × Unit → Option (List UInt8 × Unit)) : List UInt8 × Unit → Option (List UInt8 × Unit) := fun (x0, _) =>
  bif decide (x0.length ≤ 9223372036854775807) then (f22 (x0, ())).bind fun val => some (val.fst, ()) else none
theorem h13 (f22 : HS f22_ins → Option (OTy f22_outs)) (v : HS f13_ins) : afun Γ (fun f => Ae.lookA f [(22, ⟨f22_ins, f22_outs, f22⟩)]) 0 Tryd.f13.ntmps Tryd.f13.results.toList (code Tryd.f13) .nil (em id f13_ins v).1 (em id f13_ins v).2 (ofin 0 f13_outs) = F13 f22 v := by kernel_rfl
def C13 (v : List UInt8 × Unit) : Option (List UInt8 × Unit) := F13 C22 v
theorem ok13 : FnOk Tryd.prog 13 ⟨f13_ins, f13_outs, C13⟩ :=
  fn_ok (np := 0) (n := .nil) hm hΓ (K := (fun f => Ae.lookA f [(22, ⟨f22_ins, f22_outs, C22⟩)])) (kok_cons ok22 (kok_nil _)) Tryd.func13 (c := code Tryd.f13) (by kernel_rfl) (name_ne (by kernel_rfl))
    (ann_nil _) (fun v => Nat.le_of_ble_eq_true (by kernel_rfl)) (fun v => h13 C22 v)

def F28  : Int × Unit → Option (Bool × Unit) := fun (x0, _) =>
  bif decide (x0 ≤ 32) then some (true, ()) else some (decide (x0 > 126), ())
theorem h28  (v : HS f28_ins) : afun Γ (fun f => Ae.lookA f []) 0 Tryd.f28.ntmps Tryd.f28.results.toList (code Tryd.f28) .nil (em id f28_ins v).1 (em id f28_ins v).2 (ofin 0 f28_outs) = F28 v := by kernel_rfl
def C28 (v : Int × Unit) : Option (Bool × Unit) := F28 v
theorem ok28 : FnOk Tryd.prog 28 ⟨f28_ins, f28_outs, C28⟩ :=
  fn_ok (np := 0) (n := .nil) hm hΓ (K := (fun f => Ae.lookA f [])) (kok_nil _) Tryd.func28 (c := code Tryd.f28) (by kernel_rfl) (name_ne (by kernel_rfl))
    (ann_nil _) (fun v => Nat.le_of_ble_eq_true (by kernel_rfl)) (fun v => h28 v)

def F48_l0 (f28 : Int × Unit → Option (Bool × Unit)) : Bool × (List UInt8 × Int) × Unit → Option ((Bool × (List UInt8 × Int) × Unit) ⊕ ((Int × Unit) ⊕ Unit)) := fun (x0, x1, _) =>
  bif decide (Int.toNat x1.snd < List.length x1.fst) then
    (f28 ((↑(decR x1.fst (Int.toNat x1.snd)).fst : Int), ())).bind fun val =>
      bif val.fst == x0 then some (Sum.inr (Sum.inl ((↑(Int.toNat x1.snd) : Int), ())))
      else some (Sum.inl (x0, (x1.fst, (↑(Int.toNat x1.snd + (decR x1.fst (Int.toNat x1.snd)).snd) : Int)), ()))
  else some (Sum.inr (Sum.inr ()))
theorem h48_l0 (f28 : HS f28_ins → Option (OTy f28_outs)) (v : HS f48_l0_ins) : aev Γ (fun f => Ae.lookA f [(28, ⟨f28_ins, f28_outs, f28⟩)]) 0 (subc (code Tryd.f48) [1, 0, 1, 0, 0]) .nil (stof f48_l0_ins v) (around 0 f48_l0_ins f48_l0_outs) = F48_l0 f28 v := by kernel_rfl
def C48_l0 (v : Bool × (List UInt8 × Int) × Unit) : Option ((Int × Unit) ⊕ Unit) := loopN (F48_l0 C28) big v
theorem k48_l0 : FragOk Tryd.prog 0 (fun Q a w => (Code.loop (subc (code Tryd.f48) [1, 0, 1, 0, 0])).wp Tryd.prog Q a w) ⟨f48_l0_ins, f48_l0_outs, C48_l0⟩ :=
  frag_loop (ins := f48_l0_ins) (os := f48_l0_outs) (np := 0) (n := .nil) (F := F48_l0 C28) hm hΓ (K := (fun f => Ae.lookA f [(28, ⟨f28_ins, f28_outs, C28⟩)])) (kok_cons ok28 (kok_nil _)) (fun _ => big)
    (ann_nil _) (fun v => h48_l0 C28 v)

def F48 (f48_l0 : Bool × (List UInt8 × Int) × Unit → Option ((Int × Unit) ⊕ Unit)) : List UInt8 × Bool × Unit → Option (Int × Unit) := fun (x0, x1, _) =>
  (f48_l0 (x1, (x0, (↑0 : Int)), ())).bind fun val =>
    Sum.elim (fun val => some (val.fst, ())) (fun val => some (-1, ())) val
theorem h48 (f48_l0 : HS f48_l0_ins → Option (OTy f48_l0_outs)) (v : HS f48_ins) : afun Γ (fun f => Ae.lookA f []) 0 Tryd.f48.ntmps Tryd.f48.results.toList (code Tryd.f48) (.seq .nil (.seq (.seq .nil (.blk (.loop ⟨f48_l0_ins, f48_l0_outs, f48_l0⟩))) .nil)) (em id f48_ins v).1 (em id f48_ins v).2 (ofin 0 f48_outs) = F48 f48_l0 v := by kernel_rfl
def C48 (v : List UInt8 × Bool × Unit) : Option (Int × Unit) := F48 C48_l0 v
theorem ok48 : FnOk Tryd.prog 48 ⟨f48_ins, f48_outs, C48⟩ :=
  fn_ok (np := 0) (n := (.seq .nil (.seq (.seq .nil (.blk (.loop ⟨f48_l0_ins, f48_l0_outs, C48_l0⟩))) .nil))) hm hΓ (K := (fun f => Ae.lookA f [])) (kok_nil _) Tryd.func48 (c := code Tryd.f48) (by kernel_rfl) (name_ne (by kernel_rfl))
    (ann_seq (a := (subc (code Tryd.f48) [0])) (b := (subc (code Tryd.f48) [1])) (by kernel_rfl) (ann_nil _) (ann_seq (a := (subc (code Tryd.f48) [1, 0])) (b := (subc (code Tryd.f48) [1, 1])) (by kernel_rfl) (ann_seq (a := (subc (code Tryd.f48) [1, 0, 0])) (b := (subc (code Tryd.f48) [1, 0, 1])) (by kernel_rfl) (ann_nil _) (ann_blk (x := (subc (code Tryd.f48) [1, 0, 1, 0])) (by kernel_rfl) (ann_loop (x := (subc (code Tryd.f48) [1, 0, 1, 0, 0])) (by kernel_rfl) k48_l0))) (ann_nil _))) (fun v => Nat.le_of_ble_eq_true (by kernel_rfl)) (fun v => h48 C48_l0 v)

def F41 (f48 : List UInt8 × Bool × Unit → Option (Int × Unit)) : List UInt8 × Unit → Option (Int × Unit) := fun (x0, _) =>
  (f48 (x0, true, ())).bind fun val => some (val.fst, ())
theorem h41 (f48 : HS f48_ins → Option (OTy f48_outs)) (v : HS f41_ins) : afun Γ (fun f => Ae.lookA f [(48, ⟨f48_ins, f48_outs, f48⟩)]) 0 Tryd.f41.ntmps Tryd.f41.results.toList (code Tryd.f41) .nil (em id f41_ins v).1 (em id f41_ins v).2 (ofin 0 f41_outs) = F41 f48 v := by kernel_rfl
def C41 (v : List UInt8 × Unit) : Option (Int × Unit) := F41 C48 v
theorem ok41 : FnOk Tryd.prog 41 ⟨f41_ins, f41_outs, C41⟩ :=
  fn_ok (np := 0) (n := .nil) hm hΓ (K := (fun f => Ae.lookA f [(48, ⟨f48_ins, f48_outs, C48⟩)])) (kok_cons ok48 (kok_nil _)) Tryd.func41 (c := code Tryd.f41) (by kernel_rfl) (name_ne (by kernel_rfl))
    (ann_nil _) (fun v => Nat.le_of_ble_eq_true (by kernel_rfl)) (fun v => h41 C48 v)

def F29 (f41 : List UInt8 × Unit → Option (Int × Unit)) : List UInt8 × Unit → Option (Bool × Unit) := fun (x0, _) =>
  (f41 (x0, ())).bind fun val => some (decide (val.fst ≥ 0), ())
theorem h29 (f41 : HS f41_ins → Option (OTy f41_outs)) (v : HS f29_ins) : afun Γ (fun f => Ae.lookA f [(41, ⟨f41_ins, f41_outs, f41⟩)]) 0 Tryd.f29.ntmps Tryd.f29.results.toList (code Tryd.f29) .nil (em id f29_ins v).1 (em id f29_ins v).2 (ofin 0 f29_outs) = F29 f41 v := by kernel_rfl
def C29 (v : List UInt8 × Unit) : Option (Bool × Unit) := F29 C41 v
theorem ok29 : FnOk Tryd.prog 29 ⟨f29_ins, f29_outs, C29⟩ :=
  fn_ok (np := 0) (n := .nil) hm hΓ (K := (fun f => Ae.lookA f [(41, ⟨f41_ins, f41_outs, C41⟩)])) (kok_cons ok41 (kok_nil _)) Tryd.func29 (c := code Tryd.f29) (by kernel_rfl) (name_ne (by kernel_rfl))
    (ann_nil _) (fun v => Nat.le_of_ble_eq_true (by kernel_rfl)) (fun v => h29 C41 v)

def F20 (f13 : List UInt8 × Unit → Option (List UInt8 × Unit)) (f27 : List UInt8 × List UInt8 × Unit → Option (List UInt8 × List UInt8 × Bool × Unit)) (f29 : List UInt8 × Unit → Option (Bool × Unit)) : List UInt8 × Unit → Option (List UInt8 × List UInt8 × Bool × Unit) := fun (x0, _) =>
  (f27 (x0, [58], ())).bind fun val =>
    (f13 (val.fst, ())).bind fun val_1 =>
      bif val.snd.snd.fst then
        bif !val.fst == [] then
          (f29 (val.fst, ())).bind fun val_2 =>
            some (val_1.fst, val.snd.fst, bif val_2.fst then false else true, ())
        else some (val_1.fst, val.snd.fst, false, ())
      else some (val_1.fst, val.snd.fst, false, ())
theorem h20 (f13 : HS f13_ins → Option (OTy f13_outs)) (f27 : HS f27_ins → Option (OTy f27_outs)) (f29 : HS f29_ins → Option (OTy f29_outs)) (v : HS f20_ins) : afun Γ (fun f => Ae.lookA f [(13, ⟨f13_ins, f13_outs, f13⟩), (27, ⟨f27_ins, f27_outs, f27⟩), (29, ⟨f29_ins, f29_outs, f29⟩)]) 0 Tryd.f20.ntmps Tryd.f20.results.toList (code Tryd.f20) .nil (em id f20_ins v).1 (em id f20_ins v).2 (ofin 0 f20_outs) = F20 f13 f27 f29 v := by kernel_rfl
def C20 (v : List UInt8 × Unit) : Option (List UInt8 × List UInt8 × Bool × Unit) := F20 C13 C27 C29 v
theorem ok20 : FnOk Tryd.prog 20 ⟨f20_ins, f20_outs, C20⟩ :=
  fn_ok (np := 0) (n := .nil) hm hΓ (K := (fun f => Ae.lookA f [(13, ⟨f13_ins, f13_outs, C13⟩), (27, ⟨f27_ins, f27_outs, C27⟩), (29, ⟨f29_ins, f29_outs, C29⟩)])) (kok_cons ok13 (kok_cons ok27 (kok_cons ok29 (kok_nil _)))) Tryd.func20 (c := code Tryd.f20) (by kernel_rfl) (name_ne (by kernel_rfl))
    (ann_nil _) (fun v => Nat.le_of_ble_eq_true (by kernel_rfl)) (fun v => h20 C13 C27 C29 v)
end Go.Proofs.YtaoaagbfjekecaaDoor.W
