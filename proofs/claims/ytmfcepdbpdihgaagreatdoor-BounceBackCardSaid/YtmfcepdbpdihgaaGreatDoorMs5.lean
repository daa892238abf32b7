/- Plain forms of functions. Written by a program. -/
import Derived.Test.YtmfcepdbpdihgaaGreatDoorMs4
import Derived.Test.YtmfcepdbpdihgaaGreatDoorMs2
set_option maxRecDepth 100000
set_option linter.unusedVariables false
namespace Go.Proofs.YtmfcepdbpdihgaaGreatDoor.W
open Go Go.Ae

def F30_c2 (f30_l0 : List UInt8 × Int × Int × Unit → Option ((Int × Unit) ⊕ (Int × Unit))) : List UInt8 × Unit → Option (Int × Unit) := fun (x0, _) =>
  (f30_l0 (x0, 0, 0, ())).bind fun val =>
    Sum.elim (fun val => some (val.fst, ())) (fun val => some (val.fst, ())) val
theorem h30_c2 (f30_l0 : HS f30_l0_ins → Option (OTy f30_l0_outs)) (v : HS f30_c2_ins) : aev Γ (fun f => Ae.lookA f []) 0 (subc (code Tryz.f30) [1, 1]) (.seq .nil (.seq (.seq .nil (.blk (.loop ⟨f30_l0_ins, f30_l0_outs, f30_l0⟩))) .nil)) (stof f30_c2_ins v) (oout 0 f30_c2_outs) = F30_c2 f30_l0 v := by kernel_rfl
def C30_c2 (v : List UInt8 × Unit) : Option (Int × Unit) := F30_c2 C30_l0 v
theorem k30_c2 : FragOk Tryz.prog 0 (fun Q a w => ((subc (code Tryz.f30) [1, 1])).wp Tryz.prog Q a w) ⟨f30_c2_ins, f30_c2_outs, C30_c2⟩ :=
  frag_code (ins := f30_c2_ins) (os := f30_c2_outs) (np := 0) (n := (.seq .nil (.seq (.seq .nil (.blk (.loop ⟨f30_l0_ins, f30_l0_outs, C30_l0⟩))) .nil))) (F := C30_c2) hm hΓ (K := (fun f => Ae.lookA f [])) (kok_nil _)
    (ann_seq (a := (subc (code Tryz.f30) [1, 1, 0])) (b := (subc (code Tryz.f30) [1, 1, 1])) (by kernel_rfl) (ann_nil _) (ann_seq (a := (subc (code Tryz.f30) [1, 1, 1, 0])) (b := (subc (code Tryz.f30) [1, 1, 1, 1])) (by kernel_rfl) (ann_seq (a := (subc (code Tryz.f30) [1, 1, 1, 0, 0])) (b := (subc (code Tryz.f30) [1, 1, 1, 0, 1])) (by kernel_rfl) (ann_nil _) (ann_blk (x := (subc (code Tryz.f30) [1, 1, 1, 0, 1, 0])) (by kernel_rfl) (ann_loop (x := (subc (code Tryz.f30) [1, 1, 1, 0, 1, 0, 0])) (by kernel_rfl) k30_l0))) (ann_nil _))) (fun v => h30_c2 C30_l0 v)

def F30 (f30_c2 : List UInt8 × Unit → Option (Int × Unit)) : List UInt8 × Unit → Option (Int × Unit) := fun (x0, _) =>
  bif decide ((↑x0.length : Int) < 1) then some (-1, ())
  else
    bif decide ((↑x0.length : Int) > 6) then some (-1, ())
    else
      bif decide ((↑x0.length : Int) > 1) then
        bif decide (0 < (↑x0.length : Int)) then
          bif (↑(x0.getD 0 0).toNat : Int) == 48 then some (-1, ())
          else (f30_c2 (x0, ())).bind fun val => some (val.fst, ())
        else none
      else (f30_c2 (x0, ())).bind fun val => some (val.fst, ())
theorem h30 (f30_c2 : HS f30_c2_ins → Option (OTy f30_c2_outs)) (v : HS f30_ins) : afun Γ (fun f => Ae.lookA f []) 0 Tryz.f30.ntmps Tryz.f30.results.toList (code Tryz.f30) (.seq .nil (.cut .nil ⟨f30_c2_ins, f30_c2_outs, f30_c2⟩)) (em id f30_ins v).1 (em id f30_ins v).2 (ofin 0 f30_outs) = F30 f30_c2 v := by kernel_rfl
def C30 (v : List UInt8 × Unit) : Option (Int × Unit) := F30 C30_c2 v
theorem ok30 : FnOk Tryz.prog 30 ⟨f30_ins, f30_outs, C30⟩ :=
  fn_ok (np := 0) (n := (.seq .nil (.cut .nil ⟨f30_c2_ins, f30_c2_outs, C30_c2⟩))) hm hΓ (K := (fun f => Ae.lookA f [])) (kok_nil _) Tryz.func30 (c := code Tryz.f30) (by kernel_rfl) (name_ne (by kernel_rfl))
    (ann_seq (a := (subc (code Tryz.f30) [0])) (b := (subc (code Tryz.f30) [1])) (by kernel_rfl) (ann_nil _) (ann_cut (a := (subc (code Tryz.f30) [1, 0])) (b := (subc (code Tryz.f30) [1, 1])) (by kernel_rfl) (ann_nil _) k30_c2)) (fun v => Nat.le_of_ble_eq_true (by kernel_rfl)) (fun v => h30 C30_c2 v)

def F64  : Int × Unit → Option (Bool × Unit) := fun (x0, _) =>
  bif decide (x0 ≥ 0) then
    bif decide (x0 ≤ 1114111) then
      bif decide (x0 < 55296) then some (true, ()) else some (decide (x0 > 57343), ())
    else some (false, ())
  else some (false, ())
theorem h64  (v : HS f64_ins) : afun Γ (fun f => Ae.lookA f []) 0 Tryz.f64.ntmps Tryz.f64.results.toList (code Tryz.f64) .nil (em id f64_ins v).1 (em id f64_ins v).2 (ofin 0 f64_outs) = F64 v := by kernel_rfl
def C64 (v : Int × Unit) : Option (Bool × Unit) := F64 v
theorem ok64 : FnOk Tryz.prog 64 ⟨f64_ins, f64_outs, C64⟩ :=
  fn_ok (np := 0) (n := .nil) hm hΓ (K := (fun f => Ae.lookA f [])) (kok_nil _) Tryz.func64 (c := code Tryz.f64) (by kernel_rfl) (name_ne (by kernel_rfl))
    (ann_nil _) (fun v => Nat.le_of_ble_eq_true (by kernel_rfl)) (fun v => h64 v)

def F92 (f64 : Int × Unit → Option (Bool × Unit)) : Int × Unit → Option (Int × Unit) := fun (x0, _) =>
  (f64 (x0, ())).bind fun val =>
    bif !val.fst then some (0, ())
    else
      bif decide (x0 ≤ 127) then some (1, ())
      else
        bif decide (x0 ≤ 2047) then some (2, ())
        else bif decide (x0 ≤ 65535) then some (3, ()) else some (4, ())
theorem h92 (f64 : HS f64_ins → Option (OTy f64_outs)) (v : HS f92_ins) : afun Γ (fun f => Ae.lookA f [(64, ⟨f64_ins, f64_outs, f64⟩)]) 0 Tryz.f92.ntmps Tryz.f92.results.toList (code Tryz.f92) .nil (em id f92_ins v).1 (em id f92_ins v).2 (ofin 0 f92_outs) = F92 f64 v := by kernel_rfl
def C92 (v : Int × Unit) : Option (Int × Unit) := F92 C64 v
theorem ok92 : FnOk Tryz.prog 92 ⟨f92_ins, f92_outs, C92⟩ :=
  fn_ok (np := 0) (n := .nil) hm hΓ (K := (fun f => Ae.lookA f [(64, ⟨f64_ins, f64_outs, C64⟩)])) (kok_cons ok64 (kok_nil _)) Tryz.func92 (c := code Tryz.f92) (by kernel_rfl) (name_ne (by kernel_rfl))
    (ann_nil _) (fun v => Nat.le_of_ble_eq_true (by kernel_rfl)) (fun v => h92 C64 v)

def F65 (f92 : Int × Unit → Option (Int × Unit)) : Int × Unit → Option (List UInt8 × Unit) := fun (x0, _) =>
  (f92 (x0, ())).bind fun val =>
    bif val.fst == 1 then some ([UInt8.ofNat (IntKind.u8.wrap x0).toNat], ())
    else
      bif val.fst == 2 then
        some
          ([UInt8.ofNat (IntKind.u8.wrap (IntKind.i32.wrap (192 + IntKind.i32.wrap (x0.tdiv 64)))).toNat,
              UInt8.ofNat (IntKind.u8.wrap (IntKind.i32.wrap (128 + x0.tmod 64))).toNat],
            ())
      else
        bif val.fst == 3 then
          some
            ([UInt8.ofNat (IntKind.u8.wrap (IntKind.i32.wrap (224 + IntKind.i32.wrap (x0.tdiv 4096)))).toNat,
                UInt8.ofNat (IntKind.u8.wrap (IntKind.i32.wrap (128 + (IntKind.i32.wrap (x0.tdiv 64)).tmod 64))).toNat,
                UInt8.ofNat (IntKind.u8.wrap (IntKind.i32.wrap (128 + x0.tmod 64))).toNat],
              ())
        else
          bif val.fst == 4 then
            some
              ([UInt8.ofNat (IntKind.u8.wrap (IntKind.i32.wrap (240 + IntKind.i32.wrap (x0.tdiv 262144)))).toNat,
                  UInt8.ofNat
                    (IntKind.u8.wrap (IntKind.i32.wrap (128 + (IntKind.i32.wrap (x0.tdiv 4096)).tmod 64))).toNat,
                  UInt8.ofNat (IntKind.u8.wrap (IntKind.i32.wrap (128 + (IntKind.i32.wrap (x0.tdiv 64)).tmod 64))).toNat,
                  UInt8.ofNat (IntKind.u8.wrap (IntKind.i32.wrap (128 + x0.tmod 64))).toNat],
                ())
          else some ([], ())
theorem h65 (f92 : HS f92_ins → Option (OTy f92_outs)) (v : HS f65_ins) : afun Γ (fun f => Ae.lookA f [(92, ⟨f92_ins, f92_outs, f92⟩)]) 0 Tryz.f65.ntmps Tryz.f65.results.toList (code Tryz.f65) .nil (em id f65_ins v).1 (em id f65_ins v).2 (ofin 0 f65_outs) = F65 f92 v := by kernel_rfl
def C65 (v : Int × Unit) : Option (List UInt8 × Unit) := F65 C92 v
theorem ok65 : FnOk Tryz.prog 65 ⟨f65_ins, f65_outs, C65⟩ :=
  fn_ok (np := 0) (n := .nil) hm hΓ (K := (fun f => Ae.lookA f [(92, ⟨f92_ins, f92_outs, C92⟩)])) (kok_cons ok92 (kok_nil _)) Tryz.func65 (c := code Tryz.f65) (by kernel_rfl) (name_ne (by kernel_rfl))
    (ann_nil _) (fun v => Nat.le_of_ble_eq_true (by kernel_rfl)) (fun v => h65 C92 v)

def F31_l0 (f64 : Int × Unit → Option (Bool × Unit)) (f65 : Int × Unit → Option (List UInt8 × Unit)) : List (Int) × Int × List UInt8 × Unit → Option ((List (Int) × Int × List UInt8 × Unit) ⊕ ((List UInt8 × Unit) ⊕ (List UInt8 × Bool × Unit))) := fun (x0, x1, x2, _) =>
  bif decide (x1 < (↑x0.length : Int)) then
    bif decide (0 ≤ x1) && decide (x1 < (↑x0.length : Int)) then
      (f64 (x0.getD x1.toNat 0, ())).bind fun val =>
        bif !val.fst then some (Sum.inr (Sum.inr ([], false, ())))
        else
          bif decide (0 ≤ x1) && decide (x1 < (↑x0.length : Int)) then
            (f65 (x0.getD x1.toNat 0, ())).bind fun val =>
              bif decide (x2.length + List.length val.fst ≤ 140737488355328 / 1) then
                some (Sum.inl (x0, IntKind.i64.wrap (x1 + 1), x2 ++ val.fst, ()))
              else none
          else none
    else none
  else some (Sum.inr (Sum.inl (x2, ())))
theorem h31_l0 (f64 : HS f64_ins → Option (OTy f64_outs)) (f65 : HS f65_ins → Option (OTy f65_outs)) (v : HS f31_l0_ins) : aev Γ (fun f => Ae.lookA f [(64, ⟨f64_ins, f64_outs, f64⟩), (65, ⟨f65_ins, f65_outs, f65⟩)]) 0 (subc (code Tryz.f31) [1, 1, 0, 1, 0, 0]) .nil (stof f31_l0_ins v) (around 0 f31_l0_ins f31_l0_outs) = F31_l0 f64 f65 v := by kernel_rfl
def C31_l0 (v : List (Int) × Int × List UInt8 × Unit) : Option ((List UInt8 × Unit) ⊕ (List UInt8 × Bool × Unit)) := loopN (F31_l0 C64 C65) big v
theorem k31_l0 : FragOk Tryz.prog 0 (fun Q a w => (Code.loop (subc (code Tryz.f31) [1, 1, 0, 1, 0, 0])).wp Tryz.prog Q a w) ⟨f31_l0_ins, f31_l0_outs, C31_l0⟩ :=
  frag_loop (ins := f31_l0_ins) (os := f31_l0_outs) (np := 0) (n := .nil) (F := F31_l0 C64 C65) hm hΓ (K := (fun f => Ae.lookA f [(64, ⟨f64_ins, f64_outs, C64⟩), (65, ⟨f65_ins, f65_outs, C65⟩)])) (kok_cons ok64 (kok_cons ok65 (kok_nil _))) (fun _ => big)
    (ann_nil _) (fun v => h31_l0 C64 C65 v)

def F31 (f31_l0 : List (Int) × Int × List UInt8 × Unit → Option ((List UInt8 × Unit) ⊕ (List UInt8 × Bool × Unit))) : List (Int) × Unit → Option (List UInt8 × Bool × Unit) := fun (x0, _) =>
  (f31_l0 (x0, 0, [], ())).bind fun val =>
    Sum.elim (fun val => some (val.fst, true, ())) (fun val => some (val.fst, val.snd.fst, ())) val
theorem h31 (f31_l0 : HS f31_l0_ins → Option (OTy f31_l0_outs)) (v : HS f31_ins) : afun Γ (fun f => Ae.lookA f []) 0 Tryz.f31.ntmps Tryz.f31.results.toList (code Tryz.f31) (.seq .nil (.seq .nil (.seq (.seq .nil (.blk (.loop ⟨f31_l0_ins, f31_l0_outs, f31_l0⟩))) .nil))) (em id f31_ins v).1 (em id f31_ins v).2 (ofin 0 f31_outs) = F31 f31_l0 v := by kernel_rfl
def C31 (v : List (Int) × Unit) : Option (List UInt8 × Bool × Unit) := F31 C31_l0 v
theorem ok31 : FnOk Tryz.prog 31 ⟨f31_ins, f31_outs, C31⟩ :=
  fn_ok (np := 0) (n := (.seq .nil (.seq .nil (.seq (.seq .nil (.blk (.loop ⟨f31_l0_ins, f31_l0_outs, C31_l0⟩))) .nil)))) hm hΓ (K := (fun f => Ae.lookA f [])) (kok_nil _) Tryz.func31 (c := code Tryz.f31) (by kernel_rfl) (name_ne (by kernel_rfl))
    (ann_seq (a := (subc (code Tryz.f31) [0])) (b := (subc (code Tryz.f31) [1])) (by kernel_rfl) (ann_nil _) (ann_seq (a := (subc (code Tryz.f31) [1, 0])) (b := (subc (code Tryz.f31) [1, 1])) (by kernel_rfl) (ann_nil _) (ann_seq (a := (subc (code Tryz.f31) [1, 1, 0])) (b := (subc (code Tryz.f31) [1, 1, 1])) (by kernel_rfl) (ann_seq (a := (subc (code Tryz.f31) [1, 1, 0, 0])) (b := (subc (code Tryz.f31) [1, 1, 0, 1])) (by kernel_rfl) (ann_nil _) (ann_blk (x := (subc (code Tryz.f31) [1, 1, 0, 1, 0])) (by kernel_rfl) (ann_loop (x := (subc (code Tryz.f31) [1, 1, 0, 1, 0, 0])) (by kernel_rfl) k31_l0))) (ann_nil _)))) (fun v => Nat.le_of_ble_eq_true (by kernel_rfl)) (fun v => h31 C31_l0 v)

def F10_l0  : List UInt8 × Int × Int × List (Int) × Unit → Option ((List UInt8 × Int × Int × List (Int) × Unit) ⊕ (List UInt8 × Int × Int × List (Int) × Unit)) := fun (x0, x1, x2, x3, _) =>
  bif decide (x2 < (↑x0.length : Int)) then
    bif decide (0 ≤ x2) && decide (x2 < (↑x0.length : Int)) then
      bif (↑(x0.getD x2.toNat 0).toNat : Int) != 125 then
        some (Sum.inl (x0, x1, IntKind.i64.wrap (x2 + 1), x3, ()))
      else some (Sum.inr (x0, x1, x2, x3, ()))
    else none
  else some (Sum.inr (x0, x1, x2, x3, ()))
theorem h10_l0  (v : HS f10_l0_ins) : aev Γ (fun f => Ae.lookA f []) 0 (subc (code Tryz.f10) [1, 1, 0, 1, 0, 0, 1, 0, 0, 1, 1, 1, 0, 0, 0]) .nil (stof f10_l0_ins v) (around 0 f10_l0_ins f10_l0_outs) = F10_l0 v := by kernel_rfl
def C10_l0 (v : List UInt8 × Int × Int × List (Int) × Unit) : Option (List UInt8 × Int × Int × List (Int) × Unit) := loopN (F10_l0) big v
theorem k10_l0 : FragOk Tryz.prog 0 (fun Q a w => (Code.loop (subc (code Tryz.f10) [1, 1, 0, 1, 0, 0, 1, 0, 0, 1, 1, 1, 0, 0, 0])).wp Tryz.prog Q a w) ⟨f10_l0_ins, f10_l0_outs, C10_l0⟩ :=
  frag_loop (ins := f10_l0_ins) (os := f10_l0_outs) (np := 0) (n := .nil) (F := F10_l0) hm hΓ (K := (fun f => Ae.lookA f [])) (kok_nil _) (fun _ => big)
    (ann_nil _) (fun v => h10_l0 v)

def F10_c0 (f29 : Int × Unit → Option (Bool × Unit)) (f30 : List UInt8 × Unit → Option (Int × Unit)) (f10_l0 : List UInt8 × Int × Int × List (Int) × Unit → Option (List UInt8 × Int × Int × List (Int) × Unit)) : List UInt8 × Int × List (Int) × Unit → Option ((List UInt8 × Bool × Unit) ⊕ (List UInt8 × Int × List (Int) × Unit)) := fun (x0, x1, x2, _) =>
  (f10_l0 (x0, x1, IntKind.i64.wrap (x1 + 3), x2, ())).bind fun val =>
    bif val.snd.snd.fst == (↑(List.length val.fst) : Int) then some (Sum.inl ([], false, ()))
    else
      bif decide (0 ≤ val.snd.snd.fst) && decide (val.snd.snd.fst ≤ (↑(List.length val.fst) : Int)) then
        bif
            decide (0 ≤ IntKind.i64.wrap (val.snd.fst + 3)) &&
              decide (IntKind.i64.wrap (val.snd.fst + 3) ≤ val.snd.snd.fst) then
          (f30
                (List.drop (IntKind.i64.wrap (val.snd.fst + 3)).toNat (List.take (Int.toNat val.snd.snd.fst) val.fst),
                  ())).bind
            fun val_1 =>
            bif decide (val_1.fst < 0) then some (Sum.inl ([], false, ()))
            else
              bif decide (val_1.fst > 1114111) then some (Sum.inl ([], false, ()))
              else
                (f29 (IntKind.i32.wrap val_1.fst, ())).bind fun val_2 =>
                  bif val_2.fst then some (Sum.inl ([], false, ()))
                  else
                    bif
                        decide
                          (List.length val.snd.snd.snd.fst + [IntKind.i32.wrap val_1.fst].length ≤
                            140737488355328 / 4) then
                      some
                        (Sum.inr
                          (val.fst, val.snd.snd.fst, val.snd.snd.snd.fst ++ [IntKind.i32.wrap val_1.fst], ()))
                    else none
        else none
      else none
theorem h10_c0 (f29 : HS f29_ins → Option (OTy f29_outs)) (f30 : HS f30_ins → Option (OTy f30_outs)) (f10_l0 : HS f10_l0_ins → Option (OTy f10_l0_outs)) (v : HS f10_c0_ins) : aev Γ (fun f => Ae.lookA f [(29, ⟨f29_ins, f29_outs, f29⟩), (30, ⟨f30_ins, f30_outs, f30⟩)]) 0 (subc (code Tryz.f10) [1, 1, 0, 1, 0, 0, 1, 0, 0, 1, 1]) (.seq .nil (.seq (.blk (.loop ⟨f10_l0_ins, f10_l0_outs, f10_l0⟩)) .nil)) (stof f10_c0_ins v) (oout 0 f10_c0_outs) = F10_c0 f29 f30 f10_l0 v := by kernel_rfl
def C10_c0 (v : List UInt8 × Int × List (Int) × Unit) : Option ((List UInt8 × Bool × Unit) ⊕ (List UInt8 × Int × List (Int) × Unit)) := F10_c0 C29 C30 C10_l0 v
theorem k10_c0 : FragOk Tryz.prog 0 (fun Q a w => ((subc (code Tryz.f10) [1, 1, 0, 1, 0, 0, 1, 0, 0, 1, 1])).wp Tryz.prog Q a w) ⟨f10_c0_ins, f10_c0_outs, C10_c0⟩ :=
  frag_code (ins := f10_c0_ins) (os := f10_c0_outs) (np := 0) (n := (.seq .nil (.seq (.blk (.loop ⟨f10_l0_ins, f10_l0_outs, C10_l0⟩)) .nil))) (F := C10_c0) hm hΓ (K := (fun f => Ae.lookA f [(29, ⟨f29_ins, f29_outs, C29⟩), (30, ⟨f30_ins, f30_outs, C30⟩)])) (kok_cons ok29 (kok_cons ok30 (kok_nil _)))
    (ann_seq (a := (subc (code Tryz.f10) [1, 1, 0, 1, 0, 0, 1, 0, 0, 1, 1, 0])) (b := (subc (code Tryz.f10) [1, 1, 0, 1, 0, 0, 1, 0, 0, 1, 1, 1])) (by kernel_rfl) (ann_nil _) (ann_seq (a := (subc (code Tryz.f10) [1, 1, 0, 1, 0, 0, 1, 0, 0, 1, 1, 1, 0])) (b := (subc (code Tryz.f10) [1, 1, 0, 1, 0, 0, 1, 0, 0, 1, 1, 1, 1])) (by kernel_rfl) (ann_blk (x := (subc (code Tryz.f10) [1, 1, 0, 1, 0, 0, 1, 0, 0, 1, 1, 1, 0, 0])) (by kernel_rfl) (ann_loop (x := (subc (code Tryz.f10) [1, 1, 0, 1, 0, 0, 1, 0, 0, 1, 1, 1, 0, 0, 0])) (by kernel_rfl) k10_l0)) (ann_nil _))) (fun v => h10_c0 C29 C30 C10_l0 v)

def F10_l1 (f29 : Int × Unit → Option (Bool × Unit)) (f10_c0 : List UInt8 × Int × List (Int) × Unit → Option ((List UInt8 × Bool × Unit) ⊕ (List UInt8 × Int × List (Int) × Unit))) : List UInt8 × Int × List (Int) × Unit → Option ((List UInt8 × Int × List (Int) × Unit) ⊕ ((List (Int) × Unit) ⊕ (List UInt8 × Bool × Unit))) := fun (x0, x1, x2, _) =>
  bif decide (x1 < (↑x0.length : Int)) then
    bif decide (0 ≤ x1) && decide (x1 < (↑x0.length : Int)) then
      (f29 (IntKind.i32.wrap (↑(x0.getD x1.toNat 0).toNat : Int), ())).bind fun val =>
        bif val.fst then
          bif decide (0 ≤ x1) && decide (x1 < (↑x0.length : Int)) then
            bif
                decide
                  (x2.length + [IntKind.i32.wrap (↑(x0.getD x1.toNat 0).toNat : Int)].length ≤ 140737488355328 / 4) then
              some
                (Sum.inl
                  (x0, IntKind.i64.wrap (x1 + 1), x2 ++ [IntKind.i32.wrap (↑(x0.getD x1.toNat 0).toNat : Int)],
                    ()))
            else none
          else none
        else
          bif decide (IntKind.i64.wrap ((↑x0.length : Int) - x1) < 4) then
            some (Sum.inr (Sum.inr ([], false, ())))
          else
            bif decide (0 ≤ x1) && decide (x1 < (↑x0.length : Int)) then
              bif (↑(x0.getD x1.toNat 0).toNat : Int) != 92 then some (Sum.inr (Sum.inr ([], false, ())))
              else
                bif decide (0 ≤ IntKind.i64.wrap (x1 + 1)) && decide (IntKind.i64.wrap (x1 + 1) < (↑x0.length : Int)) then
                  bif (↑(x0.getD (IntKind.i64.wrap (x1 + 1)).toNat 0).toNat : Int) != 120 then
                    some (Sum.inr (Sum.inr ([], false, ())))
                  else
                    bif
                        decide (0 ≤ IntKind.i64.wrap (x1 + 2)) &&
                          decide (IntKind.i64.wrap (x1 + 2) < (↑x0.length : Int)) then
                      bif (↑(x0.getD (IntKind.i64.wrap (x1 + 2)).toNat 0).toNat : Int) != 123 then
                        some (Sum.inr (Sum.inr ([], false, ())))
                      else
                        (f10_c0 (x0, x1, x2, ())).bind fun val =>
                          Sum.elim (fun val => some (Sum.inr (Sum.inr (val.fst, val.snd.fst, ()))))
                            (fun val =>
                              some (Sum.inl (val.fst, IntKind.i64.wrap (val.snd.fst + 1), val.snd.snd.fst, ())))
                            val
                    else none
                else none
            else none
    else none
  else some (Sum.inr (Sum.inl (x2, ())))
theorem h10_l1 (f29 : HS f29_ins → Option (OTy f29_outs)) (f10_c0 : HS f10_c0_ins → Option (OTy f10_c0_outs)) (v : HS f10_l1_ins) : aev Γ (fun f => Ae.lookA f [(29, ⟨f29_ins, f29_outs, f29⟩)]) 0 (subc (code Tryz.f10) [1, 1, 0, 1, 0, 0]) (.seq .nil (.seq (.blk (.seq .nil (.cut .nil ⟨f10_c0_ins, f10_c0_outs, f10_c0⟩))) .nil)) (stof f10_l1_ins v) (around 0 f10_l1_ins f10_l1_outs) = F10_l1 f29 f10_c0 v := by kernel_rfl
def C10_l1 (v : List UInt8 × Int × List (Int) × Unit) : Option ((List (Int) × Unit) ⊕ (List UInt8 × Bool × Unit)) := loopN (F10_l1 C29 C10_c0) big v
theorem k10_l1 : FragOk Tryz.prog 0 (fun Q a w => (Code.loop (subc (code Tryz.f10) [1, 1, 0, 1, 0, 0])).wp Tryz.prog Q a w) ⟨f10_l1_ins, f10_l1_outs, C10_l1⟩ :=
  frag_loop (ins := f10_l1_ins) (os := f10_l1_outs) (np := 0) (n := (.seq .nil (.seq (.blk (.seq .nil (.cut .nil ⟨f10_c0_ins, f10_c0_outs, C10_c0⟩))) .nil))) (F := F10_l1 C29 C10_c0) hm hΓ (K := (fun f => Ae.lookA f [(29, ⟨f29_ins, f29_outs, C29⟩)])) (kok_cons ok29 (kok_nil _)) (fun _ => big)
    (ann_seq (a := (subc (code Tryz.f10) [1, 1, 0, 1, 0, 0, 0])) (b := (subc (code Tryz.f10) [1, 1, 0, 1, 0, 0, 1])) (by kernel_rfl) (ann_nil _) (ann_seq (a := (subc (code Tryz.f10) [1, 1, 0, 1, 0, 0, 1, 0])) (b := (subc (code Tryz.f10) [1, 1, 0, 1, 0, 0, 1, 1])) (by kernel_rfl) (ann_blk (x := (subc (code Tryz.f10) [1, 1, 0, 1, 0, 0, 1, 0, 0])) (by kernel_rfl) (ann_seq (a := (subc (code Tryz.f10) [1, 1, 0, 1, 0, 0, 1, 0, 0, 0])) (b := (subc (code Tryz.f10) [1, 1, 0, 1, 0, 0, 1, 0, 0, 1])) (by kernel_rfl) (ann_nil _) (ann_cut (a := (subc (code Tryz.f10) [1, 1, 0, 1, 0, 0, 1, 0, 0, 1, 0])) (b := (subc (code Tryz.f10) [1, 1, 0, 1, 0, 0, 1, 0, 0, 1, 1])) (by kernel_rfl) (ann_nil _) k10_c0))) (ann_nil _))) (fun v => h10_l1 C29 C10_c0 v)

def F10 (f31 : List (Int) × Unit → Option (List UInt8 × Bool × Unit)) (f10_l1 : List UInt8 × Int × List (Int) × Unit → Option ((List (Int) × Unit) ⊕ (List UInt8 × Bool × Unit))) : List UInt8 × Unit → Option (List UInt8 × Bool × Unit) := fun (x0, _) =>
  (f10_l1 (x0, 0, [], ())).bind fun val =>
    Sum.elim (fun val => (f31 (val.fst, ())).bind fun val => some (val.fst, val.snd.fst, ()))
      (fun val => some (val.fst, val.snd.fst, ())) val
theorem h10 (f31 : HS f31_ins → Option (OTy f31_outs)) (f10_l1 : HS f10_l1_ins → Option (OTy f10_l1_outs)) (v : HS f10_ins) : afun Γ (fun f => Ae.lookA f [(31, ⟨f31_ins, f31_outs, f31⟩)]) 0 Tryz.f10.ntmps Tryz.f10.results.toList (code Tryz.f10) (.seq .nil (.seq .nil (.seq (.seq .nil (.blk (.loop ⟨f10_l1_ins, f10_l1_outs, f10_l1⟩))) .nil))) (em id f10_ins v).1 (em id f10_ins v).2 (ofin 0 f10_outs) = F10 f31 f10_l1 v := by kernel_rfl
def C10 (v : List UInt8 × Unit) : Option (List UInt8 × Bool × Unit) := F10 C31 C10_l1 v
theorem ok10 : FnOk Tryz.prog 10 ⟨f10_ins, f10_outs, C10⟩ :=
  fn_ok (np := 0) (n := (.seq .nil (.seq .nil (.seq (.seq .nil (.blk (.loop ⟨f10_l1_ins, f10_l1_outs, C10_l1⟩))) .nil)))) hm hΓ (K := (fun f => Ae.lookA f [(31, ⟨f31_ins, f31_outs, C31⟩)])) (kok_cons ok31 (kok_nil _)) Tryz.func10 (c := code Tryz.f10) (by kernel_rfl) (name_ne (by kernel_rfl))
    (ann_seq (a := (subc (code Tryz.f10) [0])) (b := (subc (code Tryz.f10) [1])) (by kernel_rfl) (ann_nil _) (ann_seq (a := (subc (code Tryz.f10) [1, 0])) (b := (subc (code Tryz.f10) [1, 1])) (by kernel_rfl) (ann_nil _) (ann_seq (a := (subc (code Tryz.f10) [1, 1, 0])) (b := (subc (code Tryz.f10) [1, 1, 1])) (by kernel_rfl) (ann_seq (a := (subc (code Tryz.f10) [1, 1, 0, 0])) (b := (subc (code Tryz.f10) [1, 1, 0, 1])) (by kernel_rfl) (ann_nil _) (ann_blk (x := (subc (code Tryz.f10) [1, 1, 0, 1, 0])) (by kernel_rfl) (ann_loop (x := (subc (code Tryz.f10) [1, 1, 0, 1, 0, 0])) (by kernel_rfl) k10_l1))) (ann_nil _)))) (fun v => Nat.le_of_ble_eq_true (by kernel_rfl)) (fun v => h10 C31 C10_l1 v)

def F69_c0 (f65 : Int × Unit → Option (List UInt8 × Unit)) (f92 : Int × Unit → Option (Int × Unit)) : List UInt8 × Int × Int × Unit → Option ((Int × Int × Unit) ⊕ (List UInt8 × Int × Unit)) := fun (x0, x1, x2, _) =>
  (f92 (x2, ())).bind fun val =>
    bif val.fst == x1 then
      (f65 (x2, ())).bind fun val =>
        bif decide (0 ≤ x1) && decide (x1 ≤ (↑x0.length : Int)) then
          bif val.fst == List.take x1.toNat x0 then some (Sum.inl (x2, x1, ()))
          else some (Sum.inr (x0, x1, ()))
        else none
    else some (Sum.inr (x0, x1, ()))
theorem h69_c0 (f65 : HS f65_ins → Option (OTy f65_outs)) (f92 : HS f92_ins → Option (OTy f92_outs)) (v : HS f69_c0_ins) : aev Γ (fun f => Ae.lookA f [(65, ⟨f65_ins, f65_outs, f65⟩), (92, ⟨f92_ins, f92_outs, f92⟩)]) 0 (subc (code Tryz.f69) [1, 0, 1, 0, 0, 1, 0, 0, 1, 1]) .nil (stof f69_c0_ins v) (oout 0 f69_c0_outs) = F69_c0 f65 f92 v := by kernel_rfl
def C69_c0 (v : List UInt8 × Int × Int × Unit) : Option ((Int × Int × Unit) ⊕ (List UInt8 × Int × Unit)) := F69_c0 C65 C92 v
theorem k69_c0 : FragOk Tryz.prog 0 (fun Q a w => ((subc (code Tryz.f69) [1, 0, 1, 0, 0, 1, 0, 0, 1, 1])).wp Tryz.prog Q a w) ⟨f69_c0_ins, f69_c0_outs, C69_c0⟩ :=
  frag_code (ins := f69_c0_ins) (os := f69_c0_outs) (np := 0) (n := .nil) (F := C69_c0) hm hΓ (K := (fun f => Ae.lookA f [(65, ⟨f65_ins, f65_outs, C65⟩), (92, ⟨f92_ins, f92_outs, C92⟩)])) (kok_cons ok65 (kok_cons ok92 (kok_nil _)))
    (ann_nil _) (fun v => h69_c0 C65 C92 v)

def F69_l0 (f69_c0 : List UInt8 × Int × Int × Unit → Option ((Int × Int × Unit) ⊕ (List UInt8 × Int × Unit))) : List UInt8 × Int × Unit → Option ((List UInt8 × Int × Unit) ⊕ (Unit ⊕ (Int × Int × Unit))) := fun (x0, x1, _) =>
  bif decide (x1 ≤ 4) then
    bif decide (x1 ≤ (↑x0.length : Int)) then
      bif decide (0 < (↑x0.length : Int)) then
        bif x1 == 2 then
          bif decide (0 < (↑x0.length : Int)) then
            bif decide (1 < (↑x0.length : Int)) then
              (f69_c0
                    (x0, x1,
                      IntKind.i32.wrap
                        (IntKind.i32.wrap ((IntKind.i32.wrap (↑(x0.getD 0 0).toNat : Int)).tmod 32 * 64) +
                          (IntKind.i32.wrap (↑(x0.getD 1 0).toNat : Int)).tmod 64),
                      ())).bind
                fun val =>
                Sum.elim (fun val => some (Sum.inr (Sum.inr (val.fst, val.snd.fst, ()))))
                  (fun val => some (Sum.inl (val.fst, IntKind.i64.wrap (val.snd.fst + 1), ()))) val
            else none
          else none
        else
          bif x1 == 3 then
            bif decide (0 < (↑x0.length : Int)) then
              bif decide (1 < (↑x0.length : Int)) then
                bif decide (2 < (↑x0.length : Int)) then
                  (f69_c0
                        (x0, x1,
                          IntKind.i32.wrap
                            (IntKind.i32.wrap
                                (IntKind.i32.wrap
                                    ((IntKind.i32.wrap (↑(x0.getD 0 0).toNat : Int)).tmod 16 * 4096) +
                                  IntKind.i32.wrap
                                    ((IntKind.i32.wrap (↑(x0.getD 1 0).toNat : Int)).tmod 64 * 64)) +
                              (IntKind.i32.wrap (↑(x0.getD 2 0).toNat : Int)).tmod 64),
                          ())).bind
                    fun val =>
                    Sum.elim (fun val => some (Sum.inr (Sum.inr (val.fst, val.snd.fst, ()))))
                      (fun val => some (Sum.inl (val.fst, IntKind.i64.wrap (val.snd.fst + 1), ()))) val
                else none
              else none
            else none
          else
            bif x1 == 4 then
              bif decide (0 < (↑x0.length : Int)) then
                bif decide (1 < (↑x0.length : Int)) then
                  bif decide (2 < (↑x0.length : Int)) then
                    bif decide (3 < (↑x0.length : Int)) then
                      (f69_c0
                            (x0, x1,
                              IntKind.i32.wrap
                                (IntKind.i32.wrap
                                    (IntKind.i32.wrap
                                        (IntKind.i32.wrap
                                            ((IntKind.i32.wrap (↑(x0.getD 0 0).toNat : Int)).tmod 8 *
                                              262144) +
                                          IntKind.i32.wrap
                                            ((IntKind.i32.wrap (↑(x0.getD 1 0).toNat : Int)).tmod 64 *
                                              4096)) +
                                      IntKind.i32.wrap
                                        ((IntKind.i32.wrap (↑(x0.getD 2 0).toNat : Int)).tmod 64 * 64)) +
                                  (IntKind.i32.wrap (↑(x0.getD 3 0).toNat : Int)).tmod 64),
                              ())).bind
                        fun val =>
                        Sum.elim (fun val => some (Sum.inr (Sum.inr (val.fst, val.snd.fst, ()))))
                          (fun val => some (Sum.inl (val.fst, IntKind.i64.wrap (val.snd.fst + 1), ()))) val
                    else none
                  else none
                else none
              else none
            else
              (f69_c0 (x0, x1, IntKind.i32.wrap (↑(x0.getD 0 0).toNat : Int), ())).bind fun val =>
                Sum.elim (fun val => some (Sum.inr (Sum.inr (val.fst, val.snd.fst, ()))))
                  (fun val => some (Sum.inl (val.fst, IntKind.i64.wrap (val.snd.fst + 1), ()))) val
      else none
    else some (Sum.inr (Sum.inl ()))
  else some (Sum.inr (Sum.inl ()))
theorem h69_l0 (f69_c0 : HS f69_c0_ins → Option (OTy f69_c0_outs)) (v : HS f69_l0_ins) : aev Γ (fun f => Ae.lookA f []) 0 (subc (code Tryz.f69) [1, 0, 1, 0, 0]) (.seq .nil (.seq (.blk (.seq .nil (.cut .nil ⟨f69_c0_ins, f69_c0_outs, f69_c0⟩))) .nil)) (stof f69_l0_ins v) (around 0 f69_l0_ins f69_l0_outs) = F69_l0 f69_c0 v := by kernel_rfl
def C69_l0 (v : List UInt8 × Int × Unit) : Option (Unit ⊕ (Int × Int × Unit)) := loopN (F69_l0 C69_c0) big v
theorem k69_l0 : FragOk Tryz.prog 0 (fun Q a w => (Code.loop (subc (code Tryz.f69) [1, 0, 1, 0, 0])).wp Tryz.prog Q a w) ⟨f69_l0_ins, f69_l0_outs, C69_l0⟩ :=
  frag_loop (ins := f69_l0_ins) (os := f69_l0_outs) (np := 0) (n := (.seq .nil (.seq (.blk (.seq .nil (.cut .nil ⟨f69_c0_ins, f69_c0_outs, C69_c0⟩))) .nil))) (F := F69_l0 C69_c0) hm hΓ (K := (fun f => Ae.lookA f [])) (kok_nil _) (fun _ => big)
    (ann_seq (a := (subc (code Tryz.f69) [1, 0, 1, 0, 0, 0])) (b := (subc (code Tryz.f69) [1, 0, 1, 0, 0, 1])) (by kernel_rfl) (ann_nil _) (ann_seq (a := (subc (code Tryz.f69) [1, 0, 1, 0, 0, 1, 0])) (b := (subc (code Tryz.f69) [1, 0, 1, 0, 0, 1, 1])) (by kernel_rfl) (ann_blk (x := (subc (code Tryz.f69) [1, 0, 1, 0, 0, 1, 0, 0])) (by kernel_rfl) (ann_seq (a := (subc (code Tryz.f69) [1, 0, 1, 0, 0, 1, 0, 0, 0])) (b := (subc (code Tryz.f69) [1, 0, 1, 0, 0, 1, 0, 0, 1])) (by kernel_rfl) (ann_nil _) (ann_cut (a := (subc (code Tryz.f69) [1, 0, 1, 0, 0, 1, 0, 0, 1, 0])) (b := (subc (code Tryz.f69) [1, 0, 1, 0, 0, 1, 0, 0, 1, 1])) (by kernel_rfl) (ann_nil _) k69_c0))) (ann_nil _))) (fun v => h69_l0 C69_c0 v)

def F69 (f69_l0 : List UInt8 × Int × Unit → Option (Unit ⊕ (Int × Int × Unit))) : List UInt8 × Unit → Option (Int × Int × Unit) := fun (x0, _) =>
  (f69_l0 (x0, 1, ())).bind fun val =>
    Sum.elim (fun val => some (0, 0, ())) (fun val => some (val.fst, val.snd.fst, ())) val
theorem h69 (f69_l0 : HS f69_l0_ins → Option (OTy f69_l0_outs)) (v : HS f69_ins) : afun Γ (fun f => Ae.lookA f []) 0 Tryz.f69.ntmps Tryz.f69.results.toList (code Tryz.f69) (.seq .nil (.seq (.seq .nil (.blk (.loop ⟨f69_l0_ins, f69_l0_outs, f69_l0⟩))) .nil)) (em id f69_ins v).1 (em id f69_ins v).2 (ofin 0 f69_outs) = F69 f69_l0 v := by kernel_rfl
def C69 (v : List UInt8 × Unit) : Option (Int × Int × Unit) := F69 C69_l0 v
theorem ok69 : FnOk Tryz.prog 69 ⟨f69_ins, f69_outs, C69⟩ :=
  fn_ok (np := 0) (n := (.seq .nil (.seq (.seq .nil (.blk (.loop ⟨f69_l0_ins, f69_l0_outs, C69_l0⟩))) .nil))) hm hΓ (K := (fun f => Ae.lookA f [])) (kok_nil _) Tryz.func69 (c := code Tryz.f69) (by kernel_rfl) (name_ne (by kernel_rfl))
    (ann_seq (a := (subc (code Tryz.f69) [0])) (b := (subc (code Tryz.f69) [1])) (by kernel_rfl) (ann_nil _) (ann_seq (a := (subc (code Tryz.f69) [1, 0])) (b := (subc (code Tryz.f69) [1, 1])) (by kernel_rfl) (ann_seq (a := (subc (code Tryz.f69) [1, 0, 0])) (b := (subc (code Tryz.f69) [1, 0, 1])) (by kernel_rfl) (ann_nil _) (ann_blk (x := (subc (code Tryz.f69) [1, 0, 1, 0])) (by kernel_rfl) (ann_loop (x := (subc (code Tryz.f69) [1, 0, 1, 0, 0])) (by kernel_rfl) k69_l0))) (ann_nil _))) (fun v => Nat.le_of_ble_eq_true (by kernel_rfl)) (fun v => h69 C69_l0 v)

def F36_l0 (f69 : List UInt8 × Unit → Option (Int × Int × Unit)) : List UInt8 × Int × List (Int) × Unit → Option ((List UInt8 × Int × List (Int) × Unit) ⊕ ((List (Int) × Unit) ⊕ (Int × List (Int) × Unit))) := fun (x0, x1, x2, _) =>
  bif decide (x1 < (↑x0.length : Int)) then
    bif decide (0 ≤ x1) && decide (x1 ≤ (↑x0.length : Int)) then
      (f69 (List.drop x1.toNat x0, ())).bind fun val =>
        bif val.snd.fst == 0 then some (Sum.inr (Sum.inr (x1, x2, ())))
        else
          bif decide (x2.length + [val.fst].length ≤ 140737488355328 / 4) then
            some (Sum.inl (x0, IntKind.i64.wrap (x1 + val.snd.fst), x2 ++ [val.fst], ()))
          else none
    else none
  else some (Sum.inr (Sum.inl (x2, ())))
theorem h36_l0 (f69 : HS f69_ins → Option (OTy f69_outs)) (v : HS f36_l0_ins) : aev Γ (fun f => Ae.lookA f [(69, ⟨f69_ins, f69_outs, f69⟩)]) 0 (subc (code Tryz.f36) [1, 1, 1, 0, 0, 0]) .nil (stof f36_l0_ins v) (around 0 f36_l0_ins f36_l0_outs) = F36_l0 f69 v := by kernel_rfl
def C36_l0 (v : List UInt8 × Int × List (Int) × Unit) : Option ((List (Int) × Unit) ⊕ (Int × List (Int) × Unit)) := loopN (F36_l0 C69) big v
theorem k36_l0 : FragOk Tryz.prog 0 (fun Q a w => (Code.loop (subc (code Tryz.f36) [1, 1, 1, 0, 0, 0])).wp Tryz.prog Q a w) ⟨f36_l0_ins, f36_l0_outs, C36_l0⟩ :=
  frag_loop (ins := f36_l0_ins) (os := f36_l0_outs) (np := 0) (n := .nil) (F := F36_l0 C69) hm hΓ (K := (fun f => Ae.lookA f [(69, ⟨f69_ins, f69_outs, C69⟩)])) (kok_cons ok69 (kok_nil _)) (fun _ => big)
    (ann_nil _) (fun v => h36_l0 C69 v)

def F36 (f36_l0 : List UInt8 × Int × List (Int) × Unit → Option ((List (Int) × Unit) ⊕ (Int × List (Int) × Unit))) : List UInt8 × Unit → Option (List (Int) × Int × Unit) := fun (x0, _) =>
  (f36_l0 (x0, 0, [], ())).bind fun val =>
    Sum.elim (fun val => some (val.fst, -1, ())) (fun val => some (val.snd.fst, val.fst, ())) val
theorem h36 (f36_l0 : HS f36_l0_ins → Option (OTy f36_l0_outs)) (v : HS f36_ins) : afun Γ (fun f => Ae.lookA f []) 0 Tryz.f36.ntmps Tryz.f36.results.toList (code Tryz.f36) (.seq .nil (.seq .nil (.seq .nil (.seq (.blk (.loop ⟨f36_l0_ins, f36_l0_outs, f36_l0⟩)) .nil)))) (em id f36_ins v).1 (em id f36_ins v).2 (ofin 0 f36_outs) = F36 f36_l0 v := by kernel_rfl
def C36 (v : List UInt8 × Unit) : Option (List (Int) × Int × Unit) := F36 C36_l0 v
theorem ok36 : FnOk Tryz.prog 36 ⟨f36_ins, f36_outs, C36⟩ :=
  fn_ok (np := 0) (n := (.seq .nil (.seq .nil (.seq .nil (.seq (.blk (.loop ⟨f36_l0_ins, f36_l0_outs, C36_l0⟩)) .nil))))) hm hΓ (K := (fun f => Ae.lookA f [])) (kok_nil _) Tryz.func36 (c := code Tryz.f36) (by kernel_rfl) (name_ne (by kernel_rfl))
    (ann_seq (a := (subc (code Tryz.f36) [0])) (b := (subc (code Tryz.f36) [1])) (by kernel_rfl) (ann_nil _) (ann_seq (a := (subc (code Tryz.f36) [1, 0])) (b := (subc (code Tryz.f36) [1, 1])) (by kernel_rfl) (ann_nil _) (ann_seq (a := (subc (code Tryz.f36) [1, 1, 0])) (b := (subc (code Tryz.f36) [1, 1, 1])) (by kernel_rfl) (ann_nil _) (ann_seq (a := (subc (code Tryz.f36) [1, 1, 1, 0])) (b := (subc (code Tryz.f36) [1, 1, 1, 1])) (by kernel_rfl) (ann_blk (x := (subc (code Tryz.f36) [1, 1, 1, 0, 0])) (by kernel_rfl) (ann_loop (x := (subc (code Tryz.f36) [1, 1, 1, 0, 0, 0])) (by kernel_rfl) k36_l0)) (ann_nil _))))) (fun v => Nat.le_of_ble_eq_true (by kernel_rfl)) (fun v => h36 C36_l0 v)

def F37 (f37 : Int × Unit → Option (List UInt8 × Unit)) : Int × Unit → Option (List UInt8 × Unit) := fun (x0, _) =>
  bif decide (x0 < 16) then
    bif
        decide (0 ≤ IntKind.i64.wrap (x0 + 1)) &&
          decide
            (IntKind.i64.wrap (x0 + 1) ≤
              (↑[48, 49, 50, 51, 52, 53, 54, 55, 56, 57, 65, 66, 67, 68, 69, 70].length : Int)) then
      bif decide (0 ≤ x0) && decide (x0 ≤ IntKind.i64.wrap (x0 + 1)) then
        some
          (List.drop x0.toNat
              (List.take (IntKind.i64.wrap (x0 + 1)).toNat
                [48, 49, 50, 51, 52, 53, 54, 55, 56, 57, 65, 66, 67, 68, 69, 70]),
            ())
      else none
    else none
  else
    (f37 (IntKind.i64.wrap (x0.tdiv 16), ())).bind fun val =>
      (f37 (x0.tmod 16, ())).bind fun val_1 =>
        bif decide (List.length val.fst + List.length val_1.fst ≤ 9223372036854775807) then
          some (val.fst ++ val_1.fst, ())
        else none
theorem h37 (f37 : HS f37_ins → Option (OTy f37_outs)) (v : HS f37_ins) : afun Γ (fun f => Ae.lookA f [(37, ⟨f37_ins, f37_outs, f37⟩)]) 0 Tryz.f37.ntmps Tryz.f37.results.toList (code Tryz.f37) .nil (em id f37_ins v).1 (em id f37_ins v).2 (ofin 0 f37_outs) = F37 f37 v := by kernel_rfl
def C37 (v : Int × Unit) : Option (List UInt8 × Unit) := recN (fun G => F37 G) big v
theorem ok37 : FnOk Tryz.prog 37 ⟨f37_ins, f37_outs, C37⟩ := by
  have hC : C37 = recN (fun G => F37 G) big := funext fun v => by rw [C37]
  rw [hC]
  exact fn_rec (ins := f37_ins) (os := f37_outs) (F := fun G => F37 G) (fun G hG => fn_ok (np := 0) (n := .nil) hm hΓ (K := (fun f => Ae.lookA f [(37, ⟨f37_ins, f37_outs, G⟩)])) (kok_cons hG (kok_nil _)) Tryz.func37 (c := code Tryz.f37) (by kernel_rfl) (name_ne (by kernel_rfl))
    (ann_nil _) (fun v => Nat.le_of_ble_eq_true (by kernel_rfl)) (fun v => h37 G v)) big

def F12_l0 (f29 : Int × Unit → Option (Bool × Unit)) (f37 : Int × Unit → Option (List UInt8 × Unit)) : List UInt8 × List (Int) × Int × List UInt8 × Int × Unit → Option ((List UInt8 × List (Int) × Int × List UInt8 × Int × Unit) ⊕ (List UInt8 × Int × List UInt8 × Unit)) := fun (x0, x1, x2, x3, x4, _) =>
  bif decide (x4 < (↑x1.length : Int)) then
    bif decide (0 ≤ x4) && decide (x4 < (↑x1.length : Int)) then
      (f29 (x1.getD x4.toNat 0, ())).bind fun val =>
        bif val.fst then
          bif decide (0 ≤ x4) && decide (x4 < (↑x1.length : Int)) then
            bif
                decide
                  (x3.length + [UInt8.ofNat (IntKind.u8.wrap (x1.getD x4.toNat 0)).toNat].length ≤
                    9223372036854775807) then
              some
                (Sum.inl
                  (x0, x1, x2, x3 ++ [UInt8.ofNat (IntKind.u8.wrap (x1.getD x4.toNat 0)).toNat],
                    IntKind.i64.wrap (x4 + 1), ()))
            else none
          else none
        else
          bif decide (x3.length + [92].length ≤ 9223372036854775807) then
            bif
                decide
                  ((x3 ++ [92]).length + [120, 123].length ≤ 9223372036854775807) then
              bif decide (0 ≤ x4) && decide (x4 < (↑x1.length : Int)) then
                (f37 (IntKind.i64.wrap (x1.getD x4.toNat 0), ())).bind fun val =>
                  bif
                      decide
                        ((x3 ++ [92] ++ [120, 123]).length + List.length val.fst ≤
                          9223372036854775807) then
                    bif
                        decide
                          ((x3 ++ [92] ++ [120, 123] ++ val.fst).length +
                              [125].length ≤
                            9223372036854775807) then
                      some
                        (Sum.inl
                          (x0, x1, x2,
                            x3 ++ [92] ++ [120, 123] ++ val.fst ++ [125],
                            IntKind.i64.wrap (x4 + 1), ()))
                    else none
                  else none
              else none
            else none
          else none
    else none
  else some (Sum.inr (x0, x2, x3, ()))
theorem h12_l0 (f29 : HS f29_ins → Option (OTy f29_outs)) (f37 : HS f37_ins → Option (OTy f37_outs)) (v : HS f12_l0_ins) : aev Γ (fun f => Ae.lookA f [(29, ⟨f29_ins, f29_outs, f29⟩), (37, ⟨f37_ins, f37_outs, f37⟩)]) 0 (subc (code Tryz.f12) [1, 1, 1, 0, 1, 0, 0]) .nil (stof f12_l0_ins v) (around 0 f12_l0_ins f12_l0_outs) = F12_l0 f29 f37 v := by kernel_rfl
def C12_l0 (v : List UInt8 × List (Int) × Int × List UInt8 × Int × Unit) : Option (List UInt8 × Int × List UInt8 × Unit) := loopN (F12_l0 C29 C37) big v
theorem k12_l0 : FragOk Tryz.prog 0 (fun Q a w => (Code.loop (subc (code Tryz.f12) [1, 1, 1, 0, 1, 0, 0])).wp Tryz.prog Q a w) ⟨f12_l0_ins, f12_l0_outs, C12_l0⟩ :=
  frag_loop (ins := f12_l0_ins) (os := f12_l0_outs) (np := 0) (n := .nil) (F := F12_l0 C29 C37) hm hΓ (K := (fun f => Ae.lookA f [(29, ⟨f29_ins, f29_outs, C29⟩), (37, ⟨f37_ins, f37_outs, C37⟩)])) (kok_cons ok29 (kok_cons ok37 (kok_nil _))) (fun _ => big)
    (ann_nil _) (fun v => h12_l0 C29 C37 v)

def F12_l1 (f37 : Int × Unit → Option (List UInt8 × Unit)) : List UInt8 × Int × List UInt8 × Int × Unit → Option ((List UInt8 × Int × List UInt8 × Int × Unit) ⊕ (List UInt8 × Unit)) := fun (x0, x1, x2, x3, _) =>
  bif decide (x1 ≥ 0) then
    bif decide (x3 < (↑x0.length : Int)) then
      bif decide (x2.length + [92].length ≤ 9223372036854775807) then
        bif
            decide
              ((x2 ++ [92]).length + [120, 123, 48, 48].length ≤ 9223372036854775807) then
          bif decide (0 ≤ x3) && decide (x3 < (↑x0.length : Int)) then
            (f37 (IntKind.i64.wrap (↑(x0.getD x3.toNat 0).toNat : Int), ())).bind fun val =>
              bif
                  decide
                    ((x2 ++ [92] ++ [120, 123, 48, 48]).length + List.length val.fst ≤
                      9223372036854775807) then
                bif
                    decide
                      ((x2 ++ [92] ++ [120, 123, 48, 48] ++ val.fst).length +
                          [125].length ≤
                        9223372036854775807) then
                  some
                    (Sum.inl
                      (x0, x1,
                        x2 ++ [92] ++ [120, 123, 48, 48] ++ val.fst ++ [125],
                        IntKind.i64.wrap (x3 + 1), ()))
                else none
              else none
          else none
        else none
      else none
    else some (Sum.inr (x2, ()))
  else some (Sum.inr (x2, ()))
theorem h12_l1 (f37 : HS f37_ins → Option (OTy f37_outs)) (v : HS f12_l1_ins) : aev Γ (fun f => Ae.lookA f [(37, ⟨f37_ins, f37_outs, f37⟩)]) 0 (subc (code Tryz.f12) [1, 1, 1, 1, 0, 1, 0, 0]) .nil (stof f12_l1_ins v) (around 0 f12_l1_ins f12_l1_outs) = F12_l1 f37 v := by kernel_rfl
def C12_l1 (v : List UInt8 × Int × List UInt8 × Int × Unit) : Option (List UInt8 × Unit) := loopN (F12_l1 C37) big v
theorem k12_l1 : FragOk Tryz.prog 0 (fun Q a w => (Code.loop (subc (code Tryz.f12) [1, 1, 1, 1, 0, 1, 0, 0])).wp Tryz.prog Q a w) ⟨f12_l1_ins, f12_l1_outs, C12_l1⟩ :=
  frag_loop (ins := f12_l1_ins) (os := f12_l1_outs) (np := 0) (n := .nil) (F := F12_l1 C37) hm hΓ (K := (fun f => Ae.lookA f [(37, ⟨f37_ins, f37_outs, C37⟩)])) (kok_cons ok37 (kok_nil _)) (fun _ => big)
    (ann_nil _) (fun v => h12_l1 C37 v)

def F12 (f36 : List UInt8 × Unit → Option (List (Int) × Int × Unit)) (f12_l0 : List UInt8 × List (Int) × Int × List UInt8 × Int × Unit → Option (List UInt8 × Int × List UInt8 × Unit)) (f12_l1 : List UInt8 × Int × List UInt8 × Int × Unit → Option (List UInt8 × Unit)) : List UInt8 × Unit → Option (List UInt8 × Unit) := fun (x0, _) =>
  (f36 (x0, ())).bind fun val =>
    (f12_l0 (x0, val.fst, val.snd.fst, [], 0, ())).bind fun val =>
      (f12_l1 (val.fst, val.snd.fst, val.snd.snd.fst, val.snd.fst, ())).bind fun val => some (val.fst, ())
theorem h12 (f36 : HS f36_ins → Option (OTy f36_outs)) (f12_l0 : HS f12_l0_ins → Option (OTy f12_l0_outs)) (f12_l1 : HS f12_l1_ins → Option (OTy f12_l1_outs)) (v : HS f12_ins) : afun Γ (fun f => Ae.lookA f [(36, ⟨f36_ins, f36_outs, f36⟩)]) 0 Tryz.f12.ntmps Tryz.f12.results.toList (code Tryz.f12) (.seq .nil (.seq .nil (.seq .nil (.seq (.seq .nil (.blk (.loop ⟨f12_l0_ins, f12_l0_outs, f12_l0⟩))) (.seq (.seq .nil (.blk (.loop ⟨f12_l1_ins, f12_l1_outs, f12_l1⟩))) .nil))))) (em id f12_ins v).1 (em id f12_ins v).2 (ofin 0 f12_outs) = F12 f36 f12_l0 f12_l1 v := by kernel_rfl
def C12 (v : List UInt8 × Unit) : Option (List UInt8 × Unit) := F12 C36 C12_l0 C12_l1 v
theorem ok12 : FnOk Tryz.prog 12 ⟨f12_ins, f12_outs, C12⟩ :=
  fn_ok (np := 0) (n := (.seq .nil (.seq .nil (.seq .nil (.seq (.seq .nil (.blk (.loop ⟨f12_l0_ins, f12_l0_outs, C12_l0⟩))) (.seq (.seq .nil (.blk (.loop ⟨f12_l1_ins, f12_l1_outs, C12_l1⟩))) .nil)))))) hm hΓ (K := (fun f => Ae.lookA f [(36, ⟨f36_ins, f36_outs, C36⟩)])) (kok_cons ok36 (kok_nil _)) Tryz.func12 (c := code Tryz.f12) (by kernel_rfl) (name_ne (by kernel_rfl))
    (ann_seq (a := (subc (code Tryz.f12) [0])) (b := (subc (code Tryz.f12) [1])) (by kernel_rfl) (ann_nil _) (ann_seq (a := (subc (code Tryz.f12) [1, 0])) (b := (subc (code Tryz.f12) [1, 1])) (by kernel_rfl) (ann_nil _) (ann_seq (a := (subc (code Tryz.f12) [1, 1, 0])) (b := (subc (code Tryz.f12) [1, 1, 1])) (by kernel_rfl) (ann_nil _) (ann_seq (a := (subc (code Tryz.f12) [1, 1, 1, 0])) (b := (subc (code Tryz.f12) [1, 1, 1, 1])) (by kernel_rfl) (ann_seq (a := (subc (code Tryz.f12) [1, 1, 1, 0, 0])) (b := (subc (code Tryz.f12) [1, 1, 1, 0, 1])) (by kernel_rfl) (ann_nil _) (ann_blk (x := (subc (code Tryz.f12) [1, 1, 1, 0, 1, 0])) (by kernel_rfl) (ann_loop (x := (subc (code Tryz.f12) [1, 1, 1, 0, 1, 0, 0])) (by kernel_rfl) k12_l0))) (ann_seq (a := (subc (code Tryz.f12) [1, 1, 1, 1, 0])) (b := (subc (code Tryz.f12) [1, 1, 1, 1, 1])) (by kernel_rfl) (ann_seq (a := (subc (code Tryz.f12) [1, 1, 1, 1, 0, 0])) (b := (subc (code Tryz.f12) [1, 1, 1, 1, 0, 1])) (by kernel_rfl) (ann_nil _) (ann_blk (x := (subc (code Tryz.f12) [1, 1, 1, 1, 0, 1, 0])) (by kernel_rfl) (ann_loop (x := (subc (code Tryz.f12) [1, 1, 1, 1, 0, 1, 0, 0])) (by kernel_rfl) k12_l1))) (ann_nil _)))))) (fun v => Nat.le_of_ble_eq_true (by kernel_rfl)) (fun v => h12 C36 C12_l0 C12_l1 v)

def F39 (f39 : Int × Unit → Option (List UInt8 × Unit)) : Int × Unit → Option (List UInt8 × Unit) := fun (x0, _) =>
  bif decide (x0 < 10) then
    bif
        decide (0 ≤ IntKind.i64.wrap (x0 + 1)) &&
          decide (IntKind.i64.wrap (x0 + 1) ≤ (↑[48, 49, 50, 51, 52, 53, 54, 55, 56, 57].length : Int)) then
      bif decide (0 ≤ x0) && decide (x0 ≤ IntKind.i64.wrap (x0 + 1)) then
        some
          (List.drop x0.toNat
              (List.take (IntKind.i64.wrap (x0 + 1)).toNat [48, 49, 50, 51, 52, 53, 54, 55, 56, 57]),
            ())
      else none
    else none
  else
    (f39 (IntKind.i64.wrap (x0.tdiv 10), ())).bind fun val =>
      (f39 (x0.tmod 10, ())).bind fun val_1 =>
        bif decide (List.length val.fst + List.length val_1.fst ≤ 9223372036854775807) then
          some (val.fst ++ val_1.fst, ())
        else none
theorem h39 (f39 : HS f39_ins → Option (OTy f39_outs)) (v : HS f39_ins) : afun Γ (fun f => Ae.lookA f [(39, ⟨f39_ins, f39_outs, f39⟩)]) 0 Tryz.f39.ntmps Tryz.f39.results.toList (code Tryz.f39) .nil (em id f39_ins v).1 (em id f39_ins v).2 (ofin 0 f39_outs) = F39 f39 v := by kernel_rfl
def C39 (v : Int × Unit) : Option (List UInt8 × Unit) := recN (fun G => F39 G) big v
theorem ok39 : FnOk Tryz.prog 39 ⟨f39_ins, f39_outs, C39⟩ := by
  have hC : C39 = recN (fun G => F39 G) big := funext fun v => by rw [C39]
  rw [hC]
  exact fn_rec (ins := f39_ins) (os := f39_outs) (F := fun G => F39 G) (fun G hG => fn_ok (np := 0) (n := .nil) hm hΓ (K := (fun f => Ae.lookA f [(39, ⟨f39_ins, f39_outs, G⟩)])) (kok_cons hG (kok_nil _)) Tryz.func39 (c := code Tryz.f39) (by kernel_rfl) (name_ne (by kernel_rfl))
    (ann_nil _) (fun v => Nat.le_of_ble_eq_true (by kernel_rfl)) (fun v => h39 G v)) big

def F14 (f39 : Int × Unit → Option (List UInt8 × Unit)) : Int × Unit → Option (List UInt8 × Unit) := fun (x0, _) =>
  bif decide (x0 < 100) then some ([53, 46, 48, 46, 48], ())
  else
    bif decide (x0 > 999) then some ([53, 46, 48, 46, 48], ())
    else
      (f39 (IntKind.i64.wrap (x0.tdiv 100), ())).bind fun val =>
        bif decide (List.length val.fst + [46].length ≤ 9223372036854775807) then
          (f39 ((IntKind.i64.wrap (x0.tdiv 10)).tmod 10, ())).bind fun val_1 =>
            bif decide ((val.fst ++ [46]).length + List.length val_1.fst ≤ 9223372036854775807) then
              bif decide ((val.fst ++ [46] ++ val_1.fst).length + [46].length ≤ 9223372036854775807) then
                (f39 (x0.tmod 10, ())).bind fun val_2 =>
                  bif
                      decide
                        ((val.fst ++ [46] ++ val_1.fst ++ [46]).length + List.length val_2.fst ≤
                          9223372036854775807) then
                    some (val.fst ++ [46] ++ val_1.fst ++ [46] ++ val_2.fst, ())
                  else none
              else none
            else none
        else none
theorem h14 (f39 : HS f39_ins → Option (OTy f39_outs)) (v : HS f14_ins) : afun Γ (fun f => Ae.lookA f [(39, ⟨f39_ins, f39_outs, f39⟩)]) 0 Tryz.f14.ntmps Tryz.f14.results.toList (code Tryz.f14) .nil (em id f14_ins v).1 (em id f14_ins v).2 (ofin 0 f14_outs) = F14 f39 v := by kernel_rfl
def C14 (v : Int × Unit) : Option (List UInt8 × Unit) := F14 C39 v
theorem ok14 : FnOk Tryz.prog 14 ⟨f14_ins, f14_outs, C14⟩ :=
  fn_ok (np := 0) (n := .nil) hm hΓ (K := (fun f => Ae.lookA f [(39, ⟨f39_ins, f39_outs, C39⟩)])) (kok_cons ok39 (kok_nil _)) Tryz.func14 (c := code Tryz.f14) (by kernel_rfl) (name_ne (by kernel_rfl))
    (ann_nil _) (fun v => Nat.le_of_ble_eq_true (by kernel_rfl)) (fun v => h14 C39 v)

def F3 (f8 : Unit → Option (Bool × Unit)) (f9 : List UInt8 × Unit → Option (List UInt8 × Bool × Unit)) (f10 : List UInt8 × Unit → Option (List UInt8 × Bool × Unit)) (f11 : List UInt8 × Unit → Option (List UInt8 × Unit)) (f12 : List UInt8 × Unit → Option (List UInt8 × Unit)) (f13 : Int × Unit → Option (List UInt8 × Unit)) (f14 : Int × Unit → Option (List UInt8 × Unit)) : List UInt8 × Int × Unit → Option (Bool × Unit) := fun (x0, x1, _) =>
  (f8 ()).bind fun val =>
    bif decide ((↑x0.length : Int) > 500) then some (val.fst, ())
    else
      (f9 (x0, ())).bind fun val_1 =>
        (f10 (x0, ())).bind fun val_2 =>
          bif val.fst then
            (f11 (x0, ())).bind fun val =>
              (f12 (x0, ())).bind fun val_3 =>
                bif val.fst == val_3.fst then
                  bif val_1.fst == val_2.fst then
                    bif val_1.snd.fst == val_2.snd.fst then
                      (f13 (x1, ())).bind fun val =>
                        (f14 (x1, ())).bind fun val_4 => some (val.fst == val_4.fst, ())
                    else some (false, ())
                  else some (false, ())
                else some (false, ())
          else some (false, ())
theorem h3 (f8 : HS f8_ins → Option (OTy f8_outs)) (f9 : HS f9_ins → Option (OTy f9_outs)) (f10 : HS f10_ins → Option (OTy f10_outs)) (f11 : HS f11_ins → Option (OTy f11_outs)) (f12 : HS f12_ins → Option (OTy f12_outs)) (f13 : HS f13_ins → Option (OTy f13_outs)) (f14 : HS f14_ins → Option (OTy f14_outs)) (v : HS f3_ins) : afun Γ (fun f => Ae.lookA f [(8, ⟨f8_ins, f8_outs, f8⟩), (9, ⟨f9_ins, f9_outs, f9⟩), (10, ⟨f10_ins, f10_outs, f10⟩), (11, ⟨f11_ins, f11_outs, f11⟩), (12, ⟨f12_ins, f12_outs, f12⟩), (13, ⟨f13_ins, f13_outs, f13⟩), (14, ⟨f14_ins, f14_outs, f14⟩)]) 0 Tryz.f3.ntmps Tryz.f3.results.toList (code Tryz.f3) .nil (em id f3_ins v).1 (em id f3_ins v).2 (ofin 0 f3_outs) = F3 f8 f9 f10 f11 f12 f13 f14 v := by kernel_rfl
def C3 (v : List UInt8 × Int × Unit) : Option (Bool × Unit) := F3 C8 C9 C10 C11 C12 C13 C14 v
theorem ok3 : FnOk Tryz.prog 3 ⟨f3_ins, f3_outs, C3⟩ :=
  fn_ok (np := 0) (n := .nil) hm hΓ (K := (fun f => Ae.lookA f [(8, ⟨f8_ins, f8_outs, C8⟩), (9, ⟨f9_ins, f9_outs, C9⟩), (10, ⟨f10_ins, f10_outs, C10⟩), (11, ⟨f11_ins, f11_outs, C11⟩), (12, ⟨f12_ins, f12_outs, C12⟩), (13, ⟨f13_ins, f13_outs, C13⟩), (14, ⟨f14_ins, f14_outs, C14⟩)])) (kok_cons ok8 (kok_cons ok9 (kok_cons ok10 (kok_cons ok11 (kok_cons ok12 (kok_cons ok13 (kok_cons ok14 (kok_nil _)))))))) Tryz.func3 (c := code Tryz.f3) (by kernel_rfl) (name_ne (by kernel_rfl))
    (ann_nil _) (fun v => Nat.le_of_ble_eq_true (by kernel_rfl)) (fun v => h3 C8 C9 C10 C11 C12 C13 C14 v)

def F40  : List UInt8 × List UInt8 × Unit → Option (Bool × Unit) := fun (x0, x1, _) =>
  bif decide ((↑x0.length : Int) ≤ 150) then some (decide ((↑x1.length : Int) ≤ 200), ())
  else some (false, ())
theorem h40  (v : HS f40_ins) : afun Γ (fun f => Ae.lookA f []) 0 Tryz.f40.ntmps Tryz.f40.results.toList (code Tryz.f40) .nil (em id f40_ins v).1 (em id f40_ins v).2 (ofin 0 f40_outs) = F40 v := by kernel_rfl
def C40 (v : List UInt8 × List UInt8 × Unit) : Option (Bool × Unit) := F40 v
theorem ok40 : FnOk Tryz.prog 40 ⟨f40_ins, f40_outs, C40⟩ :=
  fn_ok (np := 0) (n := .nil) hm hΓ (K := (fun f => Ae.lookA f [])) (kok_nil _) Tryz.func40 (c := code Tryz.f40) (by kernel_rfl) (name_ne (by kernel_rfl))
    (ann_nil _) (fun v => Nat.le_of_ble_eq_true (by kernel_rfl)) (fun v => h40 v)

def F15_l0 (f40 : List UInt8 × List UInt8 × Unit → Option (Bool × Unit)) : Int × Int × Bool × List UInt8 × List UInt8 × List (((Bool × (List UInt8 × List UInt8)) × (Int × (Int × (Int × Int))))) × List (List UInt8) × Bool × Bool × Bool × Int × Int × Int × Unit → Option ((Int × Int × Bool × List UInt8 × List UInt8 × List (((Bool × (List UInt8 × List UInt8)) × (Int × (Int × (Int × Int))))) × List (List UInt8) × Bool × Bool × Bool × Int × Int × Int × Unit) ⊕ ((Int × Bool × List UInt8 × List UInt8 × List (((Bool × (List UInt8 × List UInt8)) × (Int × (Int × (Int × Int))))) × List (List UInt8) × Bool × Bool × Bool × Int × Int × Int × Unit) ⊕ (Bool × Unit))) := fun (x0, x1, x2, x3, x4, x5, x6, x7, x8, x9, x10, x11, x12, _) =>
  bif decide (x0 < (↑x5.length : Int)) then
    bif decide (0 ≤ x0) && decide (x0 < (↑x5.length : Int)) then
      (f40
            ((x5.getD x0.toNat
                      ((false, ([], [])), (0, (0, (0, 0))))).fst.snd.fst,
              (x5.getD x0.toNat
                      ((false, ([], [])), (0, (0, (0, 0))))).fst.snd.snd,
              ())).bind
        fun val =>
        bif !val.fst then some (Sum.inr (Sum.inr (false, ())))
        else some (Sum.inl (IntKind.i64.wrap (x0 + 1), x1, x2, x3, x4, x5, x6, x7, x8, x9, x10, x11, x12, ()))
    else none
  else some (Sum.inr (Sum.inl (x1, x2, x3, x4, x5, x6, x7, x8, x9, x10, x11, x12, ())))
theorem h15_l0 (f40 : HS f40_ins → Option (OTy f40_outs)) (v : HS f15_l0_ins) : aev Γ (fun f => Ae.lookA f [(40, ⟨f40_ins, f40_outs, f40⟩)]) 0 (subc (code Tryz.f15) [1, 0, 1, 0, 0]) .nil (stof f15_l0_ins v) (around 0 f15_l0_ins f15_l0_outs) = F15_l0 f40 v := by kernel_rfl
def C15_l0 (v : Int × Int × Bool × List UInt8 × List UInt8 × List (((Bool × (List UInt8 × List UInt8)) × (Int × (Int × (Int × Int))))) × List (List UInt8) × Bool × Bool × Bool × Int × Int × Int × Unit) : Option ((Int × Bool × List UInt8 × List UInt8 × List (((Bool × (List UInt8 × List UInt8)) × (Int × (Int × (Int × Int))))) × List (List UInt8) × Bool × Bool × Bool × Int × Int × Int × Unit) ⊕ (Bool × Unit)) := loopN (F15_l0 C40) big v
theorem k15_l0 : FragOk Tryz.prog 0 (fun Q a w => (Code.loop (subc (code Tryz.f15) [1, 0, 1, 0, 0])).wp Tryz.prog Q a w) ⟨f15_l0_ins, f15_l0_outs, C15_l0⟩ :=
  frag_loop (ins := f15_l0_ins) (os := f15_l0_outs) (np := 0) (n := .nil) (F := F15_l0 C40) hm hΓ (K := (fun f => Ae.lookA f [(40, ⟨f40_ins, f40_outs, C40⟩)])) (kok_cons ok40 (kok_nil _)) (fun _ => big)
    (ann_nil _) (fun v => h15_l0 C40 v)

def F15 (f40 : List UInt8 × List UInt8 × Unit → Option (Bool × Unit)) (f15_l0 : Int × Int × Bool × List UInt8 × List UInt8 × List (((Bool × (List UInt8 × List UInt8)) × (Int × (Int × (Int × Int))))) × List (List UInt8) × Bool × Bool × Bool × Int × Int × Int × Unit → Option ((Int × Bool × List UInt8 × List UInt8 × List (((Bool × (List UInt8 × List UInt8)) × (Int × (Int × (Int × Int))))) × List (List UInt8) × Bool × Bool × Bool × Int × Int × Int × Unit) ⊕ (Bool × Unit))) : Int × Bool × List UInt8 × List UInt8 × List (((Bool × (List UInt8 × List UInt8)) × (Int × (Int × (Int × Int))))) × List (List UInt8) × Bool × Bool × Bool × Int × Int × Int × Unit → Option (Bool × Unit) := fun (x0, x1, x2, x3, x4, x5, x6, x7, x8, x9, x10, x11, _) =>
  (f15_l0 (0, x0, x1, x2, x3, x4, x5, x6, x7, x8, x9, x10, x11, ())).bind fun val =>
    Sum.elim
      (fun val =>
        (f40 (val.snd.snd.fst, val.snd.snd.snd.fst, ())).bind fun val_1 =>
          bif val_1.fst then some (decide ((↑(List.length val.snd.snd.snd.snd.fst) : Int) ≤ 120), ())
          else some (false, ()))
      (fun val => some (val.fst, ())) val
theorem h15 (f40 : HS f40_ins → Option (OTy f40_outs)) (f15_l0 : HS f15_l0_ins → Option (OTy f15_l0_outs)) (v : HS f15_ins) : afun Γ (fun f => Ae.lookA f [(40, ⟨f40_ins, f40_outs, f40⟩)]) 0 Tryz.f15.ntmps Tryz.f15.results.toList (code Tryz.f15) (.seq .nil (.seq (.seq .nil (.blk (.loop ⟨f15_l0_ins, f15_l0_outs, f15_l0⟩))) .nil)) (em id f15_ins v).1 (em id f15_ins v).2 (ofin 0 f15_outs) = F15 f40 f15_l0 v := by kernel_rfl
def C15 (v : Int × Bool × List UInt8 × List UInt8 × List (((Bool × (List UInt8 × List UInt8)) × (Int × (Int × (Int × Int))))) × List (List UInt8) × Bool × Bool × Bool × Int × Int × Int × Unit) : Option (Bool × Unit) := F15 C40 C15_l0 v
theorem ok15 : FnOk Tryz.prog 15 ⟨f15_ins, f15_outs, C15⟩ :=
  fn_ok (np := 0) (n := (.seq .nil (.seq (.seq .nil (.blk (.loop ⟨f15_l0_ins, f15_l0_outs, C15_l0⟩))) .nil))) hm hΓ (K := (fun f => Ae.lookA f [(40, ⟨f40_ins, f40_outs, C40⟩)])) (kok_cons ok40 (kok_nil _)) Tryz.func15 (c := code Tryz.f15) (by kernel_rfl) (name_ne (by kernel_rfl))
    (ann_seq (a := (subc (code Tryz.f15) [0])) (b := (subc (code Tryz.f15) [1])) (by kernel_rfl) (ann_nil _) (ann_seq (a := (subc (code Tryz.f15) [1, 0])) (b := (subc (code Tryz.f15) [1, 1])) (by kernel_rfl) (ann_seq (a := (subc (code Tryz.f15) [1, 0, 0])) (b := (subc (code Tryz.f15) [1, 0, 1])) (by kernel_rfl) (ann_nil _) (ann_blk (x := (subc (code Tryz.f15) [1, 0, 1, 0])) (by kernel_rfl) (ann_loop (x := (subc (code Tryz.f15) [1, 0, 1, 0, 0])) (by kernel_rfl) k15_l0))) (ann_nil _))) (fun v => Nat.le_of_ble_eq_true (by kernel_rfl)) (fun v => h15 C40 C15_l0 v)

def F43 (f43 : Int × Unit → Option (List UInt8 × Unit)) : Int × Unit → Option (List UInt8 × Unit) := fun (x0, _) =>
  bif decide (x0 < 10) then
    bif
        decide (0 ≤ IntKind.u64.wrap (x0 + 1)) &&
          decide (IntKind.u64.wrap (x0 + 1) ≤ (↑[48, 49, 50, 51, 52, 53, 54, 55, 56, 57].length : Int)) then
      bif decide (0 ≤ x0) && decide (x0 ≤ IntKind.u64.wrap (x0 + 1)) then
        some
          (List.drop x0.toNat
              (List.take (IntKind.u64.wrap (x0 + 1)).toNat [48, 49, 50, 51, 52, 53, 54, 55, 56, 57]),
            ())
      else none
    else none
  else
    (f43 (IntKind.u64.wrap (x0.tdiv 10), ())).bind fun val =>
      (f43 (x0.tmod 10, ())).bind fun val_1 =>
        bif decide (List.length val.fst + List.length val_1.fst ≤ 9223372036854775807) then
          some (val.fst ++ val_1.fst, ())
        else none
theorem h43 (f43 : HS f43_ins → Option (OTy f43_outs)) (v : HS f43_ins) : afun Γ (fun f => Ae.lookA f [(43, ⟨f43_ins, f43_outs, f43⟩)]) 0 Tryz.f43.ntmps Tryz.f43.results.toList (code Tryz.f43) .nil (em id f43_ins v).1 (em id f43_ins v).2 (ofin 0 f43_outs) = F43 f43 v := by kernel_rfl
def C43 (v : Int × Unit) : Option (List UInt8 × Unit) := recN (fun G => F43 G) big v
theorem ok43 : FnOk Tryz.prog 43 ⟨f43_ins, f43_outs, C43⟩ := by
  have hC : C43 = recN (fun G => F43 G) big := funext fun v => by rw [C43]
  rw [hC]
  exact fn_rec (ins := f43_ins) (os := f43_outs) (F := fun G => F43 G) (fun G hG => fn_ok (np := 0) (n := .nil) hm hΓ (K := (fun f => Ae.lookA f [(43, ⟨f43_ins, f43_outs, G⟩)])) (kok_cons hG (kok_nil _)) Tryz.func43 (c := code Tryz.f43) (by kernel_rfl) (name_ne (by kernel_rfl))
    (ann_nil _) (fun v => Nat.le_of_ble_eq_true (by kernel_rfl)) (fun v => h43 G v)) big

def F76 (f102 : List UInt8 × Unit → Option (List UInt8 × Unit)) : Bool × List UInt8 × List UInt8 × Unit → Option (Bool × Unit) := fun (x0, x1, x2, _) =>
  bif !x0 then
    bif x2 == [] then
      (f102 (x1, ())).bind fun val =>
        some (val.fst == [112, 111, 115, 116, 109, 97, 115, 116, 101, 114], ())
    else some (false, ())
  else some (false, ())
theorem h76 (f102 : HS f102_ins → Option (OTy f102_outs)) (v : HS f76_ins) : afun Γ (fun f => Ae.lookA f [(102, ⟨f102_ins, f102_outs, f102⟩)]) 0 Tryz.f76.ntmps Tryz.f76.results.toList (code Tryz.f76) .nil (em id f76_ins v).1 (em id f76_ins v).2 (ofin 0 f76_outs) = F76 f102 v := by kernel_rfl
def C76 (v : Bool × List UInt8 × List UInt8 × Unit) : Option (Bool × Unit) := F76 C102 v
theorem ok76 : FnOk Tryz.prog 76 ⟨f76_ins, f76_outs, C76⟩ :=
  fn_ok (np := 0) (n := .nil) hm hΓ (K := (fun f => Ae.lookA f [(102, ⟨f102_ins, f102_outs, C102⟩)])) (kok_cons ok102 (kok_nil _)) Tryz.func76 (c := code Tryz.f76) (by kernel_rfl) (name_ne (by kernel_rfl))
    (ann_nil _) (fun v => Nat.le_of_ble_eq_true (by kernel_rfl)) (fun v => h76 C102 v)
end Go.Proofs.YtmfcepdbpdihgaaGreatDoor.W
/- Plain forms of functions. Written by a program. -/
set_option maxRecDepth 100000
set_option linter.unusedVariables false
namespace Go.Proofs.YtmfcepdbpdihgaaGreatDoor.W
open Go Go.Ae

def F167_l0  : Int × List UInt8 × Int × Unit → Option ((Int × List UInt8 × Int × Unit) ⊕ (Unit ⊕ (Bool × Unit))) := fun (x0, x1, x2, _) =>
  bif decide (x2 < (↑x1.length : Int)) then
    bif decide (0 ≤ x2) && decide (x2 < (↑x1.length : Int)) then
      bif (↑(x1.getD x2.toNat 0).toNat : Int) == x0 then some (Sum.inr (Sum.inr (true, ())))
      else some (Sum.inl (x0, x1, IntKind.i64.wrap (x2 + 1), ()))
    else none
  else some (Sum.inr (Sum.inl ()))
theorem h167_l0  (v : HS f167_l0_ins) : aev Γ (fun f => Ae.lookA f []) 0 (subc (code Tryz.f167) [1, 1, 1, 0, 1, 0, 0]) .nil (stof f167_l0_ins v) (around 0 f167_l0_ins f167_l0_outs) = F167_l0 v := by kernel_rfl
def C167_l0 (v : Int × List UInt8 × Int × Unit) : Option (Unit ⊕ (Bool × Unit)) := loopN (F167_l0) big v
theorem k167_l0 : FragOk Tryz.prog 0 (fun Q a w => (Code.loop (subc (code Tryz.f167) [1, 1, 1, 0, 1, 0, 0])).wp Tryz.prog Q a w) ⟨f167_l0_ins, f167_l0_outs, C167_l0⟩ :=
  frag_loop (ins := f167_l0_ins) (os := f167_l0_outs) (np := 0) (n := .nil) (F := F167_l0) hm hΓ (K := (fun f => Ae.lookA f [])) (kok_nil _) (fun _ => big)
    (ann_nil _) (fun v => h167_l0 v)

def F167 (f167_l0 : Int × List UInt8 × Int × Unit → Option (Unit ⊕ (Bool × Unit))) : Int × Unit → Option (Bool × Unit) := fun (x0, _) =>
  bif decide (x0 ≥ 97) then
    bif decide (x0 ≤ 122) then some (true, ())
    else
      bif decide (x0 ≥ 65) then
        bif decide (x0 ≤ 90) then some (true, ())
        else
          bif decide (x0 ≥ 48) then
            bif decide (x0 ≤ 57) then some (true, ())
            else
              bif decide (x0 ≥ 128) then some (true, ())
              else
                (f167_l0
                      (x0,
                        [33, 35, 36, 37, 38, 39, 42, 43, 45, 47, 61, 63, 94, 95] ++
                            [96] ++
                          [123, 124, 125, 126],
                        0, ())).bind
                  fun val => Sum.elim (fun val => some (false, ())) (fun val => some (val.fst, ())) val
          else
            bif decide (x0 ≥ 128) then some (true, ())
            else
              (f167_l0
                    (x0,
                      [33, 35, 36, 37, 38, 39, 42, 43, 45, 47, 61, 63, 94, 95] ++ [96] ++
                        [123, 124, 125, 126],
                      0, ())).bind
                fun val => Sum.elim (fun val => some (false, ())) (fun val => some (val.fst, ())) val
      else
        bif decide (x0 ≥ 48) then
          bif decide (x0 ≤ 57) then some (true, ())
          else
            bif decide (x0 ≥ 128) then some (true, ())
            else
              (f167_l0
                    (x0,
                      [33, 35, 36, 37, 38, 39, 42, 43, 45, 47, 61, 63, 94, 95] ++ [96] ++
                        [123, 124, 125, 126],
                      0, ())).bind
                fun val => Sum.elim (fun val => some (false, ())) (fun val => some (val.fst, ())) val
        else
          bif decide (x0 ≥ 128) then some (true, ())
          else
            (f167_l0
                  (x0,
                    [33, 35, 36, 37, 38, 39, 42, 43, 45, 47, 61, 63, 94, 95] ++ [96] ++
                      [123, 124, 125, 126],
                    0, ())).bind
              fun val => Sum.elim (fun val => some (false, ())) (fun val => some (val.fst, ())) val
  else
    bif decide (x0 ≥ 65) then
      bif decide (x0 ≤ 90) then some (true, ())
      else
        bif decide (x0 ≥ 48) then
          bif decide (x0 ≤ 57) then some (true, ())
          else
            bif decide (x0 ≥ 128) then some (true, ())
            else
              (f167_l0
                    (x0,
                      [33, 35, 36, 37, 38, 39, 42, 43, 45, 47, 61, 63, 94, 95] ++ [96] ++
                        [123, 124, 125, 126],
                      0, ())).bind
                fun val => Sum.elim (fun val => some (false, ())) (fun val => some (val.fst, ())) val
        else
          bif decide (x0 ≥ 128) then some (true, ())
          else
            (f167_l0
                  (x0,
                    [33, 35, 36, 37, 38, 39, 42, 43, 45, 47, 61, 63, 94, 95] ++ [96] ++
                      [123, 124, 125, 126],
                    0, ())).bind
              fun val => Sum.elim (fun val => some (false, ())) (fun val => some (val.fst, ())) val
    else
      bif decide (x0 ≥ 48) then
        bif decide (x0 ≤ 57) then some (true, ())
        else
          bif decide (x0 ≥ 128) then some (true, ())
          else
            (f167_l0
                  (x0,
                    [33, 35, 36, 37, 38, 39, 42, 43, 45, 47, 61, 63, 94, 95] ++ [96] ++
                      [123, 124, 125, 126],
                    0, ())).bind
              fun val => Sum.elim (fun val => some (false, ())) (fun val => some (val.fst, ())) val
      else
        bif decide (x0 ≥ 128) then some (true, ())
        else
          (f167_l0
                (x0,
                  [33, 35, 36, 37, 38, 39, 42, 43, 45, 47, 61, 63, 94, 95] ++ [96] ++
                    [123, 124, 125, 126],
                  0, ())).bind
            fun val => Sum.elim (fun val => some (false, ())) (fun val => some (val.fst, ())) val
theorem h167 (f167_l0 : HS f167_l0_ins → Option (OTy f167_l0_outs)) (v : HS f167_ins) : afun Γ (fun f => Ae.lookA f []) 0 Tryz.f167.ntmps Tryz.f167.results.toList (code Tryz.f167) (.seq .nil (.seq .nil (.seq .nil (.seq (.seq .nil (.blk (.loop ⟨f167_l0_ins, f167_l0_outs, f167_l0⟩))) .nil)))) (em id f167_ins v).1 (em id f167_ins v).2 (ofin 0 f167_outs) = F167 f167_l0 v := by kernel_rfl
def C167 (v : Int × Unit) : Option (Bool × Unit) := F167 C167_l0 v
theorem ok167 : FnOk Tryz.prog 167 ⟨f167_ins, f167_outs, C167⟩ :=
  fn_ok (np := 0) (n := (.seq .nil (.seq .nil (.seq .nil (.seq (.seq .nil (.blk (.loop ⟨f167_l0_ins, f167_l0_outs, C167_l0⟩))) .nil))))) hm hΓ (K := (fun f => Ae.lookA f [])) (kok_nil _) Tryz.func167 (c := code Tryz.f167) (by kernel_rfl) (name_ne (by kernel_rfl))
    (ann_seq (a := (subc (code Tryz.f167) [0])) (b := (subc (code Tryz.f167) [1])) (by kernel_rfl) (ann_nil _) (ann_seq (a := (subc (code Tryz.f167) [1, 0])) (b := (subc (code Tryz.f167) [1, 1])) (by kernel_rfl) (ann_nil _) (ann_seq (a := (subc (code Tryz.f167) [1, 1, 0])) (b := (subc (code Tryz.f167) [1, 1, 1])) (by kernel_rfl) (ann_nil _) (ann_seq (a := (subc (code Tryz.f167) [1, 1, 1, 0])) (b := (subc (code Tryz.f167) [1, 1, 1, 1])) (by kernel_rfl) (ann_seq (a := (subc (code Tryz.f167) [1, 1, 1, 0, 0])) (b := (subc (code Tryz.f167) [1, 1, 1, 0, 1])) (by kernel_rfl) (ann_nil _) (ann_blk (x := (subc (code Tryz.f167) [1, 1, 1, 0, 1, 0])) (by kernel_rfl) (ann_loop (x := (subc (code Tryz.f167) [1, 1, 1, 0, 1, 0, 0])) (by kernel_rfl) k167_l0))) (ann_nil _))))) (fun v => Nat.le_of_ble_eq_true (by kernel_rfl)) (fun v => h167 C167_l0 v)

def F143_l0 (f167 : Int × Unit → Option (Bool × Unit)) : List UInt8 × Int × Unit → Option ((List UInt8 × Int × Unit) ⊕ ((List UInt8 × Unit) ⊕ (Bool × Unit))) := fun (x0, x1, _) =>
  bif decide (x1 < (↑x0.length : Int)) then
    bif decide (0 ≤ x1) && decide (x1 < (↑x0.length : Int)) then
      (f167 ((↑(x0.getD x1.toNat 0).toNat : Int), ())).bind fun val =>
        bif !val.fst then some (Sum.inr (Sum.inr (false, ())))
        else some (Sum.inl (x0, IntKind.i64.wrap (x1 + 1), ()))
    else none
  else some (Sum.inr (Sum.inl (x0, ())))
theorem h143_l0 (f167 : HS f167_ins → Option (OTy f167_outs)) (v : HS f143_l0_ins) : aev Γ (fun f => Ae.lookA f [(167, ⟨f167_ins, f167_outs, f167⟩)]) 0 (subc (code Tryz.f143) [1, 0, 1, 0, 0]) .nil (stof f143_l0_ins v) (around 0 f143_l0_ins f143_l0_outs) = F143_l0 f167 v := by kernel_rfl
def C143_l0 (v : List UInt8 × Int × Unit) : Option ((List UInt8 × Unit) ⊕ (Bool × Unit)) := loopN (F143_l0 C167) big v
theorem k143_l0 : FragOk Tryz.prog 0 (fun Q a w => (Code.loop (subc (code Tryz.f143) [1, 0, 1, 0, 0])).wp Tryz.prog Q a w) ⟨f143_l0_ins, f143_l0_outs, C143_l0⟩ :=
  frag_loop (ins := f143_l0_ins) (os := f143_l0_outs) (np := 0) (n := .nil) (F := F143_l0 C167) hm hΓ (K := (fun f => Ae.lookA f [(167, ⟨f167_ins, f167_outs, C167⟩)])) (kok_cons ok167 (kok_nil _)) (fun _ => big)
    (ann_nil _) (fun v => h143_l0 C167 v)

def F143 (f143_l0 : List UInt8 × Int × Unit → Option ((List UInt8 × Unit) ⊕ (Bool × Unit))) : List UInt8 × Unit → Option (Bool × Unit) := fun (x0, _) =>
  (f143_l0 (x0, 0, ())).bind fun val =>
    Sum.elim (fun val => some (bif val.fst == [] then false else true, ()))
      (fun val => some (val.fst, ())) val
theorem h143 (f143_l0 : HS f143_l0_ins → Option (OTy f143_l0_outs)) (v : HS f143_ins) : afun Γ (fun f => Ae.lookA f []) 0 Tryz.f143.ntmps Tryz.f143.results.toList (code Tryz.f143) (.seq .nil (.seq (.seq .nil (.blk (.loop ⟨f143_l0_ins, f143_l0_outs, f143_l0⟩))) .nil)) (em id f143_ins v).1 (em id f143_ins v).2 (ofin 0 f143_outs) = F143 f143_l0 v := by kernel_rfl
def C143 (v : List UInt8 × Unit) : Option (Bool × Unit) := F143 C143_l0 v
theorem ok143 : FnOk Tryz.prog 143 ⟨f143_ins, f143_outs, C143⟩ :=
  fn_ok (np := 0) (n := (.seq .nil (.seq (.seq .nil (.blk (.loop ⟨f143_l0_ins, f143_l0_outs, C143_l0⟩))) .nil))) hm hΓ (K := (fun f => Ae.lookA f [])) (kok_nil _) Tryz.func143 (c := code Tryz.f143) (by kernel_rfl) (name_ne (by kernel_rfl))
    (ann_seq (a := (subc (code Tryz.f143) [0])) (b := (subc (code Tryz.f143) [1])) (by kernel_rfl) (ann_nil _) (ann_seq (a := (subc (code Tryz.f143) [1, 0])) (b := (subc (code Tryz.f143) [1, 1])) (by kernel_rfl) (ann_seq (a := (subc (code Tryz.f143) [1, 0, 0])) (b := (subc (code Tryz.f143) [1, 0, 1])) (by kernel_rfl) (ann_nil _) (ann_blk (x := (subc (code Tryz.f143) [1, 0, 1, 0])) (by kernel_rfl) (ann_loop (x := (subc (code Tryz.f143) [1, 0, 1, 0, 0])) (by kernel_rfl) k143_l0))) (ann_nil _))) (fun v => Nat.le_of_ble_eq_true (by kernel_rfl)) (fun v => h143 C143_l0 v)

def F103_c0 (f143 : List UInt8 × Unit → Option (Bool × Unit)) : List UInt8 × Int × Int × Bool × Unit → Option ((Bool × Unit) ⊕ (List UInt8 × Int × Int × Unit)) := fun (x0, x1, x2, x3, _) =>
  bif x3 then
    bif decide (0 ≤ x2) && decide (x2 ≤ (↑x0.length : Int)) then
      bif decide (0 ≤ x1) && decide (x1 ≤ x2) then
        (f143 (List.drop x1.toNat (List.take x2.toNat x0), ())).bind fun val =>
          bif !val.fst then some (Sum.inl (false, ()))
          else some (Sum.inr (x0, IntKind.i64.wrap (x2 + 1), x2, ()))
      else none
    else none
  else some (Sum.inr (x0, x1, x2, ()))
theorem h103_c0 (f143 : HS f143_ins → Option (OTy f143_outs)) (v : HS f103_c0_ins) : aev Γ (fun f => Ae.lookA f [(143, ⟨f143_ins, f143_outs, f143⟩)]) 0 (subc (code Tryz.f103) [1, 1, 0, 1, 0, 0, 1, 0, 0, 1]) .nil (stof f103_c0_ins v) (oout 0 f103_c0_outs) = F103_c0 f143 v := by kernel_rfl
def C103_c0 (v : List UInt8 × Int × Int × Bool × Unit) : Option ((Bool × Unit) ⊕ (List UInt8 × Int × Int × Unit)) := F103_c0 C143 v
theorem k103_c0 : FragOk Tryz.prog 0 (fun Q a w => ((subc (code Tryz.f103) [1, 1, 0, 1, 0, 0, 1, 0, 0, 1])).wp Tryz.prog Q a w) ⟨f103_c0_ins, f103_c0_outs, C103_c0⟩ :=
  frag_code (ins := f103_c0_ins) (os := f103_c0_outs) (np := 0) (n := .nil) (F := C103_c0) hm hΓ (K := (fun f => Ae.lookA f [(143, ⟨f143_ins, f143_outs, C143⟩)])) (kok_cons ok143 (kok_nil _))
    (ann_nil _) (fun v => h103_c0 C143 v)

def F103_l0 (f103_c0 : List UInt8 × Int × Int × Bool × Unit → Option ((Bool × Unit) ⊕ (List UInt8 × Int × Int × Unit))) : List UInt8 × Int × Int × Unit → Option ((List UInt8 × Int × Int × Unit) ⊕ (Unit ⊕ (Bool × Unit))) := fun (x0, x1, x2, _) =>
  bif decide (x2 ≤ (↑x0.length : Int)) then
    bif x2 == (↑x0.length : Int) then
      (f103_c0 (x0, x1, x2, true, ())).bind fun val =>
        Sum.elim (fun val => some (Sum.inr (Sum.inr (val.fst, ()))))
          (fun val => some (Sum.inl (val.fst, val.snd.fst, IntKind.i64.wrap (val.snd.snd.fst + 1), ()))) val
    else
      bif decide (0 ≤ x2) && decide (x2 < (↑x0.length : Int)) then
        (f103_c0 (x0, x1, x2, (↑(x0.getD x2.toNat 0).toNat : Int) == 46, ())).bind fun val =>
          Sum.elim (fun val => some (Sum.inr (Sum.inr (val.fst, ()))))
            (fun val => some (Sum.inl (val.fst, val.snd.fst, IntKind.i64.wrap (val.snd.snd.fst + 1), ()))) val
      else none
  else some (Sum.inr (Sum.inl ()))
theorem h103_l0 (f103_c0 : HS f103_c0_ins → Option (OTy f103_c0_outs)) (v : HS f103_l0_ins) : aev Γ (fun f => Ae.lookA f []) 0 (subc (code Tryz.f103) [1, 1, 0, 1, 0, 0]) (.seq .nil (.seq (.blk (.cut .nil ⟨f103_c0_ins, f103_c0_outs, f103_c0⟩)) .nil)) (stof f103_l0_ins v) (around 0 f103_l0_ins f103_l0_outs) = F103_l0 f103_c0 v := by kernel_rfl
def C103_l0 (v : List UInt8 × Int × Int × Unit) : Option (Unit ⊕ (Bool × Unit)) := loopN (F103_l0 C103_c0) big v
theorem k103_l0 : FragOk Tryz.prog 0 (fun Q a w => (Code.loop (subc (code Tryz.f103) [1, 1, 0, 1, 0, 0])).wp Tryz.prog Q a w) ⟨f103_l0_ins, f103_l0_outs, C103_l0⟩ :=
  frag_loop (ins := f103_l0_ins) (os := f103_l0_outs) (np := 0) (n := (.seq .nil (.seq (.blk (.cut .nil ⟨f103_c0_ins, f103_c0_outs, C103_c0⟩)) .nil))) (F := F103_l0 C103_c0) hm hΓ (K := (fun f => Ae.lookA f [])) (kok_nil _) (fun _ => big)
    (ann_seq (a := (subc (code Tryz.f103) [1, 1, 0, 1, 0, 0, 0])) (b := (subc (code Tryz.f103) [1, 1, 0, 1, 0, 0, 1])) (by kernel_rfl) (ann_nil _) (ann_seq (a := (subc (code Tryz.f103) [1, 1, 0, 1, 0, 0, 1, 0])) (b := (subc (code Tryz.f103) [1, 1, 0, 1, 0, 0, 1, 1])) (by kernel_rfl) (ann_blk (x := (subc (code Tryz.f103) [1, 1, 0, 1, 0, 0, 1, 0, 0])) (by kernel_rfl) (ann_cut (a := (subc (code Tryz.f103) [1, 1, 0, 1, 0, 0, 1, 0, 0, 0])) (b := (subc (code Tryz.f103) [1, 1, 0, 1, 0, 0, 1, 0, 0, 1])) (by kernel_rfl) (ann_nil _) k103_c0)) (ann_nil _))) (fun v => h103_l0 C103_c0 v)

def F103 (f103_l0 : List UInt8 × Int × Int × Unit → Option (Unit ⊕ (Bool × Unit))) : List UInt8 × Unit → Option (Bool × Unit) := fun (x0, _) =>
  (f103_l0 (x0, 0, 0, ())).bind fun val =>
    Sum.elim (fun val => some (true, ())) (fun val => some (val.fst, ())) val
theorem h103 (f103_l0 : HS f103_l0_ins → Option (OTy f103_l0_outs)) (v : HS f103_ins) : afun Γ (fun f => Ae.lookA f []) 0 Tryz.f103.ntmps Tryz.f103.results.toList (code Tryz.f103) (.seq .nil (.seq .nil (.seq (.seq .nil (.blk (.loop ⟨f103_l0_ins, f103_l0_outs, f103_l0⟩))) .nil))) (em id f103_ins v).1 (em id f103_ins v).2 (ofin 0 f103_outs) = F103 f103_l0 v := by kernel_rfl
def C103 (v : List UInt8 × Unit) : Option (Bool × Unit) := F103 C103_l0 v
theorem ok103 : FnOk Tryz.prog 103 ⟨f103_ins, f103_outs, C103⟩ :=
  fn_ok (np := 0) (n := (.seq .nil (.seq .nil (.seq (.seq .nil (.blk (.loop ⟨f103_l0_ins, f103_l0_outs, C103_l0⟩))) .nil)))) hm hΓ (K := (fun f => Ae.lookA f [])) (kok_nil _) Tryz.func103 (c := code Tryz.f103) (by kernel_rfl) (name_ne (by kernel_rfl))
    (ann_seq (a := (subc (code Tryz.f103) [0])) (b := (subc (code Tryz.f103) [1])) (by kernel_rfl) (ann_nil _) (ann_seq (a := (subc (code Tryz.f103) [1, 0])) (b := (subc (code Tryz.f103) [1, 1])) (by kernel_rfl) (ann_nil _) (ann_seq (a := (subc (code Tryz.f103) [1, 1, 0])) (b := (subc (code Tryz.f103) [1, 1, 1])) (by kernel_rfl) (ann_seq (a := (subc (code Tryz.f103) [1, 1, 0, 0])) (b := (subc (code Tryz.f103) [1, 1, 0, 1])) (by kernel_rfl) (ann_nil _) (ann_blk (x := (subc (code Tryz.f103) [1, 1, 0, 1, 0])) (by kernel_rfl) (ann_loop (x := (subc (code Tryz.f103) [1, 1, 0, 1, 0, 0])) (by kernel_rfl) k103_l0))) (ann_nil _)))) (fun v => Nat.le_of_ble_eq_true (by kernel_rfl)) (fun v => h103 C103_l0 v)

def F104_c0  : Int × Int × List UInt8 × Int × List UInt8 × Unit → Option (Int × Int × List UInt8 × Int × List UInt8 × Unit) := fun (x0, x1, x2, x3, x4, _) =>
  bif decide (0 ≤ x0) && decide (x0 < (↑x2.length : Int)) then
    bif decide (x4.length + [UInt8.ofNat (↑(x2.getD x0.toNat 0).toNat : Int).toNat].length ≤ 140737488355328 / 1) then
      some (x0, x1, x2, x3, x4 ++ [UInt8.ofNat (↑(x2.getD x0.toNat 0).toNat : Int).toNat], ())
    else none
  else none
theorem h104_c0  (v : HS f104_c0_ins) : aev Γ (fun f => Ae.lookA f []) 0 (subc (code Tryz.f104) [1, 0, 1, 0, 1, 1, 1, 1, 1, 0, 1, 0, 1, 0, 0, 1, 0, 0, 1]) .nil (stof f104_c0_ins v) (oout 0 f104_c0_outs) = F104_c0 v := by kernel_rfl
def C104_c0 (v : Int × Int × List UInt8 × Int × List UInt8 × Unit) : Option (Int × Int × List UInt8 × Int × List UInt8 × Unit) := F104_c0 v
theorem k104_c0 : FragOk Tryz.prog 0 (fun Q a w => ((subc (code Tryz.f104) [1, 0, 1, 0, 1, 1, 1, 1, 1, 0, 1, 0, 1, 0, 0, 1, 0, 0, 1])).wp Tryz.prog Q a w) ⟨f104_c0_ins, f104_c0_outs, C104_c0⟩ :=
  frag_code (ins := f104_c0_ins) (os := f104_c0_outs) (np := 0) (n := .nil) (F := C104_c0) hm hΓ (K := (fun f => Ae.lookA f [])) (kok_nil _)
    (ann_nil _) (fun v => h104_c0 v)

def F104_l0 (f104_c0 : Int × Int × List UInt8 × Int × List UInt8 × Unit → Option (Int × Int × List UInt8 × Int × List UInt8 × Unit)) : Int × Int × List UInt8 × Int × List UInt8 × Unit → Option ((Int × Int × List UInt8 × Int × List UInt8 × Unit) ⊕ (List UInt8 × Unit)) := fun (x0, x1, x2, x3, x4, _) =>
  bif decide (x0 < (↑x2.length : Int)) then
    bif decide (0 ≤ x0) && decide (x0 < (↑x2.length : Int)) then
      bif (↑(x2.getD x0.toNat 0).toNat : Int) == 34 then
        bif decide (x4.length + [92].length ≤ 140737488355328 / 1) then
          (f104_c0 (x0, x1, x2, x3, x4 ++ [92], ())).bind fun val =>
            some
              (Sum.inl
                (IntKind.i64.wrap (val.fst + 1), val.snd.fst, val.snd.snd.fst, val.snd.snd.snd.fst,
                  val.snd.snd.snd.snd.fst, ()))
        else none
      else
        bif decide (0 ≤ x0) && decide (x0 < (↑x2.length : Int)) then
          bif (↑(x2.getD x0.toNat 0).toNat : Int) == 92 then
            bif decide (x4.length + [92].length ≤ 140737488355328 / 1) then
              (f104_c0 (x0, x1, x2, x3, x4 ++ [92], ())).bind fun val =>
                some
                  (Sum.inl
                    (IntKind.i64.wrap (val.fst + 1), val.snd.fst, val.snd.snd.fst, val.snd.snd.snd.fst,
                      val.snd.snd.snd.snd.fst, ()))
            else none
          else
            (f104_c0 (x0, x1, x2, x3, x4, ())).bind fun val =>
              some
                (Sum.inl
                  (IntKind.i64.wrap (val.fst + 1), val.snd.fst, val.snd.snd.fst, val.snd.snd.snd.fst,
                    val.snd.snd.snd.snd.fst, ()))
        else none
    else none
  else some (Sum.inr (x4, ()))
theorem h104_l0 (f104_c0 : HS f104_c0_ins → Option (OTy f104_c0_outs)) (v : HS f104_l0_ins) : aev Γ (fun f => Ae.lookA f []) 0 (subc (code Tryz.f104) [1, 0, 1, 0, 1, 1, 1, 1, 1, 0, 1, 0, 1, 0, 0]) (.seq .nil (.seq (.blk (.cut .nil ⟨f104_c0_ins, f104_c0_outs, f104_c0⟩)) .nil)) (stof f104_l0_ins v) (around 0 f104_l0_ins f104_l0_outs) = F104_l0 f104_c0 v := by kernel_rfl
def C104_l0 (v : Int × Int × List UInt8 × Int × List UInt8 × Unit) : Option (List UInt8 × Unit) := loopN (F104_l0 C104_c0) big v
theorem k104_l0 : FragOk Tryz.prog 0 (fun Q a w => (Code.loop (subc (code Tryz.f104) [1, 0, 1, 0, 1, 1, 1, 1, 1, 0, 1, 0, 1, 0, 0])).wp Tryz.prog Q a w) ⟨f104_l0_ins, f104_l0_outs, C104_l0⟩ :=
  frag_loop (ins := f104_l0_ins) (os := f104_l0_outs) (np := 0) (n := (.seq .nil (.seq (.blk (.cut .nil ⟨f104_c0_ins, f104_c0_outs, C104_c0⟩)) .nil))) (F := F104_l0 C104_c0) hm hΓ (K := (fun f => Ae.lookA f [])) (kok_nil _) (fun _ => big)
    (ann_seq (a := (subc (code Tryz.f104) [1, 0, 1, 0, 1, 1, 1, 1, 1, 0, 1, 0, 1, 0, 0, 0])) (b := (subc (code Tryz.f104) [1, 0, 1, 0, 1, 1, 1, 1, 1, 0, 1, 0, 1, 0, 0, 1])) (by kernel_rfl) (ann_nil _) (ann_seq (a := (subc (code Tryz.f104) [1, 0, 1, 0, 1, 1, 1, 1, 1, 0, 1, 0, 1, 0, 0, 1, 0])) (b := (subc (code Tryz.f104) [1, 0, 1, 0, 1, 1, 1, 1, 1, 0, 1, 0, 1, 0, 0, 1, 1])) (by kernel_rfl) (ann_blk (x := (subc (code Tryz.f104) [1, 0, 1, 0, 1, 1, 1, 1, 1, 0, 1, 0, 1, 0, 0, 1, 0, 0])) (by kernel_rfl) (ann_cut (a := (subc (code Tryz.f104) [1, 0, 1, 0, 1, 1, 1, 1, 1, 0, 1, 0, 1, 0, 0, 1, 0, 0, 0])) (b := (subc (code Tryz.f104) [1, 0, 1, 0, 1, 1, 1, 1, 1, 0, 1, 0, 1, 0, 0, 1, 0, 0, 1])) (by kernel_rfl) (ann_nil _) k104_c0)) (ann_nil _))) (fun v => h104_l0 C104_c0 v)

def F104 (f104_l0 : Int × Int × List UInt8 × Int × List UInt8 × Unit → Option (List UInt8 × Unit)) : Int × List UInt8 × Int × Unit → Option (List UInt8 × Unit) := fun (x0, x1, x2, _) =>
  bif x0 == 3 then
    bif decide ([40].length + x1.length ≤ 9223372036854775807) then
      bif decide (([40] ++ x1).length + [41].length ≤ 9223372036854775807) then
        some ([40] ++ x1 ++ [41], ())
      else none
    else none
  else
    bif x0 == 5 then
      bif decide ([91].length + x1.length ≤ 9223372036854775807) then
        bif decide (([91] ++ x1).length + [93].length ≤ 9223372036854775807) then
          some ([91] ++ x1 ++ [93], ())
        else none
      else none
    else
      bif x0 == 1 then
        (f104_l0 (0, x0, x1, x2, [34], ())).bind fun val =>
          bif decide (List.length val.fst + [34].length ≤ 140737488355328 / 1) then
            some (val.fst ++ [34], ())
          else none
      else some (x1, ())
theorem h104 (f104_l0 : HS f104_l0_ins → Option (OTy f104_l0_outs)) (v : HS f104_ins) : afun Γ (fun f => Ae.lookA f []) 0 Tryz.f104.ntmps Tryz.f104.results.toList (code Tryz.f104) (.seq .nil (.seq (.seq .nil (.blk (.seq .nil (.cond .nil (.seq .nil (.cond .nil (.seq .nil (.cond (.seq .nil (.seq (.seq .nil (.blk (.loop ⟨f104_l0_ins, f104_l0_outs, f104_l0⟩))) .nil)) .nil)))))))) .nil)) (em id f104_ins v).1 (em id f104_ins v).2 (ofin 0 f104_outs) = F104 f104_l0 v := by kernel_rfl
def C104 (v : Int × List UInt8 × Int × Unit) : Option (List UInt8 × Unit) := F104 C104_l0 v
theorem ok104 : FnOk Tryz.prog 104 ⟨f104_ins, f104_outs, C104⟩ :=
  fn_ok (np := 0) (n := (.seq .nil (.seq (.seq .nil (.blk (.seq .nil (.cond .nil (.seq .nil (.cond .nil (.seq .nil (.cond (.seq .nil (.seq (.seq .nil (.blk (.loop ⟨f104_l0_ins, f104_l0_outs, C104_l0⟩))) .nil)) .nil)))))))) .nil))) hm hΓ (K := (fun f => Ae.lookA f [])) (kok_nil _) Tryz.func104 (c := code Tryz.f104) (by kernel_rfl) (name_ne (by kernel_rfl))
    (ann_seq (a := (subc (code Tryz.f104) [0])) (b := (subc (code Tryz.f104) [1])) (by kernel_rfl) (ann_nil _) (ann_seq (a := (subc (code Tryz.f104) [1, 0])) (b := (subc (code Tryz.f104) [1, 1])) (by kernel_rfl) (ann_seq (a := (subc (code Tryz.f104) [1, 0, 0])) (b := (subc (code Tryz.f104) [1, 0, 1])) (by kernel_rfl) (ann_nil _) (ann_blk (x := (subc (code Tryz.f104) [1, 0, 1, 0])) (by kernel_rfl) (ann_seq (a := (subc (code Tryz.f104) [1, 0, 1, 0, 0])) (b := (subc (code Tryz.f104) [1, 0, 1, 0, 1])) (by kernel_rfl) (ann_nil _) (ann_cond (x := (subc (code Tryz.f104) [1, 0, 1, 0, 1, 0])) (y := (subc (code Tryz.f104) [1, 0, 1, 0, 1, 1])) (by kernel_rfl) (ann_nil _) (ann_seq (a := (subc (code Tryz.f104) [1, 0, 1, 0, 1, 1, 0])) (b := (subc (code Tryz.f104) [1, 0, 1, 0, 1, 1, 1])) (by kernel_rfl) (ann_nil _) (ann_cond (x := (subc (code Tryz.f104) [1, 0, 1, 0, 1, 1, 1, 0])) (y := (subc (code Tryz.f104) [1, 0, 1, 0, 1, 1, 1, 1])) (by kernel_rfl) (ann_nil _) (ann_seq (a := (subc (code Tryz.f104) [1, 0, 1, 0, 1, 1, 1, 1, 0])) (b := (subc (code Tryz.f104) [1, 0, 1, 0, 1, 1, 1, 1, 1])) (by kernel_rfl) (ann_nil _) (ann_cond (x := (subc (code Tryz.f104) [1, 0, 1, 0, 1, 1, 1, 1, 1, 0])) (y := (subc (code Tryz.f104) [1, 0, 1, 0, 1, 1, 1, 1, 1, 1])) (by kernel_rfl) (ann_seq (a := (subc (code Tryz.f104) [1, 0, 1, 0, 1, 1, 1, 1, 1, 0, 0])) (b := (subc (code Tryz.f104) [1, 0, 1, 0, 1, 1, 1, 1, 1, 0, 1])) (by kernel_rfl) (ann_nil _) (ann_seq (a := (subc (code Tryz.f104) [1, 0, 1, 0, 1, 1, 1, 1, 1, 0, 1, 0])) (b := (subc (code Tryz.f104) [1, 0, 1, 0, 1, 1, 1, 1, 1, 0, 1, 1])) (by kernel_rfl) (ann_seq (a := (subc (code Tryz.f104) [1, 0, 1, 0, 1, 1, 1, 1, 1, 0, 1, 0, 0])) (b := (subc (code Tryz.f104) [1, 0, 1, 0, 1, 1, 1, 1, 1, 0, 1, 0, 1])) (by kernel_rfl) (ann_nil _) (ann_blk (x := (subc (code Tryz.f104) [1, 0, 1, 0, 1, 1, 1, 1, 1, 0, 1, 0, 1, 0])) (by kernel_rfl) (ann_loop (x := (subc (code Tryz.f104) [1, 0, 1, 0, 1, 1, 1, 1, 1, 0, 1, 0, 1, 0, 0])) (by kernel_rfl) k104_l0))) (ann_nil _))) (ann_nil _))))))))) (ann_nil _))) (fun v => Nat.le_of_ble_eq_true (by kernel_rfl)) (fun v => h104 C104_l0 v)

def F77 (f103 : List UInt8 × Unit → Option (Bool × Unit)) (f104 : Int × List UInt8 × Int × Unit → Option (List UInt8 × Unit)) : List UInt8 × List UInt8 × Unit → Option (List UInt8 × Unit) := fun (x0, x1, _) =>
  (f103 (x0, ())).bind fun val =>
    bif val.fst then
      bif decide (x0.length + [64].length ≤ 9223372036854775807) then
        bif decide ((x0 ++ [64]).length + x1.length ≤ 9223372036854775807) then
          some (x0 ++ [64] ++ x1, ())
        else none
      else none
    else
      (f104 (1, x0, 0, ())).bind fun val =>
        bif decide (List.length val.fst + [64].length ≤ 9223372036854775807) then
          bif decide ((val.fst ++ [64]).length + x1.length ≤ 9223372036854775807) then
            some (val.fst ++ [64] ++ x1, ())
          else none
        else none
theorem h77 (f103 : HS f103_ins → Option (OTy f103_outs)) (f104 : HS f104_ins → Option (OTy f104_outs)) (v : HS f77_ins) : afun Γ (fun f => Ae.lookA f [(103, ⟨f103_ins, f103_outs, f103⟩), (104, ⟨f104_ins, f104_outs, f104⟩)]) 0 Tryz.f77.ntmps Tryz.f77.results.toList (code Tryz.f77) .nil (em id f77_ins v).1 (em id f77_ins v).2 (ofin 0 f77_outs) = F77 f103 f104 v := by kernel_rfl
def C77 (v : List UInt8 × List UInt8 × Unit) : Option (List UInt8 × Unit) := F77 C103 C104 v
theorem ok77 : FnOk Tryz.prog 77 ⟨f77_ins, f77_outs, C77⟩ :=
  fn_ok (np := 0) (n := .nil) hm hΓ (K := (fun f => Ae.lookA f [(103, ⟨f103_ins, f103_outs, C103⟩), (104, ⟨f104_ins, f104_outs, C104⟩)])) (kok_cons ok103 (kok_cons ok104 (kok_nil _))) Tryz.func77 (c := code Tryz.f77) (by kernel_rfl) (name_ne (by kernel_rfl))
    (ann_nil _) (fun v => Nat.le_of_ble_eq_true (by kernel_rfl)) (fun v => h77 C103 C104 v)

def F44 (f76 : Bool × List UInt8 × List UInt8 × Unit → Option (Bool × Unit)) (f77 : List UInt8 × List UInt8 × Unit → Option (List UInt8 × Unit)) : Bool × List UInt8 × List UInt8 × Unit → Option (List UInt8 × Unit) := fun (x0, x1, x2, _) =>
  bif x0 then some ([60, 62], ())
  else
    (f76 (x0, x1, x2, ())).bind fun val =>
      bif val.fst then
        bif decide ([60].length + x1.length ≤ 9223372036854775807) then
          bif decide (([60] ++ x1).length + [62].length ≤ 9223372036854775807) then
            some ([60] ++ x1 ++ [62], ())
          else none
        else none
      else
        (f77 (x1, x2, ())).bind fun val =>
          bif decide ([60].length + List.length val.fst ≤ 9223372036854775807) then
            bif decide (([60] ++ val.fst).length + [62].length ≤ 9223372036854775807) then
              some ([60] ++ val.fst ++ [62], ())
            else none
          else none
theorem h44 (f76 : HS f76_ins → Option (OTy f76_outs)) (f77 : HS f77_ins → Option (OTy f77_outs)) (v : HS f44_ins) : afun Γ (fun f => Ae.lookA f [(76, ⟨f76_ins, f76_outs, f76⟩), (77, ⟨f77_ins, f77_outs, f77⟩)]) 0 Tryz.f44.ntmps Tryz.f44.results.toList (code Tryz.f44) .nil (em id f44_ins v).1 (em id f44_ins v).2 (ofin 0 f44_outs) = F44 f76 f77 v := by kernel_rfl
def C44 (v : Bool × List UInt8 × List UInt8 × Unit) : Option (List UInt8 × Unit) := F44 C76 C77 v
theorem ok44 : FnOk Tryz.prog 44 ⟨f44_ins, f44_outs, C44⟩ :=
  fn_ok (np := 0) (n := .nil) hm hΓ (K := (fun f => Ae.lookA f [(76, ⟨f76_ins, f76_outs, C76⟩), (77, ⟨f77_ins, f77_outs, C77⟩)])) (kok_cons ok76 (kok_cons ok77 (kok_nil _))) Tryz.func44 (c := code Tryz.f44) (by kernel_rfl) (name_ne (by kernel_rfl))
    (ann_nil _) (fun v => Nat.le_of_ble_eq_true (by kernel_rfl)) (fun v => h44 C76 C77 v)

def F42  : List UInt8 × List UInt8 × List UInt8 × List UInt8 × Unit → Option (List (List UInt8) × Unit) := fun (x0, x1, x2, x3, _) =>
  bif
      decide
        ([82, 101, 112, 111, 114, 116, 105, 110, 103, 45, 77, 84, 65, 58, 32, 100, 110, 115, 59, 32].length +
            x0.length ≤
          9223372036854775807) then
    bif
        decide
          ([79, 114, 105, 103, 105, 110, 97, 108, 45, 73, 68, 58, 32].length + x1.length ≤
            9223372036854775807) then
      bif
          decide
            ([70, 105, 110, 97, 108, 45, 82, 101, 99, 105, 112, 105, 101, 110, 116, 58, 32, 117, 116, 102, 45, 56, 59,
                      32].length +
                x2.length ≤
              9223372036854775807) then
        bif decide ([83, 116, 97, 116, 117, 115, 58, 32].length + x3.length ≤ 9223372036854775807) then
          some
            ([[83, 117, 98, 106, 101, 99, 116, 58, 32, 110, 111, 116, 32, 100, 101, 108, 105, 118, 101, 114, 101,
                    100],
                [77, 73, 77, 69, 45, 86, 101, 114, 115, 105, 111, 110, 58, 32, 49, 46, 48],
                [67, 111, 110, 116, 101, 110, 116, 45, 84, 121, 112, 101, 58, 32, 109, 101, 115, 115, 97, 103, 101, 47,
                    103, 108, 111, 98, 97, 108, 45, 100, 101, 108, 105, 118, 101, 114, 121, 45, 115, 116, 97, 116, 117,
                    115],
                [],
                [82, 101, 112, 111, 114, 116, 105, 110, 103, 45, 77, 84, 65, 58, 32, 100, 110, 115, 59, 32] ++ x0,
                [], [79, 114, 105, 103, 105, 110, 97, 108, 45, 73, 68, 58, 32] ++ x1,
                [70, 105, 110, 97, 108, 45, 82, 101, 99, 105, 112, 105, 101, 110, 116, 58, 32, 117, 116, 102, 45, 56, 59,
                      32] ++
                  x2,
                [65, 99, 116, 105, 111, 110, 58, 32, 102, 97, 105, 108, 101, 100],
                [83, 116, 97, 116, 117, 115, 58, 32] ++ x3],
              ())
        else none
      else none
    else none
  else none
theorem h42  (v : HS f42_ins) : afun Γ (fun f => Ae.lookA f []) 0 Tryz.f42.ntmps Tryz.f42.results.toList (code Tryz.f42) .nil (em id f42_ins v).1 (em id f42_ins v).2 (ofin 0 f42_outs) = F42 v := by kernel_rfl
def C42 (v : List UInt8 × List UInt8 × List UInt8 × List UInt8 × Unit) : Option (List (List UInt8) × Unit) := F42 v
theorem ok42 : FnOk Tryz.prog 42 ⟨f42_ins, f42_outs, C42⟩ :=
  fn_ok (np := 0) (n := .nil) hm hΓ (K := (fun f => Ae.lookA f [])) (kok_nil _) Tryz.func42 (c := code Tryz.f42) (by kernel_rfl) (name_ne (by kernel_rfl))
    (ann_nil _) (fun v => Nat.le_of_ble_eq_true (by kernel_rfl)) (fun v => h42 v)

def F78_l0  : List (List UInt8) × Int × Unit → Option ((List (List UInt8) × Int × Unit) ⊕ (Int × Unit)) := fun (x0, x1, _) =>
  bif decide (x1 < (↑x0.length : Int)) then
    bif decide (0 ≤ x1) && decide (x1 < (↑x0.length : Int)) then
      bif !x0.getD x1.toNat [] == [] then some (Sum.inl (x0, IntKind.i64.wrap (x1 + 1), ()))
      else some (Sum.inr (x1, ()))
    else none
  else some (Sum.inr (x1, ()))
theorem h78_l0  (v : HS f78_l0_ins) : aev Γ (fun f => Ae.lookA f []) 0 (subc (code Tryz.f78) [1, 1, 0, 0, 0]) .nil (stof f78_l0_ins v) (around 0 f78_l0_ins f78_l0_outs) = F78_l0 v := by kernel_rfl
def C78_l0 (v : List (List UInt8) × Int × Unit) : Option (Int × Unit) := loopN (F78_l0) big v
theorem k78_l0 : FragOk Tryz.prog 0 (fun Q a w => (Code.loop (subc (code Tryz.f78) [1, 1, 0, 0, 0])).wp Tryz.prog Q a w) ⟨f78_l0_ins, f78_l0_outs, C78_l0⟩ :=
  frag_loop (ins := f78_l0_ins) (os := f78_l0_outs) (np := 0) (n := .nil) (F := F78_l0) hm hΓ (K := (fun f => Ae.lookA f [])) (kok_nil _) (fun _ => big)
    (ann_nil _) (fun v => h78_l0 v)

def F78 (f78_l0 : List (List UInt8) × Int × Unit → Option (Int × Unit)) : List (List UInt8) × Unit → Option (Int × Unit) := fun (x0, _) =>
  (f78_l0 (x0, 0, ())).bind fun val => some (val.fst, ())
theorem h78 (f78_l0 : HS f78_l0_ins → Option (OTy f78_l0_outs)) (v : HS f78_ins) : afun Γ (fun f => Ae.lookA f []) 0 Tryz.f78.ntmps Tryz.f78.results.toList (code Tryz.f78) (.seq .nil (.seq .nil (.seq (.blk (.loop ⟨f78_l0_ins, f78_l0_outs, f78_l0⟩)) .nil))) (em id f78_ins v).1 (em id f78_ins v).2 (ofin 0 f78_outs) = F78 f78_l0 v := by kernel_rfl
def C78 (v : List (List UInt8) × Unit) : Option (Int × Unit) := F78 C78_l0 v
theorem ok78 : FnOk Tryz.prog 78 ⟨f78_ins, f78_outs, C78⟩ :=
  fn_ok (np := 0) (n := (.seq .nil (.seq .nil (.seq (.blk (.loop ⟨f78_l0_ins, f78_l0_outs, C78_l0⟩)) .nil)))) hm hΓ (K := (fun f => Ae.lookA f [])) (kok_nil _) Tryz.func78 (c := code Tryz.f78) (by kernel_rfl) (name_ne (by kernel_rfl))
    (ann_seq (a := (subc (code Tryz.f78) [0])) (b := (subc (code Tryz.f78) [1])) (by kernel_rfl) (ann_nil _) (ann_seq (a := (subc (code Tryz.f78) [1, 0])) (b := (subc (code Tryz.f78) [1, 1])) (by kernel_rfl) (ann_nil _) (ann_seq (a := (subc (code Tryz.f78) [1, 1, 0])) (b := (subc (code Tryz.f78) [1, 1, 1])) (by kernel_rfl) (ann_blk (x := (subc (code Tryz.f78) [1, 1, 0, 0])) (by kernel_rfl) (ann_loop (x := (subc (code Tryz.f78) [1, 1, 0, 0, 0])) (by kernel_rfl) k78_l0)) (ann_nil _)))) (fun v => Nat.le_of_ble_eq_true (by kernel_rfl)) (fun v => h78 C78_l0 v)

def F79_l0  : List UInt8 × Int × Unit → Option ((List UInt8 × Int × Unit) ⊕ (Unit ⊕ (Int × Unit))) := fun (x0, x1, _) =>
  bif decide (x1 < (↑x0.length : Int)) then
    bif decide (0 ≤ x1) && decide (x1 < (↑x0.length : Int)) then
      bif decide ((↑(x0.getD x1.toNat 0).toNat : Int) > 127) then some (Sum.inr (Sum.inr (x1, ())))
      else some (Sum.inl (x0, IntKind.i64.wrap (x1 + 1), ()))
    else none
  else some (Sum.inr (Sum.inl ()))
theorem h79_l0  (v : HS f79_l0_ins) : aev Γ (fun f => Ae.lookA f []) 0 (subc (code Tryz.f79) [1, 0, 1, 0, 0]) .nil (stof f79_l0_ins v) (around 0 f79_l0_ins f79_l0_outs) = F79_l0 v := by kernel_rfl
def C79_l0 (v : List UInt8 × Int × Unit) : Option (Unit ⊕ (Int × Unit)) := loopN (F79_l0) big v
theorem k79_l0 : FragOk Tryz.prog 0 (fun Q a w => (Code.loop (subc (code Tryz.f79) [1, 0, 1, 0, 0])).wp Tryz.prog Q a w) ⟨f79_l0_ins, f79_l0_outs, C79_l0⟩ :=
  frag_loop (ins := f79_l0_ins) (os := f79_l0_outs) (np := 0) (n := .nil) (F := F79_l0) hm hΓ (K := (fun f => Ae.lookA f [])) (kok_nil _) (fun _ => big)
    (ann_nil _) (fun v => h79_l0 v)

def F79 (f79_l0 : List UInt8 × Int × Unit → Option (Unit ⊕ (Int × Unit))) : List UInt8 × Unit → Option (Int × Unit) := fun (x0, _) =>
  (f79_l0 (x0, 0, ())).bind fun val =>
    Sum.elim (fun val => some (-1, ())) (fun val => some (val.fst, ())) val
theorem h79 (f79_l0 : HS f79_l0_ins → Option (OTy f79_l0_outs)) (v : HS f79_ins) : afun Γ (fun f => Ae.lookA f []) 0 Tryz.f79.ntmps Tryz.f79.results.toList (code Tryz.f79) (.seq .nil (.seq (.seq .nil (.blk (.loop ⟨f79_l0_ins, f79_l0_outs, f79_l0⟩))) .nil)) (em id f79_ins v).1 (em id f79_ins v).2 (ofin 0 f79_outs) = F79 f79_l0 v := by kernel_rfl
def C79 (v : List UInt8 × Unit) : Option (Int × Unit) := F79 C79_l0 v
theorem ok79 : FnOk Tryz.prog 79 ⟨f79_ins, f79_outs, C79⟩ :=
  fn_ok (np := 0) (n := (.seq .nil (.seq (.seq .nil (.blk (.loop ⟨f79_l0_ins, f79_l0_outs, C79_l0⟩))) .nil))) hm hΓ (K := (fun f => Ae.lookA f [])) (kok_nil _) Tryz.func79 (c := code Tryz.f79) (by kernel_rfl) (name_ne (by kernel_rfl))
    (ann_seq (a := (subc (code Tryz.f79) [0])) (b := (subc (code Tryz.f79) [1])) (by kernel_rfl) (ann_nil _) (ann_seq (a := (subc (code Tryz.f79) [1, 0])) (b := (subc (code Tryz.f79) [1, 1])) (by kernel_rfl) (ann_seq (a := (subc (code Tryz.f79) [1, 0, 0])) (b := (subc (code Tryz.f79) [1, 0, 1])) (by kernel_rfl) (ann_nil _) (ann_blk (x := (subc (code Tryz.f79) [1, 0, 1, 0])) (by kernel_rfl) (ann_loop (x := (subc (code Tryz.f79) [1, 0, 1, 0, 0])) (by kernel_rfl) k79_l0))) (ann_nil _))) (fun v => Nat.le_of_ble_eq_true (by kernel_rfl)) (fun v => h79 C79_l0 v)

def F105  : Int × Unit → Option (Bool × Unit) := fun (x0, _) =>
  bif x0 == 32 then some (true, ()) else some (x0 == 9, ())
theorem h105  (v : HS f105_ins) : afun Γ (fun f => Ae.lookA f []) 0 Tryz.f105.ntmps Tryz.f105.results.toList (code Tryz.f105) .nil (em id f105_ins v).1 (em id f105_ins v).2 (ofin 0 f105_outs) = F105 v := by kernel_rfl
def C105 (v : Int × Unit) : Option (Bool × Unit) := F105 v
theorem ok105 : FnOk Tryz.prog 105 ⟨f105_ins, f105_outs, C105⟩ :=
  fn_ok (np := 0) (n := .nil) hm hΓ (K := (fun f => Ae.lookA f [])) (kok_nil _) Tryz.func105 (c := code Tryz.f105) (by kernel_rfl) (name_ne (by kernel_rfl))
    (ann_nil _) (fun v => Nat.le_of_ble_eq_true (by kernel_rfl)) (fun v => h105 v)

def F106_l0  : List UInt8 × Int × Unit → Option ((List UInt8 × Int × Unit) ⊕ (Unit ⊕ (Int × Unit))) := fun (x0, x1, _) =>
  bif decide (x1 < (↑x0.length : Int)) then
    bif decide (0 ≤ x1) && decide (x1 < (↑x0.length : Int)) then
      bif (↑(x0.getD x1.toNat 0).toNat : Int) == 58 then some (Sum.inr (Sum.inr (x1, ())))
      else
        bif decide (0 ≤ x1) && decide (x1 < (↑x0.length : Int)) then
          bif decide ((↑(x0.getD x1.toNat 0).toNat : Int) < 33) then some (Sum.inr (Sum.inr (0, ())))
          else
            bif decide (0 ≤ x1) && decide (x1 < (↑x0.length : Int)) then
              bif decide ((↑(x0.getD x1.toNat 0).toNat : Int) > 126) then some (Sum.inr (Sum.inr (0, ())))
              else some (Sum.inl (x0, IntKind.i64.wrap (x1 + 1), ()))
            else none
        else none
    else none
  else some (Sum.inr (Sum.inl ()))
theorem h106_l0  (v : HS f106_l0_ins) : aev Γ (fun f => Ae.lookA f []) 0 (subc (code Tryz.f106) [1, 0, 1, 0, 0]) .nil (stof f106_l0_ins v) (around 0 f106_l0_ins f106_l0_outs) = F106_l0 v := by kernel_rfl
def C106_l0 (v : List UInt8 × Int × Unit) : Option (Unit ⊕ (Int × Unit)) := loopN (F106_l0) big v
theorem k106_l0 : FragOk Tryz.prog 0 (fun Q a w => (Code.loop (subc (code Tryz.f106) [1, 0, 1, 0, 0])).wp Tryz.prog Q a w) ⟨f106_l0_ins, f106_l0_outs, C106_l0⟩ :=
  frag_loop (ins := f106_l0_ins) (os := f106_l0_outs) (np := 0) (n := .nil) (F := F106_l0) hm hΓ (K := (fun f => Ae.lookA f [])) (kok_nil _) (fun _ => big)
    (ann_nil _) (fun v => h106_l0 v)

def F106 (f106_l0 : List UInt8 × Int × Unit → Option (Unit ⊕ (Int × Unit))) : List UInt8 × Unit → Option (Int × Unit) := fun (x0, _) =>
  (f106_l0 (x0, 0, ())).bind fun val =>
    Sum.elim (fun val => some (0, ())) (fun val => some (val.fst, ())) val
theorem h106 (f106_l0 : HS f106_l0_ins → Option (OTy f106_l0_outs)) (v : HS f106_ins) : afun Γ (fun f => Ae.lookA f []) 0 Tryz.f106.ntmps Tryz.f106.results.toList (code Tryz.f106) (.seq .nil (.seq (.seq .nil (.blk (.loop ⟨f106_l0_ins, f106_l0_outs, f106_l0⟩))) .nil)) (em id f106_ins v).1 (em id f106_ins v).2 (ofin 0 f106_outs) = F106 f106_l0 v := by kernel_rfl
def C106 (v : List UInt8 × Unit) : Option (Int × Unit) := F106 C106_l0 v
theorem ok106 : FnOk Tryz.prog 106 ⟨f106_ins, f106_outs, C106⟩ :=
  fn_ok (np := 0) (n := (.seq .nil (.seq (.seq .nil (.blk (.loop ⟨f106_l0_ins, f106_l0_outs, C106_l0⟩))) .nil))) hm hΓ (K := (fun f => Ae.lookA f [])) (kok_nil _) Tryz.func106 (c := code Tryz.f106) (by kernel_rfl) (name_ne (by kernel_rfl))
    (ann_seq (a := (subc (code Tryz.f106) [0])) (b := (subc (code Tryz.f106) [1])) (by kernel_rfl) (ann_nil _) (ann_seq (a := (subc (code Tryz.f106) [1, 0])) (b := (subc (code Tryz.f106) [1, 1])) (by kernel_rfl) (ann_seq (a := (subc (code Tryz.f106) [1, 0, 0])) (b := (subc (code Tryz.f106) [1, 0, 1])) (by kernel_rfl) (ann_nil _) (ann_blk (x := (subc (code Tryz.f106) [1, 0, 1, 0])) (by kernel_rfl) (ann_loop (x := (subc (code Tryz.f106) [1, 0, 1, 0, 0])) (by kernel_rfl) k106_l0))) (ann_nil _))) (fun v => Nat.le_of_ble_eq_true (by kernel_rfl)) (fun v => h106 C106_l0 v)

def F107_l0 (f105 : Int × Unit → Option (Bool × Unit)) : List UInt8 × Int × Unit → Option ((List UInt8 × Int × Unit) ⊕ (List UInt8 × Int × Unit)) := fun (x0, x1, _) =>
  bif decide (x1 < (↑x0.length : Int)) then
    bif decide (0 ≤ x1) && decide (x1 < (↑x0.length : Int)) then
      (f105 ((↑(x0.getD x1.toNat 0).toNat : Int), ())).bind fun val =>
        bif val.fst then some (Sum.inl (x0, IntKind.i64.wrap (x1 + 1), ()))
        else some (Sum.inr (x0, x1, ()))
    else none
  else some (Sum.inr (x0, x1, ()))
theorem h107_l0 (f105 : HS f105_ins → Option (OTy f105_outs)) (v : HS f107_l0_ins) : aev Γ (fun f => Ae.lookA f [(105, ⟨f105_ins, f105_outs, f105⟩)]) 0 (subc (code Tryz.f107) [1, 1, 0, 0, 0]) .nil (stof f107_l0_ins v) (around 0 f107_l0_ins f107_l0_outs) = F107_l0 f105 v := by kernel_rfl
def C107_l0 (v : List UInt8 × Int × Unit) : Option (List UInt8 × Int × Unit) := loopN (F107_l0 C105) big v
theorem k107_l0 : FragOk Tryz.prog 0 (fun Q a w => (Code.loop (subc (code Tryz.f107) [1, 1, 0, 0, 0])).wp Tryz.prog Q a w) ⟨f107_l0_ins, f107_l0_outs, C107_l0⟩ :=
  frag_loop (ins := f107_l0_ins) (os := f107_l0_outs) (np := 0) (n := .nil) (F := F107_l0 C105) hm hΓ (K := (fun f => Ae.lookA f [(105, ⟨f105_ins, f105_outs, C105⟩)])) (kok_cons ok105 (kok_nil _)) (fun _ => big)
    (ann_nil _) (fun v => h107_l0 C105 v)

def F107_l1 (f105 : Int × Unit → Option (Bool × Unit)) : List UInt8 × Int × Int × Unit → Option ((List UInt8 × Int × Int × Unit) ⊕ (List UInt8 × Int × Int × Unit)) := fun (x0, x1, x2, _) =>
  bif decide (x2 > x1) then
    bif decide (0 ≤ IntKind.i64.wrap (x2 - 1)) && decide (IntKind.i64.wrap (x2 - 1) < (↑x0.length : Int)) then
      (f105 ((↑(x0.getD (IntKind.i64.wrap (x2 - 1)).toNat 0).toNat : Int), ())).bind fun val =>
        bif val.fst then some (Sum.inl (x0, x1, IntKind.i64.wrap (x2 - 1), ()))
        else some (Sum.inr (x0, x1, x2, ()))
    else none
  else some (Sum.inr (x0, x1, x2, ()))
theorem h107_l1 (f105 : HS f105_ins → Option (OTy f105_outs)) (v : HS f107_l1_ins) : aev Γ (fun f => Ae.lookA f [(105, ⟨f105_ins, f105_outs, f105⟩)]) 0 (subc (code Tryz.f107) [1, 1, 1, 1, 0, 0, 0]) .nil (stof f107_l1_ins v) (around 0 f107_l1_ins f107_l1_outs) = F107_l1 f105 v := by kernel_rfl
def C107_l1 (v : List UInt8 × Int × Int × Unit) : Option (List UInt8 × Int × Int × Unit) := loopN (F107_l1 C105) big v
theorem k107_l1 : FragOk Tryz.prog 0 (fun Q a w => (Code.loop (subc (code Tryz.f107) [1, 1, 1, 1, 0, 0, 0])).wp Tryz.prog Q a w) ⟨f107_l1_ins, f107_l1_outs, C107_l1⟩ :=
  frag_loop (ins := f107_l1_ins) (os := f107_l1_outs) (np := 0) (n := .nil) (F := F107_l1 C105) hm hΓ (K := (fun f => Ae.lookA f [(105, ⟨f105_ins, f105_outs, C105⟩)])) (kok_cons ok105 (kok_nil _)) (fun _ => big)
    (ann_nil _) (fun v => h107_l1 C105 v)

def F107 (f107_l0 : List UInt8 × Int × Unit → Option (List UInt8 × Int × Unit)) (f107_l1 : List UInt8 × Int × Int × Unit → Option (List UInt8 × Int × Int × Unit)) : List UInt8 × Unit → Option (List UInt8 × Unit) := fun (x0, _) =>
  (f107_l0 (x0, 0, ())).bind fun val =>
    (f107_l1 (val.fst, val.snd.fst, (↑(List.length val.fst) : Int), ())).bind fun val =>
      bif decide (0 ≤ val.snd.snd.fst) && decide (val.snd.snd.fst ≤ (↑(List.length val.fst) : Int)) then
        bif decide (0 ≤ val.snd.fst) && decide (val.snd.fst ≤ val.snd.snd.fst) then
          some (List.drop (Int.toNat val.snd.fst) (List.take (Int.toNat val.snd.snd.fst) val.fst), ())
        else none
      else none
theorem h107 (f107_l0 : HS f107_l0_ins → Option (OTy f107_l0_outs)) (f107_l1 : HS f107_l1_ins → Option (OTy f107_l1_outs)) (v : HS f107_ins) : afun Γ (fun f => Ae.lookA f []) 0 Tryz.f107.ntmps Tryz.f107.results.toList (code Tryz.f107) (.seq .nil (.seq .nil (.seq (.blk (.loop ⟨f107_l0_ins, f107_l0_outs, f107_l0⟩)) (.seq .nil (.seq (.blk (.loop ⟨f107_l1_ins, f107_l1_outs, f107_l1⟩)) .nil))))) (em id f107_ins v).1 (em id f107_ins v).2 (ofin 0 f107_outs) = F107 f107_l0 f107_l1 v := by kernel_rfl
def C107 (v : List UInt8 × Unit) : Option (List UInt8 × Unit) := F107 C107_l0 C107_l1 v
theorem ok107 : FnOk Tryz.prog 107 ⟨f107_ins, f107_outs, C107⟩ :=
  fn_ok (np := 0) (n := (.seq .nil (.seq .nil (.seq (.blk (.loop ⟨f107_l0_ins, f107_l0_outs, C107_l0⟩)) (.seq .nil (.seq (.blk (.loop ⟨f107_l1_ins, f107_l1_outs, C107_l1⟩)) .nil)))))) hm hΓ (K := (fun f => Ae.lookA f [])) (kok_nil _) Tryz.func107 (c := code Tryz.f107) (by kernel_rfl) (name_ne (by kernel_rfl))
    (ann_seq (a := (subc (code Tryz.f107) [0])) (b := (subc (code Tryz.f107) [1])) (by kernel_rfl) (ann_nil _) (ann_seq (a := (subc (code Tryz.f107) [1, 0])) (b := (subc (code Tryz.f107) [1, 1])) (by kernel_rfl) (ann_nil _) (ann_seq (a := (subc (code Tryz.f107) [1, 1, 0])) (b := (subc (code Tryz.f107) [1, 1, 1])) (by kernel_rfl) (ann_blk (x := (subc (code Tryz.f107) [1, 1, 0, 0])) (by kernel_rfl) (ann_loop (x := (subc (code Tryz.f107) [1, 1, 0, 0, 0])) (by kernel_rfl) k107_l0)) (ann_seq (a := (subc (code Tryz.f107) [1, 1, 1, 0])) (b := (subc (code Tryz.f107) [1, 1, 1, 1])) (by kernel_rfl) (ann_nil _) (ann_seq (a := (subc (code Tryz.f107) [1, 1, 1, 1, 0])) (b := (subc (code Tryz.f107) [1, 1, 1, 1, 1])) (by kernel_rfl) (ann_blk (x := (subc (code Tryz.f107) [1, 1, 1, 1, 0, 0])) (by kernel_rfl) (ann_loop (x := (subc (code Tryz.f107) [1, 1, 1, 1, 0, 0, 0])) (by kernel_rfl) k107_l1)) (ann_nil _)))))) (fun v => Nat.le_of_ble_eq_true (by kernel_rfl)) (fun v => h107 C107_l0 C107_l1 v)

def F80_l0 (f78 : List (List UInt8) × Unit → Option (Int × Unit)) (f102 : List UInt8 × Unit → Option (List UInt8 × Unit)) (f105 : Int × Unit → Option (Bool × Unit)) (f106 : List UInt8 × Unit → Option (Int × Unit)) : List (List UInt8) × Bool × Int × List ((List UInt8 × List UInt8)) × Unit → Option ((List (List UInt8) × Bool × Int × List ((List UInt8 × List UInt8)) × Unit) ⊕ (List ((List UInt8 × List UInt8)) × Unit)) := fun (x0, x1, x2, x3, _) =>
  (f78 (x0, ())).bind fun val =>
    bif decide (x2 < val.fst) then
      bif decide (0 ≤ x2) && decide (x2 < (↑x0.length : Int)) then
        bif decide (0 < (↑(List.length (x0.getD x2.toNat [])) : Int)) then
          (f105 ((↑(List.getD (x0.getD x2.toNat []) 0 0).toNat : Int), ())).bind fun val =>
            bif val.fst then
              bif x1 then
                bif
                    decide (0 ≤ IntKind.i64.wrap ((↑x3.length : Int) - 1)) &&
                      decide (IntKind.i64.wrap ((↑x3.length : Int) - 1) < (↑x3.length : Int)) then
                  bif
                      decide
                        (List.length
                              (x3.getD (IntKind.i64.wrap ((↑x3.length : Int) - 1)).toNat ([], [])).snd +
                            List.length (x0.getD x2.toNat []) ≤
                          9223372036854775807) then
                    bif
                        decide (0 ≤ IntKind.i64.wrap ((↑x3.length : Int) - 1)) &&
                          decide (IntKind.i64.wrap ((↑x3.length : Int) - 1) < (↑x3.length : Int)) then
                      some
                        (Sum.inl
                          (x0, x1, IntKind.i64.wrap (x2 + 1),
                            x3.set (IntKind.i64.wrap ((↑x3.length : Int) - 1)).toNat
                              ((x3.getD (IntKind.i64.wrap ((↑x3.length : Int) - 1)).toNat ([], [])).fst,
                                (x3.getD (IntKind.i64.wrap ((↑x3.length : Int) - 1)).toNat
                                      ([], [])).snd ++
                                  x0.getD x2.toNat []),
                            ()))
                    else none
                  else none
                else none
              else some (Sum.inl (x0, x1, IntKind.i64.wrap (x2 + 1), x3, ()))
            else
              (f106 (x0.getD x2.toNat [], ())).bind fun val =>
                bif decide (val.fst > 0) then
                  bif
                      decide (0 ≤ val.fst) &&
                        decide (val.fst ≤ (↑(List.length (x0.getD x2.toNat [])) : Int)) then
                    (f102 (List.take (Int.toNat val.fst) (x0.getD x2.toNat []), ())).bind fun val_1 =>
                      bif
                          decide (0 ≤ IntKind.i64.wrap (val.fst + 1)) &&
                            decide
                              (IntKind.i64.wrap (val.fst + 1) ≤
                                (↑(List.length (x0.getD x2.toNat [])) : Int)) then
                        bif
                            decide
                              (x3.length +
                                  [(val_1.fst,
                                        List.drop (IntKind.i64.wrap (val.fst + 1)).toNat
                                          (x0.getD x2.toNat []))].length ≤
                                140737488355328 / 32) then
                          some
                            (Sum.inl
                              (x0, decide (val.fst > 0), IntKind.i64.wrap (x2 + 1),
                                x3 ++
                                  [(val_1.fst,
                                      List.drop (IntKind.i64.wrap (val.fst + 1)).toNat (x0.getD x2.toNat []))],
                                ()))
                        else none
                      else none
                  else none
                else some (Sum.inl (x0, decide (val.fst > 0), IntKind.i64.wrap (x2 + 1), x3, ()))
        else none
      else none
    else some (Sum.inr (x3, ()))
theorem h80_l0 (f78 : HS f78_ins → Option (OTy f78_outs)) (f102 : HS f102_ins → Option (OTy f102_outs)) (f105 : HS f105_ins → Option (OTy f105_outs)) (f106 : HS f106_ins → Option (OTy f106_outs)) (v : HS f80_l0_ins) : aev Γ (fun f => Ae.lookA f [(78, ⟨f78_ins, f78_outs, f78⟩), (102, ⟨f102_ins, f102_outs, f102⟩), (105, ⟨f105_ins, f105_outs, f105⟩), (106, ⟨f106_ins, f106_outs, f106⟩)]) 0 (subc (code Tryz.f80) [1, 1, 1, 0, 1, 0, 0]) .nil (stof f80_l0_ins v) (around 0 f80_l0_ins f80_l0_outs) = F80_l0 f78 f102 f105 f106 v := by kernel_rfl
def C80_l0 (v : List (List UInt8) × Bool × Int × List ((List UInt8 × List UInt8)) × Unit) : Option (List ((List UInt8 × List UInt8)) × Unit) := loopN (F80_l0 C78 C102 C105 C106) big v
theorem k80_l0 : FragOk Tryz.prog 0 (fun Q a w => (Code.loop (subc (code Tryz.f80) [1, 1, 1, 0, 1, 0, 0])).wp Tryz.prog Q a w) ⟨f80_l0_ins, f80_l0_outs, C80_l0⟩ :=
  frag_loop (ins := f80_l0_ins) (os := f80_l0_outs) (np := 0) (n := .nil) (F := F80_l0 C78 C102 C105 C106) hm hΓ (K := (fun f => Ae.lookA f [(78, ⟨f78_ins, f78_outs, C78⟩), (102, ⟨f102_ins, f102_outs, C102⟩), (105, ⟨f105_ins, f105_outs, C105⟩), (106, ⟨f106_ins, f106_outs, C106⟩)])) (kok_cons ok78 (kok_cons ok102 (kok_cons ok105 (kok_cons ok106 (kok_nil _))))) (fun _ => big)
    (ann_nil _) (fun v => h80_l0 C78 C102 C105 C106 v)

def F80_l1 (f107 : List UInt8 × Unit → Option (List UInt8 × Unit)) : Int × List ((List UInt8 × List UInt8)) × Unit → Option ((Int × List ((List UInt8 × List UInt8)) × Unit) ⊕ (List ((List UInt8 × List UInt8)) × Unit)) := fun (x0, x1, _) =>
  bif decide (x0 < (↑x1.length : Int)) then
    bif decide (0 ≤ x0) && decide (x0 < (↑x1.length : Int)) then
      (f107 ((x1.getD x0.toNat ([], [])).snd, ())).bind fun val =>
        bif decide (0 ≤ x0) && decide (x0 < (↑x1.length : Int)) then
          some
            (Sum.inl
              (IntKind.i64.wrap (x0 + 1), x1.set x0.toNat ((x1.getD x0.toNat ([], [])).fst, val.fst),
                ()))
        else none
    else none
  else some (Sum.inr (x1, ()))
theorem h80_l1 (f107 : HS f107_ins → Option (OTy f107_outs)) (v : HS f80_l1_ins) : aev Γ (fun f => Ae.lookA f [(107, ⟨f107_ins, f107_outs, f107⟩)]) 0 (subc (code Tryz.f80) [1, 1, 1, 1, 0, 1, 0, 0]) .nil (stof f80_l1_ins v) (around 0 f80_l1_ins f80_l1_outs) = F80_l1 f107 v := by kernel_rfl
def C80_l1 (v : Int × List ((List UInt8 × List UInt8)) × Unit) : Option (List ((List UInt8 × List UInt8)) × Unit) := loopN (F80_l1 C107) big v
theorem k80_l1 : FragOk Tryz.prog 0 (fun Q a w => (Code.loop (subc (code Tryz.f80) [1, 1, 1, 1, 0, 1, 0, 0])).wp Tryz.prog Q a w) ⟨f80_l1_ins, f80_l1_outs, C80_l1⟩ :=
  frag_loop (ins := f80_l1_ins) (os := f80_l1_outs) (np := 0) (n := .nil) (F := F80_l1 C107) hm hΓ (K := (fun f => Ae.lookA f [(107, ⟨f107_ins, f107_outs, C107⟩)])) (kok_cons ok107 (kok_nil _)) (fun _ => big)
    (ann_nil _) (fun v => h80_l1 C107 v)

def F80 (f80_l0 : List (List UInt8) × Bool × Int × List ((List UInt8 × List UInt8)) × Unit → Option (List ((List UInt8 × List UInt8)) × Unit)) (f80_l1 : Int × List ((List UInt8 × List UInt8)) × Unit → Option (List ((List UInt8 × List UInt8)) × Unit)) : List (List UInt8) × Unit → Option (List ((List UInt8 × List UInt8)) × Unit) := fun (x0, _) =>
  (f80_l0 (x0, false, 0, [], ())).bind fun val => (f80_l1 (0, val.fst, ())).bind fun val => some (val.fst, ())
theorem h80 (f80_l0 : HS f80_l0_ins → Option (OTy f80_l0_outs)) (f80_l1 : HS f80_l1_ins → Option (OTy f80_l1_outs)) (v : HS f80_ins) : afun Γ (fun f => Ae.lookA f []) 0 Tryz.f80.ntmps Tryz.f80.results.toList (code Tryz.f80) (.seq .nil (.seq .nil (.seq .nil (.seq (.seq .nil (.blk (.loop ⟨f80_l0_ins, f80_l0_outs, f80_l0⟩))) (.seq (.seq .nil (.blk (.loop ⟨f80_l1_ins, f80_l1_outs, f80_l1⟩))) .nil))))) (em id f80_ins v).1 (em id f80_ins v).2 (ofin 0 f80_outs) = F80 f80_l0 f80_l1 v := by kernel_rfl
def C80 (v : List (List UInt8) × Unit) : Option (List ((List UInt8 × List UInt8)) × Unit) := F80 C80_l0 C80_l1 v
theorem ok80 : FnOk Tryz.prog 80 ⟨f80_ins, f80_outs, C80⟩ :=
  fn_ok (np := 0) (n := (.seq .nil (.seq .nil (.seq .nil (.seq (.seq .nil (.blk (.loop ⟨f80_l0_ins, f80_l0_outs, C80_l0⟩))) (.seq (.seq .nil (.blk (.loop ⟨f80_l1_ins, f80_l1_outs, C80_l1⟩))) .nil)))))) hm hΓ (K := (fun f => Ae.lookA f [])) (kok_nil _) Tryz.func80 (c := code Tryz.f80) (by kernel_rfl) (name_ne (by kernel_rfl))
    (ann_seq (a := (subc (code Tryz.f80) [0])) (b := (subc (code Tryz.f80) [1])) (by kernel_rfl) (ann_nil _) (ann_seq (a := (subc (code Tryz.f80) [1, 0])) (b := (subc (code Tryz.f80) [1, 1])) (by kernel_rfl) (ann_nil _) (ann_seq (a := (subc (code Tryz.f80) [1, 1, 0])) (b := (subc (code Tryz.f80) [1, 1, 1])) (by kernel_rfl) (ann_nil _) (ann_seq (a := (subc (code Tryz.f80) [1, 1, 1, 0])) (b := (subc (code Tryz.f80) [1, 1, 1, 1])) (by kernel_rfl) (ann_seq (a := (subc (code Tryz.f80) [1, 1, 1, 0, 0])) (b := (subc (code Tryz.f80) [1, 1, 1, 0, 1])) (by kernel_rfl) (ann_nil _) (ann_blk (x := (subc (code Tryz.f80) [1, 1, 1, 0, 1, 0])) (by kernel_rfl) (ann_loop (x := (subc (code Tryz.f80) [1, 1, 1, 0, 1, 0, 0])) (by kernel_rfl) k80_l0))) (ann_seq (a := (subc (code Tryz.f80) [1, 1, 1, 1, 0])) (b := (subc (code Tryz.f80) [1, 1, 1, 1, 1])) (by kernel_rfl) (ann_seq (a := (subc (code Tryz.f80) [1, 1, 1, 1, 0, 0])) (b := (subc (code Tryz.f80) [1, 1, 1, 1, 0, 1])) (by kernel_rfl) (ann_nil _) (ann_blk (x := (subc (code Tryz.f80) [1, 1, 1, 1, 0, 1, 0])) (by kernel_rfl) (ann_loop (x := (subc (code Tryz.f80) [1, 1, 1, 1, 0, 1, 0, 0])) (by kernel_rfl) k80_l1))) (ann_nil _)))))) (fun v => Nat.le_of_ble_eq_true (by kernel_rfl)) (fun v => h80 C80_l0 C80_l1 v)

def F45_c0  : List (List UInt8) × Int × Int × Int × Bool × Bool × Bool × Int × Int × Bool × Bool × Bool × Int × Int × Unit → Option (List (List UInt8) × Int × Int × Bool × Bool × Bool × Int × Int × Bool × Bool × Bool × Int × Int × Unit) := fun (x0, x1, x2, x3, x4, x5, x6, x7, x8, x9, x10, x11, x12, x13, _) =>
  bif x11 then some (x0, x1, x2, x4, x5, x6, x7, x8, x9, x10, true, x12, x13, ())
  else some (x0, x1, x2, x4, x5, x6, x7, x8, x9, x10, decide (x3 ≥ 0), x12, x13, ())
theorem h45_c0  (v : HS f45_c0_ins) : aev Γ (fun f => Ae.lookA f []) 0 (subc (code Tryz.f45) [1, 1, 1, 0, 1, 0, 0, 1, 0, 0, 1, 1, 1, 0, 1]) .nil (stof f45_c0_ins v) (oout 0 f45_c0_outs) = F45_c0 v := by kernel_rfl
def C45_c0 (v : List (List UInt8) × Int × Int × Int × Bool × Bool × Bool × Int × Int × Bool × Bool × Bool × Int × Int × Unit) : Option (List (List UInt8) × Int × Int × Bool × Bool × Bool × Int × Int × Bool × Bool × Bool × Int × Int × Unit) := F45_c0 v
theorem k45_c0 : FragOk Tryz.prog 0 (fun Q a w => ((subc (code Tryz.f45) [1, 1, 1, 0, 1, 0, 0, 1, 0, 0, 1, 1, 1, 0, 1])).wp Tryz.prog Q a w) ⟨f45_c0_ins, f45_c0_outs, C45_c0⟩ :=
  frag_code (ins := f45_c0_ins) (os := f45_c0_outs) (np := 0) (n := .nil) (F := C45_c0) hm hΓ (K := (fun f => Ae.lookA f [])) (kok_nil _)
    (ann_nil _) (fun v => h45_c0 v)

def F45_l0 (f36 : List UInt8 × Unit → Option (List (Int) × Int × Unit)) (f79 : List UInt8 × Unit → Option (Int × Unit)) (f45_c0 : List (List UInt8) × Int × Int × Int × Bool × Bool × Bool × Int × Int × Bool × Bool × Bool × Int × Int × Unit → Option (List (List UInt8) × Int × Int × Bool × Bool × Bool × Int × Int × Bool × Bool × Bool × Int × Int × Unit)) : List (List UInt8) × Int × Int × Bool × Bool × Bool × Int × Int × Bool × Bool × Bool × Int × Int × Unit → Option ((List (List UInt8) × Int × Int × Bool × Bool × Bool × Int × Int × Bool × Bool × Bool × Int × Int × Unit) ⊕ (List (List UInt8) × Bool × Bool × Bool × Int × Int × Bool × Bool × Bool × Int × Int × Unit)) := fun (x0, x1, x2, x3, x4, x5, x6, x7, x8, x9, x10, x11, x12, _) =>
  bif decide (x2 < (↑x0.length : Int)) then
    bif decide (0 ≤ x2) && decide (x2 < (↑x0.length : Int)) then
      (f79 (x0.getD x2.toNat [], ())).bind fun val =>
        bif decide (0 ≤ x2) && decide (x2 < (↑x0.length : Int)) then
          (f36 (x0.getD x2.toNat [], ())).bind fun val_1 =>
            bif decide (x2 < x1) then
              bif x8 then
                (f45_c0 (x0, x1, x2, val_1.snd.fst, x3, x4, x5, x6, x7, true, x9, x10, x11, x12, ())).bind fun val =>
                  some
                    (Sum.inl
                      (val.fst, val.snd.fst, IntKind.i64.wrap (val.snd.snd.fst + 1), val.snd.snd.snd.fst,
                        val.snd.snd.snd.snd.fst, val.snd.snd.snd.snd.snd.fst, val.snd.snd.snd.snd.snd.snd.fst,
                        val.snd.snd.snd.snd.snd.snd.snd.fst, val.snd.snd.snd.snd.snd.snd.snd.snd.fst,
                        val.snd.snd.snd.snd.snd.snd.snd.snd.snd.fst, val.snd.snd.snd.snd.snd.snd.snd.snd.snd.snd.fst,
                        val.snd.snd.snd.snd.snd.snd.snd.snd.snd.snd.snd.fst,
                        val.snd.snd.snd.snd.snd.snd.snd.snd.snd.snd.snd.snd.fst, ()))
              else
                (f45_c0 (x0, x1, x2, val_1.snd.fst, x3, x4, x5, x6, x7, decide (val.fst ≥ 0), x9, x10, x11, x12, ())).bind
                  fun val =>
                  some
                    (Sum.inl
                      (val.fst, val.snd.fst, IntKind.i64.wrap (val.snd.snd.fst + 1), val.snd.snd.snd.fst,
                        val.snd.snd.snd.snd.fst, val.snd.snd.snd.snd.snd.fst, val.snd.snd.snd.snd.snd.snd.fst,
                        val.snd.snd.snd.snd.snd.snd.snd.fst, val.snd.snd.snd.snd.snd.snd.snd.snd.fst,
                        val.snd.snd.snd.snd.snd.snd.snd.snd.snd.fst, val.snd.snd.snd.snd.snd.snd.snd.snd.snd.snd.fst,
                        val.snd.snd.snd.snd.snd.snd.snd.snd.snd.snd.snd.fst,
                        val.snd.snd.snd.snd.snd.snd.snd.snd.snd.snd.snd.snd.fst, ()))
            else
              bif x9 then
                some
                  (Sum.inl (x0, x1, IntKind.i64.wrap (x2 + 1), x3, x4, x5, x6, x7, x8, true, x10, x11, x12, ()))
              else
                some
                  (Sum.inl
                    (x0, x1, IntKind.i64.wrap (x2 + 1), x3, x4, x5, x6, x7, x8, decide (val.fst ≥ 0), x10, x11, x12,
                      ()))
        else none
    else none
  else some (Sum.inr (x0, x3, x4, x5, x6, x7, x8, x9, x10, x11, x12, ()))
theorem h45_l0 (f36 : HS f36_ins → Option (OTy f36_outs)) (f79 : HS f79_ins → Option (OTy f79_outs)) (f45_c0 : HS f45_c0_ins → Option (OTy f45_c0_outs)) (v : HS f45_l0_ins) : aev Γ (fun f => Ae.lookA f [(36, ⟨f36_ins, f36_outs, f36⟩), (79, ⟨f79_ins, f79_outs, f79⟩)]) 0 (subc (code Tryz.f45) [1, 1, 1, 0, 1, 0, 0]) (.seq .nil (.seq (.blk (.seq .nil (.seq .nil (.seq .nil (.cond (.cut .nil ⟨f45_c0_ins, f45_c0_outs, f45_c0⟩) .nil))))) .nil)) (stof f45_l0_ins v) (around 0 f45_l0_ins f45_l0_outs) = F45_l0 f36 f79 f45_c0 v := by kernel_rfl
def C45_l0 (v : List (List UInt8) × Int × Int × Bool × Bool × Bool × Int × Int × Bool × Bool × Bool × Int × Int × Unit) : Option (List (List UInt8) × Bool × Bool × Bool × Int × Int × Bool × Bool × Bool × Int × Int × Unit) := loopN (F45_l0 C36 C79 C45_c0) big v
theorem k45_l0 : FragOk Tryz.prog 0 (fun Q a w => (Code.loop (subc (code Tryz.f45) [1, 1, 1, 0, 1, 0, 0])).wp Tryz.prog Q a w) ⟨f45_l0_ins, f45_l0_outs, C45_l0⟩ :=
  frag_loop (ins := f45_l0_ins) (os := f45_l0_outs) (np := 0) (n := (.seq .nil (.seq (.blk (.seq .nil (.seq .nil (.seq .nil (.cond (.cut .nil ⟨f45_c0_ins, f45_c0_outs, C45_c0⟩) .nil))))) .nil))) (F := F45_l0 C36 C79 C45_c0) hm hΓ (K := (fun f => Ae.lookA f [(36, ⟨f36_ins, f36_outs, C36⟩), (79, ⟨f79_ins, f79_outs, C79⟩)])) (kok_cons ok36 (kok_cons ok79 (kok_nil _))) (fun _ => big)
    (ann_seq (a := (subc (code Tryz.f45) [1, 1, 1, 0, 1, 0, 0, 0])) (b := (subc (code Tryz.f45) [1, 1, 1, 0, 1, 0, 0, 1])) (by kernel_rfl) (ann_nil _) (ann_seq (a := (subc (code Tryz.f45) [1, 1, 1, 0, 1, 0, 0, 1, 0])) (b := (subc (code Tryz.f45) [1, 1, 1, 0, 1, 0, 0, 1, 1])) (by kernel_rfl) (ann_blk (x := (subc (code Tryz.f45) [1, 1, 1, 0, 1, 0, 0, 1, 0, 0])) (by kernel_rfl) (ann_seq (a := (subc (code Tryz.f45) [1, 1, 1, 0, 1, 0, 0, 1, 0, 0, 0])) (b := (subc (code Tryz.f45) [1, 1, 1, 0, 1, 0, 0, 1, 0, 0, 1])) (by kernel_rfl) (ann_nil _) (ann_seq (a := (subc (code Tryz.f45) [1, 1, 1, 0, 1, 0, 0, 1, 0, 0, 1, 0])) (b := (subc (code Tryz.f45) [1, 1, 1, 0, 1, 0, 0, 1, 0, 0, 1, 1])) (by kernel_rfl) (ann_nil _) (ann_seq (a := (subc (code Tryz.f45) [1, 1, 1, 0, 1, 0, 0, 1, 0, 0, 1, 1, 0])) (b := (subc (code Tryz.f45) [1, 1, 1, 0, 1, 0, 0, 1, 0, 0, 1, 1, 1])) (by kernel_rfl) (ann_nil _) (ann_cond (x := (subc (code Tryz.f45) [1, 1, 1, 0, 1, 0, 0, 1, 0, 0, 1, 1, 1, 0])) (y := (subc (code Tryz.f45) [1, 1, 1, 0, 1, 0, 0, 1, 0, 0, 1, 1, 1, 1])) (by kernel_rfl) (ann_cut (a := (subc (code Tryz.f45) [1, 1, 1, 0, 1, 0, 0, 1, 0, 0, 1, 1, 1, 0, 0])) (b := (subc (code Tryz.f45) [1, 1, 1, 0, 1, 0, 0, 1, 0, 0, 1, 1, 1, 0, 1])) (by kernel_rfl) (ann_nil _) k45_c0) (ann_nil _)))))) (ann_nil _))) (fun v => h45_l0 C36 C79 C45_c0 v)
end Go.Proofs.YtmfcepdbpdihgaaGreatDoor.W
/- Plain forms of functions. Written by a program. -/
set_option maxRecDepth 100000
set_option linter.unusedVariables false
namespace Go.Proofs.YtmfcepdbpdihgaaGreatDoor.W
open Go Go.Ae

def F45_l1  : List ((List UInt8 × List UInt8)) × Int × Bool × Bool × Bool × Int × Int × Bool × Bool × Bool × Int × Int × Unit → Option ((List ((List UInt8 × List UInt8)) × Int × Bool × Bool × Bool × Int × Int × Bool × Bool × Bool × Int × Int × Unit) ⊕ (Bool × Bool × Bool × Int × Int × Bool × Bool × Bool × Int × Int × Unit)) := fun (x0, x1, x2, x3, x4, x5, x6, x7, x8, x9, x10, x11, _) =>
  bif decide (x1 < (↑x0.length : Int)) then
    bif decide (0 ≤ x1) && decide (x1 < (↑x0.length : Int)) then
      bif (x0.getD x1.toNat ([], [])).fst == [114, 101, 99, 101, 105, 118, 101, 100] then
        some
          (Sum.inl
            (x0, IntKind.i64.wrap (x1 + 1), x2, x3, x4, x5, x6, x7, x8, x9, x10, IntKind.i64.wrap (x11 + 1), ()))
      else some (Sum.inl (x0, IntKind.i64.wrap (x1 + 1), x2, x3, x4, x5, x6, x7, x8, x9, x10, x11, ()))
    else none
  else some (Sum.inr (x2, x3, x4, x5, x6, x7, x8, x9, x10, x11, ()))
theorem h45_l1  (v : HS f45_l1_ins) : aev Γ (fun f => Ae.lookA f []) 0 (subc (code Tryz.f45) [1, 1, 1, 1, 1, 0, 1, 0, 0]) .nil (stof f45_l1_ins v) (around 0 f45_l1_ins f45_l1_outs) = F45_l1 v := by kernel_rfl
def C45_l1 (v : List ((List UInt8 × List UInt8)) × Int × Bool × Bool × Bool × Int × Int × Bool × Bool × Bool × Int × Int × Unit) : Option (Bool × Bool × Bool × Int × Int × Bool × Bool × Bool × Int × Int × Unit) := loopN (F45_l1) big v
theorem k45_l1 : FragOk Tryz.prog 0 (fun Q a w => (Code.loop (subc (code Tryz.f45) [1, 1, 1, 1, 1, 0, 1, 0, 0])).wp Tryz.prog Q a w) ⟨f45_l1_ins, f45_l1_outs, C45_l1⟩ :=
  frag_loop (ins := f45_l1_ins) (os := f45_l1_outs) (np := 0) (n := .nil) (F := F45_l1) hm hΓ (K := (fun f => Ae.lookA f [])) (kok_nil _) (fun _ => big)
    (ann_nil _) (fun v => h45_l1 v)

def F45 (f78 : List (List UInt8) × Unit → Option (Int × Unit)) (f80 : List (List UInt8) × Unit → Option (List ((List UInt8 × List UInt8)) × Unit)) (f45_l0 : List (List UInt8) × Int × Int × Bool × Bool × Bool × Int × Int × Bool × Bool × Bool × Int × Int × Unit → Option (List (List UInt8) × Bool × Bool × Bool × Int × Int × Bool × Bool × Bool × Int × Int × Unit)) (f45_l1 : List ((List UInt8 × List UInt8)) × Int × Bool × Bool × Bool × Int × Int × Bool × Bool × Bool × Int × Int × Unit → Option (Bool × Bool × Bool × Int × Int × Bool × Bool × Bool × Int × Int × Unit)) : List (List UInt8) × Unit → Option (Bool × Bool × Bool × Int × Int × Unit) := fun (x0, _) =>
  (f78 (x0, ())).bind fun val =>
    (f45_l0 (x0, val.fst, 0, false, false, false, 0, 0, false, false, false, val.fst, 0, ())).bind fun val =>
      (f80 (val.fst, ())).bind fun val_1 =>
        (f45_l1
              (val_1.fst, 0, val.snd.fst, val.snd.snd.fst, val.snd.snd.snd.fst, val.snd.snd.snd.snd.fst,
                val.snd.snd.snd.snd.snd.fst, val.snd.snd.snd.snd.snd.snd.fst, val.snd.snd.snd.snd.snd.snd.snd.fst,
                val.snd.snd.snd.snd.snd.snd.snd.snd.fst, val.snd.snd.snd.snd.snd.snd.snd.snd.snd.fst,
                val.snd.snd.snd.snd.snd.snd.snd.snd.snd.snd.fst, ())).bind
          fun val =>
          some
            (val.snd.snd.snd.snd.snd.fst, val.snd.snd.snd.snd.snd.snd.fst, val.snd.snd.snd.snd.snd.snd.snd.fst,
              val.snd.snd.snd.snd.snd.snd.snd.snd.fst, val.snd.snd.snd.snd.snd.snd.snd.snd.snd.fst, ())
theorem h45 (f78 : HS f78_ins → Option (OTy f78_outs)) (f80 : HS f80_ins → Option (OTy f80_outs)) (f45_l0 : HS f45_l0_ins → Option (OTy f45_l0_outs)) (f45_l1 : HS f45_l1_ins → Option (OTy f45_l1_outs)) (v : HS f45_ins) : afun Γ (fun f => Ae.lookA f [(78, ⟨f78_ins, f78_outs, f78⟩), (80, ⟨f80_ins, f80_outs, f80⟩)]) 0 Tryz.f45.ntmps Tryz.f45.results.toList (code Tryz.f45) (.seq .nil (.seq .nil (.seq .nil (.seq (.seq .nil (.blk (.loop ⟨f45_l0_ins, f45_l0_outs, f45_l0⟩))) (.seq .nil (.seq (.seq .nil (.blk (.loop ⟨f45_l1_ins, f45_l1_outs, f45_l1⟩))) .nil)))))) (em id f45_ins v).1 (em id f45_ins v).2 (ofin 0 f45_outs) = F45 f78 f80 f45_l0 f45_l1 v := by kernel_rfl
def C45 (v : List (List UInt8) × Unit) : Option (Bool × Bool × Bool × Int × Int × Unit) := F45 C78 C80 C45_l0 C45_l1 v
theorem ok45 : FnOk Tryz.prog 45 ⟨f45_ins, f45_outs, C45⟩ :=
  fn_ok (np := 0) (n := (.seq .nil (.seq .nil (.seq .nil (.seq (.seq .nil (.blk (.loop ⟨f45_l0_ins, f45_l0_outs, C45_l0⟩))) (.seq .nil (.seq (.seq .nil (.blk (.loop ⟨f45_l1_ins, f45_l1_outs, C45_l1⟩))) .nil))))))) hm hΓ (K := (fun f => Ae.lookA f [(78, ⟨f78_ins, f78_outs, C78⟩), (80, ⟨f80_ins, f80_outs, C80⟩)])) (kok_cons ok78 (kok_cons ok80 (kok_nil _))) Tryz.func45 (c := code Tryz.f45) (by kernel_rfl) (name_ne (by kernel_rfl))
    (ann_seq (a := (subc (code Tryz.f45) [0])) (b := (subc (code Tryz.f45) [1])) (by kernel_rfl) (ann_nil _) (ann_seq (a := (subc (code Tryz.f45) [1, 0])) (b := (subc (code Tryz.f45) [1, 1])) (by kernel_rfl) (ann_nil _) (ann_seq (a := (subc (code Tryz.f45) [1, 1, 0])) (b := (subc (code Tryz.f45) [1, 1, 1])) (by kernel_rfl) (ann_nil _) (ann_seq (a := (subc (code Tryz.f45) [1, 1, 1, 0])) (b := (subc (code Tryz.f45) [1, 1, 1, 1])) (by kernel_rfl) (ann_seq (a := (subc (code Tryz.f45) [1, 1, 1, 0, 0])) (b := (subc (code Tryz.f45) [1, 1, 1, 0, 1])) (by kernel_rfl) (ann_nil _) (ann_blk (x := (subc (code Tryz.f45) [1, 1, 1, 0, 1, 0])) (by kernel_rfl) (ann_loop (x := (subc (code Tryz.f45) [1, 1, 1, 0, 1, 0, 0])) (by kernel_rfl) k45_l0))) (ann_seq (a := (subc (code Tryz.f45) [1, 1, 1, 1, 0])) (b := (subc (code Tryz.f45) [1, 1, 1, 1, 1])) (by kernel_rfl) (ann_nil _) (ann_seq (a := (subc (code Tryz.f45) [1, 1, 1, 1, 1, 0])) (b := (subc (code Tryz.f45) [1, 1, 1, 1, 1, 1])) (by kernel_rfl) (ann_seq (a := (subc (code Tryz.f45) [1, 1, 1, 1, 1, 0, 0])) (b := (subc (code Tryz.f45) [1, 1, 1, 1, 1, 0, 1])) (by kernel_rfl) (ann_nil _) (ann_blk (x := (subc (code Tryz.f45) [1, 1, 1, 1, 1, 0, 1, 0])) (by kernel_rfl) (ann_loop (x := (subc (code Tryz.f45) [1, 1, 1, 1, 1, 0, 1, 0, 0])) (by kernel_rfl) k45_l1))) (ann_nil _))))))) (fun v => Nat.le_of_ble_eq_true (by kernel_rfl)) (fun v => h45 C78 C80 C45_l0 C45_l1 v)

def F17_l0  : List (List UInt8) × Int × Bool × List UInt8 × List UInt8 × Bool × Bool × Bool × Int × Int × Int × Bool × List UInt8 × List UInt8 × List (List UInt8) × Bool × Bool × Bool × Int × Int × Int × List ((Bool × (List UInt8 × List UInt8))) × Unit → Option ((List (List UInt8) × Int × Bool × List UInt8 × List UInt8 × Bool × Bool × Bool × Int × Int × Int × Bool × List UInt8 × List UInt8 × List (List UInt8) × Bool × Bool × Bool × Int × Int × Int × List ((Bool × (List UInt8 × List UInt8))) × Unit) ⊕ (Bool × List UInt8 × List UInt8 × Bool × Bool × Bool × Int × Int × Int × Bool × List UInt8 × List UInt8 × List (List UInt8) × Bool × Bool × Bool × Int × Int × Int × List ((Bool × (List UInt8 × List UInt8))) × Unit)) := fun (x0, x1, x2, x3, x4, x5, x6, x7, x8, x9, x10, x11, x12, x13, x14, x15, x16, x17, x18, x19, x20, x21, _) =>
  bif decide (x1 < (↑x0.length : Int)) then
    bif decide (0 ≤ x1) && decide (x1 < (↑x0.length : Int)) then
      some
        (Sum.inl
          (x0, IntKind.i64.wrap (x1 + 1), x2, x3, x4, x5, x6, x7, x8, x9, x10, x11, x12, x13, x14, x15, x16, x17, x18,
            x19, IntKind.i64.wrap (IntKind.i64.wrap (x20 + (↑(List.length (x0.getD x1.toNat [])) : Int)) + 2),
            x21, ()))
    else none
  else
    some
      (Sum.inr (x2, x3, x4, x5, x6, x7, x8, x9, x10, x11, x12, x13, x14, x15, x16, x17, x18, x19, x20, x21, ()))
theorem h17_l0  (v : HS f17_l0_ins) : aev Γ (fun f => Ae.lookA f []) 0 (subc (code Tryz.f17) [1, 1, 1, 1, 1, 1, 1, 1, 0, 1, 0, 0]) .nil (stof f17_l0_ins v) (around 0 f17_l0_ins f17_l0_outs) = F17_l0 v := by kernel_rfl
def C17_l0 (v : List (List UInt8) × Int × Bool × List UInt8 × List UInt8 × Bool × Bool × Bool × Int × Int × Int × Bool × List UInt8 × List UInt8 × List (List UInt8) × Bool × Bool × Bool × Int × Int × Int × List ((Bool × (List UInt8 × List UInt8))) × Unit) : Option (Bool × List UInt8 × List UInt8 × Bool × Bool × Bool × Int × Int × Int × Bool × List UInt8 × List UInt8 × List (List UInt8) × Bool × Bool × Bool × Int × Int × Int × List ((Bool × (List UInt8 × List UInt8))) × Unit) := loopN (F17_l0) big v
theorem k17_l0 : FragOk Tryz.prog 0 (fun Q a w => (Code.loop (subc (code Tryz.f17) [1, 1, 1, 1, 1, 1, 1, 1, 0, 1, 0, 0])).wp Tryz.prog Q a w) ⟨f17_l0_ins, f17_l0_outs, C17_l0⟩ :=
  frag_loop (ins := f17_l0_ins) (os := f17_l0_outs) (np := 0) (n := .nil) (F := F17_l0) hm hΓ (K := (fun f => Ae.lookA f [])) (kok_nil _) (fun _ => big)
    (ann_nil _) (fun v => h17_l0 v)

def F17_c0 (f45 : List (List UInt8) × Unit → Option (Bool × Bool × Bool × Int × Int × Unit)) (f17_l0 : List (List UInt8) × Int × Bool × List UInt8 × List UInt8 × Bool × Bool × Bool × Int × Int × Int × Bool × List UInt8 × List UInt8 × List (List UInt8) × Bool × Bool × Bool × Int × Int × Int × List ((Bool × (List UInt8 × List UInt8))) × Unit → Option (Bool × List UInt8 × List UInt8 × Bool × Bool × Bool × Int × Int × Int × Bool × List UInt8 × List UInt8 × List (List UInt8) × Bool × Bool × Bool × Int × Int × Int × List ((Bool × (List UInt8 × List UInt8))) × Unit)) : List (List UInt8) × Int × Bool × List UInt8 × List UInt8 × List (((Bool × (List UInt8 × List UInt8)) × (Int × (Int × (Int × Int))))) × List (List UInt8) × Bool × Bool × Bool × Int × Int × Int × Bool × List UInt8 × List UInt8 × Bool × Bool × Bool × Int × Int × Int × Unit → Option (Bool × Bool × List UInt8 × List UInt8 × List (List UInt8) × Bool × Bool × Bool × Int × Int × Int × List ((Bool × (List UInt8 × List UInt8))) × Unit) := fun (x0, x1, x2, x3, x4, x5, x6, x7, x8, x9, x10, x11, x12, x13, x14, x15, x16, x17, x18, x19, x20, x21, _) =>
  (f45 (x0, ())).bind fun val =>
    (f17_l0
          (x0, 0, x13, x14, x15, x16, x17, x18, x19, x20, x21, true, [], [], x0, val.fst, val.snd.fst, val.snd.snd.fst,
            val.snd.snd.snd.fst, val.snd.snd.snd.snd.fst, 0, [(x2, x3, x4)], ())).bind
      fun val =>
      some
        (true, val.snd.snd.snd.snd.snd.snd.snd.snd.snd.fst, val.snd.snd.snd.snd.snd.snd.snd.snd.snd.snd.fst,
          val.snd.snd.snd.snd.snd.snd.snd.snd.snd.snd.snd.fst, val.snd.snd.snd.snd.snd.snd.snd.snd.snd.snd.snd.snd.fst,
          val.snd.snd.snd.snd.snd.snd.snd.snd.snd.snd.snd.snd.snd.fst,
          val.snd.snd.snd.snd.snd.snd.snd.snd.snd.snd.snd.snd.snd.snd.fst,
          val.snd.snd.snd.snd.snd.snd.snd.snd.snd.snd.snd.snd.snd.snd.snd.fst,
          val.snd.snd.snd.snd.snd.snd.snd.snd.snd.snd.snd.snd.snd.snd.snd.snd.fst,
          val.snd.snd.snd.snd.snd.snd.snd.snd.snd.snd.snd.snd.snd.snd.snd.snd.snd.fst,
          val.snd.snd.snd.snd.snd.snd.snd.snd.snd.snd.snd.snd.snd.snd.snd.snd.snd.snd.fst,
          val.snd.snd.snd.snd.snd.snd.snd.snd.snd.snd.snd.snd.snd.snd.snd.snd.snd.snd.snd.fst, ())
theorem h17_c0 (f45 : HS f45_ins → Option (OTy f45_outs)) (f17_l0 : HS f17_l0_ins → Option (OTy f17_l0_outs)) (v : HS f17_c0_ins) : aev Γ (fun f => Ae.lookA f [(45, ⟨f45_ins, f45_outs, f45⟩)]) 0 (subc (code Tryz.f17) [1, 1, 1, 1, 1, 1, 1]) (.seq .nil (.seq (.seq .nil (.blk (.loop ⟨f17_l0_ins, f17_l0_outs, f17_l0⟩))) .nil)) (stof f17_c0_ins v) (oout 0 f17_c0_outs) = F17_c0 f45 f17_l0 v := by kernel_rfl
def C17_c0 (v : List (List UInt8) × Int × Bool × List UInt8 × List UInt8 × List (((Bool × (List UInt8 × List UInt8)) × (Int × (Int × (Int × Int))))) × List (List UInt8) × Bool × Bool × Bool × Int × Int × Int × Bool × List UInt8 × List UInt8 × Bool × Bool × Bool × Int × Int × Int × Unit) : Option (Bool × Bool × List UInt8 × List UInt8 × List (List UInt8) × Bool × Bool × Bool × Int × Int × Int × List ((Bool × (List UInt8 × List UInt8))) × Unit) := F17_c0 C45 C17_l0 v
theorem k17_c0 : FragOk Tryz.prog 0 (fun Q a w => ((subc (code Tryz.f17) [1, 1, 1, 1, 1, 1, 1])).wp Tryz.prog Q a w) ⟨f17_c0_ins, f17_c0_outs, C17_c0⟩ :=
  frag_code (ins := f17_c0_ins) (os := f17_c0_outs) (np := 0) (n := (.seq .nil (.seq (.seq .nil (.blk (.loop ⟨f17_l0_ins, f17_l0_outs, C17_l0⟩))) .nil))) (F := C17_c0) hm hΓ (K := (fun f => Ae.lookA f [(45, ⟨f45_ins, f45_outs, C45⟩)])) (kok_cons ok45 (kok_nil _))
    (ann_seq (a := (subc (code Tryz.f17) [1, 1, 1, 1, 1, 1, 1, 0])) (b := (subc (code Tryz.f17) [1, 1, 1, 1, 1, 1, 1, 1])) (by kernel_rfl) (ann_nil _) (ann_seq (a := (subc (code Tryz.f17) [1, 1, 1, 1, 1, 1, 1, 1, 0])) (b := (subc (code Tryz.f17) [1, 1, 1, 1, 1, 1, 1, 1, 1])) (by kernel_rfl) (ann_seq (a := (subc (code Tryz.f17) [1, 1, 1, 1, 1, 1, 1, 1, 0, 0])) (b := (subc (code Tryz.f17) [1, 1, 1, 1, 1, 1, 1, 1, 0, 1])) (by kernel_rfl) (ann_nil _) (ann_blk (x := (subc (code Tryz.f17) [1, 1, 1, 1, 1, 1, 1, 1, 0, 1, 0])) (by kernel_rfl) (ann_loop (x := (subc (code Tryz.f17) [1, 1, 1, 1, 1, 1, 1, 1, 0, 1, 0, 0])) (by kernel_rfl) k17_l0))) (ann_nil _))) (fun v => h17_c0 C45 C17_l0 v)

def F17_c1 (f12 : List UInt8 × Unit → Option (List UInt8 × Unit)) (f14 : Int × Unit → Option (List UInt8 × Unit)) (f42 : List UInt8 × List UInt8 × List UInt8 × List UInt8 × Unit → Option (List (List UInt8) × Unit)) (f43 : Int × Unit → Option (List UInt8 × Unit)) (f44 : Bool × List UInt8 × List UInt8 × Unit → Option (List UInt8 × Unit)) (f17_c0 : List (List UInt8) × Int × Bool × List UInt8 × List UInt8 × List (((Bool × (List UInt8 × List UInt8)) × (Int × (Int × (Int × Int))))) × List (List UInt8) × Bool × Bool × Bool × Int × Int × Int × Bool × List UInt8 × List UInt8 × Bool × Bool × Bool × Int × Int × Int × Unit → Option (Bool × Bool × List UInt8 × List UInt8 × List (List UInt8) × Bool × Bool × Bool × Int × Int × Int × List ((Bool × (List UInt8 × List UInt8))) × Unit)) : List UInt8 × Int × List UInt8 × Int × Int × Bool × List UInt8 × List UInt8 × List (((Bool × (List UInt8 × List UInt8)) × (Int × (Int × (Int × Int))))) × List (List UInt8) × Bool × Bool × Bool × Int × Int × Int × Bool × List UInt8 × List UInt8 × Bool × Bool × Bool × Int × Int × Int × Unit → Option (Bool × Bool × List UInt8 × List UInt8 × List (List UInt8) × Bool × Bool × Bool × Int × Int × Int × List ((Bool × (List UInt8 × List UInt8))) × Unit) := fun (x0, x1, x2, x3, x4, x5, x6, x7, x8, x9, x10, x11, x12, x13, x14, x15, x16, x17, x18, x19, x20, x21, x22, x23, x24, _) =>
  (f12 (x0, ())).bind fun val =>
    (f43 (x3, ())).bind fun val_1 =>
      bif decide (x2.length + List.length val_1.fst ≤ 9223372036854775807) then
        bif decide (0 ≤ x1) && decide (x1 < (↑x8.length : Int)) then
          (f44
                ((x8.getD x1.toNat
                        ((false, ([], [])), (0, (0, (0, 0))))).fst.fst,
                  (x8.getD x1.toNat
                          ((false, ([], [])), (0, (0, (0, 0))))).fst.snd.fst,
                  (x8.getD x1.toNat
                          ((false, ([], [])), (0, (0, (0, 0))))).fst.snd.snd,
                  ())).bind
            fun val_2 =>
            (f12 (val_2.fst, ())).bind fun val_3 =>
              bif decide (0 ≤ x1) && decide (x1 < (↑x8.length : Int)) then
                (f14
                      ((x8.getD x1.toNat
                                  ((false, ([], [])), (0, (0, (0, 0))))).snd.snd.snd.snd,
                        ())).bind
                  fun val_4 =>
                  (f42 (val.fst, x2 ++ val_1.fst, val_3.fst, val_4.fst, ())).bind fun val =>
                    (f17_c0
                          (val.fst, x4, x5, x6, x7, x8, x9, x10, x11, x12, x13, x14, x15, x16, x17, x18, x19, x20, x21,
                            x22, x23, x24, ())).bind
                      fun val =>
                      some
                        (val.fst, val.snd.fst, val.snd.snd.fst, val.snd.snd.snd.fst, val.snd.snd.snd.snd.fst,
                          val.snd.snd.snd.snd.snd.fst, val.snd.snd.snd.snd.snd.snd.fst,
                          val.snd.snd.snd.snd.snd.snd.snd.fst, val.snd.snd.snd.snd.snd.snd.snd.snd.fst,
                          val.snd.snd.snd.snd.snd.snd.snd.snd.snd.fst, val.snd.snd.snd.snd.snd.snd.snd.snd.snd.snd.fst,
                          val.snd.snd.snd.snd.snd.snd.snd.snd.snd.snd.snd.fst, ())
              else none
        else none
      else none
theorem h17_c1 (f12 : HS f12_ins → Option (OTy f12_outs)) (f14 : HS f14_ins → Option (OTy f14_outs)) (f42 : HS f42_ins → Option (OTy f42_outs)) (f43 : HS f43_ins → Option (OTy f43_outs)) (f44 : HS f44_ins → Option (OTy f44_outs)) (f17_c0 : HS f17_c0_ins → Option (OTy f17_c0_outs)) (v : HS f17_c1_ins) : aev Γ (fun f => Ae.lookA f [(12, ⟨f12_ins, f12_outs, f12⟩), (14, ⟨f14_ins, f14_outs, f14⟩), (42, ⟨f42_ins, f42_outs, f42⟩), (43, ⟨f43_ins, f43_outs, f43⟩), (44, ⟨f44_ins, f44_outs, f44⟩)]) 0 (subc (code Tryz.f17) [1, 1, 1, 1, 1, 1]) (.cut .nil ⟨f17_c0_ins, f17_c0_outs, f17_c0⟩) (stof f17_c1_ins v) (oout 0 f17_c1_outs) = F17_c1 f12 f14 f42 f43 f44 f17_c0 v := by kernel_rfl
def C17_c1 (v : List UInt8 × Int × List UInt8 × Int × Int × Bool × List UInt8 × List UInt8 × List (((Bool × (List UInt8 × List UInt8)) × (Int × (Int × (Int × Int))))) × List (List UInt8) × Bool × Bool × Bool × Int × Int × Int × Bool × List UInt8 × List UInt8 × Bool × Bool × Bool × Int × Int × Int × Unit) : Option (Bool × Bool × List UInt8 × List UInt8 × List (List UInt8) × Bool × Bool × Bool × Int × Int × Int × List ((Bool × (List UInt8 × List UInt8))) × Unit) := F17_c1 C12 C14 C42 C43 C44 C17_c0 v
theorem k17_c1 : FragOk Tryz.prog 0 (fun Q a w => ((subc (code Tryz.f17) [1, 1, 1, 1, 1, 1])).wp Tryz.prog Q a w) ⟨f17_c1_ins, f17_c1_outs, C17_c1⟩ :=
  frag_code (ins := f17_c1_ins) (os := f17_c1_outs) (np := 0) (n := (.cut .nil ⟨f17_c0_ins, f17_c0_outs, C17_c0⟩)) (F := C17_c1) hm hΓ (K := (fun f => Ae.lookA f [(12, ⟨f12_ins, f12_outs, C12⟩), (14, ⟨f14_ins, f14_outs, C14⟩), (42, ⟨f42_ins, f42_outs, C42⟩), (43, ⟨f43_ins, f43_outs, C43⟩), (44, ⟨f44_ins, f44_outs, C44⟩)])) (kok_cons ok12 (kok_cons ok14 (kok_cons ok42 (kok_cons ok43 (kok_cons ok44 (kok_nil _))))))
    (ann_cut (a := (subc (code Tryz.f17) [1, 1, 1, 1, 1, 1, 0])) (b := (subc (code Tryz.f17) [1, 1, 1, 1, 1, 1, 1])) (by kernel_rfl) (ann_nil _) k17_c0) (fun v => h17_c1 C12 C14 C42 C43 C44 C17_c0 v)

def F17_c2 (f17_c1 : List UInt8 × Int × List UInt8 × Int × Int × Bool × List UInt8 × List UInt8 × List (((Bool × (List UInt8 × List UInt8)) × (Int × (Int × (Int × Int))))) × List (List UInt8) × Bool × Bool × Bool × Int × Int × Int × Bool × List UInt8 × List UInt8 × Bool × Bool × Bool × Int × Int × Int × Unit → Option (Bool × Bool × List UInt8 × List UInt8 × List (List UInt8) × Bool × Bool × Bool × Int × Int × Int × List ((Bool × (List UInt8 × List UInt8))) × Unit)) : List UInt8 × Int × List UInt8 × Int × Bool × List UInt8 × List UInt8 × List (((Bool × (List UInt8 × List UInt8)) × (Int × (Int × (Int × Int))))) × List (List UInt8) × Bool × Bool × Bool × Int × Int × Int × Bool × List UInt8 × List UInt8 × Bool × Bool × Bool × Int × Int × Int × Unit → Option (Bool × Bool × List UInt8 × List UInt8 × List (List UInt8) × Bool × Bool × Bool × Int × Int × Int × List ((Bool × (List UInt8 × List UInt8))) × Unit) := fun (x0, x1, x2, x3, x4, x5, x6, x7, x8, x9, x10, x11, x12, x13, x14, x15, x16, x17, x18, x19, x20, x21, x22, x23, _) =>
  bif decide (x3 < 0) then
    (f17_c1
          (x0, x1, x2, IntKind.u64.wrap (0 - IntKind.u64.wrap x3), x3, x4, x5, x6, x7, x8, x9, x10, x11, x12, x13, x14,
            x15, x16, x17, x18, x19, x20, x21, x22, x23, ())).bind
      fun val =>
      some
        (val.fst, val.snd.fst, val.snd.snd.fst, val.snd.snd.snd.fst, val.snd.snd.snd.snd.fst, val.snd.snd.snd.snd.snd.fst,
          val.snd.snd.snd.snd.snd.snd.fst, val.snd.snd.snd.snd.snd.snd.snd.fst, val.snd.snd.snd.snd.snd.snd.snd.snd.fst,
          val.snd.snd.snd.snd.snd.snd.snd.snd.snd.fst, val.snd.snd.snd.snd.snd.snd.snd.snd.snd.snd.fst,
          val.snd.snd.snd.snd.snd.snd.snd.snd.snd.snd.snd.fst, ())
  else
    (f17_c1
          (x0, x1, x2, IntKind.u64.wrap x3, x3, x4, x5, x6, x7, x8, x9, x10, x11, x12, x13, x14, x15, x16, x17, x18, x19,
            x20, x21, x22, x23, ())).bind
      fun val =>
      some
        (val.fst, val.snd.fst, val.snd.snd.fst, val.snd.snd.snd.fst, val.snd.snd.snd.snd.fst, val.snd.snd.snd.snd.snd.fst,
          val.snd.snd.snd.snd.snd.snd.fst, val.snd.snd.snd.snd.snd.snd.snd.fst, val.snd.snd.snd.snd.snd.snd.snd.snd.fst,
          val.snd.snd.snd.snd.snd.snd.snd.snd.snd.fst, val.snd.snd.snd.snd.snd.snd.snd.snd.snd.snd.fst,
          val.snd.snd.snd.snd.snd.snd.snd.snd.snd.snd.snd.fst, ())
theorem h17_c2 (f17_c1 : HS f17_c1_ins → Option (OTy f17_c1_outs)) (v : HS f17_c2_ins) : aev Γ (fun f => Ae.lookA f []) 0 (subc (code Tryz.f17) [1, 1, 1, 1]) (.seq .nil (.cut .nil ⟨f17_c1_ins, f17_c1_outs, f17_c1⟩)) (stof f17_c2_ins v) (oout 0 f17_c2_outs) = F17_c2 f17_c1 v := by kernel_rfl
def C17_c2 (v : List UInt8 × Int × List UInt8 × Int × Bool × List UInt8 × List UInt8 × List (((Bool × (List UInt8 × List UInt8)) × (Int × (Int × (Int × Int))))) × List (List UInt8) × Bool × Bool × Bool × Int × Int × Int × Bool × List UInt8 × List UInt8 × Bool × Bool × Bool × Int × Int × Int × Unit) : Option (Bool × Bool × List UInt8 × List UInt8 × List (List UInt8) × Bool × Bool × Bool × Int × Int × Int × List ((Bool × (List UInt8 × List UInt8))) × Unit) := F17_c2 C17_c1 v
theorem k17_c2 : FragOk Tryz.prog 0 (fun Q a w => ((subc (code Tryz.f17) [1, 1, 1, 1])).wp Tryz.prog Q a w) ⟨f17_c2_ins, f17_c2_outs, C17_c2⟩ :=
  frag_code (ins := f17_c2_ins) (os := f17_c2_outs) (np := 0) (n := (.seq .nil (.cut .nil ⟨f17_c1_ins, f17_c1_outs, C17_c1⟩))) (F := C17_c2) hm hΓ (K := (fun f => Ae.lookA f [])) (kok_nil _)
    (ann_seq (a := (subc (code Tryz.f17) [1, 1, 1, 1, 0])) (b := (subc (code Tryz.f17) [1, 1, 1, 1, 1])) (by kernel_rfl) (ann_nil _) (ann_cut (a := (subc (code Tryz.f17) [1, 1, 1, 1, 1, 0])) (b := (subc (code Tryz.f17) [1, 1, 1, 1, 1, 1])) (by kernel_rfl) (ann_nil _) k17_c1)) (fun v => h17_c2 C17_c1 v)

def F17_c3 (f17_c2 : List UInt8 × Int × List UInt8 × Int × Bool × List UInt8 × List UInt8 × List (((Bool × (List UInt8 × List UInt8)) × (Int × (Int × (Int × Int))))) × List (List UInt8) × Bool × Bool × Bool × Int × Int × Int × Bool × List UInt8 × List UInt8 × Bool × Bool × Bool × Int × Int × Int × Unit → Option (Bool × Bool × List UInt8 × List UInt8 × List (List UInt8) × Bool × Bool × Bool × Int × Int × Int × List ((Bool × (List UInt8 × List UInt8))) × Unit)) : List UInt8 × Int × Int × Bool × List UInt8 × List UInt8 × List (((Bool × (List UInt8 × List UInt8)) × (Int × (Int × (Int × Int))))) × List (List UInt8) × Bool × Bool × Bool × Int × Int × Int × Bool × List UInt8 × List UInt8 × Bool × Bool × Bool × Int × Int × Int × Unit → Option (Bool × Bool × List UInt8 × List UInt8 × List (List UInt8) × Bool × Bool × Bool × Int × Int × Int × List ((Bool × (List UInt8 × List UInt8))) × Unit) := fun (x0, x1, x2, x3, x4, x5, x6, x7, x8, x9, x10, x11, x12, x13, x14, x15, x16, x17, x18, x19, x20, x21, x22, _) =>
  bif decide (x2 < 0) then
    (f17_c2
          (x0, x1, [45], x2, x3, x4, x5, x6, x7, x8, x9, x10, x11, x12, x13, x14, x15, x16, x17, x18, x19, x20,
            x21, x22, ())).bind
      fun val =>
      some
        (val.fst, val.snd.fst, val.snd.snd.fst, val.snd.snd.snd.fst, val.snd.snd.snd.snd.fst, val.snd.snd.snd.snd.snd.fst,
          val.snd.snd.snd.snd.snd.snd.fst, val.snd.snd.snd.snd.snd.snd.snd.fst, val.snd.snd.snd.snd.snd.snd.snd.snd.fst,
          val.snd.snd.snd.snd.snd.snd.snd.snd.snd.fst, val.snd.snd.snd.snd.snd.snd.snd.snd.snd.snd.fst,
          val.snd.snd.snd.snd.snd.snd.snd.snd.snd.snd.snd.fst, ())
  else
    (f17_c2
          (x0, x1, [], x2, x3, x4, x5, x6, x7, x8, x9, x10, x11, x12, x13, x14, x15, x16, x17, x18, x19, x20, x21,
            x22, ())).bind
      fun val =>
      some
        (val.fst, val.snd.fst, val.snd.snd.fst, val.snd.snd.snd.fst, val.snd.snd.snd.snd.fst, val.snd.snd.snd.snd.snd.fst,
          val.snd.snd.snd.snd.snd.snd.fst, val.snd.snd.snd.snd.snd.snd.snd.fst, val.snd.snd.snd.snd.snd.snd.snd.snd.fst,
          val.snd.snd.snd.snd.snd.snd.snd.snd.snd.fst, val.snd.snd.snd.snd.snd.snd.snd.snd.snd.snd.fst,
          val.snd.snd.snd.snd.snd.snd.snd.snd.snd.snd.snd.fst, ())
theorem h17_c3 (f17_c2 : HS f17_c2_ins → Option (OTy f17_c2_outs)) (v : HS f17_c3_ins) : aev Γ (fun f => Ae.lookA f []) 0 (subc (code Tryz.f17) [1, 1]) (.seq .nil (.cut .nil ⟨f17_c2_ins, f17_c2_outs, f17_c2⟩)) (stof f17_c3_ins v) (oout 0 f17_c3_outs) = F17_c3 f17_c2 v := by kernel_rfl
def C17_c3 (v : List UInt8 × Int × Int × Bool × List UInt8 × List UInt8 × List (((Bool × (List UInt8 × List UInt8)) × (Int × (Int × (Int × Int))))) × List (List UInt8) × Bool × Bool × Bool × Int × Int × Int × Bool × List UInt8 × List UInt8 × Bool × Bool × Bool × Int × Int × Int × Unit) : Option (Bool × Bool × List UInt8 × List UInt8 × List (List UInt8) × Bool × Bool × Bool × Int × Int × Int × List ((Bool × (List UInt8 × List UInt8))) × Unit) := F17_c3 C17_c2 v
theorem k17_c3 : FragOk Tryz.prog 0 (fun Q a w => ((subc (code Tryz.f17) [1, 1])).wp Tryz.prog Q a w) ⟨f17_c3_ins, f17_c3_outs, C17_c3⟩ :=
  frag_code (ins := f17_c3_ins) (os := f17_c3_outs) (np := 0) (n := (.seq .nil (.cut .nil ⟨f17_c2_ins, f17_c2_outs, C17_c2⟩))) (F := C17_c3) hm hΓ (K := (fun f => Ae.lookA f [])) (kok_nil _)
    (ann_seq (a := (subc (code Tryz.f17) [1, 1, 0])) (b := (subc (code Tryz.f17) [1, 1, 1])) (by kernel_rfl) (ann_nil _) (ann_cut (a := (subc (code Tryz.f17) [1, 1, 1, 0])) (b := (subc (code Tryz.f17) [1, 1, 1, 1])) (by kernel_rfl) (ann_nil _) k17_c2)) (fun v => h17_c3 C17_c2 v)

def F17 (f17_c3 : List UInt8 × Int × Int × Bool × List UInt8 × List UInt8 × List (((Bool × (List UInt8 × List UInt8)) × (Int × (Int × (Int × Int))))) × List (List UInt8) × Bool × Bool × Bool × Int × Int × Int × Bool × List UInt8 × List UInt8 × Bool × Bool × Bool × Int × Int × Int × Unit → Option (Bool × Bool × List UInt8 × List UInt8 × List (List UInt8) × Bool × Bool × Bool × Int × Int × Int × List ((Bool × (List UInt8 × List UInt8))) × Unit)) : List UInt8 × Int × Bool × List UInt8 × List UInt8 × List (((Bool × (List UInt8 × List UInt8)) × (Int × (Int × (Int × Int))))) × List (List UInt8) × Bool × Bool × Bool × Int × Int × Int × Int × Unit → Option (Bool × List UInt8 × List UInt8 × List ((Bool × (List UInt8 × List UInt8))) × List (List UInt8) × Bool × Bool × Bool × Int × Int × Int × Bool × Unit) := fun (x0, x1, x2, x3, x4, x5, x6, x7, x8, x9, x10, x11, x12, x13, _) =>
  bif x2 then some (false, [], [], [], [], false, false, false, 0, 0, 0, false, ())
  else
    bif decide (x13 < 0) then some (false, [], [], [], [], false, false, false, 0, 0, 0, false, ())
    else
      bif decide (x13 ≥ (↑x5.length : Int)) then
        some (false, [], [], [], [], false, false, false, 0, 0, 0, false, ())
      else
        bif decide (0 ≤ x13) && decide (x13 < (↑x5.length : Int)) then
          bif
              (x5.getD x13.toNat
                      ((false, ([], [])), (0, (0, (0, 0))))).snd.fst !=
                3 then
            some (false, [], [], [], [], false, false, false, 0, 0, 0, false, ())
          else
            (f17_c3
                  (x0, x13, x1, x2, x3, x4, x5, x6, x7, x8, x9, x10, x11, x12, false, [], [], false, false, false, 0, 0,
                    0, ())).bind
              fun val =>
              some
                (val.snd.fst, val.snd.snd.fst, val.snd.snd.snd.fst, val.snd.snd.snd.snd.snd.snd.snd.snd.snd.snd.snd.fst,
                  val.snd.snd.snd.snd.fst, val.snd.snd.snd.snd.snd.fst, val.snd.snd.snd.snd.snd.snd.fst,
                  val.snd.snd.snd.snd.snd.snd.snd.fst, val.snd.snd.snd.snd.snd.snd.snd.snd.fst,
                  val.snd.snd.snd.snd.snd.snd.snd.snd.snd.fst, val.snd.snd.snd.snd.snd.snd.snd.snd.snd.snd.fst, val.fst,
                  ())
        else none
theorem h17 (f17_c3 : HS f17_c3_ins → Option (OTy f17_c3_outs)) (v : HS f17_ins) : afun Γ (fun f => Ae.lookA f []) 0 Tryz.f17.ntmps Tryz.f17.results.toList (code Tryz.f17) (.seq .nil (.cut .nil ⟨f17_c3_ins, f17_c3_outs, f17_c3⟩)) (em id f17_ins v).1 (em id f17_ins v).2 (ofin 0 f17_outs) = F17 f17_c3 v := by kernel_rfl
def C17 (v : List UInt8 × Int × Bool × List UInt8 × List UInt8 × List (((Bool × (List UInt8 × List UInt8)) × (Int × (Int × (Int × Int))))) × List (List UInt8) × Bool × Bool × Bool × Int × Int × Int × Int × Unit) : Option (Bool × List UInt8 × List UInt8 × List ((Bool × (List UInt8 × List UInt8))) × List (List UInt8) × Bool × Bool × Bool × Int × Int × Int × Bool × Unit) := F17 C17_c3 v
theorem ok17 : FnOk Tryz.prog 17 ⟨f17_ins, f17_outs, C17⟩ :=
  fn_ok (np := 0) (n := (.seq .nil (.cut .nil ⟨f17_c3_ins, f17_c3_outs, C17_c3⟩))) hm hΓ (K := (fun f => Ae.lookA f [])) (kok_nil _) Tryz.func17 (c := code Tryz.f17) (by kernel_rfl) (name_ne (by kernel_rfl))
    (ann_seq (a := (subc (code Tryz.f17) [0])) (b := (subc (code Tryz.f17) [1])) (by kernel_rfl) (ann_nil _) (ann_cut (a := (subc (code Tryz.f17) [1, 0])) (b := (subc (code Tryz.f17) [1, 1])) (by kernel_rfl) (ann_nil _) k17_c3)) (fun v => Nat.le_of_ble_eq_true (by kernel_rfl)) (fun v => h17 C17_c3 v)

def F81_l0  : Int × Int × List (List UInt8) × Int × List (List UInt8) × Unit → Option ((Int × Int × List (List UInt8) × Int × List (List UInt8) × Unit) ⊕ (Unit ⊕ (Bool × Unit))) := fun (x0, x1, x2, x3, x4, _) =>
  bif decide (x0 < (↑x2.length : Int)) then
    bif decide (0 ≤ x0) && decide (x0 < (↑x2.length : Int)) then
      bif decide (0 ≤ x0) && decide (x0 < (↑x4.length : Int)) then
        bif !x2.getD x0.toNat [] == x4.getD x0.toNat [] then
          some (Sum.inr (Sum.inr (false, ())))
        else some (Sum.inl (IntKind.i64.wrap (x0 + 1), x1, x2, x3, x4, ()))
      else none
    else none
  else some (Sum.inr (Sum.inl ()))
theorem h81_l0  (v : HS f81_l0_ins) : aev Γ (fun f => Ae.lookA f []) 0 (subc (code Tryz.f81) [1, 1, 0, 1, 0, 0]) .nil (stof f81_l0_ins v) (around 0 f81_l0_ins f81_l0_outs) = F81_l0 v := by kernel_rfl
def C81_l0 (v : Int × Int × List (List UInt8) × Int × List (List UInt8) × Unit) : Option (Unit ⊕ (Bool × Unit)) := loopN (F81_l0) big v
theorem k81_l0 : FragOk Tryz.prog 0 (fun Q a w => (Code.loop (subc (code Tryz.f81) [1, 1, 0, 1, 0, 0])).wp Tryz.prog Q a w) ⟨f81_l0_ins, f81_l0_outs, C81_l0⟩ :=
  frag_loop (ins := f81_l0_ins) (os := f81_l0_outs) (np := 0) (n := .nil) (F := F81_l0) hm hΓ (K := (fun f => Ae.lookA f [])) (kok_nil _) (fun _ => big)
    (ann_nil _) (fun v => h81_l0 v)

def F81 (f81_l0 : Int × Int × List (List UInt8) × Int × List (List UInt8) × Unit → Option (Unit ⊕ (Bool × Unit))) : Int × List (List UInt8) × Int × List (List UInt8) × Unit → Option (Bool × Unit) := fun (x0, x1, x2, x3, _) =>
  bif x0 != x2 then some (false, ())
  else
    bif (↑x1.length : Int) != (↑x3.length : Int) then some (false, ())
    else
      (f81_l0 (0, x0, x1, x2, x3, ())).bind fun val =>
        Sum.elim (fun val => some (true, ())) (fun val => some (val.fst, ())) val
theorem h81 (f81_l0 : HS f81_l0_ins → Option (OTy f81_l0_outs)) (v : HS f81_ins) : afun Γ (fun f => Ae.lookA f []) 0 Tryz.f81.ntmps Tryz.f81.results.toList (code Tryz.f81) (.seq .nil (.seq .nil (.seq (.seq .nil (.blk (.loop ⟨f81_l0_ins, f81_l0_outs, f81_l0⟩))) .nil))) (em id f81_ins v).1 (em id f81_ins v).2 (ofin 0 f81_outs) = F81 f81_l0 v := by kernel_rfl
def C81 (v : Int × List (List UInt8) × Int × List (List UInt8) × Unit) : Option (Bool × Unit) := F81 C81_l0 v
theorem ok81 : FnOk Tryz.prog 81 ⟨f81_ins, f81_outs, C81⟩ :=
  fn_ok (np := 0) (n := (.seq .nil (.seq .nil (.seq (.seq .nil (.blk (.loop ⟨f81_l0_ins, f81_l0_outs, C81_l0⟩))) .nil)))) hm hΓ (K := (fun f => Ae.lookA f [])) (kok_nil _) Tryz.func81 (c := code Tryz.f81) (by kernel_rfl) (name_ne (by kernel_rfl))
    (ann_seq (a := (subc (code Tryz.f81) [0])) (b := (subc (code Tryz.f81) [1])) (by kernel_rfl) (ann_nil _) (ann_seq (a := (subc (code Tryz.f81) [1, 0])) (b := (subc (code Tryz.f81) [1, 1])) (by kernel_rfl) (ann_nil _) (ann_seq (a := (subc (code Tryz.f81) [1, 1, 0])) (b := (subc (code Tryz.f81) [1, 1, 1])) (by kernel_rfl) (ann_seq (a := (subc (code Tryz.f81) [1, 1, 0, 0])) (b := (subc (code Tryz.f81) [1, 1, 0, 1])) (by kernel_rfl) (ann_nil _) (ann_blk (x := (subc (code Tryz.f81) [1, 1, 0, 1, 0])) (by kernel_rfl) (ann_loop (x := (subc (code Tryz.f81) [1, 1, 0, 1, 0, 0])) (by kernel_rfl) k81_l0))) (ann_nil _)))) (fun v => Nat.le_of_ble_eq_true (by kernel_rfl)) (fun v => h81 C81_l0 v)

def F46 (f81 : Int × List (List UInt8) × Int × List (List UInt8) × Unit → Option (Bool × Unit)) : List (List UInt8) × List (List UInt8) × Unit → Option (Bool × Unit) := fun (x0, x1, _) =>
  (f81 (0, x0, 0, x1, ())).bind fun val => some (val.fst, ())
theorem h46 (f81 : HS f81_ins → Option (OTy f81_outs)) (v : HS f46_ins) : afun Γ (fun f => Ae.lookA f [(81, ⟨f81_ins, f81_outs, f81⟩)]) 0 Tryz.f46.ntmps Tryz.f46.results.toList (code Tryz.f46) .nil (em id f46_ins v).1 (em id f46_ins v).2 (ofin 0 f46_outs) = F46 f81 v := by kernel_rfl
def C46 (v : List (List UInt8) × List (List UInt8) × Unit) : Option (Bool × Unit) := F46 C81 v
theorem ok46 : FnOk Tryz.prog 46 ⟨f46_ins, f46_outs, C46⟩ :=
  fn_ok (np := 0) (n := .nil) hm hΓ (K := (fun f => Ae.lookA f [(81, ⟨f81_ins, f81_outs, C81⟩)])) (kok_cons ok81 (kok_nil _)) Tryz.func46 (c := code Tryz.f46) (by kernel_rfl) (name_ne (by kernel_rfl))
    (ann_nil _) (fun v => Nat.le_of_ble_eq_true (by kernel_rfl)) (fun v => h46 C81 v)

def F18_l0  : Int × Bool × List UInt8 × List UInt8 × List ((Bool × (List UInt8 × List UInt8))) × List (List UInt8) × Bool × Bool × Bool × Int × Int × Int × Bool × List UInt8 × List UInt8 × List ((Bool × (List UInt8 × List UInt8))) × List (List UInt8) × Bool × Bool × Bool × Int × Int × Int × Unit → Option ((Int × Bool × List UInt8 × List UInt8 × List ((Bool × (List UInt8 × List UInt8))) × List (List UInt8) × Bool × Bool × Bool × Int × Int × Int × Bool × List UInt8 × List UInt8 × List ((Bool × (List UInt8 × List UInt8))) × List (List UInt8) × Bool × Bool × Bool × Int × Int × Int × Unit) ⊕ (Unit ⊕ (Bool × Unit))) := fun (x0, x1, x2, x3, x4, x5, x6, x7, x8, x9, x10, x11, x12, x13, x14, x15, x16, x17, x18, x19, x20, x21, x22, _) =>
  bif decide (x0 < (↑x4.length : Int)) then
    bif decide (0 ≤ x0) && decide (x0 < (↑x4.length : Int)) then
      bif decide (0 ≤ x0) && decide (x0 < (↑x15.length : Int)) then
        bif
            !((x4.getD x0.toNat (false, ([], []))).fst ==
                  (x15.getD x0.toNat (false, ([], []))).fst &&
                ((x4.getD x0.toNat (false, ([], []))).snd.fst ==
                      (x15.getD x0.toNat (false, ([], []))).snd.fst &&
                    ((x4.getD x0.toNat (false, ([], []))).snd.snd ==
                        (x15.getD x0.toNat (false, ([], []))).snd.snd &&
                      true) &&
                  true)) then
          some (Sum.inr (Sum.inr (false, ())))
        else
          some
            (Sum.inl
              (IntKind.i64.wrap (x0 + 1), x1, x2, x3, x4, x5, x6, x7, x8, x9, x10, x11, x12, x13, x14, x15, x16, x17, x18,
                x19, x20, x21, x22, ()))
      else none
    else none
  else some (Sum.inr (Sum.inl ()))
theorem h18_l0  (v : HS f18_l0_ins) : aev Γ (fun f => Ae.lookA f []) 0 (subc (code Tryz.f18) [1, 1, 0, 1, 0, 0]) .nil (stof f18_l0_ins v) (around 0 f18_l0_ins f18_l0_outs) = F18_l0 v := by kernel_rfl
def C18_l0 (v : Int × Bool × List UInt8 × List UInt8 × List ((Bool × (List UInt8 × List UInt8))) × List (List UInt8) × Bool × Bool × Bool × Int × Int × Int × Bool × List UInt8 × List UInt8 × List ((Bool × (List UInt8 × List UInt8))) × List (List UInt8) × Bool × Bool × Bool × Int × Int × Int × Unit) : Option (Unit ⊕ (Bool × Unit)) := loopN (F18_l0) big v
theorem k18_l0 : FragOk Tryz.prog 0 (fun Q a w => (Code.loop (subc (code Tryz.f18) [1, 1, 0, 1, 0, 0])).wp Tryz.prog Q a w) ⟨f18_l0_ins, f18_l0_outs, C18_l0⟩ :=
  frag_loop (ins := f18_l0_ins) (os := f18_l0_outs) (np := 0) (n := .nil) (F := F18_l0) hm hΓ (K := (fun f => Ae.lookA f [])) (kok_nil _) (fun _ => big)
    (ann_nil _) (fun v => h18_l0 v)

def F18 (f46 : List (List UInt8) × List (List UInt8) × Unit → Option (Bool × Unit)) (f18_l0 : Int × Bool × List UInt8 × List UInt8 × List ((Bool × (List UInt8 × List UInt8))) × List (List UInt8) × Bool × Bool × Bool × Int × Int × Int × Bool × List UInt8 × List UInt8 × List ((Bool × (List UInt8 × List UInt8))) × List (List UInt8) × Bool × Bool × Bool × Int × Int × Int × Unit → Option (Unit ⊕ (Bool × Unit))) : Bool × List UInt8 × List UInt8 × List ((Bool × (List UInt8 × List UInt8))) × List (List UInt8) × Bool × Bool × Bool × Int × Int × Int × Bool × List UInt8 × List UInt8 × List ((Bool × (List UInt8 × List UInt8))) × List (List UInt8) × Bool × Bool × Bool × Int × Int × Int × Unit → Option (Bool × Unit) := fun (x0, x1, x2, x3, x4, x5, x6, x7, x8, x9, x10, x11, x12, x13, x14, x15, x16, x17, x18, x19, x20, x21, _) =>
  bif !(x0 == x11 && (x1 == x12 && (x2 == x13 && true) && true)) then some (false, ())
  else
    bif !(x5 == x16 && (x6 == x17 && (x7 == x18 && (x8 == x19 && (x9 == x20 && true))))) then some (false, ())
    else
      bif x10 != x21 then some (false, ())
      else
        bif (↑x3.length : Int) != (↑x14.length : Int) then some (false, ())
        else
          (f46 (x4, x15, ())).bind fun val =>
            bif !val.fst then some (false, ())
            else
              (f18_l0
                    (0, x0, x1, x2, x3, x4, x5, x6, x7, x8, x9, x10, x11, x12, x13, x14, x15, x16, x17, x18, x19, x20,
                      x21, ())).bind
                fun val => Sum.elim (fun val => some (true, ())) (fun val => some (val.fst, ())) val
theorem h18 (f46 : HS f46_ins → Option (OTy f46_outs)) (f18_l0 : HS f18_l0_ins → Option (OTy f18_l0_outs)) (v : HS f18_ins) : afun Γ (fun f => Ae.lookA f [(46, ⟨f46_ins, f46_outs, f46⟩)]) 0 Tryz.f18.ntmps Tryz.f18.results.toList (code Tryz.f18) (.seq .nil (.seq .nil (.seq (.seq .nil (.blk (.loop ⟨f18_l0_ins, f18_l0_outs, f18_l0⟩))) .nil))) (em id f18_ins v).1 (em id f18_ins v).2 (ofin 0 f18_outs) = F18 f46 f18_l0 v := by kernel_rfl
def C18 (v : Bool × List UInt8 × List UInt8 × List ((Bool × (List UInt8 × List UInt8))) × List (List UInt8) × Bool × Bool × Bool × Int × Int × Int × Bool × List UInt8 × List UInt8 × List ((Bool × (List UInt8 × List UInt8))) × List (List UInt8) × Bool × Bool × Bool × Int × Int × Int × Unit) : Option (Bool × Unit) := F18 C46 C18_l0 v
theorem ok18 : FnOk Tryz.prog 18 ⟨f18_ins, f18_outs, C18⟩ :=
  fn_ok (np := 0) (n := (.seq .nil (.seq .nil (.seq (.seq .nil (.blk (.loop ⟨f18_l0_ins, f18_l0_outs, C18_l0⟩))) .nil)))) hm hΓ (K := (fun f => Ae.lookA f [(46, ⟨f46_ins, f46_outs, C46⟩)])) (kok_cons ok46 (kok_nil _)) Tryz.func18 (c := code Tryz.f18) (by kernel_rfl) (name_ne (by kernel_rfl))
    (ann_seq (a := (subc (code Tryz.f18) [0])) (b := (subc (code Tryz.f18) [1])) (by kernel_rfl) (ann_nil _) (ann_seq (a := (subc (code Tryz.f18) [1, 0])) (b := (subc (code Tryz.f18) [1, 1])) (by kernel_rfl) (ann_nil _) (ann_seq (a := (subc (code Tryz.f18) [1, 1, 0])) (b := (subc (code Tryz.f18) [1, 1, 1])) (by kernel_rfl) (ann_seq (a := (subc (code Tryz.f18) [1, 1, 0, 0])) (b := (subc (code Tryz.f18) [1, 1, 0, 1])) (by kernel_rfl) (ann_nil _) (ann_blk (x := (subc (code Tryz.f18) [1, 1, 0, 1, 0])) (by kernel_rfl) (ann_loop (x := (subc (code Tryz.f18) [1, 1, 0, 1, 0, 0])) (by kernel_rfl) k18_l0))) (ann_nil _)))) (fun v => Nat.le_of_ble_eq_true (by kernel_rfl)) (fun v => h18 C46 C18_l0 v)

def F56  : List UInt8 × List UInt8 × Unit → Option (List UInt8 × Bool × Unit) := fun (x0, x1, _) =>
  bif decide ((↑x0.length : Int) < (↑x1.length : Int)) then some ([], false, ())
  else
    bif decide (0 ≤ (↑x1.length : Int)) && decide ((↑x1.length : Int) ≤ (↑x0.length : Int)) then
      bif !List.take (↑x1.length : Int).toNat x0 == x1 then some ([], false, ())
      else
        bif decide (0 ≤ (↑x1.length : Int)) && decide ((↑x1.length : Int) ≤ (↑x0.length : Int)) then
          some (List.drop (↑x1.length : Int).toNat x0, true, ())
        else none
    else none
theorem h56  (v : HS f56_ins) : afun Γ (fun f => Ae.lookA f []) 0 Tryz.f56.ntmps Tryz.f56.results.toList (code Tryz.f56) .nil (em id f56_ins v).1 (em id f56_ins v).2 (ofin 0 f56_outs) = F56 v := by kernel_rfl
def C56 (v : List UInt8 × List UInt8 × Unit) : Option (List UInt8 × Bool × Unit) := F56 v
theorem ok56 : FnOk Tryz.prog 56 ⟨f56_ins, f56_outs, C56⟩ :=
  fn_ok (np := 0) (n := .nil) hm hΓ (K := (fun f => Ae.lookA f [])) (kok_nil _) Tryz.func56 (c := code Tryz.f56) (by kernel_rfl) (name_ne (by kernel_rfl))
    (ann_nil _) (fun v => Nat.le_of_ble_eq_true (by kernel_rfl)) (fun v => h56 v)

def F20_l0 (f14 : Int × Unit → Option (List UInt8 × Unit)) : List UInt8 × List UInt8 × Bool × Int × Unit → Option ((List UInt8 × List UInt8 × Bool × Int × Unit) ⊕ (Unit ⊕ (List UInt8 × Int × Bool × Unit))) := fun (x0, x1, x2, x3, _) =>
  bif decide (x3 < 1000) then
    bif x2 then
      (f14 (x3, ())).bind fun val =>
        bif val.fst == x0 then some (Sum.inr (Sum.inr (x1, x3, true, ())))
        else some (Sum.inl (x0, x1, x2, IntKind.i64.wrap (x3 + 1), ()))
    else some (Sum.inr (Sum.inl ()))
  else some (Sum.inr (Sum.inl ()))
theorem h20_l0 (f14 : HS f14_ins → Option (OTy f14_outs)) (v : HS f20_l0_ins) : aev Γ (fun f => Ae.lookA f [(14, ⟨f14_ins, f14_outs, f14⟩)]) 0 (subc (code Tryz.f20) [1, 1, 1, 1, 1, 1, 1, 1, 1, 0, 1, 0, 0]) .nil (stof f20_l0_ins v) (around 0 f20_l0_ins f20_l0_outs) = F20_l0 f14 v := by kernel_rfl
def C20_l0 (v : List UInt8 × List UInt8 × Bool × Int × Unit) : Option (Unit ⊕ (List UInt8 × Int × Bool × Unit)) := loopN (F20_l0 C14) big v
theorem k20_l0 : FragOk Tryz.prog 0 (fun Q a w => (Code.loop (subc (code Tryz.f20) [1, 1, 1, 1, 1, 1, 1, 1, 1, 0, 1, 0, 0])).wp Tryz.prog Q a w) ⟨f20_l0_ins, f20_l0_outs, C20_l0⟩ :=
  frag_loop (ins := f20_l0_ins) (os := f20_l0_outs) (np := 0) (n := .nil) (F := F20_l0 C14) hm hΓ (K := (fun f => Ae.lookA f [(14, ⟨f14_ins, f14_outs, C14⟩)])) (kok_cons ok14 (kok_nil _)) (fun _ => big)
    (ann_nil _) (fun v => h20_l0 C14 v)

def F20 (f10 : List UInt8 × Unit → Option (List UInt8 × Bool × Unit)) (f42 : List UInt8 × List UInt8 × List UInt8 × List UInt8 × Unit → Option (List (List UInt8) × Unit)) (f46 : List (List UInt8) × List (List UInt8) × Unit → Option (Bool × Unit)) (f56 : List UInt8 × List UInt8 × Unit → Option (List UInt8 × Bool × Unit)) (f20_l0 : List UInt8 × List UInt8 × Bool × Int × Unit → Option (Unit ⊕ (List UInt8 × Int × Bool × Unit))) : List (List UInt8) × Unit → Option (List UInt8 × Int × Bool × Unit) := fun (x0, _) =>
  bif (↑x0.length : Int) != 10 then some ([], 0, false, ())
  else
    bif decide (4 < (↑x0.length : Int)) then
      (f56
            (x0.getD 4 [],
              [82, 101, 112, 111, 114, 116, 105, 110, 103, 45, 77, 84, 65, 58, 32, 100, 110, 115, 59, 32],
              ())).bind
        fun val =>
        bif decide (6 < (↑x0.length : Int)) then
          (f56
                (x0.getD 6 [], [79, 114, 105, 103, 105, 110, 97, 108, 45, 73, 68, 58, 32],
                  ())).bind
            fun val_1 =>
            bif decide (7 < (↑x0.length : Int)) then
              (f56
                    (x0.getD 7 [],
                      [70, 105, 110, 97, 108, 45, 82, 101, 99, 105, 112, 105, 101, 110, 116, 58, 32, 117, 116, 102, 45,
                          56, 59, 32],
                      ())).bind
                fun val_2 =>
                bif decide (9 < (↑x0.length : Int)) then
                  (f56 (x0.getD 9 [], [83, 116, 97, 116, 117, 115, 58, 32], ())).bind
                    fun val_3 =>
                    (f42 (val.fst, val_1.fst, val_2.fst, val_3.fst, ())).bind fun val_4 =>
                      bif !val.snd.fst then some ([], 0, false, ())
                      else
                        bif !val_1.snd.fst then some ([], 0, false, ())
                        else
                          bif !val_2.snd.fst then some ([], 0, false, ())
                          else
                            bif !val_3.snd.fst then some ([], 0, false, ())
                            else
                              (f46 (x0, val_4.fst, ())).bind fun val =>
                                bif !val.fst then some ([], 0, false, ())
                                else
                                  (f10 (val_2.fst, ())).bind fun val =>
                                    (f20_l0 (val_3.fst, val.fst, val.snd.fst, 100, ())).bind fun val =>
                                      Sum.elim (fun val => some ([], 0, false, ()))
                                        (fun val => some (val.fst, val.snd.fst, val.snd.snd.fst, ())) val
                else none
            else none
        else none
    else none
theorem h20 (f10 : HS f10_ins → Option (OTy f10_outs)) (f42 : HS f42_ins → Option (OTy f42_outs)) (f46 : HS f46_ins → Option (OTy f46_outs)) (f56 : HS f56_ins → Option (OTy f56_outs)) (f20_l0 : HS f20_l0_ins → Option (OTy f20_l0_outs)) (v : HS f20_ins) : afun Γ (fun f => Ae.lookA f [(10, ⟨f10_ins, f10_outs, f10⟩), (42, ⟨f42_ins, f42_outs, f42⟩), (46, ⟨f46_ins, f46_outs, f46⟩), (56, ⟨f56_ins, f56_outs, f56⟩)]) 0 Tryz.f20.ntmps Tryz.f20.results.toList (code Tryz.f20) (.seq .nil (.seq .nil (.seq .nil (.seq .nil (.seq .nil (.seq .nil (.seq .nil (.seq .nil (.seq .nil (.seq (.seq .nil (.blk (.loop ⟨f20_l0_ins, f20_l0_outs, f20_l0⟩))) .nil)))))))))) (em id f20_ins v).1 (em id f20_ins v).2 (ofin 0 f20_outs) = F20 f10 f42 f46 f56 f20_l0 v := by kernel_rfl
def C20 (v : List (List UInt8) × Unit) : Option (List UInt8 × Int × Bool × Unit) := F20 C10 C42 C46 C56 C20_l0 v
theorem ok20 : FnOk Tryz.prog 20 ⟨f20_ins, f20_outs, C20⟩ :=
  fn_ok (np := 0) (n := (.seq .nil (.seq .nil (.seq .nil (.seq .nil (.seq .nil (.seq .nil (.seq .nil (.seq .nil (.seq .nil (.seq (.seq .nil (.blk (.loop ⟨f20_l0_ins, f20_l0_outs, C20_l0⟩))) .nil))))))))))) hm hΓ (K := (fun f => Ae.lookA f [(10, ⟨f10_ins, f10_outs, C10⟩), (42, ⟨f42_ins, f42_outs, C42⟩), (46, ⟨f46_ins, f46_outs, C46⟩), (56, ⟨f56_ins, f56_outs, C56⟩)])) (kok_cons ok10 (kok_cons ok42 (kok_cons ok46 (kok_cons ok56 (kok_nil _))))) Tryz.func20 (c := code Tryz.f20) (by kernel_rfl) (name_ne (by kernel_rfl))
    (ann_seq (a := (subc (code Tryz.f20) [0])) (b := (subc (code Tryz.f20) [1])) (by kernel_rfl) (ann_nil _) (ann_seq (a := (subc (code Tryz.f20) [1, 0])) (b := (subc (code Tryz.f20) [1, 1])) (by kernel_rfl) (ann_nil _) (ann_seq (a := (subc (code Tryz.f20) [1, 1, 0])) (b := (subc (code Tryz.f20) [1, 1, 1])) (by kernel_rfl) (ann_nil _) (ann_seq (a := (subc (code Tryz.f20) [1, 1, 1, 0])) (b := (subc (code Tryz.f20) [1, 1, 1, 1])) (by kernel_rfl) (ann_nil _) (ann_seq (a := (subc (code Tryz.f20) [1, 1, 1, 1, 0])) (b := (subc (code Tryz.f20) [1, 1, 1, 1, 1])) (by kernel_rfl) (ann_nil _) (ann_seq (a := (subc (code Tryz.f20) [1, 1, 1, 1, 1, 0])) (b := (subc (code Tryz.f20) [1, 1, 1, 1, 1, 1])) (by kernel_rfl) (ann_nil _) (ann_seq (a := (subc (code Tryz.f20) [1, 1, 1, 1, 1, 1, 0])) (b := (subc (code Tryz.f20) [1, 1, 1, 1, 1, 1, 1])) (by kernel_rfl) (ann_nil _) (ann_seq (a := (subc (code Tryz.f20) [1, 1, 1, 1, 1, 1, 1, 0])) (b := (subc (code Tryz.f20) [1, 1, 1, 1, 1, 1, 1, 1])) (by kernel_rfl) (ann_nil _) (ann_seq (a := (subc (code Tryz.f20) [1, 1, 1, 1, 1, 1, 1, 1, 0])) (b := (subc (code Tryz.f20) [1, 1, 1, 1, 1, 1, 1, 1, 1])) (by kernel_rfl) (ann_nil _) (ann_seq (a := (subc (code Tryz.f20) [1, 1, 1, 1, 1, 1, 1, 1, 1, 0])) (b := (subc (code Tryz.f20) [1, 1, 1, 1, 1, 1, 1, 1, 1, 1])) (by kernel_rfl) (ann_seq (a := (subc (code Tryz.f20) [1, 1, 1, 1, 1, 1, 1, 1, 1, 0, 0])) (b := (subc (code Tryz.f20) [1, 1, 1, 1, 1, 1, 1, 1, 1, 0, 1])) (by kernel_rfl) (ann_nil _) (ann_blk (x := (subc (code Tryz.f20) [1, 1, 1, 1, 1, 1, 1, 1, 1, 0, 1, 0])) (by kernel_rfl) (ann_loop (x := (subc (code Tryz.f20) [1, 1, 1, 1, 1, 1, 1, 1, 1, 0, 1, 0, 0])) (by kernel_rfl) k20_l0))) (ann_nil _))))))))))) (fun v => Nat.le_of_ble_eq_true (by kernel_rfl)) (fun v => h20 C10 C42 C46 C56 C20_l0 v)

def F4_l0  : List (List UInt8) × Bool × Int × Unit → Option ((List (List UInt8) × Bool × Int × Unit) ⊕ ((List (List UInt8) × Bool × Unit) ⊕ (Bool × Unit))) := fun (x0, x1, x2, _) =>
  bif decide (x2 < (↑x0.length : Int)) then
    bif decide (0 ≤ x2) && decide (x2 < (↑x0.length : Int)) then
      bif decide ((↑(List.length (x0.getD x2.toNat [])) : Int) > 500) then
        some (Sum.inr (Sum.inr (x1, ())))
      else some (Sum.inl (x0, x1, IntKind.i64.wrap (x2 + 1), ()))
    else none
  else some (Sum.inr (Sum.inl (x0, x1, ())))
theorem h4_l0  (v : HS f4_l0_ins) : aev Γ (fun f => Ae.lookA f []) 0 (subc (code Tryz.f4) [1, 1, 1, 1, 1, 1, 1, 0, 1, 0, 0]) .nil (stof f4_l0_ins v) (around 0 f4_l0_ins f4_l0_outs) = F4_l0 v := by kernel_rfl
def C4_l0 (v : List (List UInt8) × Bool × Int × Unit) : Option ((List (List UInt8) × Bool × Unit) ⊕ (Bool × Unit)) := loopN (F4_l0) big v
theorem k4_l0 : FragOk Tryz.prog 0 (fun Q a w => (Code.loop (subc (code Tryz.f4) [1, 1, 1, 1, 1, 1, 1, 0, 1, 0, 0])).wp Tryz.prog Q a w) ⟨f4_l0_ins, f4_l0_outs, C4_l0⟩ :=
  frag_loop (ins := f4_l0_ins) (os := f4_l0_outs) (np := 0) (n := .nil) (F := F4_l0) hm hΓ (K := (fun f => Ae.lookA f [])) (kok_nil _) (fun _ => big)
    (ann_nil _) (fun v => h4_l0 v)

def F4 (f8 : Unit → Option (Bool × Unit)) (f15 : Int × Bool × List UInt8 × List UInt8 × List (((Bool × (List UInt8 × List UInt8)) × (Int × (Int × (Int × Int))))) × List (List UInt8) × Bool × Bool × Bool × Int × Int × Int × Unit → Option (Bool × Unit)) (f16 : List UInt8 × Int × Bool × List UInt8 × List UInt8 × List (((Bool × (List UInt8 × List UInt8)) × (Int × (Int × (Int × Int))))) × List (List UInt8) × Bool × Bool × Bool × Int × Int × Int × Int × Unit → Option (Bool × List UInt8 × List UInt8 × List ((Bool × (List UInt8 × List UInt8))) × List (List UInt8) × Bool × Bool × Bool × Int × Int × Int × Bool × Unit)) (f17 : List UInt8 × Int × Bool × List UInt8 × List UInt8 × List (((Bool × (List UInt8 × List UInt8)) × (Int × (Int × (Int × Int))))) × List (List UInt8) × Bool × Bool × Bool × Int × Int × Int × Int × Unit → Option (Bool × List UInt8 × List UInt8 × List ((Bool × (List UInt8 × List UInt8))) × List (List UInt8) × Bool × Bool × Bool × Int × Int × Int × Bool × Unit)) (f18 : Bool × List UInt8 × List UInt8 × List ((Bool × (List UInt8 × List UInt8))) × List (List UInt8) × Bool × Bool × Bool × Int × Int × Int × Bool × List UInt8 × List UInt8 × List ((Bool × (List UInt8 × List UInt8))) × List (List UInt8) × Bool × Bool × Bool × Int × Int × Int × Unit → Option (Bool × Unit)) (f19 : List (List UInt8) × Unit → Option (List UInt8 × Int × Bool × Unit)) (f20 : List (List UInt8) × Unit → Option (List UInt8 × Int × Bool × Unit)) (f4_l0 : List (List UInt8) × Bool × Int × Unit → Option ((List (List UInt8) × Bool × Unit) ⊕ (Bool × Unit))) : List UInt8 × Int × Bool × List UInt8 × List UInt8 × List (((Bool × (List UInt8 × List UInt8)) × (Int × (Int × (Int × Int))))) × List (List UInt8) × Bool × Bool × Bool × Int × Int × Int × Int × List (List UInt8) × Unit → Option (Bool × Unit) := fun (x0, x1, x2, x3, x4, x5, x6, x7, x8, x9, x10, x11, x12, x13, x14, _) =>
  (f8 ()).bind fun val =>
    (f15 (x1, x2, x3, x4, x5, x6, x7, x8, x9, x10, x11, x12, ())).bind fun val_1 =>
      bif !val_1.fst then some (val.fst, ())
      else
        bif decide ((↑x0.length : Int) > 200) then some (val.fst, ())
        else
          bif decide ((↑x14.length : Int) > 20) then some (val.fst, ())
          else
            (f16 (x0, x1, x2, x3, x4, x5, x6, x7, x8, x9, x10, x11, x12, x13, ())).bind fun val_2 =>
              (f17 (x0, x1, x2, x3, x4, x5, x6, x7, x8, x9, x10, x11, x12, x13, ())).bind fun val_3 =>
                (f18
                      (val_2.fst, val_2.snd.fst, val_2.snd.snd.fst, val_2.snd.snd.snd.fst, val_2.snd.snd.snd.snd.fst,
                        val_2.snd.snd.snd.snd.snd.fst, val_2.snd.snd.snd.snd.snd.snd.fst,
                        val_2.snd.snd.snd.snd.snd.snd.snd.fst, val_2.snd.snd.snd.snd.snd.snd.snd.snd.fst,
                        val_2.snd.snd.snd.snd.snd.snd.snd.snd.snd.fst, val_2.snd.snd.snd.snd.snd.snd.snd.snd.snd.snd.fst,
                        val_3.fst, val_3.snd.fst, val_3.snd.snd.fst, val_3.snd.snd.snd.fst, val_3.snd.snd.snd.snd.fst,
                        val_3.snd.snd.snd.snd.snd.fst, val_3.snd.snd.snd.snd.snd.snd.fst,
                        val_3.snd.snd.snd.snd.snd.snd.snd.fst, val_3.snd.snd.snd.snd.snd.snd.snd.snd.fst,
                        val_3.snd.snd.snd.snd.snd.snd.snd.snd.snd.fst, val_3.snd.snd.snd.snd.snd.snd.snd.snd.snd.snd.fst,
                        ())).bind
                  fun val_4 =>
                  bif !val_4.fst then some (false, ())
                  else
                    bif
                        !val_2.snd.snd.snd.snd.snd.snd.snd.snd.snd.snd.snd.fst ==
                            val_3.snd.snd.snd.snd.snd.snd.snd.snd.snd.snd.snd.fst then
                      some (false, ())
                    else
                      (f4_l0 (x14, val.fst, 0, ())).bind fun val =>
                        Sum.elim
                          (fun val =>
                            (f19 (val.fst, ())).bind fun val_5 =>
                              (f20 (val.fst, ())).bind fun val_6 =>
                                bif val.snd.fst then
                                  bif val_5.fst == val_6.fst then
                                    bif val_5.snd.fst == val_6.snd.fst then
                                      some (val_5.snd.snd.fst == val_6.snd.snd.fst, ())
                                    else some (false, ())
                                  else some (false, ())
                                else some (false, ()))
                          (fun val => some (val.fst, ())) val
theorem h4 (f8 : HS f8_ins → Option (OTy f8_outs)) (f15 : HS f15_ins → Option (OTy f15_outs)) (f16 : HS f16_ins → Option (OTy f16_outs)) (f17 : HS f17_ins → Option (OTy f17_outs)) (f18 : HS f18_ins → Option (OTy f18_outs)) (f19 : HS f19_ins → Option (OTy f19_outs)) (f20 : HS f20_ins → Option (OTy f20_outs)) (f4_l0 : HS f4_l0_ins → Option (OTy f4_l0_outs)) (v : HS f4_ins) : afun Γ (fun f => Ae.lookA f [(8, ⟨f8_ins, f8_outs, f8⟩), (15, ⟨f15_ins, f15_outs, f15⟩), (16, ⟨f16_ins, f16_outs, f16⟩), (17, ⟨f17_ins, f17_outs, f17⟩), (18, ⟨f18_ins, f18_outs, f18⟩), (19, ⟨f19_ins, f19_outs, f19⟩), (20, ⟨f20_ins, f20_outs, f20⟩)]) 0 Tryz.f4.ntmps Tryz.f4.results.toList (code Tryz.f4) (.seq .nil (.seq .nil (.seq .nil (.seq .nil (.seq .nil (.seq .nil (.seq .nil (.seq (.seq .nil (.blk (.loop ⟨f4_l0_ins, f4_l0_outs, f4_l0⟩))) .nil)))))))) (em id f4_ins v).1 (em id f4_ins v).2 (ofin 0 f4_outs) = F4 f8 f15 f16 f17 f18 f19 f20 f4_l0 v := by kernel_rfl
def C4 (v : List UInt8 × Int × Bool × List UInt8 × List UInt8 × List (((Bool × (List UInt8 × List UInt8)) × (Int × (Int × (Int × Int))))) × List (List UInt8) × Bool × Bool × Bool × Int × Int × Int × Int × List (List UInt8) × Unit) : Option (Bool × Unit) := F4 C8 C15 C16 C17 C18 C19 C20 C4_l0 v
theorem ok4 : FnOk Tryz.prog 4 ⟨f4_ins, f4_outs, C4⟩ :=
  fn_ok (np := 0) (n := (.seq .nil (.seq .nil (.seq .nil (.seq .nil (.seq .nil (.seq .nil (.seq .nil (.seq (.seq .nil (.blk (.loop ⟨f4_l0_ins, f4_l0_outs, C4_l0⟩))) .nil))))))))) hm hΓ (K := (fun f => Ae.lookA f [(8, ⟨f8_ins, f8_outs, C8⟩), (15, ⟨f15_ins, f15_outs, C15⟩), (16, ⟨f16_ins, f16_outs, C16⟩), (17, ⟨f17_ins, f17_outs, C17⟩), (18, ⟨f18_ins, f18_outs, C18⟩), (19, ⟨f19_ins, f19_outs, C19⟩), (20, ⟨f20_ins, f20_outs, C20⟩)])) (kok_cons ok8 (kok_cons ok15 (kok_cons ok16 (kok_cons ok17 (kok_cons ok18 (kok_cons ok19 (kok_cons ok20 (kok_nil _)))))))) Tryz.func4 (c := code Tryz.f4) (by kernel_rfl) (name_ne (by kernel_rfl))
    (ann_seq (a := (subc (code Tryz.f4) [0])) (b := (subc (code Tryz.f4) [1])) (by kernel_rfl) (ann_nil _) (ann_seq (a := (subc (code Tryz.f4) [1, 0])) (b := (subc (code Tryz.f4) [1, 1])) (by kernel_rfl) (ann_nil _) (ann_seq (a := (subc (code Tryz.f4) [1, 1, 0])) (b := (subc (code Tryz.f4) [1, 1, 1])) (by kernel_rfl) (ann_nil _) (ann_seq (a := (subc (code Tryz.f4) [1, 1, 1, 0])) (b := (subc (code Tryz.f4) [1, 1, 1, 1])) (by kernel_rfl) (ann_nil _) (ann_seq (a := (subc (code Tryz.f4) [1, 1, 1, 1, 0])) (b := (subc (code Tryz.f4) [1, 1, 1, 1, 1])) (by kernel_rfl) (ann_nil _) (ann_seq (a := (subc (code Tryz.f4) [1, 1, 1, 1, 1, 0])) (b := (subc (code Tryz.f4) [1, 1, 1, 1, 1, 1])) (by kernel_rfl) (ann_nil _) (ann_seq (a := (subc (code Tryz.f4) [1, 1, 1, 1, 1, 1, 0])) (b := (subc (code Tryz.f4) [1, 1, 1, 1, 1, 1, 1])) (by kernel_rfl) (ann_nil _) (ann_seq (a := (subc (code Tryz.f4) [1, 1, 1, 1, 1, 1, 1, 0])) (b := (subc (code Tryz.f4) [1, 1, 1, 1, 1, 1, 1, 1])) (by kernel_rfl) (ann_seq (a := (subc (code Tryz.f4) [1, 1, 1, 1, 1, 1, 1, 0, 0])) (b := (subc (code Tryz.f4) [1, 1, 1, 1, 1, 1, 1, 0, 1])) (by kernel_rfl) (ann_nil _) (ann_blk (x := (subc (code Tryz.f4) [1, 1, 1, 1, 1, 1, 1, 0, 1, 0])) (by kernel_rfl) (ann_loop (x := (subc (code Tryz.f4) [1, 1, 1, 1, 1, 1, 1, 0, 1, 0, 0])) (by kernel_rfl) k4_l0))) (ann_nil _))))))))) (fun v => Nat.le_of_ble_eq_true (by kernel_rfl)) (fun v => h4 C8 C15 C16 C17 C18 C19 C20 C4_l0 v)

def F5_l0  : List UInt8 × List UInt8 × Bool × List UInt8 × Int × Unit → Option ((List UInt8 × List UInt8 × Bool × List UInt8 × Int × Unit) ⊕ ((List UInt8 × List UInt8 × Bool × List UInt8 × Unit) ⊕ (Bool × Unit))) := fun (x0, x1, x2, x3, x4, _) =>
  bif decide (x4 < (↑x3.length : Int)) then
    bif decide (0 ≤ x4) && decide (x4 < (↑x3.length : Int)) then
      bif decide ((↑(x3.getD x4.toNat 0).toNat : Int) < 32) then some (Sum.inr (Sum.inr (false, ())))
      else
        bif decide (0 ≤ x4) && decide (x4 < (↑x3.length : Int)) then
          bif decide ((↑(x3.getD x4.toNat 0).toNat : Int) > 126) then some (Sum.inr (Sum.inr (false, ())))
          else some (Sum.inl (x0, x1, x2, x3, IntKind.i64.wrap (x4 + 1), ()))
        else none
    else none
  else some (Sum.inr (Sum.inl (x0, x1, x2, x3, ())))
theorem h5_l0  (v : HS f5_l0_ins) : aev Γ (fun f => Ae.lookA f []) 0 (subc (code Tryz.f5) [1, 1, 1, 1, 0, 1, 0, 0]) .nil (stof f5_l0_ins v) (around 0 f5_l0_ins f5_l0_outs) = F5_l0 v := by kernel_rfl
def C5_l0 (v : List UInt8 × List UInt8 × Bool × List UInt8 × Int × Unit) : Option ((List UInt8 × List UInt8 × Bool × List UInt8 × Unit) ⊕ (Bool × Unit)) := loopN (F5_l0) big v
theorem k5_l0 : FragOk Tryz.prog 0 (fun Q a w => (Code.loop (subc (code Tryz.f5) [1, 1, 1, 1, 0, 1, 0, 0])).wp Tryz.prog Q a w) ⟨f5_l0_ins, f5_l0_outs, C5_l0⟩ :=
  frag_loop (ins := f5_l0_ins) (os := f5_l0_outs) (np := 0) (n := .nil) (F := F5_l0) hm hΓ (K := (fun f => Ae.lookA f [])) (kok_nil _) (fun _ => big)
    (ann_nil _) (fun v => h5_l0 v)

def F5 (f8 : Unit → Option (Bool × Unit)) (f9 : List UInt8 × Unit → Option (List UInt8 × Bool × Unit)) (f11 : List UInt8 × Unit → Option (List UInt8 × Unit)) (f21 : List UInt8 × Unit → Option (List (Int) × Int × Unit)) (f5_l0 : List UInt8 × List UInt8 × Bool × List UInt8 × Int × Unit → Option ((List UInt8 × List UInt8 × Bool × List UInt8 × Unit) ⊕ (Bool × Unit))) : List UInt8 × List UInt8 × Unit → Option (Bool × Unit) := fun (x0, x1, _) =>
  (f8 ()).bind fun val =>
    bif decide ((↑x0.length : Int) > 500) then some (val.fst, ())
    else
      bif decide ((↑x1.length : Int) > 500) then some (val.fst, ())
      else
        (f11 (x0, ())).bind fun val_1 =>
          (f5_l0 (x0, x1, val.fst, val_1.fst, 0, ())).bind fun val =>
            Sum.elim
              (fun val =>
                (f21 (val.fst, ())).bind fun val_2 =>
                  (f9 (val.snd.snd.snd.fst, ())).bind fun val_3 =>
                    bif !val_3.snd.fst == decide (val_2.snd.fst < 0) then some (false, ())
                    else
                      bif val_3.snd.fst then
                        bif !val_3.fst == val.fst then some (false, ())
                        else
                          (f9 (val.snd.fst, ())).bind fun val_4 =>
                            bif val.snd.snd.fst then
                              bif val_4.snd.fst then
                                bif !val_4.snd.fst then some (true, ())
                                else (f11 (val_4.fst, ())).bind fun val_5 => some (val_5.fst == val.snd.fst, ())
                              else
                                bif val_4.fst == [] then
                                  bif !val_4.snd.fst then some (true, ())
                                  else (f11 (val_4.fst, ())).bind fun val_5 => some (val_5.fst == val.snd.fst, ())
                                else some (false, ())
                            else some (false, ())
                      else
                        (f9 (val.snd.fst, ())).bind fun val_4 =>
                          bif val.snd.snd.fst then
                            bif val_4.snd.fst then
                              bif !val_4.snd.fst then some (true, ())
                              else (f11 (val_4.fst, ())).bind fun val_5 => some (val_5.fst == val.snd.fst, ())
                            else
                              bif val_4.fst == [] then
                                bif !val_4.snd.fst then some (true, ())
                                else (f11 (val_4.fst, ())).bind fun val_5 => some (val_5.fst == val.snd.fst, ())
                              else some (false, ())
                          else some (false, ()))
              (fun val => some (val.fst, ())) val
theorem h5 (f8 : HS f8_ins → Option (OTy f8_outs)) (f9 : HS f9_ins → Option (OTy f9_outs)) (f11 : HS f11_ins → Option (OTy f11_outs)) (f21 : HS f21_ins → Option (OTy f21_outs)) (f5_l0 : HS f5_l0_ins → Option (OTy f5_l0_outs)) (v : HS f5_ins) : afun Γ (fun f => Ae.lookA f [(8, ⟨f8_ins, f8_outs, f8⟩), (9, ⟨f9_ins, f9_outs, f9⟩), (11, ⟨f11_ins, f11_outs, f11⟩), (21, ⟨f21_ins, f21_outs, f21⟩)]) 0 Tryz.f5.ntmps Tryz.f5.results.toList (code Tryz.f5) (.seq .nil (.seq .nil (.seq .nil (.seq .nil (.seq (.seq .nil (.blk (.loop ⟨f5_l0_ins, f5_l0_outs, f5_l0⟩))) .nil))))) (em id f5_ins v).1 (em id f5_ins v).2 (ofin 0 f5_outs) = F5 f8 f9 f11 f21 f5_l0 v := by kernel_rfl
def C5 (v : List UInt8 × List UInt8 × Unit) : Option (Bool × Unit) := F5 C8 C9 C11 C21 C5_l0 v
theorem ok5 : FnOk Tryz.prog 5 ⟨f5_ins, f5_outs, C5⟩ :=
  fn_ok (np := 0) (n := (.seq .nil (.seq .nil (.seq .nil (.seq .nil (.seq (.seq .nil (.blk (.loop ⟨f5_l0_ins, f5_l0_outs, C5_l0⟩))) .nil)))))) hm hΓ (K := (fun f => Ae.lookA f [(8, ⟨f8_ins, f8_outs, C8⟩), (9, ⟨f9_ins, f9_outs, C9⟩), (11, ⟨f11_ins, f11_outs, C11⟩), (21, ⟨f21_ins, f21_outs, C21⟩)])) (kok_cons ok8 (kok_cons ok9 (kok_cons ok11 (kok_cons ok21 (kok_nil _))))) Tryz.func5 (c := code Tryz.f5) (by kernel_rfl) (name_ne (by kernel_rfl))
    (ann_seq (a := (subc (code Tryz.f5) [0])) (b := (subc (code Tryz.f5) [1])) (by kernel_rfl) (ann_nil _) (ann_seq (a := (subc (code Tryz.f5) [1, 0])) (b := (subc (code Tryz.f5) [1, 1])) (by kernel_rfl) (ann_nil _) (ann_seq (a := (subc (code Tryz.f5) [1, 1, 0])) (b := (subc (code Tryz.f5) [1, 1, 1])) (by kernel_rfl) (ann_nil _) (ann_seq (a := (subc (code Tryz.f5) [1, 1, 1, 0])) (b := (subc (code Tryz.f5) [1, 1, 1, 1])) (by kernel_rfl) (ann_nil _) (ann_seq (a := (subc (code Tryz.f5) [1, 1, 1, 1, 0])) (b := (subc (code Tryz.f5) [1, 1, 1, 1, 1])) (by kernel_rfl) (ann_seq (a := (subc (code Tryz.f5) [1, 1, 1, 1, 0, 0])) (b := (subc (code Tryz.f5) [1, 1, 1, 1, 0, 1])) (by kernel_rfl) (ann_nil _) (ann_blk (x := (subc (code Tryz.f5) [1, 1, 1, 1, 0, 1, 0])) (by kernel_rfl) (ann_loop (x := (subc (code Tryz.f5) [1, 1, 1, 1, 0, 1, 0, 0])) (by kernel_rfl) k5_l0))) (ann_nil _)))))) (fun v => Nat.le_of_ble_eq_true (by kernel_rfl)) (fun v => h5 C8 C9 C11 C21 C5_l0 v)

def F7_c0  : Int × Int × Bool × List UInt8 × List UInt8 × Bool × Unit → Option ((Bool × Unit) ⊕ (Int × Int × Bool × List UInt8 × List UInt8 × Unit)) := fun (x0, x1, x2, x3, x4, x5, _) =>
  bif x5 then
    bif x2 then
      bif decide (x0 ≥ 100) then
        bif decide (x0 ≤ 999) then some (Sum.inl (true, ()))
        else some (Sum.inl (x3 == [53, 46, 48, 46, 48], ()))
      else some (Sum.inl (x3 == [53, 46, 48, 46, 48], ()))
    else some (Sum.inl (false, ()))
  else some (Sum.inr (x0, x1, x2, x3, x4, ()))
theorem h7_c0  (v : HS f7_c0_ins) : aev Γ (fun f => Ae.lookA f []) 0 (subc (code Tryz.f7) [1, 1, 1, 1, 0, 1]) .nil (stof f7_c0_ins v) (oout 0 f7_c0_outs) = F7_c0 v := by kernel_rfl
def C7_c0 (v : Int × Int × Bool × List UInt8 × List UInt8 × Bool × Unit) : Option ((Bool × Unit) ⊕ (Int × Int × Bool × List UInt8 × List UInt8 × Unit)) := F7_c0 v
theorem k7_c0 : FragOk Tryz.prog 0 (fun Q a w => ((subc (code Tryz.f7) [1, 1, 1, 1, 0, 1])).wp Tryz.prog Q a w) ⟨f7_c0_ins, f7_c0_outs, C7_c0⟩ :=
  frag_code (ins := f7_c0_ins) (os := f7_c0_outs) (np := 0) (n := .nil) (F := C7_c0) hm hΓ (K := (fun f => Ae.lookA f [])) (kok_nil _)
    (ann_nil _) (fun v => h7_c0 v)

def F7_c1  : Int × Int × Bool × List UInt8 × List UInt8 × Unit → Option (Bool × Unit) := fun (x0, x1, x2, x3, x4, _) =>
  bif x2 then
    bif (↑x3.length : Int) == 5 then
      bif decide (1 < (↑x3.length : Int)) then
        bif (↑(x3.getD 1 0).toNat : Int) == 46 then
          bif decide (3 < (↑x3.length : Int)) then
            bif (↑(x3.getD 3 0).toNat : Int) == 46 then
              bif decide (0 < (↑x3.length : Int)) then
                bif decide (2 < (↑x3.length : Int)) then
                  bif decide (4 < (↑x3.length : Int)) then
                    bif
                        IntKind.i64.wrap
                            (IntKind.i64.wrap
                                (IntKind.i64.wrap
                                    (IntKind.i64.wrap (IntKind.u8.wrap ((↑(x3.getD 0 0).toNat : Int) - 48)) *
                                      100) +
                                  IntKind.i64.wrap
                                    (IntKind.i64.wrap (IntKind.u8.wrap ((↑(x3.getD 2 0).toNat : Int) - 48)) *
                                      10)) +
                              IntKind.i64.wrap (IntKind.u8.wrap ((↑(x3.getD 4 0).toNat : Int) - 48))) ==
                          x0 then
                      some ((x3 == x4) == (x0 == x1), ())
                    else some (false, ())
                  else none
                else none
              else none
            else some (false, ())
          else none
        else some (false, ())
      else none
    else some (false, ())
  else some (false, ())
theorem h7_c1  (v : HS f7_c1_ins) : aev Γ (fun f => Ae.lookA f []) 0 (subc (code Tryz.f7) [1, 1, 1, 1, 1]) .nil (stof f7_c1_ins v) (oout 0 f7_c1_outs) = F7_c1 v := by kernel_rfl
def C7_c1 (v : Int × Int × Bool × List UInt8 × List UInt8 × Unit) : Option (Bool × Unit) := F7_c1 v
theorem k7_c1 : FragOk Tryz.prog 0 (fun Q a w => ((subc (code Tryz.f7) [1, 1, 1, 1, 1])).wp Tryz.prog Q a w) ⟨f7_c1_ins, f7_c1_outs, C7_c1⟩ :=
  frag_code (ins := f7_c1_ins) (os := f7_c1_outs) (np := 0) (n := .nil) (F := C7_c1) hm hΓ (K := (fun f => Ae.lookA f [])) (kok_nil _)
    (ann_nil _) (fun v => h7_c1 v)

def F7 (f8 : Unit → Option (Bool × Unit)) (f13 : Int × Unit → Option (List UInt8 × Unit)) (f7_c0 : Int × Int × Bool × List UInt8 × List UInt8 × Bool × Unit → Option ((Bool × Unit) ⊕ (Int × Int × Bool × List UInt8 × List UInt8 × Unit))) (f7_c1 : Int × Int × Bool × List UInt8 × List UInt8 × Unit → Option (Bool × Unit)) : Int × Int × Unit → Option (Bool × Unit) := fun (x0, x1, _) =>
  (f8 ()).bind fun val =>
    (f13 (x0, ())).bind fun val_1 =>
      (f13 (x1, ())).bind fun val_2 =>
        bif decide (x0 < 100) then
          (f7_c0 (x0, x1, val.fst, val_1.fst, val_2.fst, true, ())).bind fun val =>
            Sum.elim (fun val => some (val.fst, ()))
              (fun val =>
                (f7_c1 (val.fst, val.snd.fst, val.snd.snd.fst, val.snd.snd.snd.fst, val.snd.snd.snd.snd.fst, ())).bind
                  fun val => some (val.fst, ()))
              val
        else
          bif decide (x0 > 999) then
            (f7_c0 (x0, x1, val.fst, val_1.fst, val_2.fst, true, ())).bind fun val =>
              Sum.elim (fun val => some (val.fst, ()))
                (fun val =>
                  (f7_c1 (val.fst, val.snd.fst, val.snd.snd.fst, val.snd.snd.snd.fst, val.snd.snd.snd.snd.fst, ())).bind
                    fun val => some (val.fst, ()))
                val
          else
            bif decide (x1 < 100) then
              (f7_c0 (x0, x1, val.fst, val_1.fst, val_2.fst, true, ())).bind fun val =>
                Sum.elim (fun val => some (val.fst, ()))
                  (fun val =>
                    (f7_c1 (val.fst, val.snd.fst, val.snd.snd.fst, val.snd.snd.snd.fst, val.snd.snd.snd.snd.fst, ())).bind
                      fun val => some (val.fst, ()))
                  val
            else
              (f7_c0 (x0, x1, val.fst, val_1.fst, val_2.fst, decide (x1 > 999), ())).bind fun val =>
                Sum.elim (fun val => some (val.fst, ()))
                  (fun val =>
                    (f7_c1 (val.fst, val.snd.fst, val.snd.snd.fst, val.snd.snd.snd.fst, val.snd.snd.snd.snd.fst, ())).bind
                      fun val => some (val.fst, ()))
                  val
theorem h7 (f8 : HS f8_ins → Option (OTy f8_outs)) (f13 : HS f13_ins → Option (OTy f13_outs)) (f7_c0 : HS f7_c0_ins → Option (OTy f7_c0_outs)) (f7_c1 : HS f7_c1_ins → Option (OTy f7_c1_outs)) (v : HS f7_ins) : afun Γ (fun f => Ae.lookA f [(8, ⟨f8_ins, f8_outs, f8⟩), (13, ⟨f13_ins, f13_outs, f13⟩)]) 0 Tryz.f7.ntmps Tryz.f7.results.toList (code Tryz.f7) (.seq .nil (.seq .nil (.seq .nil (.seq .nil (.cut (.cut .nil ⟨f7_c0_ins, f7_c0_outs, f7_c0⟩) ⟨f7_c1_ins, f7_c1_outs, f7_c1⟩))))) (em id f7_ins v).1 (em id f7_ins v).2 (ofin 0 f7_outs) = F7 f8 f13 f7_c0 f7_c1 v := by kernel_rfl
def C7 (v : Int × Int × Unit) : Option (Bool × Unit) := F7 C8 C13 C7_c0 C7_c1 v
theorem ok7 : FnOk Tryz.prog 7 ⟨f7_ins, f7_outs, C7⟩ :=
  fn_ok (np := 0) (n := (.seq .nil (.seq .nil (.seq .nil (.seq .nil (.cut (.cut .nil ⟨f7_c0_ins, f7_c0_outs, C7_c0⟩) ⟨f7_c1_ins, f7_c1_outs, C7_c1⟩)))))) hm hΓ (K := (fun f => Ae.lookA f [(8, ⟨f8_ins, f8_outs, C8⟩), (13, ⟨f13_ins, f13_outs, C13⟩)])) (kok_cons ok8 (kok_cons ok13 (kok_nil _))) Tryz.func7 (c := code Tryz.f7) (by kernel_rfl) (name_ne (by kernel_rfl))
    (ann_seq (a := (subc (code Tryz.f7) [0])) (b := (subc (code Tryz.f7) [1])) (by kernel_rfl) (ann_nil _) (ann_seq (a := (subc (code Tryz.f7) [1, 0])) (b := (subc (code Tryz.f7) [1, 1])) (by kernel_rfl) (ann_nil _) (ann_seq (a := (subc (code Tryz.f7) [1, 1, 0])) (b := (subc (code Tryz.f7) [1, 1, 1])) (by kernel_rfl) (ann_nil _) (ann_seq (a := (subc (code Tryz.f7) [1, 1, 1, 0])) (b := (subc (code Tryz.f7) [1, 1, 1, 1])) (by kernel_rfl) (ann_nil _) (ann_cut (a := (subc (code Tryz.f7) [1, 1, 1, 1, 0])) (b := (subc (code Tryz.f7) [1, 1, 1, 1, 1])) (by kernel_rfl) (ann_cut (a := (subc (code Tryz.f7) [1, 1, 1, 1, 0, 0])) (b := (subc (code Tryz.f7) [1, 1, 1, 1, 0, 1])) (by kernel_rfl) (ann_nil _) k7_c0) k7_c1))))) (fun v => Nat.le_of_ble_eq_true (by kernel_rfl)) (fun v => h7 C8 C13 C7_c0 C7_c1 v)
end Go.Proofs.YtmfcepdbpdihgaaGreatDoor.W
/- Characters as bytes. -/
set_option linter.unusedVariables false
set_option linter.unusedSimpArgs false
set_option maxRecDepth 100000
namespace Go.Proofs.YtmfcepdbpdihgaaGreatDoor.W
open Go Go.Ae Go.Pl
def g1 (o : Option (Int × Int × Unit)) : Int := match o with | some (n, _, _) => n | none => 0
def g2 (o : Option (Int × Int × Unit)) : Int := match o with | some (_, v, _) => v | none => 0
def ok2 (o : Option (Int × Int × Unit)) : Bool := match o with | some _ => true | none => false
theorem ok2_some {o : Option (Int × Int × Unit)} (h : ok2 o = true) : o = some (g1 o, g2 o, ()) := by
  cases o with
  | none => cases h
  | some x => rfl
def leadN (c : UInt8) : Int := g1 (C57 ((c.toNat : Int), ()))
def leadV (c : UInt8) : Int := g2 (C57 ((c.toNat : Int), ()))
theorem c57k : ((List.range 256).all fun n => (fun c : UInt8 => ok2 (C57 ((c.toNat : Int), ()))) (UInt8.ofNat n)) = true := by kernel_rfl
theorem c57 (c : UInt8) : C57 ((c.toNat : Int), ()) = some (leadN c, leadV c, ()) := ok2_some (all256 (fun c => ok2 (C57 ((c.toNat : Int), ()))) c57k c)
def rngB : Int → Bool
  | .ofNat n => Nat.ble n 3
  | .negSucc n => Nat.beq n 0
theorem lead_k : ((List.range 256).all fun n => (fun c : UInt8 => rngB (leadN c)) (UInt8.ofNat n)) = true := by kernel_rfl
theorem lead_rng (c : UInt8) : leadN c = -1 ∨ 0 ≤ leadN c ∧ leadN c ≤ 3 := by
  have h : rngB (leadN c) = true := all256 (fun c => rngB (leadN c)) lead_k c
  generalize leadN c = x at h
  cases x with
  | ofNat n => have := Nat.le_of_ble_eq_true h; right; simp; omega
  | negSucc n => have := Nat.eq_of_beq_eq_true h; subst this; left; rfl
def lenR (v : Int) : Int := match C58 (v, ()) with | some (n, _) => n | none => 0
theorem c58 (v : Int) : C58 (v, ()) = some (lenR v, ()) := by
  have h : ∃ n, C58 (v, ()) = some (n, ()) := by
    show ∃ n, F58 C85 (v, ()) = some (n, ())
    have h29 : ∃ b, C85 (v, ()) = some (b, ()) := by
      simp only [C85, F85]
      cases decide (v ≥ 0) <;> cases decide (v ≤ 1114111) <;> cases decide (v ≥ 55296) <;> exact ⟨_, rfl⟩
    obtain ⟨b, hb⟩ := h29
    simp only [F58, hb, Option.bind_some]
    cases b <;> cases decide (v ≤ 127) <;> cases decide (v ≤ 2047) <;> cases decide (v ≤ 65535) <;> exact ⟨_, rfl⟩
  obtain ⟨n, hn⟩ := h
  rw [lenR, hn]
def contB (c : UInt8) : Bool := !(intBits BinOp.andNot IntKind.u8 (c.toNat : Int) 63 != 128)
def stepV (v : Int) (c : UInt8) : Int := intBits BinOp.or IntKind.i32 (IntKind.i32.wrap (v * 2 ^ min 6 IntKind.i32.bits)) (IntKind.i32.wrap (intBits BinOp.and IntKind.u8 (c.toNat : Int) 63))
def conts : Nat → List UInt8 → Int → Option Int
  | 0, _, v => some v
  | _ + 1, [], _ => none
  | n + 1, c :: r, v => bif contB c then conts n r (stepV v c) else none
/-- How many bytes the first character has; 0: it is none. -/
def ch : List UInt8 → Nat
  | [] => 0
  | c :: r => if leadN c < 0 then 0 else if r.length < (leadN c).toNat then 0 else
    match conts (leadN c).toNat r (leadV c) with
    | none => 0
    | some v => if lenR v = leadN c + 1 then (leadN c).toNat + 1 else 0
theorem ch_le : ∀ s, ch s ≤ s.length
  | [] => Nat.le_refl _
  | c :: r => by
    simp only [ch, List.length_cons]
    split
    · omega
    · split
      · omega
      · split
        · omega
        · split <;> omega
def res0 (s : List UInt8) (n a : Int) (out : List Int) : Option Int → (List UInt8 × Int × Int × Int × List Int × Unit) ⊕ (Int × List Int × Unit)
  | some v => .inl (s, n, v, a, out, ())
  | none => .inr (a, out, ())
theorem lrun0 (a : Nat) (m : Nat) (out : List Int) : ∀ (j : Nat) (r pre : List UInt8) (v : Int) (k n : Nat), pre.length = k → k + j = a + m + 1 → j ≤ r.length → j < n → k + r.length ≤ 140737488355320 → m ≤ 3 →
    loopN F21_l0 n (pre ++ r, (m : Int), v, (a : Int), (k : Int), out, ()) = some (res0 (pre ++ r) m a out (conts j r v))
  | _, _, _, _, _, 0, _, _, _, hn, _, _ => by omega
  | 0, r, pre, v, k, n + 1, hk, hj, hr, hn, hb, hm => by
    refine loopN_inr ?_
    have h : IntKind.i64.wrap ((a : Int) + (m : Int)) = (a : Int) + m := w64 (by omega) (by omega)
    simp (disch := (first | omega | (simp only [List.length_append, List.length_cons, List.length_nil]; omega))) only [F21_l0, h, decide_eq_true, decide_eq_false, cond_true, cond_false, Bool.and_self, Bool.true_and, Bool.and_true, Bool.false_and, Bool.and_false, Bool.not_true, Bool.not_false, List.length_append, List.length_cons, List.length_nil, Int.toNat_natCast, ibT, ibF, inT, inF, wrN, gd, dr, Option.bind_some, Sum.elim_inl, Sum.elim_inr, byte_back, of_to, conts, res0]
  | j + 1, [], pre, v, k, n + 1, hk, hj, hr, hn, hb, hm => by simp at hr
  | j + 1, c :: r, pre, v, k, n + 1, hk, hj, hr, hn, hb, hm => by
    simp only [List.length_cons] at hr hb
    have h : IntKind.i64.wrap ((a : Int) + (m : Int)) = (a : Int) + m := w64 (by omega) (by omega)
    cases hc : contB c with
    | true =>
      have hc' : (intBits BinOp.andNot IntKind.u8 (c.toNat : Int) 63 != 128) = false := by simpa [contB] using hc
      rw [loopN_inl (v' := (pre ++ c :: r, (m : Int), stepV v c, (a : Int), ((k + 1 : Nat) : Int), out, ())) (by
        simp (disch := (first | omega | (simp only [List.length_append, List.length_cons, List.length_nil]; omega))) only [F21_l0, h, decide_eq_true, decide_eq_false, cond_true, cond_false, Bool.and_self, Bool.true_and, Bool.and_true, Bool.false_and, Bool.and_false, Bool.not_true, Bool.not_false, List.length_append, List.length_cons, List.length_nil, Int.toNat_natCast, ibT, ibF, inT, inF, wrN, gd, dr, Option.bind_some, Sum.elim_inl, Sum.elim_inr, byte_back, of_to, hc']
        rfl)]
      rw [shift, lrun0 a m out j r (pre ++ [c]) (stepV v c) (k + 1) n (by simp [hk]) (by omega) (by omega) (by omega) (by omega) hm]
      simp only [conts, hc, cond_true]
    | false =>
      have hc' : (intBits BinOp.andNot IntKind.u8 (c.toNat : Int) 63 != 128) = true := by simpa [contB] using hc
      refine loopN_inr ?_
      simp (disch := (first | omega | (simp only [List.length_append, List.length_cons, List.length_nil]; omega))) only [F21_l0, h, decide_eq_true, decide_eq_false, cond_true, cond_false, Bool.and_self, Bool.true_and, Bool.and_true, Bool.false_and, Bool.and_false, Bool.not_true, Bool.not_false, List.length_append, List.length_cons, List.length_nil, Int.toNat_natCast, ibT, ibF, inT, inF, wrN, gd, dr, Option.bind_some, Sum.elim_inl, Sum.elim_inr, byte_back, of_to, hc', conts, hc, res0]
/-- A text of characters, from a place on: where it is wrong. -/
def ut : Nat → List UInt8 → Nat → Option Nat
  | 0, _, _ => none
  | n + 1, s, p => if s = [] then none else if ch s = 0 then some p else ut n (s.drop (ch s)) (p + ch s)
theorem ut_lt : ∀ (n : Nat) (s : List UInt8) (p b : Nat), ut n s p = some b → p ≤ b ∧ b < p + s.length
  | 0, s, p, b, h => by cases h
  | n + 1, s, p, b, h => by
    unfold ut at h
    split at h
    · cases h
    · rename_i hs
      split at h
      · cases h
        have : 0 < s.length := List.length_pos_iff.2 hs
        omega
      · have := ut_lt n _ _ _ h
        have := ch_le s
        simp only [List.length_drop] at *
        omega
def rrun (out : List Int) : Option Nat → (List Int × Unit) ⊕ (Int × List Int × Unit)
  | none => .inl (out, ())
  | some b => .inr ((b : Int), out, ())
theorem rrun1 (c : UInt8) (r pre : List UInt8) (out : List Int) (p : Nat) (hp : pre.length = p) (hb : p + r.length ≤ 140737488355000) (ho : out.length ≤ 1000000000) :
    F21_l1 C57 C58 C21_l0 (pre ++ c :: r, (p : Int), out, ()) = some (if ch (c :: r) = 0 then .inr (.inr ((p : Int), out, ())) else
      .inl (pre ++ c :: r, ((p + ch (c :: r) : Nat) : Int), out ++ [((conts (leadN c).toNat r (leadV c)).getD 0)], ())) := by
  have hrng := lead_rng c
  by_cases h1 : leadN c < 0
  · have : ch (c :: r) = 0 := by simp [ch, h1]
    rw [if_pos this]
    simp (disch := (first | omega | (simp only [List.length_append, List.length_cons, List.length_nil]; omega))) only [F21_l1, decide_eq_true, decide_eq_false, cond_true, cond_false, Bool.and_self, Bool.true_and, Bool.and_true, Bool.false_and, Bool.and_false, Bool.not_true, Bool.not_false, List.length_append, List.length_cons, List.length_nil, Int.toNat_natCast, ibT, ibF, inT, inF, wrN, gd, dr, Option.bind_some, Sum.elim_inl, Sum.elim_inr, byte_back, of_to, c57]
  · have hw : IntKind.i64.wrap (((pre.length + (r.length + 1) : Nat) : Int) - (p : Int)) = (r.length : Int) + 1 := by rw [w64] <;> omega
    obtain ⟨m, hm⟩ : ∃ m : Nat, leadN c = m := ⟨(leadN c).toNat, by omega⟩
    by_cases h2 : r.length < m
    · have : ch (c :: r) = 0 := by simp [ch, hm, h2]
      rw [if_pos this]
      simp (disch := (first | omega | (simp only [List.length_append, List.length_cons, List.length_nil]; omega))) only [F21_l1, decide_eq_true, decide_eq_false, cond_true, cond_false, Bool.and_self, Bool.true_and, Bool.and_true, Bool.false_and, Bool.and_false, Bool.not_true, Bool.not_false, List.length_append, List.length_cons, List.length_nil, Int.toNat_natCast, ibT, ibF, inT, inF, wrN, gd, dr, Option.bind_some, Sum.elim_inl, Sum.elim_inr, byte_back, of_to, c57, hw, hm]
    · have hl := lrun0 p m out m r (pre ++ [c]) (leadV c) (p + 1) big (by simp [hp]) (by omega) (by omega) (by unfold big; omega) (by omega) (by omega)
      rw [← shift] at hl
      have hl' : C21_l0 (pre ++ c :: r, (m : Int), leadV c, (p : Int), ((p + 1 : Nat) : Int), out, ()) = _ := hl
      cases hc : conts m r (leadV c) with
      | none =>
        have : ch (c :: r) = 0 := by simp [ch, hm, h2, hc]
        rw [if_pos this]
        simp (disch := (first | omega | (simp only [List.length_append, List.length_cons, List.length_nil]; omega))) only [F21_l1, decide_eq_true, decide_eq_false, cond_true, cond_false, Bool.and_self, Bool.true_and, Bool.and_true, Bool.false_and, Bool.and_false, Bool.not_true, Bool.not_false, List.length_append, List.length_cons, List.length_nil, Int.toNat_natCast, ibT, ibF, inT, inF, wrN, gd, dr, Option.bind_some, Sum.elim_inl, Sum.elim_inr, byte_back, of_to, c57, hw, hm, hl', hc, res0]
      | some v =>
        have hw2 : IntKind.i64.wrap ((m : Int) + 1) = (m : Int) + 1 := w64 (by omega) (by omega)
        by_cases h3 : lenR v = m + 1
        · have hch : ch (c :: r) = m + 1 := by simp [ch, hm, h2, hc, h3]
          have hw3 : IntKind.i64.wrap ((p : Int) + ((m : Int) + 1)) = ((p + (m + 1) : Nat) : Int) := by rw [w64] <;> omega
          rw [if_neg (by omega), hch]
          simp (disch := (first | omega | (simp only [List.length_append, List.length_cons, List.length_nil]; omega))) only [F21_l1, hw2, hw3, decide_eq_true, decide_eq_false, cond_true, cond_false, Bool.and_self, List.length_append, List.length_cons, List.length_nil, Int.toNat_natCast, inF, gd, Option.bind_some, Sum.elim_inl, wrN, c57, hw, hm, hl', hc, res0, c58, Option.getD_some]
        · have : ch (c :: r) = 0 := by simp [ch, hm, h2, hc, h3]
          rw [if_pos this]
          simp (disch := (first | omega | (simp only [List.length_append, List.length_cons, List.length_nil]; omega))) only [F21_l1, hw2, decide_eq_true, decide_eq_false, cond_true, cond_false, Bool.and_self, Bool.true_and, Bool.and_true, Bool.false_and, Bool.and_false, Bool.not_true, Bool.not_false, List.length_append, List.length_cons, List.length_nil, Int.toNat_natCast, ibT, ibF, inT, inF, wrN, gd, dr, Option.bind_some, Sum.elim_inl, Sum.elim_inr, byte_back, of_to, c57, hw, hm, hl', hc, res0, c58]
theorem lrun1 : ∀ (m : Nat) (r pre : List UInt8) (out : List Int) (p n : Nat), r.length ≤ m → pre.length = p → r.length < n → p + r.length ≤ 140737488355000 → out.length + r.length ≤ 1000000000 →
    ∃ o, loopN (F21_l1 C57 C58 C21_l0) n (pre ++ r, (p : Int), out, ()) = some (rrun o (ut n r p))
  | _, _, _, _, _, 0, _, _, hn, _, _ => by omega
  | m, [], pre, out, p, n + 1, hm, hp, hn, hb, ho => by
    refine ⟨out, loopN_inr ?_⟩
    simp (disch := (first | omega | (simp only [List.length_append, List.length_cons, List.length_nil]; omega))) only [F21_l1, decide_eq_true, decide_eq_false, cond_true, cond_false, Bool.and_self, Bool.true_and, Bool.and_true, Bool.false_and, Bool.and_false, Bool.not_true, Bool.not_false, List.length_append, List.length_cons, List.length_nil, Int.toNat_natCast, ibT, ibF, inT, inF, wrN, gd, dr, Option.bind_some, Sum.elim_inl, Sum.elim_inr, byte_back, of_to, List.append_nil, ut, if_true, rrun]
  | 0, c :: r, pre, out, p, n + 1, hm, hp, hn, hb, ho => by simp at hm
  | m + 1, c :: r, pre, out, p, n + 1, hm, hp, hn, hb, ho => by
    simp only [List.length_cons] at hm hn hb ho
    have hr := rrun1 c r pre out p hp (by omega) (by omega)
    by_cases h : ch (c :: r) = 0
    · rw [if_pos h] at hr
      refine ⟨out, ?_⟩
      rw [loopN_inr hr]
      simp [ut, h, rrun]
    · rw [if_neg h] at hr
      have hle := ch_le (c :: r)
      simp only [List.length_cons] at hle
      have hsplit : pre ++ c :: r = (pre ++ (c :: r).take (ch (c :: r))) ++ (c :: r).drop (ch (c :: r)) := by rw [List.append_assoc, List.take_append_drop]
      obtain ⟨o, ho'⟩ := lrun1 m ((c :: r).drop (ch (c :: r))) (pre ++ (c :: r).take (ch (c :: r))) (out ++ [((conts (leadN c).toNat r (leadV c)).getD 0)]) (p + ch (c :: r)) n (by simp; omega) (by simp [hp]; omega) (by simp; omega) (by simp; omega) (by simp; omega)
      refine ⟨o, ?_⟩
      rw [loopN_inl hr]
      rw [← hsplit] at ho'
      rw [ho']
      simp [ut, h]
/-- Where a text is no characters. -/
def utf (s : List UInt8) : Option Nat := ut big s 0
theorem c21 (s : List UInt8) (hb : s.length ≤ 1000000) : ∃ o, C21 (s, ()) = some (o, (match utf s with | none => -1 | some b => (b : Int)), ()) := by
  obtain ⟨o, h⟩ := lrun1 s.length s [] [] 0 big (Nat.le_refl _) rfl (by unfold big; omega) (by omega) (by simp; omega)
  have h' : C21_l1 (s, 0, [], ()) = some (rrun o (utf s)) := h
  refine ⟨o, ?_⟩
  have hg : ∀ (b : Int) (o : List Int), C21_g0 (b, o, ()) = some (b, o, ()) := by
    intro b o
    show loopN _ big _ = _
    rw [show big = 999999999999999999999 + 1 from rfl]
    exact loopN_inr rfl
  simp only [C21, F21, h', Option.bind_some]
  cases utf s <;> simp [rrun, hg]
theorem utf_lt {s : List UInt8} {b : Nat} (h : utf s = some b) : b < s.length := by
  have := ut_lt _ _ _ _ h; omega
/-! ### what has no bytes of 80 or more is characters -/
theorem lead_low_k : ((List.range 256).all fun n => (fun c : UInt8 => Nat.ble 128 c.toNat || (match leadN c with | .ofNat 0 => true | _ => false) && (match lenR (leadV c) with | .ofNat 1 => true | _ => false)) (UInt8.ofNat n)) = true := by kernel_rfl
theorem lead_low {c : UInt8} (h : c.toNat < 128) : leadN c = 0 ∧ lenR (leadV c) = 1 := by
  have := all256 (fun c => Nat.ble 128 c.toNat || (match leadN c with | .ofNat 0 => true | _ => false) && (match lenR (leadV c) with | .ofNat 1 => true | _ => false)) lead_low_k c
  have hb : Nat.ble 128 c.toNat = false := by
    cases e : Nat.ble 128 c.toNat with
    | false => rfl
    | true => have := Nat.le_of_ble_eq_true e; omega
  simp only [hb, Bool.false_or, Bool.and_eq_true] at this
  constructor
  · have h1 := this.1
    split at h1
    · assumption
    · cases h1
  · have h1 := this.2
    split at h1
    · assumption
    · cases h1
theorem ch_low {c : UInt8} {r : List UInt8} (h : c.toNat < 128) : ch (c :: r) = 1 := by
  obtain ⟨h1, h2⟩ := lead_low h
  simp [ch, h1, conts, h2]
theorem ut_low : ∀ (n : Nat) (s : List UInt8) (p : Nat), (∀ c ∈ s, c.toNat < 128) → ut n s p = none
  | 0, _, _, _ => rfl
  | n + 1, [], p, _ => by simp [ut]
  | n + 1, c :: r, p, h => by
    unfold ut
    rw [if_neg (by simp), if_neg (by rw [ch_low (h c (List.mem_cons_self ..))]; omega), ch_low (h c (List.mem_cons_self ..))]
    exact ut_low n _ _ fun d hd => h d (List.mem_cons_of_mem _ hd)
theorem utf_low {s : List UInt8} (h : ∀ c ∈ s, c.toNat < 128) : utf s = none := ut_low _ _ _ h
end Go.Proofs.YtmfcepdbpdihgaaGreatDoor.W
/- Characters as bytes: what the program and the document make of them. -/
set_option linter.unusedVariables false
set_option linter.unusedSimpArgs false
set_option maxRecDepth 100000
namespace Go.Proofs.YtmfcepdbpdihgaaGreatDoor.W
open Go Go.Ae Go.Pl
theorem c85 (v : Int) : C85 (v, ()) = some (rightB v, ()) := by
  simp only [C85, F85, rightB]
  by_cases h1 : v ≥ 0 <;> by_cases h2 : v ≤ 1114111 <;> by_cases h3 : v ≥ 55296 <;> by_cases h4 : v ≤ 57343 <;> simp [h1, h2, h3, h4] <;> omega
theorem lenR_eq (v : Int) : lenR v = (lenE v : Int) := by
  have h := c58 v
  simp only [C58, F58, c85, Option.bind_some] at h
  have h' : (some (((lenE v : Nat) : Int), ()) : Option (Int × Unit)) = some (lenR v, ()) := by
    rw [← h]
    unfold lenE
    cases rightB v with
    | false => rfl
    | true => cases decide (v ≤ 127) <;> cases decide (v ≤ 2047) <;> cases decide (v ≤ 65535) <;> rfl
  simp only [Option.some.injEq, Prod.mk.injEq, and_true] at h'
  exact h'.symm
def ldB (c : UInt8) : Bool :=
  bif Nat.blt c.toNat 128 then decide (leadN c = 0) && decide (leadV c = (c.toNat : Int))
  else bif Nat.blt c.toNat 194 then decide (leadN c = -1)
  else bif Nat.blt c.toNat 224 then decide (leadN c = 1) && decide (leadV c = ((c.toNat - 192 : Nat) : Int))
  else bif Nat.blt c.toNat 240 then decide (leadN c = 2) && decide (leadV c = ((c.toNat - 224 : Nat) : Int))
  else bif Nat.blt c.toNat 245 then decide (leadN c = 3) && decide (leadV c = ((c.toNat - 240 : Nat) : Int))
  else decide (leadN c = -1)
theorem ldB_k : ((List.range 256).all fun n => ldB (UInt8.ofNat n)) = true := by kernel_rfl
theorem ld1 {c : UInt8} (h : cv c < 128) : leadN c = 0 ∧ leadV c = cv c := by
  have k := all256 ldB ldB_k c
  unfold cv at *
  have h1 : Nat.blt c.toNat 128 = true := by rw [Nat.blt_eq]; omega
  simpa [ldB, h1] using k
theorem ld0 {c : UInt8} (h : 128 ≤ cv c) (h2 : cv c < 194 ∨ 245 ≤ cv c) : leadN c = -1 := by
  have k := all256 ldB ldB_k c
  unfold cv at *
  have h1 : Nat.blt c.toNat 128 = false := by rw [← Bool.not_eq_true, Nat.blt_eq]; omega
  rcases h2 with h2 | h2
  · have h3 : Nat.blt c.toNat 194 = true := by rw [Nat.blt_eq]; omega
    simpa [ldB, h1, h3] using k
  · have h3 : Nat.blt c.toNat 194 = false := by rw [← Bool.not_eq_true, Nat.blt_eq]; omega
    have h4 : Nat.blt c.toNat 224 = false := by rw [← Bool.not_eq_true, Nat.blt_eq]; omega
    have h5 : Nat.blt c.toNat 240 = false := by rw [← Bool.not_eq_true, Nat.blt_eq]; omega
    have h6 : Nat.blt c.toNat 245 = false := by rw [← Bool.not_eq_true, Nat.blt_eq]; omega
    simpa [ldB, h1, h3, h4, h5, h6] using k
theorem ld2 {c : UInt8} (h : 194 ≤ cv c) (h2 : cv c < 224) : leadN c = 1 ∧ leadV c = cv c - 192 := by
  have k := all256 ldB ldB_k c
  unfold cv at *
  have h1 : Nat.blt c.toNat 128 = false := by rw [← Bool.not_eq_true, Nat.blt_eq]; omega
  have h3 : Nat.blt c.toNat 194 = false := by rw [← Bool.not_eq_true, Nat.blt_eq]; omega
  have h4 : Nat.blt c.toNat 224 = true := by rw [Nat.blt_eq]; omega
  simp [ldB, h1, h3, h4] at k
  exact ⟨k.1, by rw [k.2]; omega⟩
theorem ld3 {c : UInt8} (h : 224 ≤ cv c) (h2 : cv c < 240) : leadN c = 2 ∧ leadV c = cv c - 224 := by
  have k := all256 ldB ldB_k c
  unfold cv at *
  have h1 : Nat.blt c.toNat 128 = false := by rw [← Bool.not_eq_true, Nat.blt_eq]; omega
  have h3 : Nat.blt c.toNat 194 = false := by rw [← Bool.not_eq_true, Nat.blt_eq]; omega
  have h4 : Nat.blt c.toNat 224 = false := by rw [← Bool.not_eq_true, Nat.blt_eq]; omega
  have h5 : Nat.blt c.toNat 240 = true := by rw [Nat.blt_eq]; omega
  simp [ldB, h1, h3, h4, h5] at k
  exact ⟨k.1, by rw [k.2]; omega⟩
theorem ld4 {c : UInt8} (h : 240 ≤ cv c) (h2 : cv c < 245) : leadN c = 3 ∧ leadV c = cv c - 240 := by
  have k := all256 ldB ldB_k c
  unfold cv at *
  have h1 : Nat.blt c.toNat 128 = false := by rw [← Bool.not_eq_true, Nat.blt_eq]; omega
  have h3 : Nat.blt c.toNat 194 = false := by rw [← Bool.not_eq_true, Nat.blt_eq]; omega
  have h4 : Nat.blt c.toNat 224 = false := by rw [← Bool.not_eq_true, Nat.blt_eq]; omega
  have h5 : Nat.blt c.toNat 240 = false := by rw [← Bool.not_eq_true, Nat.blt_eq]; omega
  have h6 : Nat.blt c.toNat 245 = true := by rw [Nat.blt_eq]; omega
  simp [ldB, h1, h3, h4, h5, h6] at k
  exact ⟨k.1, by rw [k.2]; omega⟩
def ctB (c : UInt8) : Bool := bif contB c then (Nat.ble 128 c.toNat && Nat.blt c.toNat 192) else !(Nat.ble 128 c.toNat && Nat.blt c.toNat 192)
def ctV (c : UInt8) : Bool := !(Nat.ble 128 c.toNat && Nat.blt c.toNat 192) || decide (IntKind.i32.wrap (intBits BinOp.and IntKind.u8 (c.toNat : Int) 63) = ((c.toNat - 128 : Nat) : Int))
theorem ctB_k : ((List.range 256).all fun n => ctB (UInt8.ofNat n)) = true := by kernel_rfl
theorem ctV_k : ((List.range 256).all fun n => ctV (UInt8.ofNat n)) = true := by kernel_rfl
theorem contB_eq (c : UInt8) : contB c = contC c := by
  have k := all256 ctB ctB_k c
  have k2 : contB c = (Nat.ble 128 c.toNat && Nat.blt c.toNat 192) := by
    unfold ctB at k
    revert k
    cases contB c <;> cases (Nat.ble 128 c.toNat && Nat.blt c.toNat 192) <;> simp
  rw [k2]
  unfold contC cv
  by_cases h1 : 128 ≤ c.toNat <;> by_cases h2 : c.toNat < 192
  · have e1 : Nat.ble 128 c.toNat = true := Nat.ble_eq_true_of_le h1
    have e2 : Nat.blt c.toNat 192 = true := by rw [Nat.blt_eq]; exact h2
    rw [e1, e2]; simp; omega
  · have e2 : Nat.blt c.toNat 192 = false := by rw [← Bool.not_eq_true, Nat.blt_eq]; exact h2
    rw [e2]; simp; omega
  · have e1 : Nat.ble 128 c.toNat = false := by rw [← Bool.not_eq_true, Nat.ble_eq]; exact h1
    rw [e1]; simp; omega
  · have e1 : Nat.ble 128 c.toNat = false := by rw [← Bool.not_eq_true, Nat.ble_eq]; exact h1
    rw [e1]; simp; omega
theorem stepV_eq {c : UInt8} (hc : contC c = true) {v : Int} (h0 : 0 ≤ v) (h1 : v < 33554432) : stepV v c = v * 64 + (cv c - 128) := by
  have h := contC_iff.1 hc
  have k := all256 ctV ctV_k c
  unfold cv at *
  have e1 : Nat.ble 128 c.toNat = true := Nat.ble_eq_true_of_le (by omega)
  have e2 : Nat.blt c.toNat 192 = true := by rw [Nat.blt_eq]; omega
  have e3 : IntKind.i32.wrap (intBits BinOp.and IntKind.u8 (c.toNat : Int) 63) = ((c.toNat - 128 : Nat) : Int) := by simpa [ctV, e1, e2] using k
  unfold stepV
  rw [e3]
  have e4 : IntKind.i32.wrap (v * 2 ^ min 6 IntKind.i32.bits) = v * 64 := by
    have : (2 : Int) ^ min 6 IntKind.i32.bits = 64 := by decide
    rw [this]
    simp only [IntKind.wrap, IntKind.signed, IntKind.bits]; simp; omega
  rw [e4, or_shift h0 h1 (by omega) (by omega)]
  omega
/-- The first character, as the program reads it. -/
theorem ch_dec (c : UInt8) (r : List UInt8) : match dec (c :: r) with
    | some v => ch (c :: r) = lenE v ∧ conts (leadN c).toNat r (leadV c) = some v
    | none => ch (c :: r) = 0 := by
  have hr := cv_rng c
  rw [dec_cons, decC]
  by_cases h1 : cv c < 128
  · obtain ⟨e1, e2⟩ := ld1 h1
    have hl := lenE1 hr.1 (by omega : cv c ≤ 127)
    simp only [h1, decide_true, cond_true]
    simp [ch, e1, e2, conts, lenR_eq, hl]
  · by_cases h2 : cv c < 194
    · have e1 := ld0 (by omega) (.inl h2)
      simp [h1, h2, ch, e1]
    · by_cases h3 : cv c < 224
      · obtain ⟨e1, e2⟩ := ld2 (by omega) h3
        simp only [h1, h2, h3, decide_true, decide_false, cond_true, cond_false]
        cases r with
        | nil => simp [dec2, ch, e1]
        | cons b t =>
          rw [dec2_cons]
          cases hb : contC b with
          | false => simp [ch, e1, e2, conts, contB_eq, hb]
          | true =>
            have hb' := contC_iff.1 hb
            have es := stepV_eq hb (v := cv c - 192) (by omega) (by omega)
            simp only [cond_true, ifLen]
            cases hl : Nat.beq (lenE ((cv c - 192) * 64 + (cv b - 128))) 2 with
            | true =>
              have hl' := Nat.eq_of_beq_eq_true hl
              simp [ch, e1, e2, conts, contB_eq, hb, es, lenR_eq, hl']
            | false =>
              have hl' := Nat.ne_of_beq_eq_false hl
              simp [ch, e1, e2, conts, contB_eq, hb, es, lenR_eq]
              omega
      · by_cases h4 : cv c < 240
        · obtain ⟨e1, e2⟩ := ld3 (by omega) h4
          simp only [h1, h2, h3, h4, decide_true, decide_false, cond_true, cond_false]
          rcases r with _ | ⟨b, _ | ⟨d, t⟩⟩
          · simp [dec3, ch, e1]
          · simp [dec3, ch, e1]
          · rw [dec3_cons]
            cases hb : contC b with
            | false => simp [ch, e1, e2, conts, contB_eq, hb]
            | true =>
              have hb' := contC_iff.1 hb
              have es := stepV_eq hb (v := cv c - 224) (by omega) (by omega)
              cases hd : contC d with
              | false => simp [ch, e1, e2, conts, contB_eq, hb, hd]
              | true =>
                have hd' := contC_iff.1 hd
                have es2 := stepV_eq hd (v := (cv c - 224) * 64 + (cv b - 128)) (by omega) (by omega)
                have ev : ((cv c - 224) * 64 + (cv b - 128)) * 64 + (cv d - 128) = (cv c - 224) * 4096 + (cv b - 128) * 64 + (cv d - 128) := by omega
                simp only [Bool.and_self, cond_true, ifLen]
                cases hl : Nat.beq (lenE ((cv c - 224) * 4096 + (cv b - 128) * 64 + (cv d - 128))) 3 with
                | true =>
                  have hl' := Nat.eq_of_beq_eq_true hl
                  simp [ch, e1, e2, conts, contB_eq, hb, hd, es, es2, ev, lenR_eq, hl']
                | false =>
                  have hl' := Nat.ne_of_beq_eq_false hl
                  simp [ch, e1, e2, conts, contB_eq, hb, hd, es, es2, ev, lenR_eq]
                  omega
        · by_cases h5 : cv c < 245
          · obtain ⟨e1, e2⟩ := ld4 (by omega) h5
            simp only [h1, h2, h3, h4, h5, decide_true, decide_false, cond_true, cond_false]
            rcases r with _ | ⟨b, _ | ⟨d, _ | ⟨e, t⟩⟩⟩
            · simp [dec4, ch, e1]
            · simp [dec4, ch, e1]
            · simp [dec4, ch, e1]
            · rw [dec4_cons]
              cases hb : contC b with
              | false => simp [ch, e1, e2, conts, contB_eq, hb]
              | true =>
                have hb' := contC_iff.1 hb
                have es := stepV_eq hb (v := cv c - 240) (by omega) (by omega)
                cases hd : contC d with
                | false => simp [ch, e1, e2, conts, contB_eq, hb, hd]
                | true =>
                  have hd' := contC_iff.1 hd
                  have es2 := stepV_eq hd (v := (cv c - 240) * 64 + (cv b - 128)) (by omega) (by omega)
                  cases he : contC e with
                  | false => simp [ch, e1, e2, conts, contB_eq, hb, hd, he]
                  | true =>
                    have he' := contC_iff.1 he
                    have es3 := stepV_eq he (v := ((cv c - 240) * 64 + (cv b - 128)) * 64 + (cv d - 128)) (by omega) (by omega)
                    have ev : (((cv c - 240) * 64 + (cv b - 128)) * 64 + (cv d - 128)) * 64 + (cv e - 128) = (cv c - 240) * 262144 + (cv b - 128) * 4096 + (cv d - 128) * 64 + (cv e - 128) := by omega
                    simp only [Bool.and_self, cond_true, ifLen]
                    cases hl : Nat.beq (lenE ((cv c - 240) * 262144 + (cv b - 128) * 4096 + (cv d - 128) * 64 + (cv e - 128))) 4 with
                    | true =>
                      have hl' := Nat.eq_of_beq_eq_true hl
                      simp [ch, e1, e2, conts, contB_eq, hb, hd, he, es, es2, es3, ev, lenR_eq, hl']
                    | false =>
                      have hl' := Nat.ne_of_beq_eq_false hl
                      simp [ch, e1, e2, conts, contB_eq, hb, hd, he, es, es2, es3, ev, lenR_eq]
                      omega
          · have e1 := ld0 (c := c) (by omega) (.inr (by omega))
            simp [h1, h2, h3, h4, h5, ch, e1]
theorem prun : ∀ (m : Nat) (r pre : List UInt8) (out : List Int) (p n : Nat), r.length ≤ m → pre.length = p → r.length < n → p + r.length ≤ 140737488355000 → out.length + r.length ≤ 1000000000 →
    loopN (F21_l1 C57 C58 C21_l0) n (pre ++ r, (p : Int), out, ()) = some (if rr r = [] then .inl (out ++ rl r, ()) else .inr (((p + (r.length - (rr r).length) : Nat) : Int), out ++ rl r, ()))
  | _, _, _, _, _, 0, _, _, hn, _, _ => by omega
  | m, [], pre, out, p, n + 1, hm, hp, hn, hb, ho => by
    have h := runes_none (s := []) rfl
    rw [h.1, h.2, if_pos rfl]
    refine loopN_inr ?_
    simp (disch := (first | omega | (simp only [List.length_append, List.length_cons, List.length_nil]; omega))) only [F21_l1, decide_eq_true, decide_eq_false, cond_true, cond_false, Bool.and_self, Bool.true_and, Bool.and_true, Bool.false_and, Bool.and_false, Bool.not_true, Bool.not_false, List.length_append, List.length_cons, List.length_nil, Int.toNat_natCast, ibT, ibF, inT, inF, wrN, gd, dr, Option.bind_some, Sum.elim_inl, Sum.elim_inr, byte_back, of_to, List.append_nil]
  | 0, c :: r, pre, out, p, n + 1, hm, hp, hn, hb, ho => by simp at hm
  | m + 1, c :: r, pre, out, p, n + 1, hm, hp, hn, hb, ho => by
    simp only [List.length_cons] at hm hn hb ho
    have hr := rrun1 c r pre out p hp (by omega) (by omega)
    have hd := ch_dec c r
    cases he : dec (c :: r) with
    | none =>
      rw [he] at hd
      have h := runes_none he
      rw [if_pos hd] at hr
      rw [h.1, h.2, if_neg (by simp), loopN_inr hr]
      simp
    | some v =>
      rw [he] at hd
      obtain ⟨h1, h2⟩ := hd
      have h := runes_some he
      have hl := dec_len he
      rw [if_neg (by omega), h1, h2] at hr
      simp only [List.length_cons] at hl
      have hsplit : pre ++ c :: r = (pre ++ (c :: r).take (lenE v)) ++ (c :: r).drop (lenE v) := by rw [List.append_assoc, List.take_append_drop]
      have ih := prun m ((c :: r).drop (lenE v)) (pre ++ (c :: r).take (lenE v)) (out ++ [v]) (p + lenE v) n (by simp; omega) (by simp [hp]; omega) (by simp; omega) (by simp; omega) (by simp; omega)
      rw [loopN_inl hr]
      rw [← hsplit] at ih
      rw [Option.getD_some, ih, h.1, h.2]
      have hle := rr_le ((c :: r).drop (lenE v))
      simp only [List.length_drop, List.length_cons] at hle ⊢
      split
      · simp
      · rw [List.append_assoc]
        have : p + lenE v + (r.length + 1 - lenE v - (rr ((c :: r).drop (lenE v))).length) = p + (r.length + 1 - (rr ((c :: r).drop (lenE v))).length) := by omega
        rw [this]; rfl
theorem d21 (s : List UInt8) (hb : s.length ≤ 1000000) : C21 (s, ()) = some (rl s, badAt s, ()) := by
  have h := prun s.length s [] [] 0 big (Nat.le_refl _) rfl (by unfold big; omega) (by omega) (by simp; omega)
  have h' : C21_l1 (s, 0, [], ()) = _ := h
  have hg : ∀ (b : Int) (o : List Int), C21_g0 (b, o, ()) = some (b, o, ()) := by
    intro b o
    show loopN _ big _ = _
    rw [show big = 999999999999999999999 + 1 from rfl]
    exact loopN_inr rfl
  simp only [C21, F21, h', Option.bind_some]
  by_cases hr : rr s = []
  · rw [if_pos hr, badAt_nil hr]; simp
  · rw [if_neg hr, badAt_some hr]; simp [hg]
/-! ### the document's -/
theorem c64 (v : Int) : C64 (v, ()) = some (rightB v, ()) := by
  simp only [C64, F64, rightB]
  by_cases h1 : v ≥ 0 <;> by_cases h2 : v ≤ 1114111 <;> by_cases h3 : v < 55296 <;> by_cases h4 : v > 57343 <;> simp [h1, h2, h3, h4] <;> omega
theorem c92 (v : Int) : C92 (v, ()) = some ((lenE v : Int), ()) := by
  simp only [C92, F92, c64, Option.bind_some]
  unfold lenE
  cases rightB v with
  | false => rfl
  | true => cases decide (v ≤ 127) <;> cases decide (v ≤ 2047) <;> cases decide (v ≤ 65535) <;> rfl
theorem w32 {n : Int} (h0 : -2147483648 ≤ n) (h1 : n ≤ 2147483647) : IntKind.i32.wrap n = n := by
  simp only [IntKind.wrap, IntKind.signed, IntKind.bits]; simp; omega
theorem wu8 {n : Int} (h0 : 0 ≤ n) (h1 : n ≤ 255) : IntKind.u8.wrap n = n := by
  simp only [IntKind.wrap, IntKind.signed, IntKind.bits]; simp; omega
theorem tdiv_nn {a : Int} (b : Int) (h : 0 ≤ a) : a.tdiv b = a / b := Int.tdiv_eq_ediv_of_nonneg h
theorem tmod_nn {a : Int} (b : Int) (h : 0 ≤ a) : a.tmod b = a % b := Int.tmod_eq_emod_of_nonneg h
theorem c65 (v : Int) : C65 (v, ()) = some (enc v, ()) := by
  simp only [C65, F65, c92, Option.bind_some]
  cases hr : rightB v with
  | false => simp [lenE0 hr, enc]
  | true =>
    rcases lenE_cases hr with ⟨h, h1, h2⟩ | ⟨h, h1, h2⟩ | ⟨h, h1, h2⟩ | ⟨h, h1, h2⟩
    · rw [enc1 h, h, wu8 h1 (by omega)]; rfl
    · rw [enc2 h, h, tdiv_nn 64 (by omega), tmod_nn 64 (by omega), w32 (n := v / 64) (by omega) (by omega), w32 (n := 192 + v / 64) (by omega) (by omega), w32 (n := 128 + v % 64) (by omega) (by omega), wu8 (n := 192 + v / 64) (by omega) (by omega), wu8 (n := 128 + v % 64) (by omega) (by omega)]
      rfl
    · rw [enc3 h, h, tdiv_nn 64 (by omega), tdiv_nn 4096 (by omega), tmod_nn (a := v) 64 (by omega), w32 (n := v / 64) (by omega) (by omega), w32 (n := v / 4096) (by omega) (by omega), tmod_nn (a := v / 64) 64 (by omega),
        w32 (n := 224 + v / 4096) (by omega) (by omega), w32 (n := 128 + v / 64 % 64) (by omega) (by omega), w32 (n := 128 + v % 64) (by omega) (by omega), wu8 (n := 224 + v / 4096) (by omega) (by omega), wu8 (n := 128 + v / 64 % 64) (by omega) (by omega), wu8 (n := 128 + v % 64) (by omega) (by omega)]
      rfl
    · rw [enc4 h, h, tdiv_nn 64 (by omega), tdiv_nn 4096 (by omega), tdiv_nn 262144 (by omega), tmod_nn (a := v) 64 (by omega), w32 (n := v / 64) (by omega) (by omega), w32 (n := v / 4096) (by omega) (by omega), w32 (n := v / 262144) (by omega) (by omega), tmod_nn (a := v / 64) 64 (by omega), tmod_nn (a := v / 4096) 64 (by omega),
        w32 (n := 240 + v / 262144) (by omega) (by omega), w32 (n := 128 + v / 4096 % 64) (by omega) (by omega), w32 (n := 128 + v / 64 % 64) (by omega) (by omega), w32 (n := 128 + v % 64) (by omega) (by omega), wu8 (n := 240 + v / 262144) (by omega) (by omega), wu8 (n := 128 + v / 4096 % 64) (by omega) (by omega), wu8 (n := 128 + v / 64 % 64) (by omega) (by omega), wu8 (n := 128 + v % 64) (by omega) (by omega)]
      rfl
end Go.Proofs.YtmfcepdbpdihgaaGreatDoor.W
/- Characters as bytes: characters made bytes; and the document's reading. -/
set_option linter.unusedVariables false
set_option linter.unusedSimpArgs false
set_option maxRecDepth 100000
namespace Go.Proofs.YtmfcepdbpdihgaaGreatDoor.W
open Go Go.Ae Go.Pl
def or8B (c : UInt8) : Bool :=
  ((!Nat.blt c.toNat 32 || decide (intBits BinOp.or IntKind.u8 192 (c.toNat : Int) = ((192 + c.toNat : Nat) : Int))) && (!Nat.blt c.toNat 16 || decide (intBits BinOp.or IntKind.u8 224 (c.toNat : Int) = ((224 + c.toNat : Nat) : Int)))) &&
  ((!Nat.blt c.toNat 8 || decide (intBits BinOp.or IntKind.u8 240 (c.toNat : Int) = ((240 + c.toNat : Nat) : Int))) && (!Nat.blt c.toNat 64 || decide (intBits BinOp.or IntKind.u8 128 (c.toNat : Int) = ((128 + c.toNat : Nat) : Int))))
theorem or8_k : ((List.range 256).all fun n => or8B (UInt8.ofNat n)) = true := by kernel_rfl
theorem or8 (x : Int) (h0 : 0 ≤ x) : (x < 32 → intBits BinOp.or IntKind.u8 192 x = 192 + x) ∧ (x < 16 → intBits BinOp.or IntKind.u8 224 x = 224 + x) ∧ (x < 8 → intBits BinOp.or IntKind.u8 240 x = 240 + x) ∧ (x < 64 → intBits BinOp.or IntKind.u8 128 x = 128 + x) := by
  have key : ∀ m : Nat, m < 256 → or8B (UInt8.ofNat m) = true := fun m hm => List.all_eq_true.1 or8_k m (List.mem_range.2 hm)
  have val : ∀ m : Nat, m < 256 → (UInt8.ofNat m).toNat = m := fun m hm => by simp; omega
  refine ⟨fun h => ?_, fun h => ?_, fun h => ?_, fun h => ?_⟩
  all_goals
    have k := key x.toNat (by omega)
    unfold or8B at k
    rw [val _ (by omega)] at k
    have e : ((x.toNat : Nat) : Int) = x := by omega
    rw [e] at k
  · have hb : Nat.blt x.toNat 32 = true := by rw [Nat.blt_eq]; omega
    simp [hb] at k; rw [k.1.1]; omega
  · have hb : Nat.blt x.toNat 16 = true := by rw [Nat.blt_eq]; omega
    simp [hb] at k; rw [k.1.2]; omega
  · have hb : Nat.blt x.toNat 8 = true := by rw [Nat.blt_eq]; omega
    simp [hb] at k; rw [k.2.1]; omega
  · have hb : Nat.blt x.toNat 64 = true := by rw [Nat.blt_eq]; omega
    simp [hb] at k; rw [k.2.2]; omega
theorem fdiv_nn {a : Int} {b : Int} (h : 0 ≤ b) : a.fdiv b = a / b := Int.fdiv_eq_ediv_of_nonneg a h
theorem p6 : (2 : Int) ^ min 6 IntKind.i32.bits = 64 := by decide
theorem p12 : (2 : Int) ^ min 12 IntKind.i32.bits = 4096 := by decide
theorem p18 : (2 : Int) ^ min 18 IntKind.i32.bits = 262144 := by decide
def strE : List Int → Option (List UInt8)
  | [] => some []
  | v :: l => if rightB v = true then (strE l).map (enc v ++ ·) else none
theorem strE_all : ∀ l : List Int, strE l = if l.all rightB = true then some (l.flatMap enc) else none
  | [] => rfl
  | v :: l => by
    rw [strE, strE_all l, List.all_cons, List.flatMap_cons]
    cases rightB v <;> cases l.all rightB <;> rfl
theorem sstep (v : Int) (pre r : List Int) (N : Int) (out : List UInt8) (hN : N = ((pre ++ v :: r).length : Int)) (hl : pre.length + r.length ≤ 1000000000) (ho : out.length ≤ 100000000000000) :
    F28_l0 C58 (pre ++ v :: r, N, (pre.length : Int), out, ()) = some (if rightB v = true then .inl (pre ++ v :: r, N, ((pre.length + 1 : Nat) : Int), out ++ enc v, ()) else .inr (.inr ([], false, ()))) := by
  subst hN
  have hi : decide ((pre.length : Int) < ((pre ++ v :: r).length : Int)) = true := by simp; omega
  have hi0 : decide (0 ≤ (pre.length : Int)) = true := by simp
  have hw : IntKind.i64.wrap ((pre.length : Int) + 1) = ((pre.length + 1 : Nat) : Int) := wrN _ (by omega)
  have hg : (pre ++ v :: r).getD ((pre.length : Int)).toNat 0 = v := by rw [Int.toNat_natCast]; exact gd rfl
  cases hr : rightB v with
  | false =>
    simp only [F28_l0, hi, hi0, hg, c58, lenR_eq, lenE0 hr, Option.bind_some, cond_true, Bool.and_self]
    rfl
  | true =>
    have ol : ∀ k : Nat, k ≤ 4 → decide (out.length + k ≤ 140737488355328 / 1) = true := fun k hk => by simp; omega
    have f6 : Int.fdiv v (2 ^ min 6 IntKind.i32.bits) = v / 64 := by rw [p6, fdiv_nn (by omega)]
    have f12 : Int.fdiv v (2 ^ min 12 IntKind.i32.bits) = v / 4096 := by rw [p12, fdiv_nn (by omega)]
    have f18 : Int.fdiv v (2 ^ min 18 IntKind.i32.bits) = v / 262144 := by rw [p18, fdiv_nn (by omega)]
    have hi' := rightB_iff.1 hr
    have a0 := and63 (x := v) (by omega) (by omega)
    have a6 := and63 (x := v / 64) (by omega) (by omega)
    have a12 := and63 (x := v / 4096) (by omega) (by omega)
    have u0 : IntKind.u8.wrap (v % 64) = v % 64 := wu8 (by omega) (by omega)
    have u6 : IntKind.u8.wrap (v / 64 % 64) = v / 64 % 64 := wu8 (by omega) (by omega)
    have u12 : IntKind.u8.wrap (v / 4096 % 64) = v / 4096 % 64 := wu8 (by omega) (by omega)
    have o0 := (or8 (v % 64) (by omega)).2.2.2 (by omega)
    have o6 := (or8 (v / 64 % 64) (by omega)).2.2.2 (by omega)
    have o12 := (or8 (v / 4096 % 64) (by omega)).2.2.2 (by omega)
    rcases lenE_cases hr with ⟨h, h1, h2⟩ | ⟨h, h1, h2⟩ | ⟨h, h1, h2⟩ | ⟨h, h1, h2⟩
    · have e0 : (((1 : Nat) : Int) == 0) = false := rfl
      have e1 : (((1 : Nat) : Int) == 1) = true := rfl
      simp only [F28_l0, hi, hi0, hg, hw, c58, lenR_eq, h, e0, e1, Option.bind_some, cond_true, cond_false, Bool.and_self, List.length_cons, List.length_nil, ol 1 (by omega), enc1 h, if_true, wu8 h1 (by omega : v ≤ 255)]
      rfl
    · have e0 : (((2 : Nat) : Int) == 0) = false := rfl
      have e1 : (((2 : Nat) : Int) == 1) = false := rfl
      have e2 : (((2 : Nat) : Int) == 2) = true := rfl
      have u : IntKind.u8.wrap (v / 64) = v / 64 := wu8 (by omega) (by omega)
      have o := (or8 (v / 64) (by omega)).1 (by omega)
      simp only [F28_l0, hi, hi0, hg, hw, c58, lenR_eq, h, e0, e1, e2, Option.bind_some, cond_true, cond_false, Bool.and_self, List.length_cons, List.length_nil, ol 2 (by omega), enc2 h, if_true, f6, a0, u, u0, o, o0]
      rfl
    · have e0 : (((3 : Nat) : Int) == 0) = false := rfl
      have e1 : (((3 : Nat) : Int) == 1) = false := rfl
      have e2 : (((3 : Nat) : Int) == 2) = false := rfl
      have e3 : (((3 : Nat) : Int) == 3) = true := rfl
      have u : IntKind.u8.wrap (v / 4096) = v / 4096 := wu8 (by omega) (by omega)
      have o := (or8 (v / 4096) (by omega)).2.1 (by omega)
      simp only [F28_l0, hi, hi0, hg, hw, c58, lenR_eq, h, e0, e1, e2, e3, Option.bind_some, cond_true, cond_false, Bool.and_self, List.length_cons, List.length_nil, ol 3 (by omega), enc3 h, if_true, f6, f12, a0, a6, u, u0, u6, o, o0, o6]
      rfl
    · have e0 : (((4 : Nat) : Int) == 0) = false := rfl
      have e1 : (((4 : Nat) : Int) == 1) = false := rfl
      have e2 : (((4 : Nat) : Int) == 2) = false := rfl
      have e3 : (((4 : Nat) : Int) == 3) = false := rfl
      have e4 : (((4 : Nat) : Int) == 4) = true := rfl
      have u : IntKind.u8.wrap (v / 262144) = v / 262144 := wu8 (by omega) (by omega)
      have o := (or8 (v / 262144) (by omega)).2.2.1 (by omega)
      simp only [F28_l0, hi, hi0, hg, hw, c58, lenR_eq, h, e0, e1, e2, e3, e4, Option.bind_some, cond_true, cond_false, Bool.and_self, List.length_cons, List.length_nil, ol 4 (by omega), enc4 h, if_true, f6, f12, f18, a0, a6, a12, u, u0, u6, u12, o, o0, o6, o12]
      rfl
theorem srun : ∀ (r pre : List Int) (N : Int) (out : List UInt8) (n : Nat), N = ((pre ++ r).length : Int) → pre.length + r.length ≤ 1000000000 → out.length + 4 * r.length ≤ 100000000000000 → r.length < n →
    loopN (F28_l0 C58) n (pre ++ r, N, (pre.length : Int), out, ()) = some (match strE r with | some e => .inl (out ++ e, ()) | none => .inr ([], false, ()))
  | _, _, _, _, 0, _, _, _, hn => by omega
  | [], pre, N, out, n + 1, hN, hl, ho, hn => by
    subst hN
    refine loopN_inr ?_
    have hi : decide ((pre.length : Int) < (pre.length : Int)) = false := by simp
    simp only [F28_l0, hi, cond_false, strE, List.append_nil]
  | v :: r, pre, N, out, n + 1, hN, hl, ho, hn => by
    simp only [List.length_cons] at hl ho hn
    have hs := sstep v pre r N out hN (by omega) (by omega)
    cases hr : rightB v with
    | false =>
      rw [hr, if_neg (by simp)] at hs
      rw [loopN_inr hs]
      simp [strE, hr]
    | true =>
      rw [hr, if_pos rfl] at hs
      have hl4 := (lenE_pos hr).2
      rw [loopN_inl hs, shift, show ((pre.length + 1 : Nat) : Int) = ((pre ++ [v]).length : Int) by simp, srun r (pre ++ [v]) N (out ++ enc v) n (by rw [hN]; simp) (by simp; omega) (by rw [List.length_append, enc_len]; omega) (by omega)]
      rw [strE, if_pos hr]
      cases strE r <;> simp
theorem c28 (l : List Int) (hl : l.length ≤ 100000000) : C28 (l, ()) = some (match strE l with | some e => (e, true, ()) | none => ([], false, ())) := by
  have h := srun l [] (l.length : Int) [] big (by simp) (by simp; omega) (by simp; omega) (by unfold big; omega)
  have h' : C28_l0 (l, (l.length : Int), 0, [], ()) = _ := h
  simp only [C28, F28, h', Option.bind_some]
  cases strE l <;> rfl
theorem rsrun : ∀ (r pre : List Int) (out : List UInt8) (n : Nat), pre.length + r.length ≤ 1000000000 → out.length + 4 * r.length ≤ 100000000000000 → r.length < n →
    loopN (F31_l0 C64 C65) n (pre ++ r, (pre.length : Int), out, ()) = some (match strE r with | some e => .inl (out ++ e, ()) | none => .inr ([], false, ()))
  | _, _, _, 0, _, _, hn => by omega
  | [], pre, out, n + 1, hl, ho, hn => by
    refine loopN_inr ?_
    have hi : decide ((pre.length : Int) < (pre.length : Int)) = false := by simp
    simp only [F31_l0, hi, cond_false, strE, List.append_nil]
  | v :: r, pre, out, n + 1, hl, ho, hn => by
    simp only [List.length_cons] at hl ho hn
    have hi : decide ((pre.length : Int) < ((pre ++ v :: r).length : Int)) = true := by simp; omega
    have hi0 : decide (0 ≤ (pre.length : Int)) = true := by simp
    have hw : IntKind.i64.wrap ((pre.length : Int) + 1) = ((pre.length + 1 : Nat) : Int) := wrN _ (by omega)
    have hg : (pre ++ v :: r).getD ((pre.length : Int)).toNat 0 = v := by rw [Int.toNat_natCast]; exact gd rfl
    cases hr : rightB v with
    | false =>
      rw [loopN_inr (y := .inr ([], false, ())) (by simp only [F31_l0, hi, hi0, hg, c64, hr, Option.bind_some, cond_true, Bool.and_self]; rfl)]
      simp [strE, hr]
    | true =>
      have hl4 := (lenE_pos hr).2
      have ol : decide (out.length + (enc v).length ≤ 140737488355328 / 1) = true := by rw [enc_len]; simp; omega
      rw [loopN_inl (v' := (pre ++ v :: r, ((pre.length + 1 : Nat) : Int), out ++ enc v, ())) (by simp only [F31_l0, hi, hi0, hg, hw, c64, c65, hr, ol, Option.bind_some, cond_true, cond_false, Bool.and_self, Bool.not_true])]
      rw [shift, show ((pre.length + 1 : Nat) : Int) = ((pre ++ [v]).length : Int) by simp, rsrun r (pre ++ [v]) (out ++ enc v) n (by simp; omega) (by rw [List.length_append, enc_len]; omega) (by omega)]
      rw [strE, if_pos hr]
      cases strE r <;> simp
theorem c31 (l : List Int) (hl : l.length ≤ 100000000) : C31 (l, ()) = some (match strE l with | some e => (e, true, ()) | none => ([], false, ())) := by
  have h := rsrun l [] [] big (by simp; omega) (by simp; omega) (by unfold big; omega)
  have h' : C31_l0 (l, 0, [], ()) = _ := h
  simp only [C31, F31, h', Option.bind_some]
  cases strE l <;> rfl
/-- The document's try at n bytes. -/
def trN (s : List UInt8) : Nat → Int
  | 1 => cv (s.getD 0 0)
  | 2 => cv (s.getD 0 0) % 32 * 64 + cv (s.getD 1 0) % 64
  | 3 => cv (s.getD 0 0) % 16 * 4096 + cv (s.getD 1 0) % 64 * 64 + cv (s.getD 2 0) % 64
  | _ => cv (s.getD 0 0) % 8 * 262144 + cv (s.getD 1 0) % 64 * 4096 + cv (s.getD 2 0) % 64 * 64 + cv (s.getD 3 0) % 64
theorem oc0 (s : List UInt8) (n : Nat) (v : Int) (hn : n ≤ s.length) : C69_c0 (s, (n : Int), v, ()) = some (if lenE v = n ∧ enc v = s.take n then .inl (v, (n : Int), ()) else .inr (s, (n : Int), ())) := by
  have h0 : decide (0 ≤ (n : Int)) = true := by simp
  have h1 : decide ((n : Int) ≤ (s.length : Int)) = true := by simp; omega
  simp only [C69_c0, F69_c0, c92, c65, Option.bind_some, h0, h1, Bool.and_self, cond_true, Int.toNat_natCast]
  by_cases hl : lenE v = n
  · have e : (((lenE v : Nat) : Int) == (n : Int)) = true := by rw [hl]; simp
    rw [e]
    by_cases he : enc v = s.take n
    · have e2 : (enc v == s.take n) = true := by rw [he]; simp
      rw [e2, if_pos ⟨hl, he⟩]; rfl
    · have e2 : (enc v == s.take n) = false := by simpa using he
      rw [e2, if_neg (fun h => he h.2)]; rfl
  · have e : (((lenE v : Nat) : Int) == (n : Int)) = false := by rw [ibF]; omega
    rw [e, if_neg (fun h => hl h.1)]; rfl
theorem ostep (s : List UInt8) (n : Nat) (h1 : 1 ≤ n) (h4 : n ≤ 4) (hn : n ≤ s.length) :
    F69_l0 C69_c0 (s, (n : Int), ()) = some (if lenE (trN s n) = n ∧ enc (trN s n) = s.take n then .inr (.inr (trN s n, (n : Int), ())) else .inl (s, ((n + 1 : Nat) : Int), ())) := by
  have b0 := cv_rng (s.getD 0 0)
  have b1 := cv_rng (s.getD 1 0)
  have b2 := cv_rng (s.getD 2 0)
  have b3 := cv_rng (s.getD 3 0)
  have d0 : decide (0 < (s.length : Int)) = true := by simp; omega
  have dl : decide ((n : Int) ≤ (s.length : Int)) = true := by simp; omega
  have d4 : decide ((n : Int) ≤ 4) = true := by simp; omega
  have hw : IntKind.i64.wrap ((n : Int) + 1) = ((n + 1 : Nat) : Int) := wrN _ (by omega)
  have i0 : IntKind.i32.wrap ((s.getD 0 0).toNat : Int) = cv (s.getD 0 0) := w32 (by unfold cv at b0; omega) (by unfold cv at b0; omega)
  have i1 : IntKind.i32.wrap ((s.getD 1 0).toNat : Int) = cv (s.getD 1 0) := w32 (by unfold cv at b1; omega) (by unfold cv at b1; omega)
  have i2 : IntKind.i32.wrap ((s.getD 2 0).toNat : Int) = cv (s.getD 2 0) := w32 (by unfold cv at b2; omega) (by unfold cv at b2; omega)
  have i3 : IntKind.i32.wrap ((s.getD 3 0).toNat : Int) = cv (s.getD 3 0) := w32 (by unfold cv at b3; omega) (by unfold cv at b3; omega)
  have m1 := tmod_nn (a := cv (s.getD 1 0)) 64 b1.1
  have m2 := tmod_nn (a := cv (s.getD 2 0)) 64 b2.1
  have m3 := tmod_nn (a := cv (s.getD 3 0)) 64 b3.1
  have key : ∀ v : Int, (C69_c0 (s, (n : Int), v, ())).bind (fun val => Sum.elim (fun val => some (Sum.inr (Sum.inr (val.fst, val.snd.fst, ())))) (fun val => some (Sum.inl (val.fst, IntKind.i64.wrap (val.snd.fst + 1), ()))) val) =
      (some (if lenE v = n ∧ enc v = s.take n then .inr (.inr (v, (n : Int), ())) else .inl (s, ((n + 1 : Nat) : Int), ())) : Option ((List UInt8 × Int × Unit) ⊕ (Unit ⊕ (Int × Int × Unit)))) := by
    intro v
    rw [oc0 s n v hn, Option.bind_some]
    split
    · rfl
    · simp only [Sum.elim_inr, hw]
  rcases (show n = 1 ∨ n = 2 ∨ n = 3 ∨ n = 4 by omega) with rfl | rfl | rfl | rfl
  · have e2 : (((1 : Nat) : Int) == 2) = false := rfl
    have e3 : (((1 : Nat) : Int) == 3) = false := rfl
    have e4 : (((1 : Nat) : Int) == 4) = false := rfl
    rw [← key (trN s 1)]
    simp only [F69_l0, d4, dl, d0, e2, e3, e4, cond_true, cond_false, i0]
    rfl
  · have e2 : (((2 : Nat) : Int) == 2) = true := rfl
    have d1 : decide (1 < (s.length : Int)) = true := by simp; omega
    have m0 := tmod_nn (a := cv (s.getD 0 0)) 32 b0.1
    rw [← key (trN s 2)]
    have t1 : IntKind.i32.wrap (cv (s.getD 0 0) % 32 * 64) = cv (s.getD 0 0) % 32 * 64 := w32 (by omega) (by omega)
    have t2 : IntKind.i32.wrap (cv (s.getD 0 0) % 32 * 64 + cv (s.getD 1 0) % 64) = cv (s.getD 0 0) % 32 * 64 + cv (s.getD 1 0) % 64 := w32 (by omega) (by omega)
    simp only [F69_l0, d4, dl, d0, d1, e2, cond_true, cond_false, i0, i1, m0, m1, t1, t2]
    rfl
  · have e2 : (((3 : Nat) : Int) == 2) = false := rfl
    have e3 : (((3 : Nat) : Int) == 3) = true := rfl
    have d1 : decide (1 < (s.length : Int)) = true := by simp; omega
    have d2 : decide (2 < (s.length : Int)) = true := by simp; omega
    have m0 := tmod_nn (a := cv (s.getD 0 0)) 16 b0.1
    rw [← key (trN s 3)]
    have t1 : IntKind.i32.wrap (cv (s.getD 0 0) % 16 * 4096) = cv (s.getD 0 0) % 16 * 4096 := w32 (by omega) (by omega)
    have t2 : IntKind.i32.wrap (cv (s.getD 1 0) % 64 * 64) = cv (s.getD 1 0) % 64 * 64 := w32 (by omega) (by omega)
    have t3 : IntKind.i32.wrap (cv (s.getD 0 0) % 16 * 4096 + cv (s.getD 1 0) % 64 * 64) = cv (s.getD 0 0) % 16 * 4096 + cv (s.getD 1 0) % 64 * 64 := w32 (by omega) (by omega)
    have t4 : IntKind.i32.wrap (cv (s.getD 0 0) % 16 * 4096 + cv (s.getD 1 0) % 64 * 64 + cv (s.getD 2 0) % 64) = cv (s.getD 0 0) % 16 * 4096 + cv (s.getD 1 0) % 64 * 64 + cv (s.getD 2 0) % 64 := w32 (by omega) (by omega)
    simp only [F69_l0, d4, dl, d0, d1, d2, e2, e3, cond_true, cond_false, i0, i1, i2, m0, m1, m2, t1, t2, t3, t4]
    rfl
  · have e2 : (((4 : Nat) : Int) == 2) = false := rfl
    have e3 : (((4 : Nat) : Int) == 3) = false := rfl
    have e4 : (((4 : Nat) : Int) == 4) = true := rfl
    have d1 : decide (1 < (s.length : Int)) = true := by simp; omega
    have d2 : decide (2 < (s.length : Int)) = true := by simp; omega
    have d3 : decide (3 < (s.length : Int)) = true := by simp; omega
    have m0 := tmod_nn (a := cv (s.getD 0 0)) 8 b0.1
    rw [← key (trN s 4)]
    have t1 : IntKind.i32.wrap (cv (s.getD 0 0) % 8 * 262144) = cv (s.getD 0 0) % 8 * 262144 := w32 (by omega) (by omega)
    have t2 : IntKind.i32.wrap (cv (s.getD 1 0) % 64 * 4096) = cv (s.getD 1 0) % 64 * 4096 := w32 (by omega) (by omega)
    have t3 : IntKind.i32.wrap (cv (s.getD 2 0) % 64 * 64) = cv (s.getD 2 0) % 64 * 64 := w32 (by omega) (by omega)
    have t4 : IntKind.i32.wrap (cv (s.getD 0 0) % 8 * 262144 + cv (s.getD 1 0) % 64 * 4096) = cv (s.getD 0 0) % 8 * 262144 + cv (s.getD 1 0) % 64 * 4096 := w32 (by omega) (by omega)
    have t5 : IntKind.i32.wrap (cv (s.getD 0 0) % 8 * 262144 + cv (s.getD 1 0) % 64 * 4096 + cv (s.getD 2 0) % 64 * 64) = cv (s.getD 0 0) % 8 * 262144 + cv (s.getD 1 0) % 64 * 4096 + cv (s.getD 2 0) % 64 * 64 := w32 (by omega) (by omega)
    have t6 : IntKind.i32.wrap (cv (s.getD 0 0) % 8 * 262144 + cv (s.getD 1 0) % 64 * 4096 + cv (s.getD 2 0) % 64 * 64 + cv (s.getD 3 0) % 64) = cv (s.getD 0 0) % 8 * 262144 + cv (s.getD 1 0) % 64 * 4096 + cv (s.getD 2 0) % 64 * 64 + cv (s.getD 3 0) % 64 := w32 (by omega) (by omega)
    simp only [F69_l0, d4, dl, d0, d1, d2, d3, e2, e3, e4, cond_true, cond_false, i0, i1, i2, i3, m0, m1, m2, m3, t1, t2, t3, t4, t5, t6]
    rfl
/-- A try that comes out is the character. -/
theorem try_dec {s : List UInt8} {n : Nat} (h1 : 1 ≤ n) {v : Int} (h : lenE v = n ∧ enc v = s.take n) : dec s = some v := by
  have hr : rightB v = true := by
    cases hr : rightB v with
    | true => rfl
    | false => rw [lenE0 hr] at h; omega
  exact dec_iff.2 ⟨hr, s.drop n, by rw [h.2, List.take_append_drop]⟩
theorem dec_try {s : List UInt8} {v : Int} (h : dec s = some v) : trN s (lenE v) = v ∧ enc v = s.take (lenE v) := by
  obtain ⟨hr, t, rfl⟩ := dec_at h
  refine ⟨?_, by rw [← enc_len, List.take_left]⟩
  have hi := rightB_iff.1 hr
  rcases lenE_cases hr with ⟨h, h1, h2⟩ | ⟨h, h1, h2⟩ | ⟨h, h1, h2⟩ | ⟨h, h1, h2⟩
  · rw [h, enc1 h]
    have e := b8_cv h1 (by omega : v < 256)
    show cv (b8 v) = v
    exact e
  · rw [h, enc2 h]
    have e1 := b8_cv (n := 192 + v / 64) (by omega) (by omega)
    have e2 := b8_cv (n := 128 + v % 64) (by omega) (by omega)
    show cv (b8 (192 + v / 64)) % 32 * 64 + cv (b8 (128 + v % 64)) % 64 = v
    rw [e1, e2]; omega
  · rw [h, enc3 h]
    have e1 := b8_cv (n := 224 + v / 4096) (by omega) (by omega)
    have e2 := b8_cv (n := 128 + v / 64 % 64) (by omega) (by omega)
    have e3 := b8_cv (n := 128 + v % 64) (by omega) (by omega)
    show cv (b8 (224 + v / 4096)) % 16 * 4096 + cv (b8 (128 + v / 64 % 64)) % 64 * 64 + cv (b8 (128 + v % 64)) % 64 = v
    rw [e1, e2, e3]; omega
  · rw [h, enc4 h]
    have e1 := b8_cv (n := 240 + v / 262144) (by omega) (by omega)
    have e2 := b8_cv (n := 128 + v / 4096 % 64) (by omega) (by omega)
    have e3 := b8_cv (n := 128 + v / 64 % 64) (by omega) (by omega)
    have e4 := b8_cv (n := 128 + v % 64) (by omega) (by omega)
    show cv (b8 (240 + v / 262144)) % 8 * 262144 + cv (b8 (128 + v / 4096 % 64)) % 64 * 4096 + cv (b8 (128 + v / 64 % 64)) % 64 * 64 + cv (b8 (128 + v % 64)) % 64 = v
    rw [e1, e2, e3, e4]; omega
theorem orun (s : List UInt8) : ∀ (k n : Nat), n + k = 5 → 1 ≤ n → (∀ v, dec s = some v → n ≤ lenE v) → ∀ m, k < m →
    loopN (F69_l0 C69_c0) m (s, (n : Int), ()) = some (match dec s with | some v => .inr (v, (lenE v : Int), ()) | none => .inl ())
  | _, _, _, _, _, 0, hm => by omega
  | 0, n, hk, h1, hd, m + 1, hm => by
    have : n = 5 := by omega
    subst this
    cases he : dec s with
    | some v =>
      have := hd v he
      have := lenE_pos (dec_at he).1
      omega
    | none => exact loopN_inr rfl
  | k + 1, n, hk, h1, hd, m + 1, hm => by
    by_cases hn : n ≤ s.length
    · have hs := ostep s n h1 (by omega) hn
      by_cases ht : lenE (trN s n) = n ∧ enc (trN s n) = s.take n
      · rw [if_pos ht] at hs
        rw [loopN_inr hs, try_dec h1 ht]
        simp only [ht.1]
      · rw [if_neg ht] at hs
        rw [loopN_inl hs]
        refine orun s k (n + 1) (by omega) (by omega) (fun v hv => ?_) m (by omega)
        have h2 := hd v hv
        have h3 := dec_try hv
        rcases Nat.lt_or_ge n (lenE v) with h | h
        · exact h
        · have : lenE v = n := by omega
          rw [this] at h3
          exact absurd ⟨by rw [h3.1]; exact this, by rw [h3.1]; exact h3.2⟩ ht
    · cases he : dec s with
      | some v =>
        have := hd v he
        have := dec_len he
        omega
      | none =>
        refine loopN_inr ?_
        have d4 : decide ((n : Int) ≤ 4) = true := by simp; omega
        have dl : decide ((n : Int) ≤ (s.length : Int)) = false := by simp; omega
        simp only [F69_l0, d4, dl, cond_true, cond_false]
theorem c69 (s : List UInt8) : C69 (s, ()) = some (match dec s with | some v => (v, (lenE v : Int), ()) | none => (0, 0, ())) := by
  have h := orun s 4 1 rfl (Nat.le_refl _) (fun v hv => (dec_len hv).1) big (by unfold big; omega)
  have h' : C69_l0 (s, 1, ()) = _ := h
  simp only [C69, F69, h', Option.bind_some]
  cases dec s <;> rfl
theorem rrun2 : ∀ (m : Nat) (r pre : List UInt8) (out : List Int) (n : Nat), r.length ≤ m → r.length < n → pre.length + r.length ≤ 1000000000 → out.length + r.length ≤ 1000000000 →
    loopN (F36_l0 C69) n (pre ++ r, (pre.length : Int), out, ()) = some (if rr r = [] then .inl (out ++ rl r, ()) else .inr (((pre.length + (r.length - (rr r).length) : Nat) : Int), out ++ rl r, ()))
  | _, _, _, _, 0, _, hn, _, _ => by omega
  | m, [], pre, out, n + 1, hm, hn, hb, ho => by
    have h := runes_none (s := []) rfl
    rw [h.1, h.2, if_pos rfl]
    refine loopN_inr ?_
    have hi : decide ((pre.length : Int) < (pre.length : Int)) = false := by simp
    simp only [F36_l0, hi, cond_false, List.append_nil]
  | 0, c :: r, pre, out, n + 1, hm, hn, hb, ho => by simp at hm
  | m + 1, c :: r, pre, out, n + 1, hm, hn, hb, ho => by
    simp only [List.length_cons] at hm hn hb ho
    have hi : decide ((pre.length : Int) < ((pre ++ c :: r).length : Int)) = true := by simp; omega
    have hi0 : decide (0 ≤ (pre.length : Int)) = true := by simp
    have hi1 : decide ((pre.length : Int) ≤ ((pre ++ c :: r).length : Int)) = true := by simp; omega
    have hd : List.drop ((pre.length : Int)).toNat (pre ++ c :: r) = c :: r := by rw [Int.toNat_natCast]; exact dr rfl
    cases he : dec (c :: r) with
    | none =>
      have h := runes_none he
      rw [h.1, h.2, if_neg (by simp)]
      rw [loopN_inr (y := .inr ((pre.length : Int), out, ())) (by
        simp only [F36_l0, hi, hi0, hi1, hd, c69, he, Option.bind_some, cond_true, Bool.and_self]; rfl)]
      simp
    | some v =>
      have h := runes_some he
      have hl := dec_len he
      simp only [List.length_cons] at hl
      have hz : ((lenE v : Int) == 0) = false := by rw [ibF]; omega
      have hw : IntKind.i64.wrap ((pre.length : Int) + (lenE v : Int)) = ((pre.length + lenE v : Nat) : Int) := by rw [w64] <;> omega
      have ol : decide (out.length + 1 ≤ 140737488355328 / 4) = true := by simp; omega
      have hsplit : pre ++ c :: r = (pre ++ (c :: r).take (lenE v)) ++ (c :: r).drop (lenE v) := by rw [List.append_assoc, List.take_append_drop]
      have hlen : (pre ++ (c :: r).take (lenE v)).length = pre.length + lenE v := by simp; omega
      rw [loopN_inl (v' := (pre ++ c :: r, ((pre.length + lenE v : Nat) : Int), out ++ [v], ())) (by
        simp only [F36_l0, hi, hi0, hi1, hd, c69, he, hz, hw, ol, List.length_cons, List.length_nil, Nat.zero_add, Option.bind_some, cond_true, cond_false, Bool.and_self])]
      have ih := rrun2 m ((c :: r).drop (lenE v)) (pre ++ (c :: r).take (lenE v)) (out ++ [v]) n (by simp; omega) (by simp; omega) (by simp; omega) (by simp; omega)
      rw [← hsplit, hlen] at ih
      rw [ih, h.1, h.2]
      have hle := rr_le ((c :: r).drop (lenE v))
      simp only [List.length_drop, List.length_cons] at hle ⊢
      split
      · simp
      · rw [List.append_assoc]
        have : pre.length + lenE v + (r.length + 1 - lenE v - (rr ((c :: r).drop (lenE v))).length) = pre.length + (r.length + 1 - (rr ((c :: r).drop (lenE v))).length) := by omega
        rw [this]; rfl
theorem c36 (s : List UInt8) (hb : s.length ≤ 1000000) : C36 (s, ()) = some (rl s, badAt s, ()) := by
  have h := rrun2 s.length s [] [] big (Nat.le_refl _) (by unfold big; omega) (by simp; omega) (by simp; omega)
  have h' : C36_l0 (s, 0, [], ()) = _ := h
  simp only [C36, F36, h', Option.bind_some]
  by_cases hr : rr s = []
  · rw [if_pos hr, badAt_nil hr]; simp
  · rw [if_neg hr, badAt_some hr]; simp
end Go.Proofs.YtmfcepdbpdihgaaGreatDoor.W
