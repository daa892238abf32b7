/- Plain forms of functions. Written by a program. -/
import Derived.Test.YtaoaagbfjekecaaDoorW3
set_option maxRecDepth 100000
set_option linter.unusedVariables false
namespace Go.Proofs.YtaoaagbfjekecaaDoor.W
open Go Go.Ae

def F24 (f24_l0 : List (List UInt8) × Int × Int × Unit → Option (Unit ⊕ (Int × Unit))) : List (List UInt8) × Unit → Option (Int × Unit) := fun (x0, _) =>
  (f24_l0 (x0, (↑x0.length : Int), 0, ())).bind fun val =>
    Sum.elim (fun val => some (-1, ())) (fun val => some (val.fst, ())) val
theorem h24 (f24_l0 : HS f24_l0_ins → Option (OTy f24_l0_outs)) (v : HS f24_ins) : afun Γ (fun f => Ae.lookA f []) 0 Tryd.f24.ntmps Tryd.f24.results.toList (code Tryd.f24) (.seq .nil (.seq (.seq .nil (.blk (.loop ⟨f24_l0_ins, f24_l0_outs, f24_l0⟩))) .nil)) (em id f24_ins v).1 (em id f24_ins v).2 (ofin 0 f24_outs) = F24 f24_l0 v := by kernel_rfl
def C24 (v : List (List UInt8) × Unit) : Option (Int × Unit) := F24 C24_l0 v
theorem ok24 : FnOk Tryd.prog 24 ⟨f24_ins, f24_outs, C24⟩ :=
  fn_ok (np := 0) (n := (.seq .nil (.seq (.seq .nil (.blk (.loop ⟨f24_l0_ins, f24_l0_outs, C24_l0⟩))) .nil))) hm hΓ (K := (fun f => Ae.lookA f [])) (kok_nil _) Tryd.func24 (c := code Tryd.f24) (by kernel_rfl) (name_ne (by kernel_rfl))
    (ann_seq (a := (subc (code Tryd.f24) [0])) (b := (subc (code Tryd.f24) [1])) (by kernel_rfl) (ann_nil _) (ann_seq (a := (subc (code Tryd.f24) [1, 0])) (b := (subc (code Tryd.f24) [1, 1])) (by kernel_rfl) (ann_seq (a := (subc (code Tryd.f24) [1, 0, 0])) (b := (subc (code Tryd.f24) [1, 0, 1])) (by kernel_rfl) (ann_nil _) (ann_blk (x := (subc (code Tryd.f24) [1, 0, 1, 0])) (by kernel_rfl) (ann_loop (x := (subc (code Tryd.f24) [1, 0, 1, 0, 0])) (by kernel_rfl) k24_l0))) (ann_nil _))) (fun v => Nat.le_of_ble_eq_true (by kernel_rfl)) (fun v => h24 C24_l0 v)

def F16 (f24 : List (List UInt8) × Unit → Option (Int × Unit)) : List (List UInt8) × Unit → Option (Bool × Unit) := fun (x0, _) =>
  (f24 (x0, ())).bind fun val => some (decide (val.fst ≥ 0), ())
theorem h16 (f24 : HS f24_ins → Option (OTy f24_outs)) (v : HS f16_ins) : afun Γ (fun f => Ae.lookA f [(24, ⟨f24_ins, f24_outs, f24⟩)]) 0 Tryd.f16.ntmps Tryd.f16.results.toList (code Tryd.f16) .nil (em id f16_ins v).1 (em id f16_ins v).2 (ofin 0 f16_outs) = F16 f24 v := by kernel_rfl
def C16 (v : List (List UInt8) × Unit) : Option (Bool × Unit) := F16 C24 v
theorem ok16 : FnOk Tryd.prog 16 ⟨f16_ins, f16_outs, C16⟩ :=
  fn_ok (np := 0) (n := .nil) hm hΓ (K := (fun f => Ae.lookA f [(24, ⟨f24_ins, f24_outs, C24⟩)])) (kok_cons ok24 (kok_nil _)) Tryd.func16 (c := code Tryd.f16) (by kernel_rfl) (name_ne (by kernel_rfl))
    (ann_nil _) (fun v => Nat.le_of_ble_eq_true (by kernel_rfl)) (fun v => h16 C24 v)

def F37_c0  : Int × Bool × Unit → Option ((Int × Int × Unit) ⊕ Unit) := fun (x0, x1, _) =>
  bif x1 then some (Sum.inl (2, IntKind.i32.wrap (intBits BinOp.and IntKind.u8 x0 15), ()))
  else
    bif decide (x0 ≥ 240) then
      bif decide (x0 < 245) then some (Sum.inl (3, IntKind.i32.wrap (intBits BinOp.and IntKind.u8 x0 7), ()))
      else some (Sum.inr ())
    else some (Sum.inr ())
theorem h37_c0  (v : HS f37_c0_ins) : aev Γ (fun f => Ae.lookA f []) 0 (subc (code Tryd.f37) [1, 0, 0, 1, 1, 1, 1, 1]) .nil (stof f37_c0_ins v) (oout 0 f37_c0_outs) = F37_c0 v := by kernel_rfl
def C37_c0 (v : Int × Bool × Unit) : Option ((Int × Int × Unit) ⊕ Unit) := F37_c0 v
theorem k37_c0 : FragOk Tryd.prog 0 (fun Q a w => ((subc (code Tryd.f37) [1, 0, 0, 1, 1, 1, 1, 1])).wp Tryd.prog Q a w) ⟨f37_c0_ins, f37_c0_outs, C37_c0⟩ :=
  frag_code (ins := f37_c0_ins) (os := f37_c0_outs) (np := 0) (n := .nil) (F := C37_c0) hm hΓ (K := (fun f => Ae.lookA f [])) (kok_nil _)
    (ann_nil _) (fun v => h37_c0 v)

def F37_c1 (f37_c0 : Int × Bool × Unit → Option ((Int × Int × Unit) ⊕ Unit)) : Int × Bool × Unit → Option ((Int × Int × Unit) ⊕ Unit) := fun (x0, x1, _) =>
  bif x1 then some (Sum.inl (1, IntKind.i32.wrap (intBits BinOp.and IntKind.u8 x0 31), ()))
  else
    bif decide (x0 ≥ 224) then
      (f37_c0 (x0, decide (x0 < 240), ())).bind fun val =>
        Sum.elim (fun val => some (Sum.inl (val.fst, val.snd.fst, ()))) (fun val => some (Sum.inr ())) val
    else
      (f37_c0 (x0, false, ())).bind fun val =>
        Sum.elim (fun val => some (Sum.inl (val.fst, val.snd.fst, ()))) (fun val => some (Sum.inr ())) val
theorem h37_c1 (f37_c0 : HS f37_c0_ins → Option (OTy f37_c0_outs)) (v : HS f37_c1_ins) : aev Γ (fun f => Ae.lookA f []) 0 (subc (code Tryd.f37) [1, 0, 0, 1, 1, 1]) (.cond .nil (.cut .nil ⟨f37_c0_ins, f37_c0_outs, f37_c0⟩)) (stof f37_c1_ins v) (oout 0 f37_c1_outs) = F37_c1 f37_c0 v := by kernel_rfl
def C37_c1 (v : Int × Bool × Unit) : Option ((Int × Int × Unit) ⊕ Unit) := F37_c1 C37_c0 v
theorem k37_c1 : FragOk Tryd.prog 0 (fun Q a w => ((subc (code Tryd.f37) [1, 0, 0, 1, 1, 1])).wp Tryd.prog Q a w) ⟨f37_c1_ins, f37_c1_outs, C37_c1⟩ :=
  frag_code (ins := f37_c1_ins) (os := f37_c1_outs) (np := 0) (n := (.cond .nil (.cut .nil ⟨f37_c0_ins, f37_c0_outs, C37_c0⟩))) (F := C37_c1) hm hΓ (K := (fun f => Ae.lookA f [])) (kok_nil _)
    (ann_cond (x := (subc (code Tryd.f37) [1, 0, 0, 1, 1, 1, 0])) (y := (subc (code Tryd.f37) [1, 0, 0, 1, 1, 1, 1])) (by kernel_rfl) (ann_nil _) (ann_cut (a := (subc (code Tryd.f37) [1, 0, 0, 1, 1, 1, 1, 0])) (b := (subc (code Tryd.f37) [1, 0, 0, 1, 1, 1, 1, 1])) (by kernel_rfl) (ann_nil _) k37_c0)) (fun v => h37_c1 C37_c0 v)

def F37 (f37_c1 : Int × Bool × Unit → Option ((Int × Int × Unit) ⊕ Unit)) : Int × Unit → Option (Int × Int × Unit) := fun (x0, _) =>
  bif decide (x0 < 128) then some (0, IntKind.i32.wrap x0, ())
  else
    bif decide (x0 ≥ 194) then
      (f37_c1 (x0, decide (x0 < 224), ())).bind fun val =>
        Sum.elim (fun val => some (val.fst, val.snd.fst, ())) (fun val => some (-1, 0, ())) val
    else
      (f37_c1 (x0, false, ())).bind fun val =>
        Sum.elim (fun val => some (val.fst, val.snd.fst, ())) (fun val => some (-1, 0, ())) val
theorem h37 (f37_c1 : HS f37_c1_ins → Option (OTy f37_c1_outs)) (v : HS f37_ins) : afun Γ (fun f => Ae.lookA f []) 0 Tryd.f37.ntmps Tryd.f37.results.toList (code Tryd.f37) (.seq .nil (.seq (.blk (.seq .nil (.cond .nil (.cut .nil ⟨f37_c1_ins, f37_c1_outs, f37_c1⟩)))) .nil)) (em id f37_ins v).1 (em id f37_ins v).2 (ofin 0 f37_outs) = F37 f37_c1 v := by kernel_rfl
def C37 (v : Int × Unit) : Option (Int × Int × Unit) := F37 C37_c1 v
theorem ok37 : FnOk Tryd.prog 37 ⟨f37_ins, f37_outs, C37⟩ :=
  fn_ok (np := 0) (n := (.seq .nil (.seq (.blk (.seq .nil (.cond .nil (.cut .nil ⟨f37_c1_ins, f37_c1_outs, C37_c1⟩)))) .nil))) hm hΓ (K := (fun f => Ae.lookA f [])) (kok_nil _) Tryd.func37 (c := code Tryd.f37) (by kernel_rfl) (name_ne (by kernel_rfl))
    (ann_seq (a := (subc (code Tryd.f37) [0])) (b := (subc (code Tryd.f37) [1])) (by kernel_rfl) (ann_nil _) (ann_seq (a := (subc (code Tryd.f37) [1, 0])) (b := (subc (code Tryd.f37) [1, 1])) (by kernel_rfl) (ann_blk (x := (subc (code Tryd.f37) [1, 0, 0])) (by kernel_rfl) (ann_seq (a := (subc (code Tryd.f37) [1, 0, 0, 0])) (b := (subc (code Tryd.f37) [1, 0, 0, 1])) (by kernel_rfl) (ann_nil _) (ann_cond (x := (subc (code Tryd.f37) [1, 0, 0, 1, 0])) (y := (subc (code Tryd.f37) [1, 0, 0, 1, 1])) (by kernel_rfl) (ann_nil _) (ann_cut (a := (subc (code Tryd.f37) [1, 0, 0, 1, 1, 0])) (b := (subc (code Tryd.f37) [1, 0, 0, 1, 1, 1])) (by kernel_rfl) (ann_nil _) k37_c1)))) (ann_nil _))) (fun v => Nat.le_of_ble_eq_true (by kernel_rfl)) (fun v => h37 C37_c1 v)

def F46  : Int × Unit → Option (Bool × Unit) := fun (x0, _) =>
  bif decide (x0 ≥ 0) then
    bif decide (x0 ≤ 1114111) then
      bif decide (x0 ≥ 55296) then some (bif decide (x0 ≤ 57343) then false else true, ())
      else some (!false, ())
    else some (false, ())
  else some (false, ())
theorem h46  (v : HS f46_ins) : afun Γ (fun f => Ae.lookA f []) 0 Tryd.f46.ntmps Tryd.f46.results.toList (code Tryd.f46) .nil (em id f46_ins v).1 (em id f46_ins v).2 (ofin 0 f46_outs) = F46 v := by kernel_rfl
def C46 (v : Int × Unit) : Option (Bool × Unit) := F46 v
theorem ok46 : FnOk Tryd.prog 46 ⟨f46_ins, f46_outs, C46⟩ :=
  fn_ok (np := 0) (n := .nil) hm hΓ (K := (fun f => Ae.lookA f [])) (kok_nil _) Tryd.func46 (c := code Tryd.f46) (by kernel_rfl) (name_ne (by kernel_rfl))
    (ann_nil _) (fun v => Nat.le_of_ble_eq_true (by kernel_rfl)) (fun v => h46 v)

def F38 (f46 : Int × Unit → Option (Bool × Unit)) : Int × Unit → Option (Int × Unit) := fun (x0, _) =>
  (f46 (x0, ())).bind fun val =>
    bif !val.fst then some (0, ())
    else
      bif decide (x0 ≤ 127) then some (1, ())
      else
        bif decide (x0 ≤ 2047) then some (2, ())
        else bif decide (x0 ≤ 65535) then some (3, ()) else some (4, ())
theorem h38 (f46 : HS f46_ins → Option (OTy f46_outs)) (v : HS f38_ins) : afun Γ (fun f => Ae.lookA f [(46, ⟨f46_ins, f46_outs, f46⟩)]) 0 Tryd.f38.ntmps Tryd.f38.results.toList (code Tryd.f38) .nil (em id f38_ins v).1 (em id f38_ins v).2 (ofin 0 f38_outs) = F38 f46 v := by kernel_rfl
def C38 (v : Int × Unit) : Option (Int × Unit) := F38 C46 v
theorem ok38 : FnOk Tryd.prog 38 ⟨f38_ins, f38_outs, C38⟩ :=
  fn_ok (np := 0) (n := .nil) hm hΓ (K := (fun f => Ae.lookA f [(46, ⟨f46_ins, f46_outs, C46⟩)])) (kok_cons ok46 (kok_nil _)) Tryd.func38 (c := code Tryd.f38) (by kernel_rfl) (name_ne (by kernel_rfl))
    (ann_nil _) (fun v => Nat.le_of_ble_eq_true (by kernel_rfl)) (fun v => h38 C46 v)

def F25_l0  : List UInt8 × Int × Int × Int × Int × List (Int) × Unit → Option ((List UInt8 × Int × Int × Int × Int × List (Int) × Unit) ⊕ ((List UInt8 × Int × Int × Int × List (Int) × Unit) ⊕ (Int × List (Int) × Unit))) := fun (x0, x1, x2, x3, x4, x5, _) =>
  bif decide (x4 ≤ IntKind.i64.wrap (x3 + x1)) then
    bif decide (0 ≤ x4) && decide (x4 < (↑x0.length : Int)) then
      bif intBits BinOp.andNot IntKind.u8 (↑(x0.getD x4.toNat 0).toNat : Int) 63 != 128 then
        some (Sum.inr (Sum.inr (x3, x5, ())))
      else
        bif decide (0 ≤ x4) && decide (x4 < (↑x0.length : Int)) then
          some
            (Sum.inl
              (x0, x1,
                intBits BinOp.or IntKind.i32 (IntKind.i32.wrap (x2 * 2 ^ min 6 IntKind.i32.bits))
                  (IntKind.i32.wrap (intBits BinOp.and IntKind.u8 (↑(x0.getD x4.toNat 0).toNat : Int) 63)),
                x3, IntKind.i64.wrap (x4 + 1), x5, ()))
        else none
    else none
  else some (Sum.inr (Sum.inl (x0, x1, x2, x3, x5, ())))
theorem h25_l0  (v : HS f25_l0_ins) : aev Γ (fun f => Ae.lookA f []) 0 (subc (code Tryd.f25) [1, 0, 1, 1, 1, 1, 0, 0, 0, 1, 0, 1, 1, 0, 1, 0, 0]) .nil (stof f25_l0_ins v) (around 0 f25_l0_ins f25_l0_outs) = F25_l0 v := by kernel_rfl
def C25_l0 (v : List UInt8 × Int × Int × Int × Int × List (Int) × Unit) : Option ((List UInt8 × Int × Int × Int × List (Int) × Unit) ⊕ (Int × List (Int) × Unit)) := loopN (F25_l0) big v
theorem k25_l0 : FragOk Tryd.prog 0 (fun Q a w => (Code.loop (subc (code Tryd.f25) [1, 0, 1, 1, 1, 1, 0, 0, 0, 1, 0, 1, 1, 0, 1, 0, 0])).wp Tryd.prog Q a w) ⟨f25_l0_ins, f25_l0_outs, C25_l0⟩ :=
  frag_loop (ins := f25_l0_ins) (os := f25_l0_outs) (np := 0) (n := .nil) (F := F25_l0) hm hΓ (K := (fun f => Ae.lookA f [])) (kok_nil _) (fun _ => big)
    (ann_nil _) (fun v => h25_l0 v)

def F25_l1 (f37 : Int × Unit → Option (Int × Int × Unit)) (f38 : Int × Unit → Option (Int × Unit)) (f25_l0 : List UInt8 × Int × Int × Int × Int × List (Int) × Unit → Option ((List UInt8 × Int × Int × Int × List (Int) × Unit) ⊕ (Int × List (Int) × Unit))) : List UInt8 × Int × List (Int) × Unit → Option ((List UInt8 × Int × List (Int) × Unit) ⊕ ((List (Int) × Unit) ⊕ (Int × List (Int) × Unit))) := fun (x0, x1, x2, _) =>
  bif decide (x1 < (↑x0.length : Int)) then
    bif decide (0 ≤ x1) && decide (x1 < (↑x0.length : Int)) then
      (f37 ((↑(x0.getD x1.toNat 0).toNat : Int), ())).bind fun val =>
        bif decide (val.fst < 0) then some (Sum.inr (Sum.inr (x1, x2, ())))
        else
          bif decide (IntKind.i64.wrap ((↑x0.length : Int) - x1) ≤ val.fst) then
            some (Sum.inr (Sum.inr (x1, x2, ())))
          else
            (f25_l0 (x0, val.fst, val.snd.fst, x1, IntKind.i64.wrap (x1 + 1), x2, ())).bind fun val =>
              Sum.elim
                (fun val =>
                  (f38 (val.snd.snd.fst, ())).bind fun val_1 =>
                    bif val_1.fst != IntKind.i64.wrap (val.snd.fst + 1) then
                      some (Sum.inr (Sum.inr (val.snd.snd.snd.fst, val.snd.snd.snd.snd.fst, ())))
                    else
                      bif
                          decide
                            (List.length val.snd.snd.snd.snd.fst + [val.snd.snd.fst].length ≤ 140737488355328 / 4) then
                        some
                          (Sum.inl
                            (val.fst, IntKind.i64.wrap (val.snd.snd.snd.fst + IntKind.i64.wrap (val.snd.fst + 1)),
                              val.snd.snd.snd.snd.fst ++ [val.snd.snd.fst], ()))
                      else none)
                (fun val => some (Sum.inr (Sum.inr (val.fst, val.snd.fst, ())))) val
    else none
  else some (Sum.inr (Sum.inl (x2, ())))
theorem h25_l1 (f37 : HS f37_ins → Option (OTy f37_outs)) (f38 : HS f38_ins → Option (OTy f38_outs)) (f25_l0 : HS f25_l0_ins → Option (OTy f25_l0_outs)) (v : HS f25_l1_ins) : aev Γ (fun f => Ae.lookA f [(37, ⟨f37_ins, f37_outs, f37⟩), (38, ⟨f38_ins, f38_outs, f38⟩)]) 0 (subc (code Tryd.f25) [1, 0, 1, 1, 1, 1, 0, 0, 0]) (.seq .nil (.blk (.seq .nil (.seq .nil (.seq (.seq .nil (.blk (.loop ⟨f25_l0_ins, f25_l0_outs, f25_l0⟩))) .nil))))) (stof f25_l1_ins v) (around 0 f25_l1_ins f25_l1_outs) = F25_l1 f37 f38 f25_l0 v := by kernel_rfl
def C25_l1 (v : List UInt8 × Int × List (Int) × Unit) : Option ((List (Int) × Unit) ⊕ (Int × List (Int) × Unit)) := loopN (F25_l1 C37 C38 C25_l0) big v
theorem k25_l1 : FragOk Tryd.prog 0 (fun Q a w => (Code.loop (subc (code Tryd.f25) [1, 0, 1, 1, 1, 1, 0, 0, 0])).wp Tryd.prog Q a w) ⟨f25_l1_ins, f25_l1_outs, C25_l1⟩ :=
  frag_loop (ins := f25_l1_ins) (os := f25_l1_outs) (np := 0) (n := (.seq .nil (.blk (.seq .nil (.seq .nil (.seq (.seq .nil (.blk (.loop ⟨f25_l0_ins, f25_l0_outs, C25_l0⟩))) .nil)))))) (F := F25_l1 C37 C38 C25_l0) hm hΓ (K := (fun f => Ae.lookA f [(37, ⟨f37_ins, f37_outs, C37⟩), (38, ⟨f38_ins, f38_outs, C38⟩)])) (kok_cons ok37 (kok_cons ok38 (kok_nil _))) (fun _ => big)
    (ann_seq (a := (subc (code Tryd.f25) [1, 0, 1, 1, 1, 1, 0, 0, 0, 0])) (b := (subc (code Tryd.f25) [1, 0, 1, 1, 1, 1, 0, 0, 0, 1])) (by kernel_rfl) (ann_nil _) (ann_blk (x := (subc (code Tryd.f25) [1, 0, 1, 1, 1, 1, 0, 0, 0, 1, 0])) (by kernel_rfl) (ann_seq (a := (subc (code Tryd.f25) [1, 0, 1, 1, 1, 1, 0, 0, 0, 1, 0, 0])) (b := (subc (code Tryd.f25) [1, 0, 1, 1, 1, 1, 0, 0, 0, 1, 0, 1])) (by kernel_rfl) (ann_nil _) (ann_seq (a := (subc (code Tryd.f25) [1, 0, 1, 1, 1, 1, 0, 0, 0, 1, 0, 1, 0])) (b := (subc (code Tryd.f25) [1, 0, 1, 1, 1, 1, 0, 0, 0, 1, 0, 1, 1])) (by kernel_rfl) (ann_nil _) (ann_seq (a := (subc (code Tryd.f25) [1, 0, 1, 1, 1, 1, 0, 0, 0, 1, 0, 1, 1, 0])) (b := (subc (code Tryd.f25) [1, 0, 1, 1, 1, 1, 0, 0, 0, 1, 0, 1, 1, 1])) (by kernel_rfl) (ann_seq (a := (subc (code Tryd.f25) [1, 0, 1, 1, 1, 1, 0, 0, 0, 1, 0, 1, 1, 0, 0])) (b := (subc (code Tryd.f25) [1, 0, 1, 1, 1, 1, 0, 0, 0, 1, 0, 1, 1, 0, 1])) (by kernel_rfl) (ann_nil _) (ann_blk (x := (subc (code Tryd.f25) [1, 0, 1, 1, 1, 1, 0, 0, 0, 1, 0, 1, 1, 0, 1, 0])) (by kernel_rfl) (ann_loop (x := (subc (code Tryd.f25) [1, 0, 1, 1, 1, 1, 0, 0, 0, 1, 0, 1, 1, 0, 1, 0, 0])) (by kernel_rfl) k25_l0))) (ann_nil _)))))) (fun v => h25_l1 C37 C38 C25_l0 v)
end Go.Proofs.YtaoaagbfjekecaaDoor.W
