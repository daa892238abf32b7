/- Plain forms of functions. Written by a program. -/
import Derived.Test.YtkmojkibclbmjaaDoorX
set_option maxRecDepth 100000
set_option linter.unusedVariables false
namespace Go.Proofs.YtkmojkibclbmjaaDoor.W
open Go Go.Ae

def F19_c0  : Int × Bool × Unit → Option ((Int × Int × Unit) ⊕ Unit) := fun (x0, x1, _) =>
  bif x1 then some (Sum.inl (2, IntKind.i32.wrap (intBits BinOp.and IntKind.u8 x0 15), ()))
  else
    bif decide (x0 ≥ 240) then
      bif decide (x0 < 245) then some (Sum.inl (3, IntKind.i32.wrap (intBits BinOp.and IntKind.u8 x0 7), ()))
      else some (Sum.inr ())
    else some (Sum.inr ())
theorem h19_c0  (v : HS f19_c0_ins) : aev Γ (fun f => Ae.look f []) 0 (subc (code Tryd.f19) [1, 0, 0, 1, 1, 1, 1, 1]) .nil (stof f19_c0_ins v) (oout 0 f19_c0_outs) = F19_c0 v := by kernel_rfl
def C19_c0 (v : Int × Bool × Unit) : Option ((Int × Int × Unit) ⊕ Unit) := F19_c0 v
theorem k19_c0 : FragOk Tryd.prog 0 (fun Q a w => ((subc (code Tryd.f19) [1, 0, 0, 1, 1, 1, 1, 1])).wp Tryd.prog Q a w) ⟨f19_c0_ins, f19_c0_outs, C19_c0⟩ :=
  frag_code (ins := f19_c0_ins) (os := f19_c0_outs) (np := 0) (n := .nil) (F := C19_c0) hm hΓ (K := (fun f => Ae.look f [])) (kok_nil _)
    (ann_nil _) (fun v => h19_c0 v)

def F19_c1 (f19_c0 : Int × Bool × Unit → Option ((Int × Int × Unit) ⊕ Unit)) : Int × Bool × Unit → Option ((Int × Int × Unit) ⊕ Unit) := fun (x0, x1, _) =>
  bif x1 then some (Sum.inl (1, IntKind.i32.wrap (intBits BinOp.and IntKind.u8 x0 31), ()))
  else
    bif decide (x0 ≥ 224) then
      (f19_c0 (x0, decide (x0 < 240), ())).bind fun val =>
        Sum.elim (fun val => some (Sum.inl (val.fst, val.snd.fst, ()))) (fun val => some (Sum.inr ())) val
    else
      (f19_c0 (x0, false, ())).bind fun val =>
        Sum.elim (fun val => some (Sum.inl (val.fst, val.snd.fst, ()))) (fun val => some (Sum.inr ())) val
theorem h19_c1 (f19_c0 : HS f19_c0_ins → Option (OTy f19_c0_outs)) (v : HS f19_c1_ins) : aev Γ (fun f => Ae.look f []) 0 (subc (code Tryd.f19) [1, 0, 0, 1, 1, 1]) (.cond .nil (.cut .nil ⟨f19_c0_ins, f19_c0_outs, f19_c0⟩)) (stof f19_c1_ins v) (oout 0 f19_c1_outs) = F19_c1 f19_c0 v := by kernel_rfl
def C19_c1 (v : Int × Bool × Unit) : Option ((Int × Int × Unit) ⊕ Unit) := F19_c1 C19_c0 v
theorem k19_c1 : FragOk Tryd.prog 0 (fun Q a w => ((subc (code Tryd.f19) [1, 0, 0, 1, 1, 1])).wp Tryd.prog Q a w) ⟨f19_c1_ins, f19_c1_outs, C19_c1⟩ :=
  frag_code (ins := f19_c1_ins) (os := f19_c1_outs) (np := 0) (n := (.cond .nil (.cut .nil ⟨f19_c0_ins, f19_c0_outs, C19_c0⟩))) (F := C19_c1) hm hΓ (K := (fun f => Ae.look f [])) (kok_nil _)
    (ann_cond (x := (subc (code Tryd.f19) [1, 0, 0, 1, 1, 1, 0])) (y := (subc (code Tryd.f19) [1, 0, 0, 1, 1, 1, 1])) (by kernel_rfl) (ann_nil _) (ann_cut (a := (subc (code Tryd.f19) [1, 0, 0, 1, 1, 1, 1, 0])) (b := (subc (code Tryd.f19) [1, 0, 0, 1, 1, 1, 1, 1])) (by kernel_rfl) (ann_nil _) k19_c0)) (fun v => h19_c1 C19_c0 v)

def F19 (f19_c1 : Int × Bool × Unit → Option ((Int × Int × Unit) ⊕ Unit)) : Int × Unit → Option (Int × Int × Unit) := fun (x0, _) =>
  bif decide (x0 < 128) then some (0, IntKind.i32.wrap x0, ())
  else
    bif decide (x0 ≥ 194) then
      (f19_c1 (x0, decide (x0 < 224), ())).bind fun val =>
        Sum.elim (fun val => some (val.fst, val.snd.fst, ())) (fun val => some (-1, 0, ())) val
    else
      (f19_c1 (x0, false, ())).bind fun val =>
        Sum.elim (fun val => some (val.fst, val.snd.fst, ())) (fun val => some (-1, 0, ())) val
theorem h19 (f19_c1 : HS f19_c1_ins → Option (OTy f19_c1_outs)) (v : HS f19_ins) : afun Γ (fun f => Ae.look f []) 0 Tryd.f19.ntmps Tryd.f19.results.toList (code Tryd.f19) (.seq .nil (.seq (.blk (.seq .nil (.cond .nil (.cut .nil ⟨f19_c1_ins, f19_c1_outs, f19_c1⟩)))) .nil)) (em id f19_ins v).1 (em id f19_ins v).2 (ofin 0 f19_outs) = F19 f19_c1 v := by kernel_rfl
def C19 (v : Int × Unit) : Option (Int × Int × Unit) := F19 C19_c1 v
theorem ok19 : FnOk Tryd.prog 19 ⟨f19_ins, f19_outs, C19⟩ :=
  fn_ok (np := 0) (n := (.seq .nil (.seq (.blk (.seq .nil (.cond .nil (.cut .nil ⟨f19_c1_ins, f19_c1_outs, C19_c1⟩)))) .nil))) hm hΓ (K := (fun f => Ae.look f [])) (kok_nil _) Tryd.func19 (c := code Tryd.f19) (by kernel_rfl) (name_ne (by kernel_rfl))
    (ann_seq (a := (subc (code Tryd.f19) [0])) (b := (subc (code Tryd.f19) [1])) (by kernel_rfl) (ann_nil _) (ann_seq (a := (subc (code Tryd.f19) [1, 0])) (b := (subc (code Tryd.f19) [1, 1])) (by kernel_rfl) (ann_blk (x := (subc (code Tryd.f19) [1, 0, 0])) (by kernel_rfl) (ann_seq (a := (subc (code Tryd.f19) [1, 0, 0, 0])) (b := (subc (code Tryd.f19) [1, 0, 0, 1])) (by kernel_rfl) (ann_nil _) (ann_cond (x := (subc (code Tryd.f19) [1, 0, 0, 1, 0])) (y := (subc (code Tryd.f19) [1, 0, 0, 1, 1])) (by kernel_rfl) (ann_nil _) (ann_cut (a := (subc (code Tryd.f19) [1, 0, 0, 1, 1, 0])) (b := (subc (code Tryd.f19) [1, 0, 0, 1, 1, 1])) (by kernel_rfl) (ann_nil _) k19_c1)))) (ann_nil _))) (fun v => Nat.le_of_ble_eq_true (by kernel_rfl)) (fun v => h19 C19_c1 v)

def F29  : Int × Unit → Option (Bool × Unit) := fun (x0, _) =>
  bif decide (x0 ≥ 0) then
    bif decide (x0 ≤ 1114111) then
      bif decide (x0 ≥ 55296) then some (bif decide (x0 ≤ 57343) then false else true, ())
      else some (!false, ())
    else some (false, ())
  else some (false, ())
theorem h29  (v : HS f29_ins) : afun Γ (fun f => Ae.look f []) 0 Tryd.f29.ntmps Tryd.f29.results.toList (code Tryd.f29) .nil (em id f29_ins v).1 (em id f29_ins v).2 (ofin 0 f29_outs) = F29 v := by kernel_rfl
def C29 (v : Int × Unit) : Option (Bool × Unit) := F29 v
theorem ok29 : FnOk Tryd.prog 29 ⟨f29_ins, f29_outs, C29⟩ :=
  fn_ok (np := 0) (n := .nil) hm hΓ (K := (fun f => Ae.look f [])) (kok_nil _) Tryd.func29 (c := code Tryd.f29) (by kernel_rfl) (name_ne (by kernel_rfl))
    (ann_nil _) (fun v => Nat.le_of_ble_eq_true (by kernel_rfl)) (fun v => h29 v)

def F20 (f29 : Int × Unit → Option (Bool × Unit)) : Int × Unit → Option (Int × Unit) := fun (x0, _) =>
  (f29 (x0, ())).bind fun val =>
    bif !val.fst then some (0, ())
    else
      bif decide (x0 ≤ 127) then some (1, ())
      else
        bif decide (x0 ≤ 2047) then some (2, ())
        else bif decide (x0 ≤ 65535) then some (3, ()) else some (4, ())
theorem h20 (f29 : HS f29_ins → Option (OTy f29_outs)) (v : HS f20_ins) : afun Γ (fun f => Ae.look f [(29, ⟨f29_ins, f29_outs, f29⟩)]) 0 Tryd.f20.ntmps Tryd.f20.results.toList (code Tryd.f20) .nil (em id f20_ins v).1 (em id f20_ins v).2 (ofin 0 f20_outs) = F20 f29 v := by kernel_rfl
def C20 (v : Int × Unit) : Option (Int × Unit) := F20 C29 v
theorem ok20 : FnOk Tryd.prog 20 ⟨f20_ins, f20_outs, C20⟩ :=
  fn_ok (np := 0) (n := .nil) hm hΓ (K := (fun f => Ae.look f [(29, ⟨f29_ins, f29_outs, C29⟩)])) (kok_cons ok29 (kok_nil _)) Tryd.func20 (c := code Tryd.f20) (by kernel_rfl) (name_ne (by kernel_rfl))
    (ann_nil _) (fun v => Nat.le_of_ble_eq_true (by kernel_rfl)) (fun v => h20 C29 v)

def F15_l0  : List UInt8 × Int × Int × Int × Int × List (Int) × Unit → Option ((List UInt8 × Int × Int × Int × Int × List (Int) × Unit) ⊕ ((List UInt8 × Int × Int × Int × List (Int) × Unit) ⊕ (Int × List (Int) × Unit))) := fun (x0, x1, x2, x3, x4, x5, _) =>
  bif decide (x4 ≤ IntKind.i64.wrap (x3 + x1)) then
    bif decide (0 ≤ x4) && decide (x4 < (↑x0.length : Int)) then
      bif intBits BinOp.andNot IntKind.u8 (↑(x0.getD x4.toNat 0).toNat : Int) 63 != 128 then
        some (Sum.inr (Sum.inr (x3, x5, ())))
      else
        bif decide (0 ≤ x4) && decide (x4 < (↑x0.length : Int)) then
          some
            (Sum.inl
              (x0, x1,
                intBits BinOp.or IntKind.i32 (IntKind.i32.wrap (x2 * 2 ^ min 6 IntKind.i32.bits))
                  (IntKind.i32.wrap (intBits BinOp.and IntKind.u8 (↑(x0.getD x4.toNat 0).toNat : Int) 63)),
                x3, IntKind.i64.wrap (x4 + 1), x5, ()))
        else none
    else none
  else some (Sum.inr (Sum.inl (x0, x1, x2, x3, x5, ())))
theorem h15_l0  (v : HS f15_l0_ins) : aev Γ (fun f => Ae.look f []) 0 (subc (code Tryd.f15) [1, 0, 1, 1, 1, 1, 0, 0, 0, 1, 0, 1, 1, 0, 1, 0, 0]) .nil (stof f15_l0_ins v) (around 0 f15_l0_ins f15_l0_outs) = F15_l0 v := by kernel_rfl
def C15_l0 (v : List UInt8 × Int × Int × Int × Int × List (Int) × Unit) : Option ((List UInt8 × Int × Int × Int × List (Int) × Unit) ⊕ (Int × List (Int) × Unit)) := loopN (F15_l0) big v
theorem k15_l0 : FragOk Tryd.prog 0 (fun Q a w => (Code.loop (subc (code Tryd.f15) [1, 0, 1, 1, 1, 1, 0, 0, 0, 1, 0, 1, 1, 0, 1, 0, 0])).wp Tryd.prog Q a w) ⟨f15_l0_ins, f15_l0_outs, C15_l0⟩ :=
  frag_loop (ins := f15_l0_ins) (os := f15_l0_outs) (np := 0) (n := .nil) (F := F15_l0) hm hΓ (K := (fun f => Ae.look f [])) (kok_nil _) (fun _ => big)
    (ann_nil _) (fun v => h15_l0 v)

def F15_l1 (f19 : Int × Unit → Option (Int × Int × Unit)) (f20 : Int × Unit → Option (Int × Unit)) (f15_l0 : List UInt8 × Int × Int × Int × Int × List (Int) × Unit → Option ((List UInt8 × Int × Int × Int × List (Int) × Unit) ⊕ (Int × List (Int) × Unit))) : List UInt8 × Int × List (Int) × Unit → Option ((List UInt8 × Int × List (Int) × Unit) ⊕ ((List (Int) × Unit) ⊕ (Int × List (Int) × Unit))) := fun (x0, x1, x2, _) =>
  bif decide (x1 < (↑x0.length : Int)) then
    bif decide (0 ≤ x1) && decide (x1 < (↑x0.length : Int)) then
      (f19 ((↑(x0.getD x1.toNat 0).toNat : Int), ())).bind fun val =>
        bif decide (val.fst < 0) then some (Sum.inr (Sum.inr (x1, x2, ())))
        else
          bif decide (IntKind.i64.wrap ((↑x0.length : Int) - x1) ≤ val.fst) then
            some (Sum.inr (Sum.inr (x1, x2, ())))
          else
            (f15_l0 (x0, val.fst, val.snd.fst, x1, IntKind.i64.wrap (x1 + 1), x2, ())).bind fun val =>
              Sum.elim
                (fun val =>
                  (f20 (val.snd.snd.fst, ())).bind fun val_1 =>
                    bif val_1.fst != IntKind.i64.wrap (val.snd.fst + 1) then
                      some (Sum.inr (Sum.inr (val.snd.snd.snd.fst, val.snd.snd.snd.snd.fst, ())))
                    else
                      bif
                          decide
                            (List.length val.snd.snd.snd.snd.fst + [val.snd.snd.fst].length ≤ 140737488355328 / 4) then
                        some
                          (Sum.inl
                            (val.fst, IntKind.i64.wrap (val.snd.snd.snd.fst + IntKind.i64.wrap (val.snd.fst + 1)),
                              val.snd.snd.snd.snd.fst ++ [val.snd.snd.fst], ()))
                      else none)
                (fun val => some (Sum.inr (Sum.inr (val.fst, val.snd.fst, ())))) val
    else none
  else some (Sum.inr (Sum.inl (x2, ())))
theorem h15_l1 (f19 : HS f19_ins → Option (OTy f19_outs)) (f20 : HS f20_ins → Option (OTy f20_outs)) (f15_l0 : HS f15_l0_ins → Option (OTy f15_l0_outs)) (v : HS f15_l1_ins) : aev Γ (fun f => Ae.look f [(19, ⟨f19_ins, f19_outs, f19⟩), (20, ⟨f20_ins, f20_outs, f20⟩)]) 0 (subc (code Tryd.f15) [1, 0, 1, 1, 1, 1, 0, 0, 0]) (.seq .nil (.blk (.seq .nil (.seq .nil (.seq (.seq .nil (.blk (.loop ⟨f15_l0_ins, f15_l0_outs, f15_l0⟩))) .nil))))) (stof f15_l1_ins v) (around 0 f15_l1_ins f15_l1_outs) = F15_l1 f19 f20 f15_l0 v := by kernel_rfl
def C15_l1 (v : List UInt8 × Int × List (Int) × Unit) : Option ((List (Int) × Unit) ⊕ (Int × List (Int) × Unit)) := loopN (F15_l1 C19 C20 C15_l0) big v
theorem k15_l1 : FragOk Tryd.prog 0 (fun Q a w => (Code.loop (subc (code Tryd.f15) [1, 0, 1, 1, 1, 1, 0, 0, 0])).wp Tryd.prog Q a w) ⟨f15_l1_ins, f15_l1_outs, C15_l1⟩ :=
  frag_loop (ins := f15_l1_ins) (os := f15_l1_outs) (np := 0) (n := (.seq .nil (.blk (.seq .nil (.seq .nil (.seq (.seq .nil (.blk (.loop ⟨f15_l0_ins, f15_l0_outs, C15_l0⟩))) .nil)))))) (F := F15_l1 C19 C20 C15_l0) hm hΓ (K := (fun f => Ae.look f [(19, ⟨f19_ins, f19_outs, C19⟩), (20, ⟨f20_ins, f20_outs, C20⟩)])) (kok_cons ok19 (kok_cons ok20 (kok_nil _))) (fun _ => big)
    (ann_seq (a := (subc (code Tryd.f15) [1, 0, 1, 1, 1, 1, 0, 0, 0, 0])) (b := (subc (code Tryd.f15) [1, 0, 1, 1, 1, 1, 0, 0, 0, 1])) (by kernel_rfl) (ann_nil _) (ann_blk (x := (subc (code Tryd.f15) [1, 0, 1, 1, 1, 1, 0, 0, 0, 1, 0])) (by kernel_rfl) (ann_seq (a := (subc (code Tryd.f15) [1, 0, 1, 1, 1, 1, 0, 0, 0, 1, 0, 0])) (b := (subc (code Tryd.f15) [1, 0, 1, 1, 1, 1, 0, 0, 0, 1, 0, 1])) (by kernel_rfl) (ann_nil _) (ann_seq (a := (subc (code Tryd.f15) [1, 0, 1, 1, 1, 1, 0, 0, 0, 1, 0, 1, 0])) (b := (subc (code Tryd.f15) [1, 0, 1, 1, 1, 1, 0, 0, 0, 1, 0, 1, 1])) (by kernel_rfl) (ann_nil _) (ann_seq (a := (subc (code Tryd.f15) [1, 0, 1, 1, 1, 1, 0, 0, 0, 1, 0, 1, 1, 0])) (b := (subc (code Tryd.f15) [1, 0, 1, 1, 1, 1, 0, 0, 0, 1, 0, 1, 1, 1])) (by kernel_rfl) (ann_seq (a := (subc (code Tryd.f15) [1, 0, 1, 1, 1, 1, 0, 0, 0, 1, 0, 1, 1, 0, 0])) (b := (subc (code Tryd.f15) [1, 0, 1, 1, 1, 1, 0, 0, 0, 1, 0, 1, 1, 0, 1])) (by kernel_rfl) (ann_nil _) (ann_blk (x := (subc (code Tryd.f15) [1, 0, 1, 1, 1, 1, 0, 0, 0, 1, 0, 1, 1, 0, 1, 0])) (by kernel_rfl) (ann_loop (x := (subc (code Tryd.f15) [1, 0, 1, 1, 1, 1, 0, 0, 0, 1, 0, 1, 1, 0, 1, 0, 0])) (by kernel_rfl) k15_l0))) (ann_nil _)))))) (fun v => h15_l1 C19 C20 C15_l0 v)

def F15_g0  : Int × List (Int) × Unit → Option ((Int × List (Int) × Unit) ⊕ (Int × List (Int) × Unit)) := fun (x0, x1, _) =>
  some (Sum.inr (x0, x1, ()))
theorem h15_g0  (v : HS f15_g0_ins) : aev Γ (fun f => Ae.look f []) 0 ((findLabel (subc (code Tryd.f15) [1, 0]) 0).getD .skip) .nil (stof f15_g0_ins v) (aroundL 0 0 [] f15_g0_ins f15_g0_outs) = F15_g0 v := by kernel_rfl
def C15_g0 (v : Int × List (Int) × Unit) : Option (Int × List (Int) × Unit) := loopN (F15_g0) big v
theorem k15_g0 : FragOk Tryd.prog 0 (ScopeFrom Tryd.prog (subc (code Tryd.f15) [1, 0]) 0) ⟨f15_g0_ins, f15_g0_outs, C15_g0⟩ :=
  frag_label (ins := f15_g0_ins) (os := f15_g0_outs) (np := 0) (n := .nil) (ls := []) (F := F15_g0) (rest := (findLabel (subc (code Tryd.f15) [1, 0]) 0).getD .skip) hm hΓ (K := (fun f => Ae.look f [])) (kok_nil _) (fun _ => big) (by kernel_rfl)
    (ann_nil _) find_nil (fun v => h15_g0 v)

def F15 (f19 : Int × Unit → Option (Int × Int × Unit)) (f20 : Int × Unit → Option (Int × Unit)) (f15_g0 : Int × List (Int) × Unit → Option (Int × List (Int) × Unit)) (f15_l1 : List UInt8 × Int × List (Int) × Unit → Option ((List (Int) × Unit) ⊕ (Int × List (Int) × Unit))) : List UInt8 × Unit → Option (List (Int) × Int × Unit) := fun (x0, _) =>
  (f15_l1 (x0, 0, [], ())).bind fun val =>
    Sum.elim (fun val => some (val.fst, -1, ()))
      (fun val => (f15_g0 (val.fst, val.snd.fst, ())).bind fun val => some (val.snd.fst, val.fst, ())) val
theorem h15 (f19 : HS f19_ins → Option (OTy f19_outs)) (f20 : HS f20_ins → Option (OTy f20_outs)) (f15_g0 : HS f15_g0_ins → Option (OTy f15_g0_outs)) (f15_l1 : HS f15_l1_ins → Option (OTy f15_l1_outs)) (v : HS f15_ins) : afun Γ (fun f => Ae.look f [(19, ⟨f19_ins, f19_outs, f19⟩), (20, ⟨f20_ins, f20_outs, f20⟩)]) 0 Tryd.f15.ntmps Tryd.f15.results.toList (code Tryd.f15) (.seq .nil (.scope (.seq .nil (.seq .nil (.seq .nil (.seq .nil (.seq (.blk (.loop ⟨f15_l1_ins, f15_l1_outs, f15_l1⟩)) .nil))))) [(0, ⟨f15_g0_ins, f15_g0_outs, f15_g0⟩)])) (em id f15_ins v).1 (em id f15_ins v).2 (ofin 0 f15_outs) = F15 f19 f20 f15_g0 f15_l1 v := by kernel_rfl
def C15 (v : List UInt8 × Unit) : Option (List (Int) × Int × Unit) := F15 C19 C20 C15_g0 C15_l1 v
theorem ok15 : FnOk Tryd.prog 15 ⟨f15_ins, f15_outs, C15⟩ :=
  fn_ok (np := 0) (n := (.seq .nil (.scope (.seq .nil (.seq .nil (.seq .nil (.seq .nil (.seq (.blk (.loop ⟨f15_l1_ins, f15_l1_outs, C15_l1⟩)) .nil))))) [(0, ⟨f15_g0_ins, f15_g0_outs, C15_g0⟩)]))) hm hΓ (K := (fun f => Ae.look f [(19, ⟨f19_ins, f19_outs, C19⟩), (20, ⟨f20_ins, f20_outs, C20⟩)])) (kok_cons ok19 (kok_cons ok20 (kok_nil _))) Tryd.func15 (c := code Tryd.f15) (by kernel_rfl) (name_ne (by kernel_rfl))
    (ann_seq (a := (subc (code Tryd.f15) [0])) (b := (subc (code Tryd.f15) [1])) (by kernel_rfl) (ann_nil _) (ann_scope (x := (subc (code Tryd.f15) [1, 0])) (by kernel_rfl) (ann_seq (a := (subc (code Tryd.f15) [1, 0, 0])) (b := (subc (code Tryd.f15) [1, 0, 1])) (by kernel_rfl) (ann_nil _) (ann_seq (a := (subc (code Tryd.f15) [1, 0, 1, 0])) (b := (subc (code Tryd.f15) [1, 0, 1, 1])) (by kernel_rfl) (ann_nil _) (ann_seq (a := (subc (code Tryd.f15) [1, 0, 1, 1, 0])) (b := (subc (code Tryd.f15) [1, 0, 1, 1, 1])) (by kernel_rfl) (ann_nil _) (ann_seq (a := (subc (code Tryd.f15) [1, 0, 1, 1, 1, 0])) (b := (subc (code Tryd.f15) [1, 0, 1, 1, 1, 1])) (by kernel_rfl) (ann_nil _) (ann_seq (a := (subc (code Tryd.f15) [1, 0, 1, 1, 1, 1, 0])) (b := (subc (code Tryd.f15) [1, 0, 1, 1, 1, 1, 1])) (by kernel_rfl) (ann_blk (x := (subc (code Tryd.f15) [1, 0, 1, 1, 1, 1, 0, 0])) (by kernel_rfl) (ann_loop (x := (subc (code Tryd.f15) [1, 0, 1, 1, 1, 1, 0, 0, 0])) (by kernel_rfl) k15_l1)) (ann_nil _)))))) (find_cons k15_g0 find_nil))) (fun v => Nat.le_of_ble_eq_true (by kernel_rfl)) (fun v => h15 C19 C20 C15_g0 C15_l1 v)
end Go.Proofs.YtkmojkibclbmjaaDoor.W
