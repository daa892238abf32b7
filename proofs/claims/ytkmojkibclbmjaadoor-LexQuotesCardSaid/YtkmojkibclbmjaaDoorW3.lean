/- Plain forms of functions. Written by a program. -/
import Derived.Test.YtkmojkibclbmjaaDoorW2
set_option maxRecDepth 100000
set_option linter.unusedVariables false
namespace Go.Proofs.YtkmojkibclbmjaaDoor.W
open Go Go.Ae

def F27  : Int × Int × List UInt8 × Int × Int × Int × Unit → Option (List UInt8 × Int × Int × Int × Unit) := fun (x0, x1, x2, x3, x4, x5, _) =>
  some (x2, x3, x0, x1, ())
theorem h27  (v : HS f27_ins) : afun Γ (fun f => Ae.look f []) 1 Tryd.f27.ntmps Tryd.f27.results.toList (code Tryd.f27) .nil (em id f27_ins v).1 (em id f27_ins v).2 (ofin 1 f27_outs) = F27 v := by kernel_rfl
def C27 (v : Int × Int × List UInt8 × Int × Int × Int × Unit) : Option (List UInt8 × Int × Int × Int × Unit) := F27 v
theorem ok27 : FnOk Tryd.prog 27 ⟨f27_ins, f27_outs, C27⟩ :=
  fn_ok (np := 1) (n := .nil) hm hΓ (K := (fun f => Ae.look f [])) (kok_nil _) Tryd.func27 (c := code Tryd.f27) (by kernel_rfl) (name_ne (by kernel_rfl))
    (ann_nil _) (fun v => Nat.le_of_ble_eq_true (by kernel_rfl)) (fun v => h27 v)

def F23_c0 (f27 : Int × Int × List UInt8 × Int × Int × Int × Unit → Option (List UInt8 × Int × Int × Int × Unit)) (f31 : Int × Unit → Option (Bool × Unit)) : Int × List UInt8 × Int × Int × Int × List UInt8 × Unit → Option ((List UInt8 × List UInt8 × Int × Int × Int × Unit) ⊕ (Int × List UInt8 × Int × Int × Int × List UInt8 × Unit)) := fun (x0, x1, x2, x3, x4, x5, _) =>
  bif decide (0 ≤ x0) && decide (x0 < (↑x1.length : Int)) then
    (f31 ((↑(x1.getD x0.toNat 0).toNat : Int), ())).bind fun val =>
      bif !val.fst then
        (f27 (x0, 4, x1, x2, x3, x4, ())).bind fun val =>
          some (Sum.inl ([], val.fst, val.snd.fst, val.snd.snd.fst, val.snd.snd.snd.fst, ()))
      else
        bif decide (0 ≤ x0) && decide (x0 < (↑x1.length : Int)) then
          bif
              decide
                (x5.length + [UInt8.ofNat (↑(x1.getD x0.toNat 0).toNat : Int).toNat].length ≤ 140737488355328 / 1) then
            some (Sum.inr (x0, x1, x2, x3, x4, x5 ++ [UInt8.ofNat (↑(x1.getD x0.toNat 0).toNat : Int).toNat], ()))
          else none
        else none
  else none
theorem h23_c0 (f27 : HS f27_ins → Option (OTy f27_outs)) (f31 : HS f31_ins → Option (OTy f31_outs)) (v : HS f23_c0_ins) : aev Γ (fun f => Ae.look f [(27, ⟨f27_ins, f27_outs, f27⟩), (31, ⟨f31_ins, f31_outs, f31⟩)]) 1 (subc (code Tryd.f23) [1, 1, 0, 1, 0, 0, 1, 0, 0, 1, 1, 1]) .nil (stof f23_c0_ins v) (oout 1 f23_c0_outs) = F23_c0 f27 f31 v := by kernel_rfl
def C23_c0 (v : Int × List UInt8 × Int × Int × Int × List UInt8 × Unit) : Option ((List UInt8 × List UInt8 × Int × Int × Int × Unit) ⊕ (Int × List UInt8 × Int × Int × Int × List UInt8 × Unit)) := F23_c0 C27 C31 v
theorem k23_c0 : FragOk Tryd.prog 1 (fun Q a w => ((subc (code Tryd.f23) [1, 1, 0, 1, 0, 0, 1, 0, 0, 1, 1, 1])).wp Tryd.prog Q a w) ⟨f23_c0_ins, f23_c0_outs, C23_c0⟩ :=
  frag_code (ins := f23_c0_ins) (os := f23_c0_outs) (np := 1) (n := .nil) (F := C23_c0) hm hΓ (K := (fun f => Ae.look f [(27, ⟨f27_ins, f27_outs, C27⟩), (31, ⟨f31_ins, f31_outs, C31⟩)])) (kok_cons ok27 (kok_cons ok31 (kok_nil _)))
    (ann_nil _) (fun v => h23_c0 C27 C31 v)

def F23_l0 (f27 : Int × Int × List UInt8 × Int × Int × Int × Unit → Option (List UInt8 × Int × Int × Int × Unit)) (f31 : Int × Unit → Option (Bool × Unit)) (f23_c0 : Int × List UInt8 × Int × Int × Int × List UInt8 × Unit → Option ((List UInt8 × List UInt8 × Int × Int × Int × Unit) ⊕ (Int × List UInt8 × Int × Int × Int × List UInt8 × Unit))) : Int × List UInt8 × Int × Int × Int × List UInt8 × Unit → Option ((Int × List UInt8 × Int × Int × Int × List UInt8 × Unit) ⊕ ((List UInt8 × Int × Int × Int × Unit) ⊕ (List UInt8 × List UInt8 × Int × Int × Int × Unit))) := fun (x0, x1, x2, x3, x4, x5, _) =>
  bif decide (x0 < (↑x1.length : Int)) then
    bif decide (0 ≤ x0) && decide (x0 < (↑x1.length : Int)) then
      bif (↑(x1.getD x0.toNat 0).toNat : Int) == 34 then
        some (Sum.inr (Sum.inr (x5, x1, IntKind.i64.wrap (x0 + 1), x3, x4, ())))
      else
        bif (↑(x1.getD x0.toNat 0).toNat : Int) == 92 then
          bif IntKind.i64.wrap (x0 + 1) == (↑x1.length : Int) then some (Sum.inr (Sum.inl (x1, x2, x3, x4, ())))
          else
            (f23_c0 (IntKind.i64.wrap (x0 + 1), x1, x2, x3, x4, x5, ())).bind fun val =>
              Sum.elim
                (fun val =>
                  some
                    (Sum.inr
                      (Sum.inr
                        (val.fst, val.snd.fst, val.snd.snd.fst, val.snd.snd.snd.fst, val.snd.snd.snd.snd.fst,
                          ()))))
                (fun val =>
                  some
                    (Sum.inl
                      (IntKind.i64.wrap (val.fst + 1), val.snd.fst, val.snd.snd.fst, val.snd.snd.snd.fst,
                        val.snd.snd.snd.snd.fst, val.snd.snd.snd.snd.snd.fst, ())))
                val
        else
          (f23_c0 (x0, x1, x2, x3, x4, x5, ())).bind fun val =>
            Sum.elim
              (fun val =>
                some
                  (Sum.inr
                    (Sum.inr
                      (val.fst, val.snd.fst, val.snd.snd.fst, val.snd.snd.snd.fst, val.snd.snd.snd.snd.fst, ()))))
              (fun val =>
                some
                  (Sum.inl
                    (IntKind.i64.wrap (val.fst + 1), val.snd.fst, val.snd.snd.fst, val.snd.snd.snd.fst,
                      val.snd.snd.snd.snd.fst, val.snd.snd.snd.snd.snd.fst, ())))
              val
    else none
  else some (Sum.inr (Sum.inl (x1, x2, x3, x4, ())))
theorem h23_l0 (f27 : HS f27_ins → Option (OTy f27_outs)) (f31 : HS f31_ins → Option (OTy f31_outs)) (f23_c0 : HS f23_c0_ins → Option (OTy f23_c0_outs)) (v : HS f23_l0_ins) : aev Γ (fun f => Ae.look f [(27, ⟨f27_ins, f27_outs, f27⟩), (31, ⟨f31_ins, f31_outs, f31⟩)]) 1 (subc (code Tryd.f23) [1, 1, 0, 1, 0, 0]) (.seq .nil (.seq (.blk (.seq .nil (.seq .nil (.cut .nil ⟨f23_c0_ins, f23_c0_outs, f23_c0⟩)))) .nil)) (stof f23_l0_ins v) (around 1 f23_l0_ins f23_l0_outs) = F23_l0 f27 f31 f23_c0 v := by kernel_rfl
def C23_l0 (v : Int × List UInt8 × Int × Int × Int × List UInt8 × Unit) : Option ((List UInt8 × Int × Int × Int × Unit) ⊕ (List UInt8 × List UInt8 × Int × Int × Int × Unit)) := loopN (F23_l0 C27 C31 C23_c0) big v
theorem k23_l0 : FragOk Tryd.prog 1 (fun Q a w => (Code.loop (subc (code Tryd.f23) [1, 1, 0, 1, 0, 0])).wp Tryd.prog Q a w) ⟨f23_l0_ins, f23_l0_outs, C23_l0⟩ :=
  frag_loop (ins := f23_l0_ins) (os := f23_l0_outs) (np := 1) (n := (.seq .nil (.seq (.blk (.seq .nil (.seq .nil (.cut .nil ⟨f23_c0_ins, f23_c0_outs, C23_c0⟩)))) .nil))) (F := F23_l0 C27 C31 C23_c0) hm hΓ (K := (fun f => Ae.look f [(27, ⟨f27_ins, f27_outs, C27⟩), (31, ⟨f31_ins, f31_outs, C31⟩)])) (kok_cons ok27 (kok_cons ok31 (kok_nil _))) (fun _ => big)
    (ann_seq (a := (subc (code Tryd.f23) [1, 1, 0, 1, 0, 0, 0])) (b := (subc (code Tryd.f23) [1, 1, 0, 1, 0, 0, 1])) (by kernel_rfl) (ann_nil _) (ann_seq (a := (subc (code Tryd.f23) [1, 1, 0, 1, 0, 0, 1, 0])) (b := (subc (code Tryd.f23) [1, 1, 0, 1, 0, 0, 1, 1])) (by kernel_rfl) (ann_blk (x := (subc (code Tryd.f23) [1, 1, 0, 1, 0, 0, 1, 0, 0])) (by kernel_rfl) (ann_seq (a := (subc (code Tryd.f23) [1, 1, 0, 1, 0, 0, 1, 0, 0, 0])) (b := (subc (code Tryd.f23) [1, 1, 0, 1, 0, 0, 1, 0, 0, 1])) (by kernel_rfl) (ann_nil _) (ann_seq (a := (subc (code Tryd.f23) [1, 1, 0, 1, 0, 0, 1, 0, 0, 1, 0])) (b := (subc (code Tryd.f23) [1, 1, 0, 1, 0, 0, 1, 0, 0, 1, 1])) (by kernel_rfl) (ann_nil _) (ann_cut (a := (subc (code Tryd.f23) [1, 1, 0, 1, 0, 0, 1, 0, 0, 1, 1, 0])) (b := (subc (code Tryd.f23) [1, 1, 0, 1, 0, 0, 1, 0, 0, 1, 1, 1])) (by kernel_rfl) (ann_nil _) k23_c0)))) (ann_nil _))) (fun v => h23_l0 C27 C31 C23_c0 v)

def F23 (f27 : Int × Int × List UInt8 × Int × Int × Int × Unit → Option (List UInt8 × Int × Int × Int × Unit)) (f31 : Int × Unit → Option (Bool × Unit)) (f23_l0 : Int × List UInt8 × Int × Int × Int × List UInt8 × Unit → Option ((List UInt8 × Int × Int × Int × Unit) ⊕ (List UInt8 × List UInt8 × Int × Int × Int × Unit))) : List UInt8 × Int × Int × Int × Unit → Option (List UInt8 × List UInt8 × Int × Int × Int × Unit) := fun (x0, x1, x2, x3, _) =>
  (f23_l0 (IntKind.i64.wrap (x1 + 1), x0, x1, x2, x3, [], ())).bind fun val =>
    Sum.elim
      (fun val =>
        (f27 (val.snd.fst, 4, val.fst, val.snd.fst, val.snd.snd.fst, val.snd.snd.snd.fst, ())).bind fun val =>
          some ([], val.fst, val.snd.fst, val.snd.snd.fst, val.snd.snd.snd.fst, ()))
      (fun val => some (val.fst, val.snd.fst, val.snd.snd.fst, val.snd.snd.snd.fst, val.snd.snd.snd.snd.fst, ()))
      val
theorem h23 (f27 : HS f27_ins → Option (OTy f27_outs)) (f31 : HS f31_ins → Option (OTy f31_outs)) (f23_l0 : HS f23_l0_ins → Option (OTy f23_l0_outs)) (v : HS f23_ins) : afun Γ (fun f => Ae.look f [(27, ⟨f27_ins, f27_outs, f27⟩), (31, ⟨f31_ins, f31_outs, f31⟩)]) 1 Tryd.f23.ntmps Tryd.f23.results.toList (code Tryd.f23) (.seq .nil (.seq .nil (.seq (.seq .nil (.blk (.loop ⟨f23_l0_ins, f23_l0_outs, f23_l0⟩))) .nil))) (em id f23_ins v).1 (em id f23_ins v).2 (ofin 1 f23_outs) = F23 f27 f31 f23_l0 v := by kernel_rfl
def C23 (v : List UInt8 × Int × Int × Int × Unit) : Option (List UInt8 × List UInt8 × Int × Int × Int × Unit) := F23 C27 C31 C23_l0 v
theorem ok23 : FnOk Tryd.prog 23 ⟨f23_ins, f23_outs, C23⟩ :=
  fn_ok (np := 1) (n := (.seq .nil (.seq .nil (.seq (.seq .nil (.blk (.loop ⟨f23_l0_ins, f23_l0_outs, C23_l0⟩))) .nil)))) hm hΓ (K := (fun f => Ae.look f [(27, ⟨f27_ins, f27_outs, C27⟩), (31, ⟨f31_ins, f31_outs, C31⟩)])) (kok_cons ok27 (kok_cons ok31 (kok_nil _))) Tryd.func23 (c := code Tryd.f23) (by kernel_rfl) (name_ne (by kernel_rfl))
    (ann_seq (a := (subc (code Tryd.f23) [0])) (b := (subc (code Tryd.f23) [1])) (by kernel_rfl) (ann_nil _) (ann_seq (a := (subc (code Tryd.f23) [1, 0])) (b := (subc (code Tryd.f23) [1, 1])) (by kernel_rfl) (ann_nil _) (ann_seq (a := (subc (code Tryd.f23) [1, 1, 0])) (b := (subc (code Tryd.f23) [1, 1, 1])) (by kernel_rfl) (ann_seq (a := (subc (code Tryd.f23) [1, 1, 0, 0])) (b := (subc (code Tryd.f23) [1, 1, 0, 1])) (by kernel_rfl) (ann_nil _) (ann_blk (x := (subc (code Tryd.f23) [1, 1, 0, 1, 0])) (by kernel_rfl) (ann_loop (x := (subc (code Tryd.f23) [1, 1, 0, 1, 0, 0])) (by kernel_rfl) k23_l0))) (ann_nil _)))) (fun v => Nat.le_of_ble_eq_true (by kernel_rfl)) (fun v => h23 C27 C31 C23_l0 v)

def F24_l0 (f27 : Int × Int × List UInt8 × Int × Int × Int × Unit → Option (List UInt8 × Int × Int × Int × Unit)) (f31 : Int × Unit → Option (Bool × Unit)) (f32 : Int × Unit → Option (Bool × Unit)) : Int × List UInt8 × Int × Int × Int × Unit → Option ((Int × List UInt8 × Int × Int × Int × Unit) ⊕ ((List UInt8 × Int × Int × Int × Unit) ⊕ (List UInt8 × List UInt8 × Int × Int × Int × Unit))) := fun (x0, x1, x2, x3, x4, _) =>
  bif decide (x0 < (↑x1.length : Int)) then
    bif decide (0 ≤ x0) && decide (x0 < (↑x1.length : Int)) then
      bif (↑(x1.getD x0.toNat 0).toNat : Int) == 93 then
        bif decide (0 ≤ x0) && decide (x0 ≤ (↑x1.length : Int)) then
          bif decide (0 ≤ IntKind.i64.wrap (x2 + 1)) && decide (IntKind.i64.wrap (x2 + 1) ≤ x0) then
            some
              (Sum.inr
                (Sum.inr
                  (List.drop (IntKind.i64.wrap (x2 + 1)).toNat (List.take x0.toNat x1), x1, IntKind.i64.wrap (x0 + 1), x3,
                    x4, ())))
          else none
        else none
      else
        bif (↑(x1.getD x0.toNat 0).toNat : Int) == 91 then
          (f27 (x0, 4, x1, x2, x3, x4, ())).bind fun val =>
            some (Sum.inr (Sum.inr ([], val.fst, val.snd.fst, val.snd.snd.fst, val.snd.snd.snd.fst, ())))
        else
          bif (↑(x1.getD x0.toNat 0).toNat : Int) == 92 then
            (f27 (x0, 4, x1, x2, x3, x4, ())).bind fun val =>
              some
                (Sum.inr (Sum.inr ([], val.fst, val.snd.fst, val.snd.snd.fst, val.snd.snd.snd.fst, ())))
          else
            (f32 ((↑(x1.getD x0.toNat 0).toNat : Int), ())).bind fun val =>
              bif val.fst then
                (f27 (x0, 4, x1, x2, x3, x4, ())).bind fun val =>
                  some
                    (Sum.inr
                      (Sum.inr ([], val.fst, val.snd.fst, val.snd.snd.fst, val.snd.snd.snd.fst, ())))
              else
                (f31 ((↑(x1.getD x0.toNat 0).toNat : Int), ())).bind fun val =>
                  bif !val.fst then
                    (f27 (x0, 4, x1, x2, x3, x4, ())).bind fun val =>
                      some
                        (Sum.inr
                          (Sum.inr ([], val.fst, val.snd.fst, val.snd.snd.fst, val.snd.snd.snd.fst, ())))
                  else some (Sum.inl (IntKind.i64.wrap (x0 + 1), x1, x2, x3, x4, ()))
    else none
  else some (Sum.inr (Sum.inl (x1, x2, x3, x4, ())))
theorem h24_l0 (f27 : HS f27_ins → Option (OTy f27_outs)) (f31 : HS f31_ins → Option (OTy f31_outs)) (f32 : HS f32_ins → Option (OTy f32_outs)) (v : HS f24_l0_ins) : aev Γ (fun f => Ae.look f [(27, ⟨f27_ins, f27_outs, f27⟩), (31, ⟨f31_ins, f31_outs, f31⟩), (32, ⟨f32_ins, f32_outs, f32⟩)]) 1 (subc (code Tryd.f24) [1, 0, 1, 0, 0]) .nil (stof f24_l0_ins v) (around 1 f24_l0_ins f24_l0_outs) = F24_l0 f27 f31 f32 v := by kernel_rfl
def C24_l0 (v : Int × List UInt8 × Int × Int × Int × Unit) : Option ((List UInt8 × Int × Int × Int × Unit) ⊕ (List UInt8 × List UInt8 × Int × Int × Int × Unit)) := loopN (F24_l0 C27 C31 C32) big v
theorem k24_l0 : FragOk Tryd.prog 1 (fun Q a w => (Code.loop (subc (code Tryd.f24) [1, 0, 1, 0, 0])).wp Tryd.prog Q a w) ⟨f24_l0_ins, f24_l0_outs, C24_l0⟩ :=
  frag_loop (ins := f24_l0_ins) (os := f24_l0_outs) (np := 1) (n := .nil) (F := F24_l0 C27 C31 C32) hm hΓ (K := (fun f => Ae.look f [(27, ⟨f27_ins, f27_outs, C27⟩), (31, ⟨f31_ins, f31_outs, C31⟩), (32, ⟨f32_ins, f32_outs, C32⟩)])) (kok_cons ok27 (kok_cons ok31 (kok_cons ok32 (kok_nil _)))) (fun _ => big)
    (ann_nil _) (fun v => h24_l0 C27 C31 C32 v)

def F24 (f27 : Int × Int × List UInt8 × Int × Int × Int × Unit → Option (List UInt8 × Int × Int × Int × Unit)) (f31 : Int × Unit → Option (Bool × Unit)) (f32 : Int × Unit → Option (Bool × Unit)) (f24_l0 : Int × List UInt8 × Int × Int × Int × Unit → Option ((List UInt8 × Int × Int × Int × Unit) ⊕ (List UInt8 × List UInt8 × Int × Int × Int × Unit))) : List UInt8 × Int × Int × Int × Unit → Option (List UInt8 × List UInt8 × Int × Int × Int × Unit) := fun (x0, x1, x2, x3, _) =>
  (f24_l0 (IntKind.i64.wrap (x1 + 1), x0, x1, x2, x3, ())).bind fun val =>
    Sum.elim
      (fun val =>
        (f27 (val.snd.fst, 4, val.fst, val.snd.fst, val.snd.snd.fst, val.snd.snd.snd.fst, ())).bind fun val =>
          some ([], val.fst, val.snd.fst, val.snd.snd.fst, val.snd.snd.snd.fst, ()))
      (fun val => some (val.fst, val.snd.fst, val.snd.snd.fst, val.snd.snd.snd.fst, val.snd.snd.snd.snd.fst, ()))
      val
theorem h24 (f27 : HS f27_ins → Option (OTy f27_outs)) (f31 : HS f31_ins → Option (OTy f31_outs)) (f32 : HS f32_ins → Option (OTy f32_outs)) (f24_l0 : HS f24_l0_ins → Option (OTy f24_l0_outs)) (v : HS f24_ins) : afun Γ (fun f => Ae.look f [(27, ⟨f27_ins, f27_outs, f27⟩), (31, ⟨f31_ins, f31_outs, f31⟩), (32, ⟨f32_ins, f32_outs, f32⟩)]) 1 Tryd.f24.ntmps Tryd.f24.results.toList (code Tryd.f24) (.seq .nil (.seq (.seq .nil (.blk (.loop ⟨f24_l0_ins, f24_l0_outs, f24_l0⟩))) .nil)) (em id f24_ins v).1 (em id f24_ins v).2 (ofin 1 f24_outs) = F24 f27 f31 f32 f24_l0 v := by kernel_rfl
def C24 (v : List UInt8 × Int × Int × Int × Unit) : Option (List UInt8 × List UInt8 × Int × Int × Int × Unit) := F24 C27 C31 C32 C24_l0 v
theorem ok24 : FnOk Tryd.prog 24 ⟨f24_ins, f24_outs, C24⟩ :=
  fn_ok (np := 1) (n := (.seq .nil (.seq (.seq .nil (.blk (.loop ⟨f24_l0_ins, f24_l0_outs, C24_l0⟩))) .nil))) hm hΓ (K := (fun f => Ae.look f [(27, ⟨f27_ins, f27_outs, C27⟩), (31, ⟨f31_ins, f31_outs, C31⟩), (32, ⟨f32_ins, f32_outs, C32⟩)])) (kok_cons ok27 (kok_cons ok31 (kok_cons ok32 (kok_nil _)))) Tryd.func24 (c := code Tryd.f24) (by kernel_rfl) (name_ne (by kernel_rfl))
    (ann_seq (a := (subc (code Tryd.f24) [0])) (b := (subc (code Tryd.f24) [1])) (by kernel_rfl) (ann_nil _) (ann_seq (a := (subc (code Tryd.f24) [1, 0])) (b := (subc (code Tryd.f24) [1, 1])) (by kernel_rfl) (ann_seq (a := (subc (code Tryd.f24) [1, 0, 0])) (b := (subc (code Tryd.f24) [1, 0, 1])) (by kernel_rfl) (ann_nil _) (ann_blk (x := (subc (code Tryd.f24) [1, 0, 1, 0])) (by kernel_rfl) (ann_loop (x := (subc (code Tryd.f24) [1, 0, 1, 0, 0])) (by kernel_rfl) k24_l0))) (ann_nil _))) (fun v => Nat.le_of_ble_eq_true (by kernel_rfl)) (fun v => h24 C27 C31 C32 C24_l0 v)

def F25_l0 (f31 : Int × Unit → Option (Bool × Unit)) : Int × Int × Int × Int × List UInt8 × Int × Int × Int × Unit → Option ((Int × Int × Int × Int × List UInt8 × Int × Int × Int × Unit) ⊕ ((Int × Int × List UInt8 × Int × Int × Int × Unit) ⊕ (Int × Int × List UInt8 × Int × Int × Int × Unit) ⊕ (List UInt8 × List UInt8 × Int × Int × Int × Unit))) := fun (x0, x1, x2, x3, x4, x5, x6, x7, _) =>
  bif decide (x3 < (↑x4.length : Int)) then
    bif decide (0 ≤ x3) && decide (x3 < (↑x4.length : Int)) then
      bif (↑(x4.getD x3.toNat 0).toNat : Int) == 40 then
        bif decide (IntKind.i64.wrap (x1 + 1) > 32) then
          some (Sum.inr (Sum.inr (Sum.inl (6, x3, x4, x5, x6, x7, ()))))
        else some (Sum.inl (x0, IntKind.i64.wrap (x1 + 1), x2, IntKind.i64.wrap (x3 + 1), x4, x5, x6, x7, ()))
      else
        bif (↑(x4.getD x3.toNat 0).toNat : Int) == 41 then
          bif IntKind.i64.wrap (x1 - 1) == 0 then
            bif decide (0 ≤ x3) && decide (x3 ≤ (↑x4.length : Int)) then
              bif decide (0 ≤ IntKind.i64.wrap (x0 + 1)) && decide (IntKind.i64.wrap (x0 + 1) ≤ x3) then
                some
                  (Sum.inr
                    (Sum.inr
                      (Sum.inr
                        (List.drop (IntKind.i64.wrap (x0 + 1)).toNat (List.take x3.toNat x4), x4,
                          IntKind.i64.wrap (x3 + 1), x6, x7, ()))))
              else none
            else none
          else some (Sum.inl (x0, IntKind.i64.wrap (x1 - 1), x2, IntKind.i64.wrap (x3 + 1), x4, x5, x6, x7, ()))
        else
          bif (↑(x4.getD x3.toNat 0).toNat : Int) == 92 then
            bif IntKind.i64.wrap (x3 + 1) == (↑x4.length : Int) then
              some (Sum.inl (x0, x1, x2, IntKind.i64.wrap (IntKind.i64.wrap (x3 + 1) + 1), x4, x5, x6, x7, ()))
            else
              bif decide (0 ≤ IntKind.i64.wrap (x3 + 1)) && decide (IntKind.i64.wrap (x3 + 1) < (↑x4.length : Int)) then
                (f31 ((↑(x4.getD (IntKind.i64.wrap (x3 + 1)).toNat 0).toNat : Int), ())).bind fun val =>
                  bif !val.fst then
                    some (Sum.inr (Sum.inr (Sum.inl (x2, IntKind.i64.wrap (x3 + 1), x4, x5, x6, x7, ()))))
                  else
                    some
                      (Sum.inl (x0, x1, x2, IntKind.i64.wrap (IntKind.i64.wrap (x3 + 1) + 1), x4, x5, x6, x7, ()))
              else none
          else
            (f31 ((↑(x4.getD x3.toNat 0).toNat : Int), ())).bind fun val =>
              bif !val.fst then some (Sum.inr (Sum.inr (Sum.inl (x2, x3, x4, x5, x6, x7, ()))))
              else some (Sum.inl (x0, x1, x2, IntKind.i64.wrap (x3 + 1), x4, x5, x6, x7, ()))
    else none
  else some (Sum.inr (Sum.inl (x0, x2, x4, x5, x6, x7, ())))
theorem h25_l0 (f31 : HS f31_ins → Option (OTy f31_outs)) (v : HS f25_l0_ins) : aev Γ (fun f => Ae.look f [(31, ⟨f31_ins, f31_outs, f31⟩)]) 1 (subc (code Tryd.f25) [1, 0, 1, 1, 0, 1, 0, 0]) .nil (stof f25_l0_ins v) (around 1 f25_l0_ins f25_l0_outs) = F25_l0 f31 v := by kernel_rfl
def C25_l0 (v : Int × Int × Int × Int × List UInt8 × Int × Int × Int × Unit) : Option ((Int × Int × List UInt8 × Int × Int × Int × Unit) ⊕ (Int × Int × List UInt8 × Int × Int × Int × Unit) ⊕ (List UInt8 × List UInt8 × Int × Int × Int × Unit)) := loopN (F25_l0 C31) big v
theorem k25_l0 : FragOk Tryd.prog 1 (fun Q a w => (Code.loop (subc (code Tryd.f25) [1, 0, 1, 1, 0, 1, 0, 0])).wp Tryd.prog Q a w) ⟨f25_l0_ins, f25_l0_outs, C25_l0⟩ :=
  frag_loop (ins := f25_l0_ins) (os := f25_l0_outs) (np := 1) (n := .nil) (F := F25_l0 C31) hm hΓ (K := (fun f => Ae.look f [(31, ⟨f31_ins, f31_outs, C31⟩)])) (kok_cons ok31 (kok_nil _)) (fun _ => big)
    (ann_nil _) (fun v => h25_l0 C31 v)

def F25_g0 (f27 : Int × Int × List UInt8 × Int × Int × Int × Unit → Option (List UInt8 × Int × Int × Int × Unit)) : Int × Int × List UInt8 × Int × Int × Int × Unit → Option ((Int × Int × List UInt8 × Int × Int × Int × Unit) ⊕ (List UInt8 × List UInt8 × Int × Int × Int × Unit)) := fun (x0, x1, x2, x3, x4, x5, _) =>
  (f27 (x1, x0, x2, x3, x4, x5, ())).bind fun val =>
    some (Sum.inr ([], val.fst, val.snd.fst, val.snd.snd.fst, val.snd.snd.snd.fst, ()))
theorem h25_g0 (f27 : HS f27_ins → Option (OTy f27_outs)) (v : HS f25_g0_ins) : aev Γ (fun f => Ae.look f [(27, ⟨f27_ins, f27_outs, f27⟩)]) 1 ((findLabel (subc (code Tryd.f25) [1, 0]) 0).getD .skip) .nil (stof f25_g0_ins v) (aroundL 1 0 [] f25_g0_ins f25_g0_outs) = F25_g0 f27 v := by kernel_rfl
def C25_g0 (v : Int × Int × List UInt8 × Int × Int × Int × Unit) : Option (List UInt8 × List UInt8 × Int × Int × Int × Unit) := loopN (F25_g0 C27) big v
theorem k25_g0 : FragOk Tryd.prog 1 (ScopeFrom Tryd.prog (subc (code Tryd.f25) [1, 0]) 0) ⟨f25_g0_ins, f25_g0_outs, C25_g0⟩ :=
  frag_label (ins := f25_g0_ins) (os := f25_g0_outs) (np := 1) (n := .nil) (ls := []) (F := F25_g0 C27) (rest := (findLabel (subc (code Tryd.f25) [1, 0]) 0).getD .skip) hm hΓ (K := (fun f => Ae.look f [(27, ⟨f27_ins, f27_outs, C27⟩)])) (kok_cons ok27 (kok_nil _)) (fun _ => big) (by kernel_rfl)
    (ann_nil _) find_nil (fun v => h25_g0 C27 v)

def F25 (f27 : Int × Int × List UInt8 × Int × Int × Int × Unit → Option (List UInt8 × Int × Int × Int × Unit)) (f31 : Int × Unit → Option (Bool × Unit)) (f25_g0 : Int × Int × List UInt8 × Int × Int × Int × Unit → Option (List UInt8 × List UInt8 × Int × Int × Int × Unit)) (f25_l0 : Int × Int × Int × Int × List UInt8 × Int × Int × Int × Unit → Option ((Int × Int × List UInt8 × Int × Int × Int × Unit) ⊕ (Int × Int × List UInt8 × Int × Int × Int × Unit) ⊕ (List UInt8 × List UInt8 × Int × Int × Int × Unit))) : List UInt8 × Int × Int × Int × Unit → Option (List UInt8 × List UInt8 × Int × Int × Int × Unit) := fun (x0, x1, x2, x3, _) =>
  (f25_l0 (x1, 0, 4, x1, x0, x1, x2, x3, ())).bind fun val =>
    Sum.elim
      (fun val =>
        (f27
              (val.fst, val.snd.fst, val.snd.snd.fst, val.snd.snd.snd.fst, val.snd.snd.snd.snd.fst,
                val.snd.snd.snd.snd.snd.fst, ())).bind
          fun val => some ([], val.fst, val.snd.fst, val.snd.snd.fst, val.snd.snd.snd.fst, ()))
      (fun val =>
        Sum.elim
          (fun val =>
            (f25_g0
                  (val.fst, val.snd.fst, val.snd.snd.fst, val.snd.snd.snd.fst, val.snd.snd.snd.snd.fst,
                    val.snd.snd.snd.snd.snd.fst, ())).bind
              fun val =>
              some (val.fst, val.snd.fst, val.snd.snd.fst, val.snd.snd.snd.fst, val.snd.snd.snd.snd.fst, ()))
          (fun val =>
            some (val.fst, val.snd.fst, val.snd.snd.fst, val.snd.snd.snd.fst, val.snd.snd.snd.snd.fst, ()))
          val)
      val
theorem h25 (f27 : HS f27_ins → Option (OTy f27_outs)) (f31 : HS f31_ins → Option (OTy f31_outs)) (f25_g0 : HS f25_g0_ins → Option (OTy f25_g0_outs)) (f25_l0 : HS f25_l0_ins → Option (OTy f25_l0_outs)) (v : HS f25_ins) : afun Γ (fun f => Ae.look f [(27, ⟨f27_ins, f27_outs, f27⟩), (31, ⟨f31_ins, f31_outs, f31⟩)]) 1 Tryd.f25.ntmps Tryd.f25.results.toList (code Tryd.f25) (.seq .nil (.scope (.seq .nil (.seq .nil (.seq (.seq .nil (.blk (.loop ⟨f25_l0_ins, f25_l0_outs, f25_l0⟩))) .nil))) [(0, ⟨f25_g0_ins, f25_g0_outs, f25_g0⟩)])) (em id f25_ins v).1 (em id f25_ins v).2 (ofin 1 f25_outs) = F25 f27 f31 f25_g0 f25_l0 v := by kernel_rfl
def C25 (v : List UInt8 × Int × Int × Int × Unit) : Option (List UInt8 × List UInt8 × Int × Int × Int × Unit) := F25 C27 C31 C25_g0 C25_l0 v
theorem ok25 : FnOk Tryd.prog 25 ⟨f25_ins, f25_outs, C25⟩ :=
  fn_ok (np := 1) (n := (.seq .nil (.scope (.seq .nil (.seq .nil (.seq (.seq .nil (.blk (.loop ⟨f25_l0_ins, f25_l0_outs, C25_l0⟩))) .nil))) [(0, ⟨f25_g0_ins, f25_g0_outs, C25_g0⟩)]))) hm hΓ (K := (fun f => Ae.look f [(27, ⟨f27_ins, f27_outs, C27⟩), (31, ⟨f31_ins, f31_outs, C31⟩)])) (kok_cons ok27 (kok_cons ok31 (kok_nil _))) Tryd.func25 (c := code Tryd.f25) (by kernel_rfl) (name_ne (by kernel_rfl))
    (ann_seq (a := (subc (code Tryd.f25) [0])) (b := (subc (code Tryd.f25) [1])) (by kernel_rfl) (ann_nil _) (ann_scope (x := (subc (code Tryd.f25) [1, 0])) (by kernel_rfl) (ann_seq (a := (subc (code Tryd.f25) [1, 0, 0])) (b := (subc (code Tryd.f25) [1, 0, 1])) (by kernel_rfl) (ann_nil _) (ann_seq (a := (subc (code Tryd.f25) [1, 0, 1, 0])) (b := (subc (code Tryd.f25) [1, 0, 1, 1])) (by kernel_rfl) (ann_nil _) (ann_seq (a := (subc (code Tryd.f25) [1, 0, 1, 1, 0])) (b := (subc (code Tryd.f25) [1, 0, 1, 1, 1])) (by kernel_rfl) (ann_seq (a := (subc (code Tryd.f25) [1, 0, 1, 1, 0, 0])) (b := (subc (code Tryd.f25) [1, 0, 1, 1, 0, 1])) (by kernel_rfl) (ann_nil _) (ann_blk (x := (subc (code Tryd.f25) [1, 0, 1, 1, 0, 1, 0])) (by kernel_rfl) (ann_loop (x := (subc (code Tryd.f25) [1, 0, 1, 1, 0, 1, 0, 0])) (by kernel_rfl) k25_l0))) (ann_nil _)))) (find_cons k25_g0 find_nil))) (fun v => Nat.le_of_ble_eq_true (by kernel_rfl)) (fun v => h25 C27 C31 C25_g0 C25_l0 v)
end Go.Proofs.YtkmojkibclbmjaaDoor.W
