/- Plain forms of functions. Written by a program. -/
import Derived.Test.YtkmojkibclbmjaaDoorW3
set_option maxRecDepth 100000
set_option linter.unusedVariables false
namespace Go.Proofs.YtkmojkibclbmjaaDoor.W
open Go Go.Ae

def F26_c0  : Int × Bool × List UInt8 × Int × Int × Int × Unit → Option ((Int × List UInt8 × Int × Int × Int × Unit) ⊕ (List UInt8 × List UInt8 × Int × Int × Int × Unit)) := fun (x0, x1, x2, x3, x4, x5, _) =>
  bif x1 then some (Sum.inl (x0, x2, IntKind.i64.wrap (x3 + 3), x4, x5, ()))
  else
    bif decide (0 ≤ x3) && decide (x3 ≤ (↑x2.length : Int)) then
      bif decide (0 ≤ x0) && decide (x0 ≤ x3) then
        some (Sum.inr (List.drop x0.toNat (List.take x3.toNat x2), x2, x3, x4, x5, ()))
      else none
    else none
theorem h26_c0  (v : HS f26_c0_ins) : aev Γ (fun f => Ae.look f []) 1 (subc (code Tryd.f26) [1, 1, 0, 0, 0, 1, 0, 1, 0, 1, 1, 1]) .nil (stof f26_c0_ins v) (oout 1 f26_c0_outs) = F26_c0 v := by kernel_rfl
def C26_c0 (v : Int × Bool × List UInt8 × Int × Int × Int × Unit) : Option ((Int × List UInt8 × Int × Int × Int × Unit) ⊕ (List UInt8 × List UInt8 × Int × Int × Int × Unit)) := F26_c0 v
theorem k26_c0 : FragOk Tryd.prog 1 (fun Q a w => ((subc (code Tryd.f26) [1, 1, 0, 0, 0, 1, 0, 1, 0, 1, 1, 1])).wp Tryd.prog Q a w) ⟨f26_c0_ins, f26_c0_outs, C26_c0⟩ :=
  frag_code (ins := f26_c0_ins) (os := f26_c0_outs) (np := 1) (n := .nil) (F := C26_c0) hm hΓ (K := (fun f => Ae.look f [])) (kok_nil _)
    (ann_nil _) (fun v => h26_c0 v)

def F26_l0 (f32 : Int × Unit → Option (Bool × Unit)) (f26_c0 : Int × Bool × List UInt8 × Int × Int × Int × Unit → Option ((Int × List UInt8 × Int × Int × Int × Unit) ⊕ (List UInt8 × List UInt8 × Int × Int × Int × Unit))) : Int × List UInt8 × Int × Int × Int × Unit → Option ((Int × List UInt8 × Int × Int × Int × Unit) ⊕ ((Int × List UInt8 × Int × Int × Int × Unit) ⊕ (List UInt8 × List UInt8 × Int × Int × Int × Unit))) := fun (x0, x1, x2, x3, x4, _) =>
  bif decide (x2 < (↑x1.length : Int)) then
    bif decide (0 ≤ x2) && decide (x2 ≤ (↑x1.length : Int)) then
      bif decide (0 < (↑(List.drop x2.toNat x1).length : Int)) then
        (f32 ((↑((List.drop x2.toNat x1).getD 0 0).toNat : Int), ())).bind fun val =>
          bif val.fst then some (Sum.inl (x0, x1, IntKind.i64.wrap (x2 + 1), x3, x4, ()))
          else
            bif decide ((↑(List.drop x2.toNat x1).length : Int) > 2) then
              bif decide (2 ≤ (↑(List.drop x2.toNat x1).length : Int)) then
                bif List.take 2 (List.drop x2.toNat x1) == [13, 10] then
                  bif decide (2 < (↑(List.drop x2.toNat x1).length : Int)) then
                    (f32 ((↑((List.drop x2.toNat x1).getD 2 0).toNat : Int), ())).bind fun val =>
                      (f26_c0 (x0, val.fst, x1, x2, x3, x4, ())).bind fun val =>
                        Sum.elim
                          (fun val =>
                            some
                              (Sum.inl
                                (val.fst, val.snd.fst, val.snd.snd.fst, val.snd.snd.snd.fst, val.snd.snd.snd.snd.fst,
                                  ())))
                          (fun val =>
                            some
                              (Sum.inr
                                (Sum.inr
                                  (val.fst, val.snd.fst, val.snd.snd.fst, val.snd.snd.snd.fst, val.snd.snd.snd.snd.fst,
                                    ()))))
                          val
                  else none
                else
                  (f26_c0 (x0, false, x1, x2, x3, x4, ())).bind fun val =>
                    Sum.elim
                      (fun val =>
                        some
                          (Sum.inl
                            (val.fst, val.snd.fst, val.snd.snd.fst, val.snd.snd.snd.fst, val.snd.snd.snd.snd.fst,
                              ())))
                      (fun val =>
                        some
                          (Sum.inr
                            (Sum.inr
                              (val.fst, val.snd.fst, val.snd.snd.fst, val.snd.snd.snd.fst, val.snd.snd.snd.snd.fst,
                                ()))))
                      val
              else none
            else
              (f26_c0 (x0, false, x1, x2, x3, x4, ())).bind fun val =>
                Sum.elim
                  (fun val =>
                    some
                      (Sum.inl
                        (val.fst, val.snd.fst, val.snd.snd.fst, val.snd.snd.snd.fst, val.snd.snd.snd.snd.fst,
                          ())))
                  (fun val =>
                    some
                      (Sum.inr
                        (Sum.inr
                          (val.fst, val.snd.fst, val.snd.snd.fst, val.snd.snd.snd.fst, val.snd.snd.snd.snd.fst,
                            ()))))
                  val
      else none
    else none
  else some (Sum.inr (Sum.inl (x0, x1, x2, x3, x4, ())))
theorem h26_l0 (f32 : HS f32_ins → Option (OTy f32_outs)) (f26_c0 : HS f26_c0_ins → Option (OTy f26_c0_outs)) (v : HS f26_l0_ins) : aev Γ (fun f => Ae.look f [(32, ⟨f32_ins, f32_outs, f32⟩)]) 1 (subc (code Tryd.f26) [1, 1, 0, 0, 0]) (.seq .nil (.blk (.seq .nil (.blk (.seq .nil (.cond .nil (.cut .nil ⟨f26_c0_ins, f26_c0_outs, f26_c0⟩))))))) (stof f26_l0_ins v) (around 1 f26_l0_ins f26_l0_outs) = F26_l0 f32 f26_c0 v := by kernel_rfl
def C26_l0 (v : Int × List UInt8 × Int × Int × Int × Unit) : Option ((Int × List UInt8 × Int × Int × Int × Unit) ⊕ (List UInt8 × List UInt8 × Int × Int × Int × Unit)) := loopN (F26_l0 C32 C26_c0) big v
theorem k26_l0 : FragOk Tryd.prog 1 (fun Q a w => (Code.loop (subc (code Tryd.f26) [1, 1, 0, 0, 0])).wp Tryd.prog Q a w) ⟨f26_l0_ins, f26_l0_outs, C26_l0⟩ :=
  frag_loop (ins := f26_l0_ins) (os := f26_l0_outs) (np := 1) (n := (.seq .nil (.blk (.seq .nil (.blk (.seq .nil (.cond .nil (.cut .nil ⟨f26_c0_ins, f26_c0_outs, C26_c0⟩)))))))) (F := F26_l0 C32 C26_c0) hm hΓ (K := (fun f => Ae.look f [(32, ⟨f32_ins, f32_outs, C32⟩)])) (kok_cons ok32 (kok_nil _)) (fun _ => big)
    (ann_seq (a := (subc (code Tryd.f26) [1, 1, 0, 0, 0, 0])) (b := (subc (code Tryd.f26) [1, 1, 0, 0, 0, 1])) (by kernel_rfl) (ann_nil _) (ann_blk (x := (subc (code Tryd.f26) [1, 1, 0, 0, 0, 1, 0])) (by kernel_rfl) (ann_seq (a := (subc (code Tryd.f26) [1, 1, 0, 0, 0, 1, 0, 0])) (b := (subc (code Tryd.f26) [1, 1, 0, 0, 0, 1, 0, 1])) (by kernel_rfl) (ann_nil _) (ann_blk (x := (subc (code Tryd.f26) [1, 1, 0, 0, 0, 1, 0, 1, 0])) (by kernel_rfl) (ann_seq (a := (subc (code Tryd.f26) [1, 1, 0, 0, 0, 1, 0, 1, 0, 0])) (b := (subc (code Tryd.f26) [1, 1, 0, 0, 0, 1, 0, 1, 0, 1])) (by kernel_rfl) (ann_nil _) (ann_cond (x := (subc (code Tryd.f26) [1, 1, 0, 0, 0, 1, 0, 1, 0, 1, 0])) (y := (subc (code Tryd.f26) [1, 1, 0, 0, 0, 1, 0, 1, 0, 1, 1])) (by kernel_rfl) (ann_nil _) (ann_cut (a := (subc (code Tryd.f26) [1, 1, 0, 0, 0, 1, 0, 1, 0, 1, 1, 0])) (b := (subc (code Tryd.f26) [1, 1, 0, 0, 0, 1, 0, 1, 0, 1, 1, 1])) (by kernel_rfl) (ann_nil _) k26_c0))))))) (fun v => h26_l0 C32 C26_c0 v)

def F26 (f32 : Int × Unit → Option (Bool × Unit)) (f26_l0 : Int × List UInt8 × Int × Int × Int × Unit → Option ((Int × List UInt8 × Int × Int × Int × Unit) ⊕ (List UInt8 × List UInt8 × Int × Int × Int × Unit))) : List UInt8 × Int × Int × Int × Unit → Option (List UInt8 × List UInt8 × Int × Int × Int × Unit) := fun (x0, x1, x2, x3, _) =>
  (f26_l0 (x1, x0, x1, x2, x3, ())).bind fun val =>
    Sum.elim
      (fun val =>
        bif decide (0 ≤ val.snd.snd.fst) && decide (val.snd.snd.fst ≤ (↑(List.length val.snd.fst) : Int)) then
          bif decide (0 ≤ val.fst) && decide (val.fst ≤ val.snd.snd.fst) then
            some
              (List.drop (Int.toNat val.fst) (List.take (Int.toNat val.snd.snd.fst) val.snd.fst), val.snd.fst,
                val.snd.snd.fst, val.snd.snd.snd.fst, val.snd.snd.snd.snd.fst, ())
          else none
        else none)
      (fun val => some (val.fst, val.snd.fst, val.snd.snd.fst, val.snd.snd.snd.fst, val.snd.snd.snd.snd.fst, ()))
      val
theorem h26 (f32 : HS f32_ins → Option (OTy f32_outs)) (f26_l0 : HS f26_l0_ins → Option (OTy f26_l0_outs)) (v : HS f26_ins) : afun Γ (fun f => Ae.look f [(32, ⟨f32_ins, f32_outs, f32⟩)]) 1 Tryd.f26.ntmps Tryd.f26.results.toList (code Tryd.f26) (.seq .nil (.seq .nil (.seq (.blk (.loop ⟨f26_l0_ins, f26_l0_outs, f26_l0⟩)) .nil))) (em id f26_ins v).1 (em id f26_ins v).2 (ofin 1 f26_outs) = F26 f32 f26_l0 v := by kernel_rfl
def C26 (v : List UInt8 × Int × Int × Int × Unit) : Option (List UInt8 × List UInt8 × Int × Int × Int × Unit) := F26 C32 C26_l0 v
theorem ok26 : FnOk Tryd.prog 26 ⟨f26_ins, f26_outs, C26⟩ :=
  fn_ok (np := 1) (n := (.seq .nil (.seq .nil (.seq (.blk (.loop ⟨f26_l0_ins, f26_l0_outs, C26_l0⟩)) .nil)))) hm hΓ (K := (fun f => Ae.look f [(32, ⟨f32_ins, f32_outs, C32⟩)])) (kok_cons ok32 (kok_nil _)) Tryd.func26 (c := code Tryd.f26) (by kernel_rfl) (name_ne (by kernel_rfl))
    (ann_seq (a := (subc (code Tryd.f26) [0])) (b := (subc (code Tryd.f26) [1])) (by kernel_rfl) (ann_nil _) (ann_seq (a := (subc (code Tryd.f26) [1, 0])) (b := (subc (code Tryd.f26) [1, 1])) (by kernel_rfl) (ann_nil _) (ann_seq (a := (subc (code Tryd.f26) [1, 1, 0])) (b := (subc (code Tryd.f26) [1, 1, 1])) (by kernel_rfl) (ann_blk (x := (subc (code Tryd.f26) [1, 1, 0, 0])) (by kernel_rfl) (ann_loop (x := (subc (code Tryd.f26) [1, 1, 0, 0, 0])) (by kernel_rfl) k26_l0)) (ann_nil _)))) (fun v => Nat.le_of_ble_eq_true (by kernel_rfl)) (fun v => h26 C32 C26_l0 v)

def F16 (f17 : Int × Unit → Option (Bool × Unit)) (f21 : List UInt8 × Int × Int × Int × Unit → Option (List UInt8 × List UInt8 × Int × Int × Int × Unit)) (f22 : List UInt8 × Int × Unit → Option (Int × Unit)) (f23 : List UInt8 × Int × Int × Int × Unit → Option (List UInt8 × List UInt8 × Int × Int × Int × Unit)) (f24 : List UInt8 × Int × Int × Int × Unit → Option (List UInt8 × List UInt8 × Int × Int × Int × Unit)) (f25 : List UInt8 × Int × Int × Int × Unit → Option (List UInt8 × List UInt8 × Int × Int × Int × Unit)) (f26 : List UInt8 × Int × Int × Int × Unit → Option (List UInt8 × List UInt8 × Int × Int × Int × Unit)) (f27 : Int × Int × List UInt8 × Int × Int × Int × Unit → Option (List UInt8 × Int × Int × Int × Unit)) : List UInt8 × Int × Int × Int × Unit → Option (Int × List UInt8 × Int × List UInt8 × Int × Int × Int × Unit) := fun (x0, x1, x2, x3, _) =>
  bif decide (0 ≤ x1) && decide (x1 < (↑x0.length : Int)) then
    (f17 ((↑(x0.getD x1.toNat 0).toNat : Int), ())).bind fun val =>
      bif val.fst then
        (f21 (x0, x1, x2, x3, ())).bind fun val =>
          some (0, val.fst, x1, val.snd.fst, val.snd.snd.fst, val.snd.snd.snd.fst, val.snd.snd.snd.snd.fst, ())
      else
        (f22 ([60, 62, 58, 59, 64, 44, 46], (↑(x0.getD x1.toNat 0).toNat : Int), ())).bind fun val =>
          bif decide (val.fst ≥ 0) then
            bif decide (0 ≤ IntKind.i64.wrap (x1 + 1)) && decide (IntKind.i64.wrap (x1 + 1) ≤ (↑x0.length : Int)) then
              bif decide (0 ≤ x1) && decide (x1 ≤ IntKind.i64.wrap (x1 + 1)) then
                some
                  (2, List.drop x1.toNat (List.take (IntKind.i64.wrap (x1 + 1)).toNat x0), x1, x0,
                    IntKind.i64.wrap (x1 + 1), x2, x3, ())
              else none
            else none
          else
            bif (↑(x0.getD x1.toNat 0).toNat : Int) == 34 then
              (f23 (x0, x1, x2, x3, ())).bind fun val =>
                some
                  (1, val.fst, x1, val.snd.fst, val.snd.snd.fst, val.snd.snd.snd.fst, val.snd.snd.snd.snd.fst, ())
            else
              bif (↑(x0.getD x1.toNat 0).toNat : Int) == 91 then
                (f24 (x0, x1, x2, x3, ())).bind fun val =>
                  some
                    (5, val.fst, x1, val.snd.fst, val.snd.snd.fst, val.snd.snd.snd.fst, val.snd.snd.snd.snd.fst,
                      ())
              else
                bif (↑(x0.getD x1.toNat 0).toNat : Int) == 40 then
                  (f25 (x0, x1, x2, x3, ())).bind fun val =>
                    some
                      (3, val.fst, x1, val.snd.fst, val.snd.snd.fst, val.snd.snd.snd.fst, val.snd.snd.snd.snd.fst,
                        ())
                else
                  (f26 (x0, x1, x2, x3, ())).bind fun val =>
                    bif val.fst == [] then
                      (f27 (x1, 4, val.snd.fst, val.snd.snd.fst, val.snd.snd.snd.fst, val.snd.snd.snd.snd.fst, ())).bind
                        fun val_1 =>
                        some
                          (4, val.fst, x1, val_1.fst, val_1.snd.fst, val_1.snd.snd.fst, val_1.snd.snd.snd.fst, ())
                    else
                      some
                        (4, val.fst, x1, val.snd.fst, val.snd.snd.fst, val.snd.snd.snd.fst, val.snd.snd.snd.snd.fst,
                          ())
  else none
theorem h16 (f17 : HS f17_ins → Option (OTy f17_outs)) (f21 : HS f21_ins → Option (OTy f21_outs)) (f22 : HS f22_ins → Option (OTy f22_outs)) (f23 : HS f23_ins → Option (OTy f23_outs)) (f24 : HS f24_ins → Option (OTy f24_outs)) (f25 : HS f25_ins → Option (OTy f25_outs)) (f26 : HS f26_ins → Option (OTy f26_outs)) (f27 : HS f27_ins → Option (OTy f27_outs)) (v : HS f16_ins) : afun Γ (fun f => Ae.look f [(17, ⟨f17_ins, f17_outs, f17⟩), (21, ⟨f21_ins, f21_outs, f21⟩), (22, ⟨f22_ins, f22_outs, f22⟩), (23, ⟨f23_ins, f23_outs, f23⟩), (24, ⟨f24_ins, f24_outs, f24⟩), (25, ⟨f25_ins, f25_outs, f25⟩), (26, ⟨f26_ins, f26_outs, f26⟩), (27, ⟨f27_ins, f27_outs, f27⟩)]) 1 Tryd.f16.ntmps Tryd.f16.results.toList (code Tryd.f16) .nil (em id f16_ins v).1 (em id f16_ins v).2 (ofin 1 f16_outs) = F16 f17 f21 f22 f23 f24 f25 f26 f27 v := by kernel_rfl
def C16 (v : List UInt8 × Int × Int × Int × Unit) : Option (Int × List UInt8 × Int × List UInt8 × Int × Int × Int × Unit) := F16 C17 C21 C22 C23 C24 C25 C26 C27 v
theorem ok16 : FnOk Tryd.prog 16 ⟨f16_ins, f16_outs, C16⟩ :=
  fn_ok (np := 1) (n := .nil) hm hΓ (K := (fun f => Ae.look f [(17, ⟨f17_ins, f17_outs, C17⟩), (21, ⟨f21_ins, f21_outs, C21⟩), (22, ⟨f22_ins, f22_outs, C22⟩), (23, ⟨f23_ins, f23_outs, C23⟩), (24, ⟨f24_ins, f24_outs, C24⟩), (25, ⟨f25_ins, f25_outs, C25⟩), (26, ⟨f26_ins, f26_outs, C26⟩), (27, ⟨f27_ins, f27_outs, C27⟩)])) (kok_cons ok17 (kok_cons ok21 (kok_cons ok22 (kok_cons ok23 (kok_cons ok24 (kok_cons ok25 (kok_cons ok26 (kok_cons ok27 (kok_nil _))))))))) Tryd.func16 (c := code Tryd.f16) (by kernel_rfl) (name_ne (by kernel_rfl))
    (ann_nil _) (fun v => Nat.le_of_ble_eq_true (by kernel_rfl)) (fun v => h16 C17 C21 C22 C23 C24 C25 C26 C27 v)

def F11_l0 (f16 : List UInt8 × Int × Int × Int × Unit → Option (Int × List UInt8 × Int × List UInt8 × Int × Int × Int × Unit)) : List UInt8 × List ((Int × (List UInt8 × Int))) × List UInt8 × Int × Int × Int × Unit → Option ((List UInt8 × List ((Int × (List UInt8 × Int))) × List UInt8 × Int × Int × Int × Unit) ⊕ ((List ((Int × (List UInt8 × Int))) × Unit) ⊕ (Int × Int × Unit))) := fun (x0, x1, x2, x3, x4, x5, _) =>
  bif decide (x3 < (↑x0.length : Int)) then
    (f16 (x2, x3, x4, x5, ())).bind fun val =>
      bif decide (x1.length + [(val.fst, val.snd.fst, val.snd.snd.fst)].length ≤ 140737488355328 / 32) then
        bif val.snd.snd.snd.snd.snd.snd.fst != 0 then
          some (Sum.inr (Sum.inr (val.snd.snd.snd.snd.snd.fst, val.snd.snd.snd.snd.snd.snd.fst, ())))
        else
          some
            (Sum.inl
              (x0, x1 ++ [(val.fst, val.snd.fst, val.snd.snd.fst)], val.snd.snd.snd.fst, val.snd.snd.snd.snd.fst,
                val.snd.snd.snd.snd.snd.fst, val.snd.snd.snd.snd.snd.snd.fst, ()))
      else none
  else some (Sum.inr (Sum.inl (x1, ())))
theorem h11_l0 (f16 : HS f16_ins → Option (OTy f16_outs)) (v : HS f11_l0_ins) : aev Γ (fun f => Ae.look f [(16, ⟨f16_ins, f16_outs, f16⟩)]) 0 (subc (code Tryd.f11) [1, 1, 1, 1, 1, 0, 0, 0]) .nil (stof f11_l0_ins v) (around 0 f11_l0_ins f11_l0_outs) = F11_l0 f16 v := by kernel_rfl
def C11_l0 (v : List UInt8 × List ((Int × (List UInt8 × Int))) × List UInt8 × Int × Int × Int × Unit) : Option ((List ((Int × (List UInt8 × Int))) × Unit) ⊕ (Int × Int × Unit)) := loopN (F11_l0 C16) big v
theorem k11_l0 : FragOk Tryd.prog 0 (fun Q a w => (Code.loop (subc (code Tryd.f11) [1, 1, 1, 1, 1, 0, 0, 0])).wp Tryd.prog Q a w) ⟨f11_l0_ins, f11_l0_outs, C11_l0⟩ :=
  frag_loop (ins := f11_l0_ins) (os := f11_l0_outs) (np := 0) (n := .nil) (F := F11_l0 C16) hm hΓ (K := (fun f => Ae.look f [(16, ⟨f16_ins, f16_outs, C16⟩)])) (kok_cons ok16 (kok_nil _)) (fun _ => big)
    (ann_nil _) (fun v => h11_l0 C16 v)

def F11 (f15 : List UInt8 × Unit → Option (List (Int) × Int × Unit)) (f16 : List UInt8 × Int × Int × Int × Unit → Option (Int × List UInt8 × Int × List UInt8 × Int × Int × Int × Unit)) (f11_l0 : List UInt8 × List ((Int × (List UInt8 × Int))) × List UInt8 × Int × Int × Int × Unit → Option ((List ((Int × (List UInt8 × Int))) × Unit) ⊕ (Int × Int × Unit))) : List UInt8 × Unit → Option (List ((Int × (List UInt8 × Int))) × Int × Int × Unit) := fun (x0, _) =>
  bif decide ((↑x0.length : Int) > 2000) then some ([], 0, 5, ())
  else
    (f15 (x0, ())).bind fun val =>
      bif decide (val.snd.fst ≥ 0) then some ([], val.snd.fst, 7, ())
      else
        (f11_l0 (x0, [], x0, 0, 0, 0, ())).bind fun val =>
          Sum.elim (fun val => some (val.fst, 0, 0, ())) (fun val => some ([], val.fst, val.snd.fst, ()))
            val
theorem h11 (f15 : HS f15_ins → Option (OTy f15_outs)) (f16 : HS f16_ins → Option (OTy f16_outs)) (f11_l0 : HS f11_l0_ins → Option (OTy f11_l0_outs)) (v : HS f11_ins) : afun Γ (fun f => Ae.look f [(15, ⟨f15_ins, f15_outs, f15⟩), (16, ⟨f16_ins, f16_outs, f16⟩)]) 0 Tryd.f11.ntmps Tryd.f11.results.toList (code Tryd.f11) (.seq .nil (.seq .nil (.seq .nil (.seq .nil (.seq .nil (.seq (.blk (.loop ⟨f11_l0_ins, f11_l0_outs, f11_l0⟩)) .nil)))))) (em id f11_ins v).1 (em id f11_ins v).2 (ofin 0 f11_outs) = F11 f15 f16 f11_l0 v := by kernel_rfl
def C11 (v : List UInt8 × Unit) : Option (List ((Int × (List UInt8 × Int))) × Int × Int × Unit) := F11 C15 C16 C11_l0 v
theorem ok11 : FnOk Tryd.prog 11 ⟨f11_ins, f11_outs, C11⟩ :=
  fn_ok (np := 0) (n := (.seq .nil (.seq .nil (.seq .nil (.seq .nil (.seq .nil (.seq (.blk (.loop ⟨f11_l0_ins, f11_l0_outs, C11_l0⟩)) .nil))))))) hm hΓ (K := (fun f => Ae.look f [(15, ⟨f15_ins, f15_outs, C15⟩), (16, ⟨f16_ins, f16_outs, C16⟩)])) (kok_cons ok15 (kok_cons ok16 (kok_nil _))) Tryd.func11 (c := code Tryd.f11) (by kernel_rfl) (name_ne (by kernel_rfl))
    (ann_seq (a := (subc (code Tryd.f11) [0])) (b := (subc (code Tryd.f11) [1])) (by kernel_rfl) (ann_nil _) (ann_seq (a := (subc (code Tryd.f11) [1, 0])) (b := (subc (code Tryd.f11) [1, 1])) (by kernel_rfl) (ann_nil _) (ann_seq (a := (subc (code Tryd.f11) [1, 1, 0])) (b := (subc (code Tryd.f11) [1, 1, 1])) (by kernel_rfl) (ann_nil _) (ann_seq (a := (subc (code Tryd.f11) [1, 1, 1, 0])) (b := (subc (code Tryd.f11) [1, 1, 1, 1])) (by kernel_rfl) (ann_nil _) (ann_seq (a := (subc (code Tryd.f11) [1, 1, 1, 1, 0])) (b := (subc (code Tryd.f11) [1, 1, 1, 1, 1])) (by kernel_rfl) (ann_nil _) (ann_seq (a := (subc (code Tryd.f11) [1, 1, 1, 1, 1, 0])) (b := (subc (code Tryd.f11) [1, 1, 1, 1, 1, 1])) (by kernel_rfl) (ann_blk (x := (subc (code Tryd.f11) [1, 1, 1, 1, 1, 0, 0])) (by kernel_rfl) (ann_loop (x := (subc (code Tryd.f11) [1, 1, 1, 1, 1, 0, 0, 0])) (by kernel_rfl) k11_l0)) (ann_nil _))))))) (fun v => Nat.le_of_ble_eq_true (by kernel_rfl)) (fun v => h11 C15 C16 C11_l0 v)

def F14_l0  : List UInt8 × Int × Int × List UInt8 × Unit → Option ((List UInt8 × Int × Int × List UInt8 × Unit) ⊕ (List UInt8 × Unit)) := fun (x0, x1, x2, x3, _) =>
  bif decide (x2 < x1) then
    bif decide (0 ≤ x2) && decide (x2 < (↑x0.length : Int)) then
      bif (↑(x0.getD x2.toNat 0).toNat : Int) == 34 then
        bif decide (x3.length + [92].length ≤ 140737488355328 / 1) then
          bif decide (0 ≤ x2) && decide (x2 < (↑x0.length : Int)) then
            bif
                decide
                  ((x3 ++ [92]).length +
                      [UInt8.ofNat (↑(x0.getD x2.toNat 0).toNat : Int).toNat].length ≤
                    140737488355328 / 1) then
              some
                (Sum.inl
                  (x0, x1, IntKind.i64.wrap (x2 + 1),
                    x3 ++ [92] ++ [UInt8.ofNat (↑(x0.getD x2.toNat 0).toNat : Int).toNat],
                    ()))
            else none
          else none
        else none
      else
        bif decide (0 ≤ x2) && decide (x2 < (↑x0.length : Int)) then
          bif (↑(x0.getD x2.toNat 0).toNat : Int) == 92 then
            bif decide (x3.length + [92].length ≤ 140737488355328 / 1) then
              bif decide (0 ≤ x2) && decide (x2 < (↑x0.length : Int)) then
                bif
                    decide
                      ((x3 ++ [92]).length +
                          [UInt8.ofNat (↑(x0.getD x2.toNat 0).toNat : Int).toNat].length ≤
                        140737488355328 / 1) then
                  some
                    (Sum.inl
                      (x0, x1, IntKind.i64.wrap (x2 + 1),
                        x3 ++ [92] ++ [UInt8.ofNat (↑(x0.getD x2.toNat 0).toNat : Int).toNat],
                        ()))
                else none
              else none
            else none
          else
            bif decide (0 ≤ x2) && decide (x2 < (↑x0.length : Int)) then
              bif
                  decide
                    (x3.length + [UInt8.ofNat (↑(x0.getD x2.toNat 0).toNat : Int).toNat].length ≤
                      140737488355328 / 1) then
                some
                  (Sum.inl
                    (x0, x1, IntKind.i64.wrap (x2 + 1), x3 ++ [UInt8.ofNat (↑(x0.getD x2.toNat 0).toNat : Int).toNat],
                      ()))
              else none
            else none
        else none
    else none
  else some (Sum.inr (x3, ()))
theorem h14_l0  (v : HS f14_l0_ins) : aev Γ (fun f => Ae.look f []) 0 (subc (code Tryd.f14) [1, 1, 0, 1, 0, 0]) .nil (stof f14_l0_ins v) (around 0 f14_l0_ins f14_l0_outs) = F14_l0 v := by kernel_rfl
def C14_l0 (v : List UInt8 × Int × Int × List UInt8 × Unit) : Option (List UInt8 × Unit) := loopN (F14_l0) big v
theorem k14_l0 : FragOk Tryd.prog 0 (fun Q a w => (Code.loop (subc (code Tryd.f14) [1, 1, 0, 1, 0, 0])).wp Tryd.prog Q a w) ⟨f14_l0_ins, f14_l0_outs, C14_l0⟩ :=
  frag_loop (ins := f14_l0_ins) (os := f14_l0_outs) (np := 0) (n := .nil) (F := F14_l0) hm hΓ (K := (fun f => Ae.look f [])) (kok_nil _) (fun _ => big)
    (ann_nil _) (fun v => h14_l0 v)

def F14 (f14_l0 : List UInt8 × Int × Int × List UInt8 × Unit → Option (List UInt8 × Unit)) : List UInt8 × Unit → Option (List UInt8 × Unit) := fun (x0, _) =>
  (f14_l0 (x0, (↑x0.length : Int), 0, [], ())).bind fun val => some (val.fst, ())
theorem h14 (f14_l0 : HS f14_l0_ins → Option (OTy f14_l0_outs)) (v : HS f14_ins) : afun Γ (fun f => Ae.look f []) 0 Tryd.f14.ntmps Tryd.f14.results.toList (code Tryd.f14) (.seq .nil (.seq .nil (.seq (.seq .nil (.blk (.loop ⟨f14_l0_ins, f14_l0_outs, f14_l0⟩))) .nil))) (em id f14_ins v).1 (em id f14_ins v).2 (ofin 0 f14_outs) = F14 f14_l0 v := by kernel_rfl
def C14 (v : List UInt8 × Unit) : Option (List UInt8 × Unit) := F14 C14_l0 v
theorem ok14 : FnOk Tryd.prog 14 ⟨f14_ins, f14_outs, C14⟩ :=
  fn_ok (np := 0) (n := (.seq .nil (.seq .nil (.seq (.seq .nil (.blk (.loop ⟨f14_l0_ins, f14_l0_outs, C14_l0⟩))) .nil)))) hm hΓ (K := (fun f => Ae.look f [])) (kok_nil _) Tryd.func14 (c := code Tryd.f14) (by kernel_rfl) (name_ne (by kernel_rfl))
    (ann_seq (a := (subc (code Tryd.f14) [0])) (b := (subc (code Tryd.f14) [1])) (by kernel_rfl) (ann_nil _) (ann_seq (a := (subc (code Tryd.f14) [1, 0])) (b := (subc (code Tryd.f14) [1, 1])) (by kernel_rfl) (ann_nil _) (ann_seq (a := (subc (code Tryd.f14) [1, 1, 0])) (b := (subc (code Tryd.f14) [1, 1, 1])) (by kernel_rfl) (ann_seq (a := (subc (code Tryd.f14) [1, 1, 0, 0])) (b := (subc (code Tryd.f14) [1, 1, 0, 1])) (by kernel_rfl) (ann_nil _) (ann_blk (x := (subc (code Tryd.f14) [1, 1, 0, 1, 0])) (by kernel_rfl) (ann_loop (x := (subc (code Tryd.f14) [1, 1, 0, 1, 0, 0])) (by kernel_rfl) k14_l0))) (ann_nil _)))) (fun v => Nat.le_of_ble_eq_true (by kernel_rfl)) (fun v => h14 C14_l0 v)

def F9 (f14 : List UInt8 × Unit → Option (List UInt8 × Unit)) : Int × List UInt8 × Int × Unit → Option (List UInt8 × Unit) := fun (x0, x1, x2, _) =>
  bif x0 == 1 then
    (f14 (x1, ())).bind fun val =>
      bif decide ([34].length + List.length val.fst ≤ 9223372036854775807) then
        bif decide (([34] ++ val.fst).length + [34].length ≤ 9223372036854775807) then
          some ([34] ++ val.fst ++ [34], ())
        else none
      else none
  else
    bif x0 == 3 then
      bif decide ([40].length + x1.length ≤ 9223372036854775807) then
        bif decide (([40] ++ x1).length + [41].length ≤ 9223372036854775807) then
          some ([40] ++ x1 ++ [41], ())
        else none
      else none
    else
      bif x0 == 5 then
        bif decide ([91].length + x1.length ≤ 9223372036854775807) then
          bif decide (([91] ++ x1).length + [93].length ≤ 9223372036854775807) then
            some ([91] ++ x1 ++ [93], ())
          else none
        else none
      else some (x1, ())
theorem h9 (f14 : HS f14_ins → Option (OTy f14_outs)) (v : HS f9_ins) : afun Γ (fun f => Ae.look f [(14, ⟨f14_ins, f14_outs, f14⟩)]) 0 Tryd.f9.ntmps Tryd.f9.results.toList (code Tryd.f9) .nil (em id f9_ins v).1 (em id f9_ins v).2 (ofin 0 f9_outs) = F9 f14 v := by kernel_rfl
def C9 (v : Int × List UInt8 × Int × Unit) : Option (List UInt8 × Unit) := F9 C14 v
theorem ok9 : FnOk Tryd.prog 9 ⟨f9_ins, f9_outs, C9⟩ :=
  fn_ok (np := 0) (n := .nil) hm hΓ (K := (fun f => Ae.look f [(14, ⟨f14_ins, f14_outs, C14⟩)])) (kok_cons ok14 (kok_nil _)) Tryd.func9 (c := code Tryd.f9) (by kernel_rfl) (name_ne (by kernel_rfl))
    (ann_nil _) (fun v => Nat.le_of_ble_eq_true (by kernel_rfl)) (fun v => h9 C14 v)
end Go.Proofs.YtkmojkibclbmjaaDoor.W
