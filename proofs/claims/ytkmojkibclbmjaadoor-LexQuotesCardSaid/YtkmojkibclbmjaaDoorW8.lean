/- Plain forms of functions. Written by a program. -/
import Derived.Test.YtkmojkibclbmjaaDoorW7
set_option maxRecDepth 100000
set_option linter.unusedVariables false
namespace Go.Proofs.YtkmojkibclbmjaaDoor.W
open Go Go.Ae

def F7_l0  : List UInt8 × Bool × Bool × Int × Unit → Option ((List UInt8 × Bool × Bool × Int × Unit) ⊕ (List UInt8 × Bool × Bool × Unit)) := fun (x0, x1, x2, x3, _) =>
  bif decide (x3 < (↑x0.length : Int)) then
    bif x2 then
      bif decide (0 ≤ x3) && decide (x3 < (↑x0.length : Int)) then
        bif (↑(x0.getD x3.toNat 0).toNat : Int) == 9 then
          some (Sum.inl (x0, x1, true, IntKind.i64.wrap (x3 + 1), ()))
        else
          bif decide (0 ≤ x3) && decide (x3 < (↑x0.length : Int)) then
            bif decide ((↑(x0.getD x3.toNat 0).toNat : Int) ≥ 32) then
              bif decide (0 ≤ x3) && decide (x3 < (↑x0.length : Int)) then
                some
                  (Sum.inl
                    (x0, x1, bif (↑(x0.getD x3.toNat 0).toNat : Int) == 127 then false else true,
                      IntKind.i64.wrap (x3 + 1), ()))
              else none
            else some (Sum.inl (x0, x1, false, IntKind.i64.wrap (x3 + 1), ()))
          else none
      else none
    else some (Sum.inl (x0, x1, false, IntKind.i64.wrap (x3 + 1), ()))
  else some (Sum.inr (x0, x1, x2, ()))
theorem h7_l0  (v : HS f7_l0_ins) : aev Γ (fun f => Ae.look f []) 0 (subc (code Tryd.f7) [1, 1, 1, 1, 0, 1, 0, 0]) .nil (stof f7_l0_ins v) (around 0 f7_l0_ins f7_l0_outs) = F7_l0 v := by kernel_rfl
def C7_l0 (v : List UInt8 × Bool × Bool × Int × Unit) : Option (List UInt8 × Bool × Bool × Unit) := loopN (F7_l0) big v
theorem k7_l0 : FragOk Tryd.prog 0 (fun Q a w => (Code.loop (subc (code Tryd.f7) [1, 1, 1, 1, 0, 1, 0, 0])).wp Tryd.prog Q a w) ⟨f7_l0_ins, f7_l0_outs, C7_l0⟩ :=
  frag_loop (ins := f7_l0_ins) (os := f7_l0_outs) (np := 0) (n := .nil) (F := F7_l0) hm hΓ (K := (fun f => Ae.look f [])) (kok_nil _) (fun _ => big)
    (ann_nil _) (fun v => h7_l0 v)

def F7 (f8 : Unit → Option (Bool × Unit)) (f9 : Int × List UInt8 × Int × Unit → Option (List UInt8 × Unit)) (f11 : List UInt8 × Unit → Option (List ((Int × (List UInt8 × Int))) × Int × Int × Unit)) (f7_l0 : List UInt8 × Bool × Bool × Int × Unit → Option (List UInt8 × Bool × Bool × Unit)) : List UInt8 × Unit → Option (Bool × Unit) := fun (x0, _) =>
  (f8 ()).bind fun val =>
    bif decide ((↑x0.length : Int) > 900) then some (val.fst, ())
    else
      (f7_l0 (x0, val.fst, true, 0, ())).bind fun val =>
        (f9 (1, val.fst, 0, ())).bind fun val_1 =>
          (f11 (val_1.fst, ())).bind fun val_2 =>
            bif val_2.snd.snd.fst == 7 then
              bif val.snd.fst then some ((↑(List.length val_2.fst) : Int) == 0, ()) else some (false, ())
            else
              bif val.snd.fst then
                bif (val_2.snd.snd.fst == 0) == val.snd.snd.fst then
                  bif !val.snd.snd.fst then some (true, ())
                  else
                    bif (↑(List.length val_2.fst) : Int) == 1 then
                      bif decide (0 < (↑(List.length val_2.fst) : Int)) then
                        bif
                            (List.getD val_2.fst 0
                                  (0, ([], 0))).fst ==
                              1 then
                          bif decide (0 < (↑(List.length val_2.fst) : Int)) then
                            some
                              ((List.getD val_2.fst 0
                                        (0, ([], 0))).snd.fst ==
                                  val.fst,
                                ())
                          else none
                        else some (false, ())
                      else none
                    else some (false, ())
                else some (false, ())
              else some (false, ())
theorem h7 (f8 : HS f8_ins → Option (OTy f8_outs)) (f9 : HS f9_ins → Option (OTy f9_outs)) (f11 : HS f11_ins → Option (OTy f11_outs)) (f7_l0 : HS f7_l0_ins → Option (OTy f7_l0_outs)) (v : HS f7_ins) : afun Γ (fun f => Ae.look f [(8, ⟨f8_ins, f8_outs, f8⟩), (9, ⟨f9_ins, f9_outs, f9⟩), (11, ⟨f11_ins, f11_outs, f11⟩)]) 0 Tryd.f7.ntmps Tryd.f7.results.toList (code Tryd.f7) (.seq .nil (.seq .nil (.seq .nil (.seq .nil (.seq (.seq .nil (.blk (.loop ⟨f7_l0_ins, f7_l0_outs, f7_l0⟩))) .nil))))) (em id f7_ins v).1 (em id f7_ins v).2 (ofin 0 f7_outs) = F7 f8 f9 f11 f7_l0 v := by kernel_rfl
def C7 (v : List UInt8 × Unit) : Option (Bool × Unit) := F7 C8 C9 C11 C7_l0 v
theorem ok7 : FnOk Tryd.prog 7 ⟨f7_ins, f7_outs, C7⟩ :=
  fn_ok (np := 0) (n := (.seq .nil (.seq .nil (.seq .nil (.seq .nil (.seq (.seq .nil (.blk (.loop ⟨f7_l0_ins, f7_l0_outs, C7_l0⟩))) .nil)))))) hm hΓ (K := (fun f => Ae.look f [(8, ⟨f8_ins, f8_outs, C8⟩), (9, ⟨f9_ins, f9_outs, C9⟩), (11, ⟨f11_ins, f11_outs, C11⟩)])) (kok_cons ok8 (kok_cons ok9 (kok_cons ok11 (kok_nil _)))) Tryd.func7 (c := code Tryd.f7) (by kernel_rfl) (name_ne (by kernel_rfl))
    (ann_seq (a := (subc (code Tryd.f7) [0])) (b := (subc (code Tryd.f7) [1])) (by kernel_rfl) (ann_nil _) (ann_seq (a := (subc (code Tryd.f7) [1, 0])) (b := (subc (code Tryd.f7) [1, 1])) (by kernel_rfl) (ann_nil _) (ann_seq (a := (subc (code Tryd.f7) [1, 1, 0])) (b := (subc (code Tryd.f7) [1, 1, 1])) (by kernel_rfl) (ann_nil _) (ann_seq (a := (subc (code Tryd.f7) [1, 1, 1, 0])) (b := (subc (code Tryd.f7) [1, 1, 1, 1])) (by kernel_rfl) (ann_nil _) (ann_seq (a := (subc (code Tryd.f7) [1, 1, 1, 1, 0])) (b := (subc (code Tryd.f7) [1, 1, 1, 1, 1])) (by kernel_rfl) (ann_seq (a := (subc (code Tryd.f7) [1, 1, 1, 1, 0, 0])) (b := (subc (code Tryd.f7) [1, 1, 1, 1, 0, 1])) (by kernel_rfl) (ann_nil _) (ann_blk (x := (subc (code Tryd.f7) [1, 1, 1, 1, 0, 1, 0])) (by kernel_rfl) (ann_loop (x := (subc (code Tryd.f7) [1, 1, 1, 1, 0, 1, 0, 0])) (by kernel_rfl) k7_l0))) (ann_nil _)))))) (fun v => Nat.le_of_ble_eq_true (by kernel_rfl)) (fun v => h7 C8 C9 C11 C7_l0 v)
end Go.Proofs.YtkmojkibclbmjaaDoor.W
