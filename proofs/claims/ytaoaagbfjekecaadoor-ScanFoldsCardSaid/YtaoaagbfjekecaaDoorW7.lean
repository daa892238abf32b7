/- Plain forms of functions. Written by a program. -/
import Derived.Test.YtaoaagbfjekecaaDoorW6
set_option maxRecDepth 100000
set_option linter.unusedVariables false
namespace Go.Proofs.YtaoaagbfjekecaaDoor.W
open Go Go.Ae

def F6 (f7 : Unit → Option (Bool × Unit)) (f11 : List ((List UInt8 × List UInt8)) × List ((List UInt8 × List UInt8)) × Unit → Option (Bool × Unit)) (f12 : List (List UInt8) × Unit → Option (List ((List UInt8 × List UInt8)) × Unit)) : List UInt8 × List UInt8 × Int × Unit → Option (Bool × Unit) := fun (x0, x1, x2, _) =>
  (f7 ()).bind fun val =>
    bif (↑x0.length : Int) == 0 then some (val.fst, ())
    else
      bif decide ((↑x0.length : Int) > 50) then some (val.fst, ())
      else
        bif decide ((↑x1.length : Int) > 100) then some (val.fst, ())
        else
          bif decide (x2 < 0) then some (val.fst, ())
          else
            bif decide (x2 ≥ (↑x1.length : Int)) then some (val.fst, ())
            else
              bif decide (0 ≤ x2) && decide (x2 < (↑x1.length : Int)) then
                bif (↑(x1.getD x2.toNat 0).toNat : Int) != 32 then
                  bif decide (0 ≤ x2) && decide (x2 < (↑x1.length : Int)) then
                    bif (↑(x1.getD x2.toNat 0).toNat : Int) != 9 then some (val.fst, ())
                    else
                      bif decide (x0.length + [58].length ≤ 9223372036854775807) then
                        bif decide ((x0 ++ [58]).length + x1.length ≤ 9223372036854775807) then
                          (f12 ([x0 ++ [58] ++ x1], ())).bind fun val_1 =>
                            bif decide (x0.length + [58].length ≤ 9223372036854775807) then
                              bif decide (0 ≤ x2) && decide (x2 ≤ (↑x1.length : Int)) then
                                bif
                                    decide
                                      ((x0 ++ [58]).length + (List.take x2.toNat x1).length ≤
                                        9223372036854775807) then
                                  bif decide (0 ≤ x2) && decide (x2 ≤ (↑x1.length : Int)) then
                                    (f12 ([x0 ++ [58] ++ List.take x2.toNat x1, List.drop x2.toNat x1], ())).bind
                                      fun val_2 =>
                                      bif val.fst then
                                        (f11 (val_1.fst, val_2.fst, ())).bind fun val => some (val.fst, ())
                                      else some (false, ())
                                  else none
                                else none
                              else none
                            else none
                        else none
                      else none
                  else none
                else
                  bif decide (x0.length + [58].length ≤ 9223372036854775807) then
                    bif decide ((x0 ++ [58]).length + x1.length ≤ 9223372036854775807) then
                      (f12 ([x0 ++ [58] ++ x1], ())).bind fun val_1 =>
                        bif decide (x0.length + [58].length ≤ 9223372036854775807) then
                          bif decide (0 ≤ x2) && decide (x2 ≤ (↑x1.length : Int)) then
                            bif
                                decide
                                  ((x0 ++ [58]).length + (List.take x2.toNat x1).length ≤
                                    9223372036854775807) then
                              bif decide (0 ≤ x2) && decide (x2 ≤ (↑x1.length : Int)) then
                                (f12 ([x0 ++ [58] ++ List.take x2.toNat x1, List.drop x2.toNat x1], ())).bind
                                  fun val_2 =>
                                  bif val.fst then
                                    (f11 (val_1.fst, val_2.fst, ())).bind fun val => some (val.fst, ())
                                  else some (false, ())
                              else none
                            else none
                          else none
                        else none
                    else none
                  else none
              else none
theorem h6 (f7 : HS f7_ins → Option (OTy f7_outs)) (f11 : HS f11_ins → Option (OTy f11_outs)) (f12 : HS f12_ins → Option (OTy f12_outs)) (v : HS f6_ins) : afun Γ (fun f => Ae.lookA f [(7, ⟨f7_ins, f7_outs, f7⟩), (11, ⟨f11_ins, f11_outs, f11⟩), (12, ⟨f12_ins, f12_outs, f12⟩)]) 0 Tryd.f6.ntmps Tryd.f6.results.toList (code Tryd.f6) .nil (em id f6_ins v).1 (em id f6_ins v).2 (ofin 0 f6_outs) = F6 f7 f11 f12 v := by kernel_rfl
def C6 (v : List UInt8 × List UInt8 × Int × Unit) : Option (Bool × Unit) := F6 C7 C11 C12 v
theorem ok6 : FnOk Tryd.prog 6 ⟨f6_ins, f6_outs, C6⟩ :=
  fn_ok (np := 0) (n := .nil) hm hΓ (K := (fun f => Ae.lookA f [(7, ⟨f7_ins, f7_outs, C7⟩), (11, ⟨f11_ins, f11_outs, C11⟩), (12, ⟨f12_ins, f12_outs, C12⟩)])) (kok_cons ok7 (kok_cons ok11 (kok_cons ok12 (kok_nil _)))) Tryd.func6 (c := code Tryd.f6) (by kernel_rfl) (name_ne (by kernel_rfl))
    (ann_nil _) (fun v => Nat.le_of_ble_eq_true (by kernel_rfl)) (fun v => h6 C7 C11 C12 v)
end Go.Proofs.YtaoaagbfjekecaaDoor.W
