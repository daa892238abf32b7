/- Plain forms of functions. Written by a program. -/
import Derived.Test.YtkmojkibclbmjaaDoorW6
set_option maxRecDepth 100000
set_option linter.unusedVariables false
namespace Go.Proofs.YtkmojkibclbmjaaDoor.W
open Go Go.Ae

def F4_l0 (f9 : Int × List UInt8 × Int × Unit → Option (List UInt8 × Unit)) : List UInt8 × Bool × List ((Int × (List UInt8 × Int))) × List UInt8 × Bool × Int × Unit → Option ((List UInt8 × Bool × List ((Int × (List UInt8 × Int))) × List UInt8 × Bool × Int × Unit) ⊕ (List UInt8 × Bool × List ((Int × (List UInt8 × Int))) × List UInt8 × Bool × Unit)) := fun (x0, x1, x2, x3, x4, x5, _) =>
  bif decide (x5 < (↑x2.length : Int)) then
    bif decide (0 ≤ x5) && decide (x5 < (↑x2.length : Int)) then
      (f9
            ((x2.getD x5.toNat (0, ([], 0))).fst,
              (x2.getD x5.toNat (0, ([], 0))).snd.fst,
              (x2.getD x5.toNat (0, ([], 0))).snd.snd, ())).bind
        fun val =>
        bif decide (x3.length + List.length val.fst ≤ 9223372036854775807) then
          bif x4 then some (Sum.inl (x0, x1, x2, x3 ++ val.fst, true, IntKind.i64.wrap (x5 + 1), ()))
          else
            bif decide (0 ≤ x5) && decide (x5 < (↑x2.length : Int)) then
              some
                (Sum.inl
                  (x0, x1, x2, x3 ++ val.fst,
                    (x2.getD x5.toNat (0, ([], 0))).fst == 1,
                    IntKind.i64.wrap (x5 + 1), ()))
            else none
        else none
    else none
  else some (Sum.inr (x0, x1, x2, x3, x4, ()))
theorem h4_l0 (f9 : HS f9_ins → Option (OTy f9_outs)) (v : HS f4_l0_ins) : aev Γ (fun f => Ae.look f [(9, ⟨f9_ins, f9_outs, f9⟩)]) 0 (subc (code Tryd.f4) [1, 1, 1, 1, 1, 1, 1, 0, 1, 0, 0]) .nil (stof f4_l0_ins v) (around 0 f4_l0_ins f4_l0_outs) = F4_l0 f9 v := by kernel_rfl
def C4_l0 (v : List UInt8 × Bool × List ((Int × (List UInt8 × Int))) × List UInt8 × Bool × Int × Unit) : Option (List UInt8 × Bool × List ((Int × (List UInt8 × Int))) × List UInt8 × Bool × Unit) := loopN (F4_l0 C9) big v
theorem k4_l0 : FragOk Tryd.prog 0 (fun Q a w => (Code.loop (subc (code Tryd.f4) [1, 1, 1, 1, 1, 1, 1, 0, 1, 0, 0])).wp Tryd.prog Q a w) ⟨f4_l0_ins, f4_l0_outs, C4_l0⟩ :=
  frag_loop (ins := f4_l0_ins) (os := f4_l0_outs) (np := 0) (n := .nil) (F := F4_l0 C9) hm hΓ (K := (fun f => Ae.look f [(9, ⟨f9_ins, f9_outs, C9⟩)])) (kok_cons ok9 (kok_nil _)) (fun _ => big)
    (ann_nil _) (fun v => h4_l0 C9 v)

def F4_l1  : Bool × List ((Int × (List UInt8 × Int))) × List ((Int × (List UInt8 × Int))) × Int × Unit → Option ((Bool × List ((Int × (List UInt8 × Int))) × List ((Int × (List UInt8 × Int))) × Int × Unit) ⊕ ((Bool × Unit) ⊕ (Bool × Unit))) := fun (x0, x1, x2, x3, _) =>
  bif decide (x3 < (↑x1.length : Int)) then
    bif decide (0 ≤ x3) && decide (x3 < (↑x2.length : Int)) then
      bif decide (0 ≤ x3) && decide (x3 < (↑x1.length : Int)) then
        bif
            (x2.getD x3.toNat (0, ([], 0))).fst !=
              (x1.getD x3.toNat (0, ([], 0))).fst then
          some (Sum.inr (Sum.inr (false, ())))
        else
          bif decide (0 ≤ x3) && decide (x3 < (↑x2.length : Int)) then
            bif decide (0 ≤ x3) && decide (x3 < (↑x1.length : Int)) then
              bif
                  !(x2.getD x3.toNat (0, ([], 0))).snd.fst ==
                      (x1.getD x3.toNat (0, ([], 0))).snd.fst then
                some (Sum.inr (Sum.inr (false, ())))
              else some (Sum.inl (x0, x1, x2, IntKind.i64.wrap (x3 + 1), ()))
            else none
          else none
      else none
    else none
  else some (Sum.inr (Sum.inl (x0, ())))
theorem h4_l1  (v : HS f4_l1_ins) : aev Γ (fun f => Ae.look f []) 0 (subc (code Tryd.f4) [1, 1, 1, 1, 1, 1, 1, 1, 1, 1, 0, 1, 0, 0]) .nil (stof f4_l1_ins v) (around 0 f4_l1_ins f4_l1_outs) = F4_l1 v := by kernel_rfl
def C4_l1 (v : Bool × List ((Int × (List UInt8 × Int))) × List ((Int × (List UInt8 × Int))) × Int × Unit) : Option ((Bool × Unit) ⊕ (Bool × Unit)) := loopN (F4_l1) big v
theorem k4_l1 : FragOk Tryd.prog 0 (fun Q a w => (Code.loop (subc (code Tryd.f4) [1, 1, 1, 1, 1, 1, 1, 1, 1, 1, 0, 1, 0, 0])).wp Tryd.prog Q a w) ⟨f4_l1_ins, f4_l1_outs, C4_l1⟩ :=
  frag_loop (ins := f4_l1_ins) (os := f4_l1_outs) (np := 0) (n := .nil) (F := F4_l1) hm hΓ (K := (fun f => Ae.look f [])) (kok_nil _) (fun _ => big)
    (ann_nil _) (fun v => h4_l1 v)

def F4 (f8 : Unit → Option (Bool × Unit)) (f9 : Int × List UInt8 × Int × Unit → Option (List UInt8 × Unit)) (f11 : List UInt8 × Unit → Option (List ((Int × (List UInt8 × Int))) × Int × Int × Unit)) (f4_l0 : List UInt8 × Bool × List ((Int × (List UInt8 × Int))) × List UInt8 × Bool × Int × Unit → Option (List UInt8 × Bool × List ((Int × (List UInt8 × Int))) × List UInt8 × Bool × Unit)) (f4_l1 : Bool × List ((Int × (List UInt8 × Int))) × List ((Int × (List UInt8 × Int))) × Int × Unit → Option ((Bool × Unit) ⊕ (Bool × Unit))) : List UInt8 × Unit → Option (Bool × Unit) := fun (x0, _) =>
  (f8 ()).bind fun val =>
    bif decide ((↑x0.length : Int) > 900) then some (val.fst, ())
    else
      (f11 (x0, ())).bind fun val_1 =>
        bif val_1.snd.snd.fst != 0 then
          bif val.fst then some ((↑(List.length val_1.fst) : Int) == 0, ()) else some (false, ())
        else
          (f4_l0 (x0, val.fst, val_1.fst, [], false, 0, ())).bind fun val =>
            (f11 (val.snd.snd.snd.fst, ())).bind fun val_2 =>
              bif val_2.snd.snd.fst != 0 then some (false, ())
              else
                bif (↑(List.length val_2.fst) : Int) != (↑(List.length val.snd.snd.fst) : Int) then
                  some (false, ())
                else
                  bif !val.snd.snd.snd.snd.fst then
                    bif !val.snd.snd.snd.fst == val.fst then some (false, ())
                    else
                      (f4_l1 (val.snd.fst, val.snd.snd.fst, val_2.fst, 0, ())).bind fun val =>
                        Sum.elim (fun val => some (val.fst, ())) (fun val => some (val.fst, ())) val
                  else
                    (f4_l1 (val.snd.fst, val.snd.snd.fst, val_2.fst, 0, ())).bind fun val =>
                      Sum.elim (fun val => some (val.fst, ())) (fun val => some (val.fst, ())) val
theorem h4 (f8 : HS f8_ins → Option (OTy f8_outs)) (f9 : HS f9_ins → Option (OTy f9_outs)) (f11 : HS f11_ins → Option (OTy f11_outs)) (f4_l0 : HS f4_l0_ins → Option (OTy f4_l0_outs)) (f4_l1 : HS f4_l1_ins → Option (OTy f4_l1_outs)) (v : HS f4_ins) : afun Γ (fun f => Ae.look f [(8, ⟨f8_ins, f8_outs, f8⟩), (9, ⟨f9_ins, f9_outs, f9⟩), (11, ⟨f11_ins, f11_outs, f11⟩)]) 0 Tryd.f4.ntmps Tryd.f4.results.toList (code Tryd.f4) (.seq .nil (.seq .nil (.seq .nil (.seq .nil (.seq .nil (.seq .nil (.seq .nil (.seq (.seq .nil (.blk (.loop ⟨f4_l0_ins, f4_l0_outs, f4_l0⟩))) (.seq .nil (.seq .nil (.seq (.seq .nil (.blk (.loop ⟨f4_l1_ins, f4_l1_outs, f4_l1⟩))) .nil))))))))))) (em id f4_ins v).1 (em id f4_ins v).2 (ofin 0 f4_outs) = F4 f8 f9 f11 f4_l0 f4_l1 v := by kernel_rfl
def C4 (v : List UInt8 × Unit) : Option (Bool × Unit) := F4 C8 C9 C11 C4_l0 C4_l1 v
theorem ok4 : FnOk Tryd.prog 4 ⟨f4_ins, f4_outs, C4⟩ :=
  fn_ok (np := 0) (n := (.seq .nil (.seq .nil (.seq .nil (.seq .nil (.seq .nil (.seq .nil (.seq .nil (.seq (.seq .nil (.blk (.loop ⟨f4_l0_ins, f4_l0_outs, C4_l0⟩))) (.seq .nil (.seq .nil (.seq (.seq .nil (.blk (.loop ⟨f4_l1_ins, f4_l1_outs, C4_l1⟩))) .nil)))))))))))) hm hΓ (K := (fun f => Ae.look f [(8, ⟨f8_ins, f8_outs, C8⟩), (9, ⟨f9_ins, f9_outs, C9⟩), (11, ⟨f11_ins, f11_outs, C11⟩)])) (kok_cons ok8 (kok_cons ok9 (kok_cons ok11 (kok_nil _)))) Tryd.func4 (c := code Tryd.f4) (by kernel_rfl) (name_ne (by kernel_rfl))
    (ann_seq (a := (subc (code Tryd.f4) [0])) (b := (subc (code Tryd.f4) [1])) (by kernel_rfl) (ann_nil _) (ann_seq (a := (subc (code Tryd.f4) [1, 0])) (b := (subc (code Tryd.f4) [1, 1])) (by kernel_rfl) (ann_nil _) (ann_seq (a := (subc (code Tryd.f4) [1, 1, 0])) (b := (subc (code Tryd.f4) [1, 1, 1])) (by kernel_rfl) (ann_nil _) (ann_seq (a := (subc (code Tryd.f4) [1, 1, 1, 0])) (b := (subc (code Tryd.f4) [1, 1, 1, 1])) (by kernel_rfl) (ann_nil _) (ann_seq (a := (subc (code Tryd.f4) [1, 1, 1, 1, 0])) (b := (subc (code Tryd.f4) [1, 1, 1, 1, 1])) (by kernel_rfl) (ann_nil _) (ann_seq (a := (subc (code Tryd.f4) [1, 1, 1, 1, 1, 0])) (b := (subc (code Tryd.f4) [1, 1, 1, 1, 1, 1])) (by kernel_rfl) (ann_nil _) (ann_seq (a := (subc (code Tryd.f4) [1, 1, 1, 1, 1, 1, 0])) (b := (subc (code Tryd.f4) [1, 1, 1, 1, 1, 1, 1])) (by kernel_rfl) (ann_nil _) (ann_seq (a := (subc (code Tryd.f4) [1, 1, 1, 1, 1, 1, 1, 0])) (b := (subc (code Tryd.f4) [1, 1, 1, 1, 1, 1, 1, 1])) (by kernel_rfl) (ann_seq (a := (subc (code Tryd.f4) [1, 1, 1, 1, 1, 1, 1, 0, 0])) (b := (subc (code Tryd.f4) [1, 1, 1, 1, 1, 1, 1, 0, 1])) (by kernel_rfl) (ann_nil _) (ann_blk (x := (subc (code Tryd.f4) [1, 1, 1, 1, 1, 1, 1, 0, 1, 0])) (by kernel_rfl) (ann_loop (x := (subc (code Tryd.f4) [1, 1, 1, 1, 1, 1, 1, 0, 1, 0, 0])) (by kernel_rfl) k4_l0))) (ann_seq (a := (subc (code Tryd.f4) [1, 1, 1, 1, 1, 1, 1, 1, 0])) (b := (subc (code Tryd.f4) [1, 1, 1, 1, 1, 1, 1, 1, 1])) (by kernel_rfl) (ann_nil _) (ann_seq (a := (subc (code Tryd.f4) [1, 1, 1, 1, 1, 1, 1, 1, 1, 0])) (b := (subc (code Tryd.f4) [1, 1, 1, 1, 1, 1, 1, 1, 1, 1])) (by kernel_rfl) (ann_nil _) (ann_seq (a := (subc (code Tryd.f4) [1, 1, 1, 1, 1, 1, 1, 1, 1, 1, 0])) (b := (subc (code Tryd.f4) [1, 1, 1, 1, 1, 1, 1, 1, 1, 1, 1])) (by kernel_rfl) (ann_seq (a := (subc (code Tryd.f4) [1, 1, 1, 1, 1, 1, 1, 1, 1, 1, 0, 0])) (b := (subc (code Tryd.f4) [1, 1, 1, 1, 1, 1, 1, 1, 1, 1, 0, 1])) (by kernel_rfl) (ann_nil _) (ann_blk (x := (subc (code Tryd.f4) [1, 1, 1, 1, 1, 1, 1, 1, 1, 1, 0, 1, 0])) (by kernel_rfl) (ann_loop (x := (subc (code Tryd.f4) [1, 1, 1, 1, 1, 1, 1, 1, 1, 1, 0, 1, 0, 0])) (by kernel_rfl) k4_l1))) (ann_nil _)))))))))))) (fun v => Nat.le_of_ble_eq_true (by kernel_rfl)) (fun v => h4 C8 C9 C11 C4_l0 C4_l1 v)

def F5_c0 (f9 : Int × List UInt8 × Int × Unit → Option (List UInt8 × Unit)) : List UInt8 × Bool × List ((Int × (List UInt8 × Int))) × Int × Int × Unit → Option ((Bool × Unit) ⊕ (List UInt8 × Bool × List ((Int × (List UInt8 × Int))) × Int × Unit)) := fun (x0, x1, x2, x3, x4, _) =>
  bif x3 == 0 then
    bif decide (0 ≤ x3) && decide (x3 < (↑x2.length : Int)) then
      bif (x2.getD x3.toNat (0, ([], 0))).snd.snd != 0 then
        some (Sum.inl (false, ()))
      else
        bif decide (0 ≤ x3) && decide (x3 < (↑x2.length : Int)) then
          bif
              decide
                ((x2.getD x3.toNat (0, ([], 0))).snd.snd ≥ x4) then
            some (Sum.inl (false, ()))
          else
            bif decide (0 ≤ x3) && decide (x3 < (↑x2.length : Int)) then
              bif decide (0 ≤ x4) && decide (x4 ≤ (↑x0.length : Int)) then
                bif
                    decide
                        (0 ≤
                          (x2.getD x3.toNat
                                (0, ([], 0))).snd.snd) &&
                      decide
                        ((x2.getD x3.toNat (0, ([], 0))).snd.snd ≤
                          x4) then
                  bif decide (0 ≤ x3) && decide (x3 < (↑x2.length : Int)) then
                    bif
                        (x2.getD x3.toNat (0, ([], 0))).fst !=
                          1 then
                      bif decide (0 ≤ x3) && decide (x3 < (↑x2.length : Int)) then
                        (f9
                              ((x2.getD x3.toNat (0, ([], 0))).fst,
                                (x2.getD x3.toNat
                                      (0, ([], 0))).snd.fst,
                                (x2.getD x3.toNat
                                      (0, ([], 0))).snd.snd,
                                ())).bind
                          fun val =>
                          bif
                              !val.fst ==
                                  List.drop
                                    (Int.toNat
                                      (x2.getD x3.toNat
                                            (0, ([], 0))).snd.snd)
                                    (List.take x4.toNat x0) then
                            some (Sum.inl (false, ()))
                          else
                            bif
                                (x2.getD x3.toNat
                                      (0, ([], 0))).fst ==
                                  1 then
                              bif decide (0 ≤ x3) && decide (x3 < (↑x2.length : Int)) then
                                bif
                                    decide
                                      ((↑(List.drop
                                                (Int.toNat
                                                  (x2.getD x3.toNat
                                                        (0, ([], 0))).snd.snd)
                                                (List.take x4.toNat x0)).length :
                                          Int) <
                                        IntKind.i64.wrap
                                          ((↑(List.length
                                                  (x2.getD x3.toNat
                                                        (0, ([], 0))).snd.fst) :
                                              Int) +
                                            2)) then
                                  some (Sum.inl (false, ()))
                                else
                                  bif
                                                                            decide
                                          (0 <
                                            (↑(List.drop
                                                    (Int.toNat
                                                      (x2.getD x3.toNat
                                                            (0, ([], 0))).snd.snd)
                                                    (List.take x4.toNat x0)).length :
                                              Int)) then
                                    bif
                                        (↑((List.drop
                                                      (Int.toNat
                                                        (x2.getD x3.toNat
                                                              (0, ([], 0))).snd.snd)
                                                      (List.take x4.toNat x0)).getD
                                                  0 0).toNat :
                                            Int) !=
                                          34 then
                                      some (Sum.inl (false, ()))
                                    else some (Sum.inr (x0, x1, x2, x3, ()))
                                  else none
                              else none
                            else some (Sum.inr (x0, x1, x2, x3, ()))
                      else none
                    else
                      bif
                          (x2.getD x3.toNat (0, ([], 0))).fst ==
                            1 then
                        bif decide (0 ≤ x3) && decide (x3 < (↑x2.length : Int)) then
                          bif
                              decide
                                ((↑(List.drop
                                          (Int.toNat
                                            (x2.getD x3.toNat
                                                  (0, ([], 0))).snd.snd)
                                          (List.take x4.toNat x0)).length :
                                    Int) <
                                  IntKind.i64.wrap
                                    ((↑(List.length
                                            (x2.getD x3.toNat
                                                  (0, ([], 0))).snd.fst) :
                                        Int) +
                                      2)) then
                            some (Sum.inl (false, ()))
                          else
                            bif
                                                                decide
                                    (0 <
                                      (↑(List.drop
                                              (Int.toNat
                                                (x2.getD x3.toNat
                                                      (0, ([], 0))).snd.snd)
                                              (List.take x4.toNat x0)).length :
                                        Int)) then
                              bif
                                  (↑((List.drop
                                                (Int.toNat
                                                  (x2.getD x3.toNat
                                                        (0, ([], 0))).snd.snd)
                                                (List.take x4.toNat x0)).getD
                                            0 0).toNat :
                                      Int) !=
                                    34 then
                                some (Sum.inl (false, ()))
                              else some (Sum.inr (x0, x1, x2, x3, ()))
                            else none
                        else none
                      else some (Sum.inr (x0, x1, x2, x3, ()))
                  else none
                else none
              else none
            else none
        else none
    else none
  else
    bif decide (0 ≤ x3) && decide (x3 < (↑x2.length : Int)) then
      bif
          decide
            ((x2.getD x3.toNat (0, ([], 0))).snd.snd ≥ x4) then
        some (Sum.inl (false, ()))
      else
        bif decide (0 ≤ x3) && decide (x3 < (↑x2.length : Int)) then
          bif decide (0 ≤ x4) && decide (x4 ≤ (↑x0.length : Int)) then
            bif
                decide
                    (0 ≤
                      (x2.getD x3.toNat (0, ([], 0))).snd.snd) &&
                  decide
                    ((x2.getD x3.toNat (0, ([], 0))).snd.snd ≤
                      x4) then
              bif decide (0 ≤ x3) && decide (x3 < (↑x2.length : Int)) then
                bif (x2.getD x3.toNat (0, ([], 0))).fst != 1 then
                  bif decide (0 ≤ x3) && decide (x3 < (↑x2.length : Int)) then
                    (f9
                          ((x2.getD x3.toNat (0, ([], 0))).fst,
                            (x2.getD x3.toNat
                                  (0, ([], 0))).snd.fst,
                            (x2.getD x3.toNat
                                  (0, ([], 0))).snd.snd,
                            ())).bind
                      fun val =>
                      bif
                          !val.fst ==
                              List.drop
                                (Int.toNat
                                  (x2.getD x3.toNat
                                        (0, ([], 0))).snd.snd)
                                (List.take x4.toNat x0) then
                        some (Sum.inl (false, ()))
                      else
                        bif
                            (x2.getD x3.toNat (0, ([], 0))).fst ==
                              1 then
                          bif decide (0 ≤ x3) && decide (x3 < (↑x2.length : Int)) then
                            bif
                                decide
                                  ((↑(List.drop
                                            (Int.toNat
                                              (x2.getD x3.toNat
                                                    (0, ([], 0))).snd.snd)
                                            (List.take x4.toNat x0)).length :
                                      Int) <
                                    IntKind.i64.wrap
                                      ((↑(List.length
                                              (x2.getD x3.toNat
                                                    (0, ([], 0))).snd.fst) :
                                          Int) +
                                        2)) then
                              some (Sum.inl (false, ()))
                            else
                              bif
                                                                    decide
                                      (0 <
                                        (↑(List.drop
                                                (Int.toNat
                                                  (x2.getD x3.toNat
                                                        (0, ([], 0))).snd.snd)
                                                (List.take x4.toNat x0)).length :
                                          Int)) then
                                bif
                                    (↑((List.drop
                                                  (Int.toNat
                                                    (x2.getD x3.toNat
                                                          (0, ([], 0))).snd.snd)
                                                  (List.take x4.toNat x0)).getD
                                              0 0).toNat :
                                        Int) !=
                                      34 then
                                  some (Sum.inl (false, ()))
                                else some (Sum.inr (x0, x1, x2, x3, ()))
                              else none
                          else none
                        else some (Sum.inr (x0, x1, x2, x3, ()))
                  else none
                else
                  bif (x2.getD x3.toNat (0, ([], 0))).fst == 1 then
                    bif decide (0 ≤ x3) && decide (x3 < (↑x2.length : Int)) then
                      bif
                          decide
                            ((↑(List.drop
                                      (Int.toNat
                                        (x2.getD x3.toNat
                                              (0, ([], 0))).snd.snd)
                                      (List.take x4.toNat x0)).length :
                                Int) <
                              IntKind.i64.wrap
                                ((↑(List.length
                                        (x2.getD x3.toNat
                                              (0, ([], 0))).snd.fst) :
                                    Int) +
                                  2)) then
                        some (Sum.inl (false, ()))
                      else
                        bif
                                                        decide
                                (0 <
                                  (↑(List.drop
                                          (Int.toNat
                                            (x2.getD x3.toNat
                                                  (0, ([], 0))).snd.snd)
                                          (List.take x4.toNat x0)).length :
                                    Int)) then
                          bif
                              (↑((List.drop
                                            (Int.toNat
                                              (x2.getD x3.toNat
                                                    (0, ([], 0))).snd.snd)
                                            (List.take x4.toNat x0)).getD
                                        0 0).toNat :
                                  Int) !=
                                34 then
                            some (Sum.inl (false, ()))
                          else some (Sum.inr (x0, x1, x2, x3, ()))
                        else none
                    else none
                  else some (Sum.inr (x0, x1, x2, x3, ()))
              else none
            else none
          else none
        else none
    else none
theorem h5_c0 (f9 : HS f9_ins → Option (OTy f9_outs)) (v : HS f5_c0_ins) : aev Γ (fun f => Ae.look f [(9, ⟨f9_ins, f9_outs, f9⟩)]) 0 (subc (code Tryd.f5) [1, 1, 1, 1, 1, 1, 0, 1, 0, 0, 1, 0, 0, 1, 1]) .nil (stof f5_c0_ins v) (oout 0 f5_c0_outs) = F5_c0 f9 v := by kernel_rfl
def C5_c0 (v : List UInt8 × Bool × List ((Int × (List UInt8 × Int))) × Int × Int × Unit) : Option ((Bool × Unit) ⊕ (List UInt8 × Bool × List ((Int × (List UInt8 × Int))) × Int × Unit)) := F5_c0 C9 v
theorem k5_c0 : FragOk Tryd.prog 0 (fun Q a w => ((subc (code Tryd.f5) [1, 1, 1, 1, 1, 1, 0, 1, 0, 0, 1, 0, 0, 1, 1])).wp Tryd.prog Q a w) ⟨f5_c0_ins, f5_c0_outs, C5_c0⟩ :=
  frag_code (ins := f5_c0_ins) (os := f5_c0_outs) (np := 0) (n := .nil) (F := C5_c0) hm hΓ (K := (fun f => Ae.look f [(9, ⟨f9_ins, f9_outs, C9⟩)])) (kok_cons ok9 (kok_nil _))
    (ann_nil _) (fun v => h5_c0 C9 v)

def F5_l0 (f9 : Int × List UInt8 × Int × Unit → Option (List UInt8 × Unit)) (f5_c0 : List UInt8 × Bool × List ((Int × (List UInt8 × Int))) × Int × Int × Unit → Option ((Bool × Unit) ⊕ (List UInt8 × Bool × List ((Int × (List UInt8 × Int))) × Int × Unit))) : List UInt8 × Bool × List ((Int × (List UInt8 × Int))) × Int × Unit → Option ((List UInt8 × Bool × List ((Int × (List UInt8 × Int))) × Int × Unit) ⊕ ((Bool × Unit) ⊕ (Bool × Unit))) := fun (x0, x1, x2, x3, _) =>
  bif decide (x3 < (↑x2.length : Int)) then
    bif decide (IntKind.i64.wrap (x3 + 1) < (↑x2.length : Int)) then
      bif decide (0 ≤ IntKind.i64.wrap (x3 + 1)) && decide (IntKind.i64.wrap (x3 + 1) < (↑x2.length : Int)) then
        (f5_c0
              (x0, x1, x2, x3,
                (x2.getD (IntKind.i64.wrap (x3 + 1)).toNat
                      (0, ([], 0))).snd.snd,
                ())).bind
          fun val =>
          Sum.elim (fun val => some (Sum.inr (Sum.inr (val.fst, ()))))
            (fun val =>
              some
                (Sum.inl (val.fst, val.snd.fst, val.snd.snd.fst, IntKind.i64.wrap (val.snd.snd.snd.fst + 1), ())))
            val
      else none
    else
      (f5_c0 (x0, x1, x2, x3, (↑x0.length : Int), ())).bind fun val =>
        Sum.elim (fun val => some (Sum.inr (Sum.inr (val.fst, ()))))
          (fun val =>
            some
              (Sum.inl (val.fst, val.snd.fst, val.snd.snd.fst, IntKind.i64.wrap (val.snd.snd.snd.fst + 1), ())))
          val
  else some (Sum.inr (Sum.inl (x1, ())))
theorem h5_l0 (f9 : HS f9_ins → Option (OTy f9_outs)) (f5_c0 : HS f5_c0_ins → Option (OTy f5_c0_outs)) (v : HS f5_l0_ins) : aev Γ (fun f => Ae.look f [(9, ⟨f9_ins, f9_outs, f9⟩)]) 0 (subc (code Tryd.f5) [1, 1, 1, 1, 1, 1, 0, 1, 0, 0]) (.seq .nil (.seq (.blk (.seq .nil (.cut .nil ⟨f5_c0_ins, f5_c0_outs, f5_c0⟩))) .nil)) (stof f5_l0_ins v) (around 0 f5_l0_ins f5_l0_outs) = F5_l0 f9 f5_c0 v := by kernel_rfl
def C5_l0 (v : List UInt8 × Bool × List ((Int × (List UInt8 × Int))) × Int × Unit) : Option ((Bool × Unit) ⊕ (Bool × Unit)) := loopN (F5_l0 C9 C5_c0) big v
theorem k5_l0 : FragOk Tryd.prog 0 (fun Q a w => (Code.loop (subc (code Tryd.f5) [1, 1, 1, 1, 1, 1, 0, 1, 0, 0])).wp Tryd.prog Q a w) ⟨f5_l0_ins, f5_l0_outs, C5_l0⟩ :=
  frag_loop (ins := f5_l0_ins) (os := f5_l0_outs) (np := 0) (n := (.seq .nil (.seq (.blk (.seq .nil (.cut .nil ⟨f5_c0_ins, f5_c0_outs, C5_c0⟩))) .nil))) (F := F5_l0 C9 C5_c0) hm hΓ (K := (fun f => Ae.look f [(9, ⟨f9_ins, f9_outs, C9⟩)])) (kok_cons ok9 (kok_nil _)) (fun _ => big)
    (ann_seq (a := (subc (code Tryd.f5) [1, 1, 1, 1, 1, 1, 0, 1, 0, 0, 0])) (b := (subc (code Tryd.f5) [1, 1, 1, 1, 1, 1, 0, 1, 0, 0, 1])) (by kernel_rfl) (ann_nil _) (ann_seq (a := (subc (code Tryd.f5) [1, 1, 1, 1, 1, 1, 0, 1, 0, 0, 1, 0])) (b := (subc (code Tryd.f5) [1, 1, 1, 1, 1, 1, 0, 1, 0, 0, 1, 1])) (by kernel_rfl) (ann_blk (x := (subc (code Tryd.f5) [1, 1, 1, 1, 1, 1, 0, 1, 0, 0, 1, 0, 0])) (by kernel_rfl) (ann_seq (a := (subc (code Tryd.f5) [1, 1, 1, 1, 1, 1, 0, 1, 0, 0, 1, 0, 0, 0])) (b := (subc (code Tryd.f5) [1, 1, 1, 1, 1, 1, 0, 1, 0, 0, 1, 0, 0, 1])) (by kernel_rfl) (ann_nil _) (ann_cut (a := (subc (code Tryd.f5) [1, 1, 1, 1, 1, 1, 0, 1, 0, 0, 1, 0, 0, 1, 0])) (b := (subc (code Tryd.f5) [1, 1, 1, 1, 1, 1, 0, 1, 0, 0, 1, 0, 0, 1, 1])) (by kernel_rfl) (ann_nil _) k5_c0))) (ann_nil _))) (fun v => h5_l0 C9 C5_c0 v)

def F5 (f8 : Unit → Option (Bool × Unit)) (f9 : Int × List UInt8 × Int × Unit → Option (List UInt8 × Unit)) (f11 : List UInt8 × Unit → Option (List ((Int × (List UInt8 × Int))) × Int × Int × Unit)) (f5_l0 : List UInt8 × Bool × List ((Int × (List UInt8 × Int))) × Int × Unit → Option ((Bool × Unit) ⊕ (Bool × Unit))) : List UInt8 × Unit → Option (Bool × Unit) := fun (x0, _) =>
  (f8 ()).bind fun val =>
    bif decide ((↑x0.length : Int) > 2500) then some (val.fst, ())
    else
      (f11 (x0, ())).bind fun val_1 =>
        bif val_1.snd.snd.fst != 0 then
          bif val.fst then
            bif (val_1.snd.snd.fst == 5) == decide ((↑x0.length : Int) > 2000) then
              bif decide (val_1.snd.fst ≥ 0) then
                bif decide (val_1.snd.fst < (↑x0.length : Int)) then some (true, ())
                else some (val_1.snd.snd.fst == 5, ())
              else some (false, ())
            else some (false, ())
          else some (false, ())
        else
          bif val_1.snd.fst != 0 then some (false, ())
          else
            bif !((↑(List.length val_1.fst) : Int) == 0) == (x0 == []) then some (false, ())
            else
              (f5_l0 (x0, val.fst, val_1.fst, 0, ())).bind fun val =>
                Sum.elim (fun val => some (val.fst, ())) (fun val => some (val.fst, ())) val
theorem h5 (f8 : HS f8_ins → Option (OTy f8_outs)) (f9 : HS f9_ins → Option (OTy f9_outs)) (f11 : HS f11_ins → Option (OTy f11_outs)) (f5_l0 : HS f5_l0_ins → Option (OTy f5_l0_outs)) (v : HS f5_ins) : afun Γ (fun f => Ae.look f [(8, ⟨f8_ins, f8_outs, f8⟩), (9, ⟨f9_ins, f9_outs, f9⟩), (11, ⟨f11_ins, f11_outs, f11⟩)]) 0 Tryd.f5.ntmps Tryd.f5.results.toList (code Tryd.f5) (.seq .nil (.seq .nil (.seq .nil (.seq .nil (.seq .nil (.seq .nil (.seq (.seq .nil (.blk (.loop ⟨f5_l0_ins, f5_l0_outs, f5_l0⟩))) .nil))))))) (em id f5_ins v).1 (em id f5_ins v).2 (ofin 0 f5_outs) = F5 f8 f9 f11 f5_l0 v := by kernel_rfl
def C5 (v : List UInt8 × Unit) : Option (Bool × Unit) := F5 C8 C9 C11 C5_l0 v
theorem ok5 : FnOk Tryd.prog 5 ⟨f5_ins, f5_outs, C5⟩ :=
  fn_ok (np := 0) (n := (.seq .nil (.seq .nil (.seq .nil (.seq .nil (.seq .nil (.seq .nil (.seq (.seq .nil (.blk (.loop ⟨f5_l0_ins, f5_l0_outs, C5_l0⟩))) .nil)))))))) hm hΓ (K := (fun f => Ae.look f [(8, ⟨f8_ins, f8_outs, C8⟩), (9, ⟨f9_ins, f9_outs, C9⟩), (11, ⟨f11_ins, f11_outs, C11⟩)])) (kok_cons ok8 (kok_cons ok9 (kok_cons ok11 (kok_nil _)))) Tryd.func5 (c := code Tryd.f5) (by kernel_rfl) (name_ne (by kernel_rfl))
    (ann_seq (a := (subc (code Tryd.f5) [0])) (b := (subc (code Tryd.f5) [1])) (by kernel_rfl) (ann_nil _) (ann_seq (a := (subc (code Tryd.f5) [1, 0])) (b := (subc (code Tryd.f5) [1, 1])) (by kernel_rfl) (ann_nil _) (ann_seq (a := (subc (code Tryd.f5) [1, 1, 0])) (b := (subc (code Tryd.f5) [1, 1, 1])) (by kernel_rfl) (ann_nil _) (ann_seq (a := (subc (code Tryd.f5) [1, 1, 1, 0])) (b := (subc (code Tryd.f5) [1, 1, 1, 1])) (by kernel_rfl) (ann_nil _) (ann_seq (a := (subc (code Tryd.f5) [1, 1, 1, 1, 0])) (b := (subc (code Tryd.f5) [1, 1, 1, 1, 1])) (by kernel_rfl) (ann_nil _) (ann_seq (a := (subc (code Tryd.f5) [1, 1, 1, 1, 1, 0])) (b := (subc (code Tryd.f5) [1, 1, 1, 1, 1, 1])) (by kernel_rfl) (ann_nil _) (ann_seq (a := (subc (code Tryd.f5) [1, 1, 1, 1, 1, 1, 0])) (b := (subc (code Tryd.f5) [1, 1, 1, 1, 1, 1, 1])) (by kernel_rfl) (ann_seq (a := (subc (code Tryd.f5) [1, 1, 1, 1, 1, 1, 0, 0])) (b := (subc (code Tryd.f5) [1, 1, 1, 1, 1, 1, 0, 1])) (by kernel_rfl) (ann_nil _) (ann_blk (x := (subc (code Tryd.f5) [1, 1, 1, 1, 1, 1, 0, 1, 0])) (by kernel_rfl) (ann_loop (x := (subc (code Tryd.f5) [1, 1, 1, 1, 1, 1, 0, 1, 0, 0])) (by kernel_rfl) k5_l0))) (ann_nil _)))))))) (fun v => Nat.le_of_ble_eq_true (by kernel_rfl)) (fun v => h5 C8 C9 C11 C5_l0 v)

def F6_l0  : Int × List UInt8 × Bool × List UInt8 × Int × Unit → Option ((Int × List UInt8 × Bool × List UInt8 × Int × Unit) ⊕ (Int × List UInt8 × Bool × List UInt8 × Unit)) := fun (x0, x1, x2, x3, x4, _) =>
  bif decide (x4 < x0) then
    bif decide ([40].length + x3.length ≤ 9223372036854775807) then
      bif decide (([40] ++ x3).length + [41].length ≤ 9223372036854775807) then
        some (Sum.inl (x0, x1, x2, [40] ++ x3 ++ [41], IntKind.i64.wrap (x4 + 1), ()))
      else none
    else none
  else some (Sum.inr (x0, x1, x2, x3, ()))
theorem h6_l0  (v : HS f6_l0_ins) : aev Γ (fun f => Ae.look f []) 0 (subc (code Tryd.f6) [1, 1, 1, 1, 0, 1, 0, 0]) .nil (stof f6_l0_ins v) (around 0 f6_l0_ins f6_l0_outs) = F6_l0 v := by kernel_rfl
def C6_l0 (v : Int × List UInt8 × Bool × List UInt8 × Int × Unit) : Option (Int × List UInt8 × Bool × List UInt8 × Unit) := loopN (F6_l0) big v
theorem k6_l0 : FragOk Tryd.prog 0 (fun Q a w => (Code.loop (subc (code Tryd.f6) [1, 1, 1, 1, 0, 1, 0, 0])).wp Tryd.prog Q a w) ⟨f6_l0_ins, f6_l0_outs, C6_l0⟩ :=
  frag_loop (ins := f6_l0_ins) (os := f6_l0_outs) (np := 0) (n := .nil) (F := F6_l0) hm hΓ (K := (fun f => Ae.look f [])) (kok_nil _) (fun _ => big)
    (ann_nil _) (fun v => h6_l0 v)

def F6_l1  : Int × List UInt8 × Bool × List UInt8 × List ((Int × (List UInt8 × Int))) × Int × Int × Int × Unit → Option ((Int × List UInt8 × Bool × List UInt8 × List ((Int × (List UInt8 × Int))) × Int × Int × Int × Unit) ⊕ (Int × List UInt8 × Bool × List UInt8 × List ((Int × (List UInt8 × Int))) × Int × Int × Int × Unit)) := fun (x0, x1, x2, x3, x4, x5, x6, x7, _) =>
  bif decide (x7 < (↑x1.length : Int)) then
    bif decide (0 ≤ x7) && decide (x7 < (↑x1.length : Int)) then
      bif decide ((↑(x1.getD x7.toNat 0).toNat : Int) < 128) then
        some (Sum.inl (x0, x1, x2, x3, x4, x5, x6, IntKind.i64.wrap (x7 + 1), ()))
      else some (Sum.inr (x0, x1, x2, x3, x4, x5, x6, x7, ()))
    else none
  else some (Sum.inr (x0, x1, x2, x3, x4, x5, x6, x7, ()))
theorem h6_l1  (v : HS f6_l1_ins) : aev Γ (fun f => Ae.look f []) 0 (subc (code Tryd.f6) [1, 1, 1, 1, 1, 1, 1, 0, 0, 0]) .nil (stof f6_l1_ins v) (around 0 f6_l1_ins f6_l1_outs) = F6_l1 v := by kernel_rfl
def C6_l1 (v : Int × List UInt8 × Bool × List UInt8 × List ((Int × (List UInt8 × Int))) × Int × Int × Int × Unit) : Option (Int × List UInt8 × Bool × List UInt8 × List ((Int × (List UInt8 × Int))) × Int × Int × Int × Unit) := loopN (F6_l1) big v
theorem k6_l1 : FragOk Tryd.prog 0 (fun Q a w => (Code.loop (subc (code Tryd.f6) [1, 1, 1, 1, 1, 1, 1, 0, 0, 0])).wp Tryd.prog Q a w) ⟨f6_l1_ins, f6_l1_outs, C6_l1⟩ :=
  frag_loop (ins := f6_l1_ins) (os := f6_l1_outs) (np := 0) (n := .nil) (F := F6_l1) hm hΓ (K := (fun f => Ae.look f [])) (kok_nil _) (fun _ => big)
    (ann_nil _) (fun v => h6_l1 v)

def F6 (f8 : Unit → Option (Bool × Unit)) (f11 : List UInt8 × Unit → Option (List ((Int × (List UInt8 × Int))) × Int × Int × Unit)) (f12 : List UInt8 × Unit → Option (Bool × Unit)) (f6_l0 : Int × List UInt8 × Bool × List UInt8 × Int × Unit → Option (Int × List UInt8 × Bool × List UInt8 × Unit)) (f6_l1 : Int × List UInt8 × Bool × List UInt8 × List ((Int × (List UInt8 × Int))) × Int × Int × Int × Unit → Option (Int × List UInt8 × Bool × List UInt8 × List ((Int × (List UInt8 × Int))) × Int × Int × Int × Unit)) : Int × List UInt8 × Unit → Option (Bool × Unit) := fun (x0, x1, _) =>
  (f8 ()).bind fun val =>
    bif decide (x0 < 1) then some (val.fst, ())
    else
      bif decide (x0 > 60) then some (val.fst, ())
      else
        bif decide ((↑x1.length : Int) > 100) then some (val.fst, ())
        else
          (f12 (x1, ())).bind fun val_1 =>
            bif !val_1.fst then some (val.fst, ())
            else
              (f6_l0 (x0, x1, val.fst, x1, 0, ())).bind fun val =>
                (f11 (val.snd.snd.snd.fst, ())).bind fun val_2 =>
                  (f6_l1
                        (val.fst, val.snd.fst, val.snd.snd.fst, val.snd.snd.snd.fst, val_2.fst, val_2.snd.fst,
                          val_2.snd.snd.fst, 0, ())).bind
                    fun val =>
                    bif decide (val.snd.snd.snd.snd.snd.snd.snd.fst < (↑(List.length val.snd.fst) : Int)) then
                      some (val.snd.snd.fst, ())
                    else
                      bif decide (val.fst > 32) then
                        bif val.snd.snd.fst then
                          bif val.snd.snd.snd.snd.snd.snd.fst == 6 then
                            some (val.snd.snd.snd.snd.snd.fst == 32, ())
                          else some (false, ())
                        else some (false, ())
                      else
                        bif val.snd.snd.fst then
                          bif val.snd.snd.snd.snd.snd.snd.fst == 0 then
                            bif (↑(List.length val.snd.snd.snd.snd.fst) : Int) == 1 then
                              bif decide (0 < (↑(List.length val.snd.snd.snd.snd.fst) : Int)) then
                                bif
                                    (List.getD val.snd.snd.snd.snd.fst 0
                                          (0, ([], 0))).fst ==
                                      3 then
                                  bif decide (0 < (↑(List.length val.snd.snd.snd.snd.fst) : Int)) then
                                    some
                                      ((↑(List.length
                                                (List.getD val.snd.snd.snd.snd.fst 0
                                                      (0, ([], 0))).snd.fst) :
                                            Int) ==
                                          IntKind.i64.wrap ((↑(List.length val.snd.snd.snd.fst) : Int) - 2),
                                        ())
                                  else none
                                else some (false, ())
                              else none
                            else some (false, ())
                          else some (false, ())
                        else some (false, ())
theorem h6 (f8 : HS f8_ins → Option (OTy f8_outs)) (f11 : HS f11_ins → Option (OTy f11_outs)) (f12 : HS f12_ins → Option (OTy f12_outs)) (f6_l0 : HS f6_l0_ins → Option (OTy f6_l0_outs)) (f6_l1 : HS f6_l1_ins → Option (OTy f6_l1_outs)) (v : HS f6_ins) : afun Γ (fun f => Ae.look f [(8, ⟨f8_ins, f8_outs, f8⟩), (11, ⟨f11_ins, f11_outs, f11⟩), (12, ⟨f12_ins, f12_outs, f12⟩)]) 0 Tryd.f6.ntmps Tryd.f6.results.toList (code Tryd.f6) (.seq .nil (.seq .nil (.seq .nil (.seq .nil (.seq (.seq .nil (.blk (.loop ⟨f6_l0_ins, f6_l0_outs, f6_l0⟩))) (.seq .nil (.seq .nil (.seq (.blk (.loop ⟨f6_l1_ins, f6_l1_outs, f6_l1⟩)) .nil)))))))) (em id f6_ins v).1 (em id f6_ins v).2 (ofin 0 f6_outs) = F6 f8 f11 f12 f6_l0 f6_l1 v := by kernel_rfl
def C6 (v : Int × List UInt8 × Unit) : Option (Bool × Unit) := F6 C8 C11 C12 C6_l0 C6_l1 v
theorem ok6 : FnOk Tryd.prog 6 ⟨f6_ins, f6_outs, C6⟩ :=
  fn_ok (np := 0) (n := (.seq .nil (.seq .nil (.seq .nil (.seq .nil (.seq (.seq .nil (.blk (.loop ⟨f6_l0_ins, f6_l0_outs, C6_l0⟩))) (.seq .nil (.seq .nil (.seq (.blk (.loop ⟨f6_l1_ins, f6_l1_outs, C6_l1⟩)) .nil))))))))) hm hΓ (K := (fun f => Ae.look f [(8, ⟨f8_ins, f8_outs, C8⟩), (11, ⟨f11_ins, f11_outs, C11⟩), (12, ⟨f12_ins, f12_outs, C12⟩)])) (kok_cons ok8 (kok_cons ok11 (kok_cons ok12 (kok_nil _)))) Tryd.func6 (c := code Tryd.f6) (by kernel_rfl) (name_ne (by kernel_rfl))
    (ann_seq (a := (subc (code Tryd.f6) [0])) (b := (subc (code Tryd.f6) [1])) (by kernel_rfl) (ann_nil _) (ann_seq (a := (subc (code Tryd.f6) [1, 0])) (b := (subc (code Tryd.f6) [1, 1])) (by kernel_rfl) (ann_nil _) (ann_seq (a := (subc (code Tryd.f6) [1, 1, 0])) (b := (subc (code Tryd.f6) [1, 1, 1])) (by kernel_rfl) (ann_nil _) (ann_seq (a := (subc (code Tryd.f6) [1, 1, 1, 0])) (b := (subc (code Tryd.f6) [1, 1, 1, 1])) (by kernel_rfl) (ann_nil _) (ann_seq (a := (subc (code Tryd.f6) [1, 1, 1, 1, 0])) (b := (subc (code Tryd.f6) [1, 1, 1, 1, 1])) (by kernel_rfl) (ann_seq (a := (subc (code Tryd.f6) [1, 1, 1, 1, 0, 0])) (b := (subc (code Tryd.f6) [1, 1, 1, 1, 0, 1])) (by kernel_rfl) (ann_nil _) (ann_blk (x := (subc (code Tryd.f6) [1, 1, 1, 1, 0, 1, 0])) (by kernel_rfl) (ann_loop (x := (subc (code Tryd.f6) [1, 1, 1, 1, 0, 1, 0, 0])) (by kernel_rfl) k6_l0))) (ann_seq (a := (subc (code Tryd.f6) [1, 1, 1, 1, 1, 0])) (b := (subc (code Tryd.f6) [1, 1, 1, 1, 1, 1])) (by kernel_rfl) (ann_nil _) (ann_seq (a := (subc (code Tryd.f6) [1, 1, 1, 1, 1, 1, 0])) (b := (subc (code Tryd.f6) [1, 1, 1, 1, 1, 1, 1])) (by kernel_rfl) (ann_nil _) (ann_seq (a := (subc (code Tryd.f6) [1, 1, 1, 1, 1, 1, 1, 0])) (b := (subc (code Tryd.f6) [1, 1, 1, 1, 1, 1, 1, 1])) (by kernel_rfl) (ann_blk (x := (subc (code Tryd.f6) [1, 1, 1, 1, 1, 1, 1, 0, 0])) (by kernel_rfl) (ann_loop (x := (subc (code Tryd.f6) [1, 1, 1, 1, 1, 1, 1, 0, 0, 0])) (by kernel_rfl) k6_l1)) (ann_nil _))))))))) (fun v => Nat.le_of_ble_eq_true (by kernel_rfl)) (fun v => h6 C8 C11 C12 C6_l0 C6_l1 v)
end Go.Proofs.YtkmojkibclbmjaaDoor.W
