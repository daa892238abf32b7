/- Plain forms of functions. Written by a program. -/
import Derived.Test.YtaoaagbfjekecaaDoorW5
set_option maxRecDepth 100000
set_option linter.unusedVariables false
namespace Go.Proofs.YtaoaagbfjekecaaDoor.W
open Go Go.Ae

def F8_l0  : List (List UInt8) × Int × Unit → Option ((List (List UInt8) × Int × Unit) ⊕ ((List (List UInt8) × Unit) ⊕ (Bool × Unit))) := fun (x0, x1, _) =>
  bif decide (x1 < (↑x0.length : Int)) then
    bif decide (0 ≤ x1) && decide (x1 < (↑x0.length : Int)) then
      bif decide ((↑(List.length (x0.getD x1.toNat [])) : Int) > 400) then
        some (Sum.inr (Sum.inr (false, ())))
      else some (Sum.inl (x0, IntKind.i64.wrap (x1 + 1), ()))
    else none
  else some (Sum.inr (Sum.inl (x0, ())))
theorem h8_l0  (v : HS f8_l0_ins) : aev Γ (fun f => Ae.lookA f []) 0 (subc (code Tryd.f8) [1, 0, 1, 0, 0]) .nil (stof f8_l0_ins v) (around 0 f8_l0_ins f8_l0_outs) = F8_l0 v := by kernel_rfl
def C8_l0 (v : List (List UInt8) × Int × Unit) : Option ((List (List UInt8) × Unit) ⊕ (Bool × Unit)) := loopN (F8_l0) big v
theorem k8_l0 : FragOk Tryd.prog 0 (fun Q a w => (Code.loop (subc (code Tryd.f8) [1, 0, 1, 0, 0])).wp Tryd.prog Q a w) ⟨f8_l0_ins, f8_l0_outs, C8_l0⟩ :=
  frag_loop (ins := f8_l0_ins) (os := f8_l0_outs) (np := 0) (n := .nil) (F := F8_l0) hm hΓ (K := (fun f => Ae.lookA f [])) (kok_nil _) (fun _ => big)
    (ann_nil _) (fun v => h8_l0 v)

def F8 (f8_l0 : List (List UInt8) × Int × Unit → Option ((List (List UInt8) × Unit) ⊕ (Bool × Unit))) : List (List UInt8) × Unit → Option (Bool × Unit) := fun (x0, _) =>
  (f8_l0 (x0, 0, ())).bind fun val =>
    Sum.elim (fun val => some (decide ((↑(List.length val.fst) : Int) ≤ 60), ()))
      (fun val => some (val.fst, ())) val
theorem h8 (f8_l0 : HS f8_l0_ins → Option (OTy f8_l0_outs)) (v : HS f8_ins) : afun Γ (fun f => Ae.lookA f []) 0 Tryd.f8.ntmps Tryd.f8.results.toList (code Tryd.f8) (.seq .nil (.seq (.seq .nil (.blk (.loop ⟨f8_l0_ins, f8_l0_outs, f8_l0⟩))) .nil)) (em id f8_ins v).1 (em id f8_ins v).2 (ofin 0 f8_outs) = F8 f8_l0 v := by kernel_rfl
def C8 (v : List (List UInt8) × Unit) : Option (Bool × Unit) := F8 C8_l0 v
theorem ok8 : FnOk Tryd.prog 8 ⟨f8_ins, f8_outs, C8⟩ :=
  fn_ok (np := 0) (n := (.seq .nil (.seq (.seq .nil (.blk (.loop ⟨f8_l0_ins, f8_l0_outs, C8_l0⟩))) .nil))) hm hΓ (K := (fun f => Ae.lookA f [])) (kok_nil _) Tryd.func8 (c := code Tryd.f8) (by kernel_rfl) (name_ne (by kernel_rfl))
    (ann_seq (a := (subc (code Tryd.f8) [0])) (b := (subc (code Tryd.f8) [1])) (by kernel_rfl) (ann_nil _) (ann_seq (a := (subc (code Tryd.f8) [1, 0])) (b := (subc (code Tryd.f8) [1, 1])) (by kernel_rfl) (ann_seq (a := (subc (code Tryd.f8) [1, 0, 0])) (b := (subc (code Tryd.f8) [1, 0, 1])) (by kernel_rfl) (ann_nil _) (ann_blk (x := (subc (code Tryd.f8) [1, 0, 1, 0])) (by kernel_rfl) (ann_loop (x := (subc (code Tryd.f8) [1, 0, 1, 0, 0])) (by kernel_rfl) k8_l0))) (ann_nil _))) (fun v => Nat.le_of_ble_eq_true (by kernel_rfl)) (fun v => h8 C8_l0 v)

def F11_l0  : List ((List UInt8 × List UInt8)) × List ((List UInt8 × List UInt8)) × Int × Unit → Option ((List ((List UInt8 × List UInt8)) × List ((List UInt8 × List UInt8)) × Int × Unit) ⊕ (Unit ⊕ (Bool × Unit))) := fun (x0, x1, x2, _) =>
  bif decide (x2 < (↑x0.length : Int)) then
    bif decide (0 ≤ x2) && decide (x2 < (↑x0.length : Int)) then
      bif decide (0 ≤ x2) && decide (x2 < (↑x1.length : Int)) then
        bif
            !((x0.getD x2.toNat ([], [])).fst == (x1.getD x2.toNat ([], [])).fst &&
                ((x0.getD x2.toNat ([], [])).snd == (x1.getD x2.toNat ([], [])).snd &&
                  true)) then
          some (Sum.inr (Sum.inr (false, ())))
        else some (Sum.inl (x0, x1, IntKind.i64.wrap (x2 + 1), ()))
      else none
    else none
  else some (Sum.inr (Sum.inl ()))
theorem h11_l0  (v : HS f11_l0_ins) : aev Γ (fun f => Ae.lookA f []) 0 (subc (code Tryd.f11) [1, 1, 0, 1, 0, 0]) .nil (stof f11_l0_ins v) (around 0 f11_l0_ins f11_l0_outs) = F11_l0 v := by kernel_rfl
def C11_l0 (v : List ((List UInt8 × List UInt8)) × List ((List UInt8 × List UInt8)) × Int × Unit) : Option (Unit ⊕ (Bool × Unit)) := loopN (F11_l0) big v
theorem k11_l0 : FragOk Tryd.prog 0 (fun Q a w => (Code.loop (subc (code Tryd.f11) [1, 1, 0, 1, 0, 0])).wp Tryd.prog Q a w) ⟨f11_l0_ins, f11_l0_outs, C11_l0⟩ :=
  frag_loop (ins := f11_l0_ins) (os := f11_l0_outs) (np := 0) (n := .nil) (F := F11_l0) hm hΓ (K := (fun f => Ae.lookA f [])) (kok_nil _) (fun _ => big)
    (ann_nil _) (fun v => h11_l0 v)

def F11 (f11_l0 : List ((List UInt8 × List UInt8)) × List ((List UInt8 × List UInt8)) × Int × Unit → Option (Unit ⊕ (Bool × Unit))) : List ((List UInt8 × List UInt8)) × List ((List UInt8 × List UInt8)) × Unit → Option (Bool × Unit) := fun (x0, x1, _) =>
  bif (↑x0.length : Int) != (↑x1.length : Int) then some (false, ())
  else
    (f11_l0 (x0, x1, 0, ())).bind fun val =>
      Sum.elim (fun val => some (true, ())) (fun val => some (val.fst, ())) val
theorem h11 (f11_l0 : HS f11_l0_ins → Option (OTy f11_l0_outs)) (v : HS f11_ins) : afun Γ (fun f => Ae.lookA f []) 0 Tryd.f11.ntmps Tryd.f11.results.toList (code Tryd.f11) (.seq .nil (.seq .nil (.seq (.seq .nil (.blk (.loop ⟨f11_l0_ins, f11_l0_outs, f11_l0⟩))) .nil))) (em id f11_ins v).1 (em id f11_ins v).2 (ofin 0 f11_outs) = F11 f11_l0 v := by kernel_rfl
def C11 (v : List ((List UInt8 × List UInt8)) × List ((List UInt8 × List UInt8)) × Unit) : Option (Bool × Unit) := F11 C11_l0 v
theorem ok11 : FnOk Tryd.prog 11 ⟨f11_ins, f11_outs, C11⟩ :=
  fn_ok (np := 0) (n := (.seq .nil (.seq .nil (.seq (.seq .nil (.blk (.loop ⟨f11_l0_ins, f11_l0_outs, C11_l0⟩))) .nil)))) hm hΓ (K := (fun f => Ae.lookA f [])) (kok_nil _) Tryd.func11 (c := code Tryd.f11) (by kernel_rfl) (name_ne (by kernel_rfl))
    (ann_seq (a := (subc (code Tryd.f11) [0])) (b := (subc (code Tryd.f11) [1])) (by kernel_rfl) (ann_nil _) (ann_seq (a := (subc (code Tryd.f11) [1, 0])) (b := (subc (code Tryd.f11) [1, 1])) (by kernel_rfl) (ann_nil _) (ann_seq (a := (subc (code Tryd.f11) [1, 1, 0])) (b := (subc (code Tryd.f11) [1, 1, 1])) (by kernel_rfl) (ann_seq (a := (subc (code Tryd.f11) [1, 1, 0, 0])) (b := (subc (code Tryd.f11) [1, 1, 0, 1])) (by kernel_rfl) (ann_nil _) (ann_blk (x := (subc (code Tryd.f11) [1, 1, 0, 1, 0])) (by kernel_rfl) (ann_loop (x := (subc (code Tryd.f11) [1, 1, 0, 1, 0, 0])) (by kernel_rfl) k11_l0))) (ann_nil _)))) (fun v => Nat.le_of_ble_eq_true (by kernel_rfl)) (fun v => h11 C11_l0 v)

def F3 (f7 : Unit → Option (Bool × Unit)) (f8 : List (List UInt8) × Unit → Option (Bool × Unit)) (f9 : List (List UInt8) × Unit → Option (Int × Unit)) (f10 : List (List UInt8) × Unit → Option (Bool × Bool × Bool × Int × Int × Unit)) (f11 : List ((List UInt8 × List UInt8)) × List ((List UInt8 × List UInt8)) × Unit → Option (Bool × Unit)) (f12 : List (List UInt8) × Unit → Option (List ((List UInt8 × List UInt8)) × Unit)) : List (List UInt8) × List (List UInt8) × List (List UInt8) × Unit → Option (Bool × Unit) := fun (x0, x1, x2, _) =>
  (f7 ()).bind fun val =>
    (f8 (x0, ())).bind fun val_1 =>
      (f8 (x1, ())).bind fun val_2 =>
        (f8 (x2, ())).bind fun val_3 =>
          bif !val_1.fst then some (val.fst, ())
          else
            bif !val_2.fst then some (val.fst, ())
            else
              bif !val_3.fst then some (val.fst, ())
              else
                (f9 (x0, ())).bind fun val_4 =>
                  bif decide (val_4.fst < 0) then some (false, ())
                  else
                    bif decide (val_4.fst > (↑x0.length : Int)) then some (false, ())
                    else
                      bif decide (0 ≤ val_4.fst) && decide (val_4.fst ≤ (↑x0.length : Int)) then
                        bif decide (([] : List UInt8).length + (List.take (Int.toNat val_4.fst) x0).length ≤ 140737488355328 / 16) then
                          bif
                              decide
                                (([] ++ List.take (Int.toNat val_4.fst) x0).length + ([[]] : List (List UInt8)).length ≤
                                  140737488355328 / 16) then
                            bif
                                decide
                                  (([] : List UInt8).length + ([] ++ List.take (Int.toNat val_4.fst) x0 ++ [[]]).length ≤
                                    140737488355328 / 16) then
                              bif
                                  decide
                                    (([] ++ ([] ++ List.take (Int.toNat val_4.fst) x0 ++ [[]])).length +
                                        x1.length ≤
                                      140737488355328 / 16) then
                                bif
                                    decide
                                      (([] : List UInt8).length + ([] ++ List.take (Int.toNat val_4.fst) x0 ++ [[]]).length ≤
                                        140737488355328 / 16) then
                                  bif
                                      decide
                                        (([] ++ ([] ++ List.take (Int.toNat val_4.fst) x0 ++ [[]])).length +
                                            x2.length ≤
                                          140737488355328 / 16) then
                                    (f10
                                          ([] ++ ([] ++ List.take (Int.toNat val_4.fst) x0 ++ [[]]) ++ x1,
                                            ())).bind
                                      fun val_5 =>
                                      (f10
                                            ([] ++ ([] ++ List.take (Int.toNat val_4.fst) x0 ++ [[]]) ++ x2,
                                              ())).bind
                                        fun val_6 =>
                                        bif decide (([[]] : List (List UInt8)).length + x1.length ≤ 140737488355328 / 16) then
                                          (f10 ([[]] ++ x1, ())).bind fun val_7 =>
                                            bif val.fst then
                                              (f12
                                                    ([] ++ ([] ++ List.take (Int.toNat val_4.fst) x0 ++ [[]]) ++
                                                        x1,
                                                      ())).bind
                                                fun val =>
                                                (f12
                                                      ([] ++ ([] ++ List.take (Int.toNat val_4.fst) x0 ++ [[]]) ++
                                                          x2,
                                                        ())).bind
                                                  fun val_8 =>
                                                  (f11 (val.fst, val_8.fst, ())).bind fun val =>
                                                    bif val.fst then
                                                      (f9
                                                            ([] ++
                                                                  ([] ++ List.take (Int.toNat val_4.fst) x0 ++
                                                                    [[]]) ++
                                                                x1,
                                                              ())).bind
                                                        fun val =>
                                                        bif val.fst == val_4.fst then
                                                          bif val_5.fst == val_6.fst then
                                                            bif val_5.snd.snd.fst == val_6.snd.snd.fst then
                                                              bif
                                                                  val_5.snd.snd.snd.snd.fst ==
                                                                    val_6.snd.snd.snd.snd.fst then
                                                                bif val_5.snd.snd.snd.fst == val_6.snd.snd.snd.fst then
                                                                  bif val_5.snd.fst == val_7.snd.fst then
                                                                    bif val_7.snd.snd.snd.fst == 0 then
                                                                      some
                                                                        (bif val_7.fst then false else true, ())
                                                                    else some (false, ())
                                                                  else some (false, ())
                                                                else some (false, ())
                                                              else some (false, ())
                                                            else some (false, ())
                                                          else some (false, ())
                                                        else some (false, ())
                                                    else some (false, ())
                                            else some (false, ())
                                        else none
                                  else none
                                else none
                              else none
                            else none
                          else none
                        else none
                      else none
theorem h3 (f7 : HS f7_ins → Option (OTy f7_outs)) (f8 : HS f8_ins → Option (OTy f8_outs)) (f9 : HS f9_ins → Option (OTy f9_outs)) (f10 : HS f10_ins → Option (OTy f10_outs)) (f11 : HS f11_ins → Option (OTy f11_outs)) (f12 : HS f12_ins → Option (OTy f12_outs)) (v : HS f3_ins) : afun Γ (fun f => Ae.lookA f [(7, ⟨f7_ins, f7_outs, f7⟩), (8, ⟨f8_ins, f8_outs, f8⟩), (9, ⟨f9_ins, f9_outs, f9⟩), (10, ⟨f10_ins, f10_outs, f10⟩), (11, ⟨f11_ins, f11_outs, f11⟩), (12, ⟨f12_ins, f12_outs, f12⟩)]) 0 Tryd.f3.ntmps Tryd.f3.results.toList (code Tryd.f3) .nil (em id f3_ins v).1 (em id f3_ins v).2 (ofin 0 f3_outs) = F3 f7 f8 f9 f10 f11 f12 v := by kernel_rfl
def C3 (v : List (List UInt8) × List (List UInt8) × List (List UInt8) × Unit) : Option (Bool × Unit) := F3 C7 C8 C9 C10 C11 C12 v
theorem ok3 : FnOk Tryd.prog 3 ⟨f3_ins, f3_outs, C3⟩ :=
  fn_ok (np := 0) (n := .nil) hm hΓ (K := (fun f => Ae.lookA f [(7, ⟨f7_ins, f7_outs, C7⟩), (8, ⟨f8_ins, f8_outs, C8⟩), (9, ⟨f9_ins, f9_outs, C9⟩), (10, ⟨f10_ins, f10_outs, C10⟩), (11, ⟨f11_ins, f11_outs, C11⟩), (12, ⟨f12_ins, f12_outs, C12⟩)])) (kok_cons ok7 (kok_cons ok8 (kok_cons ok9 (kok_cons ok10 (kok_cons ok11 (kok_cons ok12 (kok_nil _))))))) Tryd.func3 (c := code Tryd.f3) (by kernel_rfl) (name_ne (by kernel_rfl))
    (ann_nil _) (fun v => Nat.le_of_ble_eq_true (by kernel_rfl)) (fun v => h3 C7 C8 C9 C10 C11 C12 v)

def F4_l0  : List (List UInt8) × List UInt8 × List UInt8 × Bool × Int × Unit → Option ((List (List UInt8) × List UInt8 × List UInt8 × Bool × Int × Unit) ⊕ ((List (List UInt8) × List UInt8 × List UInt8 × Bool × Unit) ⊕ (Bool × Unit))) := fun (x0, x1, x2, x3, x4, _) =>
  bif decide (x4 < (↑x1.length : Int)) then
    bif decide (0 ≤ x4) && decide (x4 < (↑x1.length : Int)) then
      bif decide ((↑(x1.getD x4.toNat 0).toNat : Int) < 33) then some (Sum.inr (Sum.inr (x3, ())))
      else
        bif decide (0 ≤ x4) && decide (x4 < (↑x1.length : Int)) then
          bif decide ((↑(x1.getD x4.toNat 0).toNat : Int) > 126) then some (Sum.inr (Sum.inr (x3, ())))
          else
            bif decide (0 ≤ x4) && decide (x4 < (↑x1.length : Int)) then
              bif (↑(x1.getD x4.toNat 0).toNat : Int) == 58 then some (Sum.inr (Sum.inr (x3, ())))
              else some (Sum.inl (x0, x1, x2, x3, IntKind.i64.wrap (x4 + 1), ()))
            else none
        else none
    else none
  else some (Sum.inr (Sum.inl (x0, x1, x2, x3, ())))
theorem h4_l0  (v : HS f4_l0_ins) : aev Γ (fun f => Ae.lookA f []) 0 (subc (code Tryd.f4) [1, 1, 1, 1, 0, 1, 0, 0]) .nil (stof f4_l0_ins v) (around 0 f4_l0_ins f4_l0_outs) = F4_l0 v := by kernel_rfl
def C4_l0 (v : List (List UInt8) × List UInt8 × List UInt8 × Bool × Int × Unit) : Option ((List (List UInt8) × List UInt8 × List UInt8 × Bool × Unit) ⊕ (Bool × Unit)) := loopN (F4_l0) big v
theorem k4_l0 : FragOk Tryd.prog 0 (fun Q a w => (Code.loop (subc (code Tryd.f4) [1, 1, 1, 1, 0, 1, 0, 0])).wp Tryd.prog Q a w) ⟨f4_l0_ins, f4_l0_outs, C4_l0⟩ :=
  frag_loop (ins := f4_l0_ins) (os := f4_l0_outs) (np := 0) (n := .nil) (F := F4_l0) hm hΓ (K := (fun f => Ae.lookA f [])) (kok_nil _) (fun _ => big)
    (ann_nil _) (fun v => h4_l0 v)

def F4 (f7 : Unit → Option (Bool × Unit)) (f8 : List (List UInt8) × Unit → Option (Bool × Unit)) (f11 : List ((List UInt8 × List UInt8)) × List ((List UInt8 × List UInt8)) × Unit → Option (Bool × Unit)) (f12 : List (List UInt8) × Unit → Option (List ((List UInt8 × List UInt8)) × Unit)) (f13 : List UInt8 × Unit → Option (List UInt8 × Unit)) (f14 : List (List UInt8) × List UInt8 × Unit → Option (List UInt8 × Bool × Unit)) (f4_l0 : List (List UInt8) × List UInt8 × List UInt8 × Bool × Int × Unit → Option ((List (List UInt8) × List UInt8 × List UInt8 × Bool × Unit) ⊕ (Bool × Unit))) : List (List UInt8) × List UInt8 × List UInt8 × Unit → Option (Bool × Unit) := fun (x0, x1, x2, _) =>
  (f7 ()).bind fun val =>
    (f8 (x0, ())).bind fun val_1 =>
      bif !val_1.fst then some (val.fst, ())
      else
        bif (↑x1.length : Int) == 0 then some (val.fst, ())
        else
          bif decide ((↑x1.length : Int) > 50) then some (val.fst, ())
          else
            bif decide ((↑x2.length : Int) > 100) then some (val.fst, ())
            else
              (f4_l0 (x0, x1, x2, val.fst, 0, ())).bind fun val =>
                Sum.elim
                  (fun val =>
                    bif decide ((↑(List.length val.fst) : Int) > 0) then
                      bif decide (0 < (↑(List.length val.fst) : Int)) then
                        bif decide ((↑(List.length (List.getD val.fst 0 [])) : Int) > 0) then
                          bif decide (0 < (↑(List.length val.fst) : Int)) then
                            bif
                                                                decide (0 < (↑(List.length (List.getD val.fst 0 [])) : Int)) then
                              bif
                                  (↑(List.getD (List.getD val.fst 0 []) 0 0).toNat :
                                      Int) ==
                                    32 then
                                some (val.snd.snd.snd.fst, ())
                              else
                                bif decide (0 < (↑(List.length val.fst) : Int)) then
                                  bif
                                                                            decide
                                          (0 < (↑(List.length (List.getD val.fst 0 [])) : Int)) then
                                    bif
                                        (↑(List.getD (List.getD val.fst 0 []) 0
                                                  0).toNat :
                                            Int) ==
                                          9 then
                                      some (val.snd.snd.snd.fst, ())
                                    else
                                      (f12 (val.fst, ())).bind fun val_2 =>
                                        bif
                                            decide
                                              (List.length val.snd.fst + [58, 32].length ≤
                                                9223372036854775807) then
                                          bif
                                              decide
                                                ((val.snd.fst ++ [58, 32]).length + List.length val.snd.snd.fst ≤
                                                  9223372036854775807) then
                                            bif
                                                decide
                                                  ([val.snd.fst ++ [58, 32] ++ val.snd.snd.fst].length +
                                                      List.length val.fst ≤
                                                    140737488355328 / 16) then
                                              (f12
                                                    ([val.snd.fst ++ [58, 32] ++ val.snd.snd.fst] ++ val.fst,
                                                      ())).bind
                                                fun val_3 =>
                                                bif
                                                    (↑(List.length val_3.fst) : Int) !=
                                                      IntKind.i64.wrap ((↑(List.length val_2.fst) : Int) + 1) then
                                                  some (false, ())
                                                else
                                                  bif decide (0 < (↑(List.length val_3.fst) : Int)) then
                                                    (f13 (val.snd.fst, ())).bind fun val_4 =>
                                                      bif
                                                          !(List.getD val_3.fst 0
                                                                  ([], [])).fst ==
                                                              val_4.fst then
                                                        some (false, ())
                                                      else
                                                        bif
                                                                                                                        decide (1 ≤ (↑(List.length val_3.fst) : Int)) then
                                                          (f11 (List.drop 1 val_3.fst, val_2.fst, ())).bind
                                                            fun val_5 =>
                                                            bif !val_5.fst then some (false, ())
                                                            else
                                                              bif
                                                                  decide
                                                                    (List.length val.snd.fst + [58].length ≤
                                                                      9223372036854775807) then
                                                                bif
                                                                    decide
                                                                      ((val.snd.fst ++ [58]).length +
                                                                          List.length val.snd.snd.fst ≤
                                                                        9223372036854775807) then
                                                                  bif
                                                                      decide
                                                                        ([val.snd.fst ++ [58] ++
                                                                                  val.snd.snd.fst].length +
                                                                            List.length val.fst ≤
                                                                          140737488355328 / 16) then
                                                                    (f14
                                                                          ([val.snd.fst ++ [58] ++
                                                                                  val.snd.snd.fst] ++
                                                                              val.fst,
                                                                            val.snd.fst, ())).bind
                                                                      fun val_6 =>
                                                                      bif val.snd.snd.snd.fst then
                                                                        bif val_6.snd.fst then
                                                                          bif
                                                                                                                                                            decide
                                                                                  (0 <
                                                                                    (↑(List.length val_3.fst) : Int)) then
                                                                            bif
                                                                                val_6.fst ==
                                                                                  (List.getD val_3.fst 0
                                                                                      ([], [])).snd then
                                                                              some
                                                                                (decide
                                                                                    ((↑(List.length val_6.fst) : Int) ≤
                                                                                      (↑(List.length val.snd.snd.fst) :
                                                                                        Int)),
                                                                                  ())
                                                                            else some (false, ())
                                                                          else none
                                                                        else some (false, ())
                                                                      else some (false, ())
                                                                  else none
                                                                else none
                                                              else none
                                                        else none
                                                  else none
                                            else none
                                          else none
                                        else none
                                  else none
                                else none
                            else none
                          else none
                        else
                          (f12 (val.fst, ())).bind fun val_2 =>
                            bif decide (List.length val.snd.fst + [58, 32].length ≤ 9223372036854775807) then
                              bif
                                  decide
                                    ((val.snd.fst ++ [58, 32]).length + List.length val.snd.snd.fst ≤
                                      9223372036854775807) then
                                bif
                                    decide
                                      ([val.snd.fst ++ [58, 32] ++ val.snd.snd.fst].length + List.length val.fst ≤
                                        140737488355328 / 16) then
                                  (f12 ([val.snd.fst ++ [58, 32] ++ val.snd.snd.fst] ++ val.fst, ())).bind
                                    fun val_3 =>
                                    bif
                                        (↑(List.length val_3.fst) : Int) !=
                                          IntKind.i64.wrap ((↑(List.length val_2.fst) : Int) + 1) then
                                      some (false, ())
                                    else
                                      bif decide (0 < (↑(List.length val_3.fst) : Int)) then
                                        (f13 (val.snd.fst, ())).bind fun val_4 =>
                                          bif
                                              !(List.getD val_3.fst 0 ([], [])).fst ==
                                                  val_4.fst then
                                            some (false, ())
                                          else
                                            bif decide (1 ≤ (↑(List.length val_3.fst) : Int)) then
                                              (f11 (List.drop 1 val_3.fst, val_2.fst, ())).bind fun val_5 =>
                                                bif !val_5.fst then some (false, ())
                                                else
                                                  bif
                                                      decide
                                                        (List.length val.snd.fst + [58].length ≤
                                                          9223372036854775807) then
                                                    bif
                                                        decide
                                                          ((val.snd.fst ++ [58]).length +
                                                              List.length val.snd.snd.fst ≤
                                                            9223372036854775807) then
                                                      bif
                                                          decide
                                                            ([val.snd.fst ++ [58] ++ val.snd.snd.fst].length +
                                                                List.length val.fst ≤
                                                              140737488355328 / 16) then
                                                        (f14
                                                              ([val.snd.fst ++ [58] ++ val.snd.snd.fst] ++
                                                                  val.fst,
                                                                val.snd.fst, ())).bind
                                                          fun val_6 =>
                                                          bif val.snd.snd.snd.fst then
                                                            bif val_6.snd.fst then
                                                              bif
                                                                                                                                    decide (0 < (↑(List.length val_3.fst) : Int)) then
                                                                bif
                                                                    val_6.fst ==
                                                                      (List.getD val_3.fst 0
                                                                          ([], [])).snd then
                                                                  some
                                                                    (decide
                                                                        ((↑(List.length val_6.fst) : Int) ≤
                                                                          (↑(List.length val.snd.snd.fst) : Int)),
                                                                      ())
                                                                else some (false, ())
                                                              else none
                                                            else some (false, ())
                                                          else some (false, ())
                                                      else none
                                                    else none
                                                  else none
                                            else none
                                      else none
                                else none
                              else none
                            else none
                      else none
                    else
                      (f12 (val.fst, ())).bind fun val_2 =>
                        bif decide (List.length val.snd.fst + [58, 32].length ≤ 9223372036854775807) then
                          bif
                              decide
                                ((val.snd.fst ++ [58, 32]).length + List.length val.snd.snd.fst ≤
                                  9223372036854775807) then
                            bif
                                decide
                                  ([val.snd.fst ++ [58, 32] ++ val.snd.snd.fst].length + List.length val.fst ≤
                                    140737488355328 / 16) then
                              (f12 ([val.snd.fst ++ [58, 32] ++ val.snd.snd.fst] ++ val.fst, ())).bind
                                fun val_3 =>
                                bif
                                    (↑(List.length val_3.fst) : Int) !=
                                      IntKind.i64.wrap ((↑(List.length val_2.fst) : Int) + 1) then
                                  some (false, ())
                                else
                                  bif decide (0 < (↑(List.length val_3.fst) : Int)) then
                                    (f13 (val.snd.fst, ())).bind fun val_4 =>
                                      bif
                                          !(List.getD val_3.fst 0 ([], [])).fst ==
                                              val_4.fst then
                                        some (false, ())
                                      else
                                        bif decide (1 ≤ (↑(List.length val_3.fst) : Int)) then
                                          (f11 (List.drop 1 val_3.fst, val_2.fst, ())).bind fun val_5 =>
                                            bif !val_5.fst then some (false, ())
                                            else
                                              bif
                                                  decide
                                                    (List.length val.snd.fst + [58].length ≤
                                                      9223372036854775807) then
                                                bif
                                                    decide
                                                      ((val.snd.fst ++ [58]).length +
                                                          List.length val.snd.snd.fst ≤
                                                        9223372036854775807) then
                                                  bif
                                                      decide
                                                        ([val.snd.fst ++ [58] ++ val.snd.snd.fst].length +
                                                            List.length val.fst ≤
                                                          140737488355328 / 16) then
                                                    (f14
                                                          ([val.snd.fst ++ [58] ++ val.snd.snd.fst] ++ val.fst,
                                                            val.snd.fst, ())).bind
                                                      fun val_6 =>
                                                      bif val.snd.snd.snd.fst then
                                                        bif val_6.snd.fst then
                                                          bif
                                                                                                                            decide (0 < (↑(List.length val_3.fst) : Int)) then
                                                            bif
                                                                val_6.fst ==
                                                                  (List.getD val_3.fst 0
                                                                      ([], [])).snd then
                                                              some
                                                                (decide
                                                                    ((↑(List.length val_6.fst) : Int) ≤
                                                                      (↑(List.length val.snd.snd.fst) : Int)),
                                                                  ())
                                                            else some (false, ())
                                                          else none
                                                        else some (false, ())
                                                      else some (false, ())
                                                  else none
                                                else none
                                              else none
                                        else none
                                  else none
                            else none
                          else none
                        else none)
                  (fun val => some (val.fst, ())) val
theorem h4 (f7 : HS f7_ins → Option (OTy f7_outs)) (f8 : HS f8_ins → Option (OTy f8_outs)) (f11 : HS f11_ins → Option (OTy f11_outs)) (f12 : HS f12_ins → Option (OTy f12_outs)) (f13 : HS f13_ins → Option (OTy f13_outs)) (f14 : HS f14_ins → Option (OTy f14_outs)) (f4_l0 : HS f4_l0_ins → Option (OTy f4_l0_outs)) (v : HS f4_ins) : afun Γ (fun f => Ae.lookA f [(7, ⟨f7_ins, f7_outs, f7⟩), (8, ⟨f8_ins, f8_outs, f8⟩), (11, ⟨f11_ins, f11_outs, f11⟩), (12, ⟨f12_ins, f12_outs, f12⟩), (13, ⟨f13_ins, f13_outs, f13⟩), (14, ⟨f14_ins, f14_outs, f14⟩)]) 0 Tryd.f4.ntmps Tryd.f4.results.toList (code Tryd.f4) (.seq .nil (.seq .nil (.seq .nil (.seq .nil (.seq (.seq .nil (.blk (.loop ⟨f4_l0_ins, f4_l0_outs, f4_l0⟩))) .nil))))) (em id f4_ins v).1 (em id f4_ins v).2 (ofin 0 f4_outs) = F4 f7 f8 f11 f12 f13 f14 f4_l0 v := by kernel_rfl
def C4 (v : List (List UInt8) × List UInt8 × List UInt8 × Unit) : Option (Bool × Unit) := F4 C7 C8 C11 C12 C13 C14 C4_l0 v
theorem ok4 : FnOk Tryd.prog 4 ⟨f4_ins, f4_outs, C4⟩ :=
  fn_ok (np := 0) (n := (.seq .nil (.seq .nil (.seq .nil (.seq .nil (.seq (.seq .nil (.blk (.loop ⟨f4_l0_ins, f4_l0_outs, C4_l0⟩))) .nil)))))) hm hΓ (K := (fun f => Ae.lookA f [(7, ⟨f7_ins, f7_outs, C7⟩), (8, ⟨f8_ins, f8_outs, C8⟩), (11, ⟨f11_ins, f11_outs, C11⟩), (12, ⟨f12_ins, f12_outs, C12⟩), (13, ⟨f13_ins, f13_outs, C13⟩), (14, ⟨f14_ins, f14_outs, C14⟩)])) (kok_cons ok7 (kok_cons ok8 (kok_cons ok11 (kok_cons ok12 (kok_cons ok13 (kok_cons ok14 (kok_nil _))))))) Tryd.func4 (c := code Tryd.f4) (by kernel_rfl) (name_ne (by kernel_rfl))
    (ann_seq (a := (subc (code Tryd.f4) [0])) (b := (subc (code Tryd.f4) [1])) (by kernel_rfl) (ann_nil _) (ann_seq (a := (subc (code Tryd.f4) [1, 0])) (b := (subc (code Tryd.f4) [1, 1])) (by kernel_rfl) (ann_nil _) (ann_seq (a := (subc (code Tryd.f4) [1, 1, 0])) (b := (subc (code Tryd.f4) [1, 1, 1])) (by kernel_rfl) (ann_nil _) (ann_seq (a := (subc (code Tryd.f4) [1, 1, 1, 0])) (b := (subc (code Tryd.f4) [1, 1, 1, 1])) (by kernel_rfl) (ann_nil _) (ann_seq (a := (subc (code Tryd.f4) [1, 1, 1, 1, 0])) (b := (subc (code Tryd.f4) [1, 1, 1, 1, 1])) (by kernel_rfl) (ann_seq (a := (subc (code Tryd.f4) [1, 1, 1, 1, 0, 0])) (b := (subc (code Tryd.f4) [1, 1, 1, 1, 0, 1])) (by kernel_rfl) (ann_nil _) (ann_blk (x := (subc (code Tryd.f4) [1, 1, 1, 1, 0, 1, 0])) (by kernel_rfl) (ann_loop (x := (subc (code Tryd.f4) [1, 1, 1, 1, 0, 1, 0, 0])) (by kernel_rfl) k4_l0))) (ann_nil _)))))) (fun v => Nat.le_of_ble_eq_true (by kernel_rfl)) (fun v => h4 C7 C8 C11 C12 C13 C14 C4_l0 v)

def F5_l0 (f15 : List UInt8 × Unit → Option (Int × Unit)) : List (List UInt8) × Bool × Bool × Int × Unit → Option ((List (List UInt8) × Bool × Bool × Int × Unit) ⊕ (List (List UInt8) × Bool × Bool × Unit)) := fun (x0, x1, x2, x3, _) =>
  bif decide (x3 < (↑x0.length : Int)) then
    bif x2 then some (Sum.inl (x0, x1, true, IntKind.i64.wrap (x3 + 1), ()))
    else
      bif decide (0 ≤ x3) && decide (x3 < (↑x0.length : Int)) then
        (f15 (x0.getD x3.toNat [], ())).bind fun val =>
          some (Sum.inl (x0, x1, decide (val.fst ≥ 0), IntKind.i64.wrap (x3 + 1), ()))
      else none
  else some (Sum.inr (x0, x1, x2, ()))
theorem h5_l0 (f15 : HS f15_ins → Option (OTy f15_outs)) (v : HS f5_l0_ins) : aev Γ (fun f => Ae.lookA f [(15, ⟨f15_ins, f15_outs, f15⟩)]) 0 (subc (code Tryd.f5) [1, 1, 1, 1, 1, 0, 1, 0, 0]) .nil (stof f5_l0_ins v) (around 0 f5_l0_ins f5_l0_outs) = F5_l0 f15 v := by kernel_rfl
def C5_l0 (v : List (List UInt8) × Bool × Bool × Int × Unit) : Option (List (List UInt8) × Bool × Bool × Unit) := loopN (F5_l0 C15) big v
theorem k5_l0 : FragOk Tryd.prog 0 (fun Q a w => (Code.loop (subc (code Tryd.f5) [1, 1, 1, 1, 1, 0, 1, 0, 0])).wp Tryd.prog Q a w) ⟨f5_l0_ins, f5_l0_outs, C5_l0⟩ :=
  frag_loop (ins := f5_l0_ins) (os := f5_l0_outs) (np := 0) (n := .nil) (F := F5_l0 C15) hm hΓ (K := (fun f => Ae.lookA f [(15, ⟨f15_ins, f15_outs, C15⟩)])) (kok_cons ok15 (kok_nil _)) (fun _ => big)
    (ann_nil _) (fun v => h5_l0 C15 v)

def F5 (f7 : Unit → Option (Bool × Unit)) (f8 : List (List UInt8) × Unit → Option (Bool × Unit)) (f10 : List (List UInt8) × Unit → Option (Bool × Bool × Bool × Int × Int × Unit)) (f5_l0 : List (List UInt8) × Bool × Bool × Int × Unit → Option (List (List UInt8) × Bool × Bool × Unit)) : List (List UInt8) × Unit → Option (Bool × Unit) := fun (x0, _) =>
  (f7 ()).bind fun val =>
    (f8 (x0, ())).bind fun val_1 =>
      bif !val_1.fst then some (val.fst, ())
      else
        (f5_l0 (x0, val.fst, false, 0, ())).bind fun val =>
          (f10 (val.fst, ())).bind fun val_2 =>
            bif val.snd.fst then
              bif val_2.fst then
                bif val.snd.snd.fst == true then
                  bif !val_2.snd.snd.fst then
                    bif decide (val_2.snd.snd.snd.snd.fst ≤ val_2.snd.snd.snd.fst) then
                      some (decide (val_2.snd.snd.snd.fst ≤ (↑(List.length val.fst) : Int)), ())
                    else some (false, ())
                  else
                    bif val_2.fst then
                      bif decide (val_2.snd.snd.snd.snd.fst ≤ val_2.snd.snd.snd.fst) then
                        some (decide (val_2.snd.snd.snd.fst ≤ (↑(List.length val.fst) : Int)), ())
                      else some (false, ())
                    else some (false, ())
                else some (false, ())
              else
                bif val.snd.snd.fst == val_2.snd.fst then
                  bif !val_2.snd.snd.fst then
                    bif decide (val_2.snd.snd.snd.snd.fst ≤ val_2.snd.snd.snd.fst) then
                      some (decide (val_2.snd.snd.snd.fst ≤ (↑(List.length val.fst) : Int)), ())
                    else some (false, ())
                  else
                    bif val_2.fst then
                      bif decide (val_2.snd.snd.snd.snd.fst ≤ val_2.snd.snd.snd.fst) then
                        some (decide (val_2.snd.snd.snd.fst ≤ (↑(List.length val.fst) : Int)), ())
                      else some (false, ())
                    else some (false, ())
                else some (false, ())
            else some (false, ())
theorem h5 (f7 : HS f7_ins → Option (OTy f7_outs)) (f8 : HS f8_ins → Option (OTy f8_outs)) (f10 : HS f10_ins → Option (OTy f10_outs)) (f5_l0 : HS f5_l0_ins → Option (OTy f5_l0_outs)) (v : HS f5_ins) : afun Γ (fun f => Ae.lookA f [(7, ⟨f7_ins, f7_outs, f7⟩), (8, ⟨f8_ins, f8_outs, f8⟩), (10, ⟨f10_ins, f10_outs, f10⟩)]) 0 Tryd.f5.ntmps Tryd.f5.results.toList (code Tryd.f5) (.seq .nil (.seq .nil (.seq .nil (.seq .nil (.seq .nil (.seq (.seq .nil (.blk (.loop ⟨f5_l0_ins, f5_l0_outs, f5_l0⟩))) .nil)))))) (em id f5_ins v).1 (em id f5_ins v).2 (ofin 0 f5_outs) = F5 f7 f8 f10 f5_l0 v := by kernel_rfl
def C5 (v : List (List UInt8) × Unit) : Option (Bool × Unit) := F5 C7 C8 C10 C5_l0 v
theorem ok5 : FnOk Tryd.prog 5 ⟨f5_ins, f5_outs, C5⟩ :=
  fn_ok (np := 0) (n := (.seq .nil (.seq .nil (.seq .nil (.seq .nil (.seq .nil (.seq (.seq .nil (.blk (.loop ⟨f5_l0_ins, f5_l0_outs, C5_l0⟩))) .nil))))))) hm hΓ (K := (fun f => Ae.lookA f [(7, ⟨f7_ins, f7_outs, C7⟩), (8, ⟨f8_ins, f8_outs, C8⟩), (10, ⟨f10_ins, f10_outs, C10⟩)])) (kok_cons ok7 (kok_cons ok8 (kok_cons ok10 (kok_nil _)))) Tryd.func5 (c := code Tryd.f5) (by kernel_rfl) (name_ne (by kernel_rfl))
    (ann_seq (a := (subc (code Tryd.f5) [0])) (b := (subc (code Tryd.f5) [1])) (by kernel_rfl) (ann_nil _) (ann_seq (a := (subc (code Tryd.f5) [1, 0])) (b := (subc (code Tryd.f5) [1, 1])) (by kernel_rfl) (ann_nil _) (ann_seq (a := (subc (code Tryd.f5) [1, 1, 0])) (b := (subc (code Tryd.f5) [1, 1, 1])) (by kernel_rfl) (ann_nil _) (ann_seq (a := (subc (code Tryd.f5) [1, 1, 1, 0])) (b := (subc (code Tryd.f5) [1, 1, 1, 1])) (by kernel_rfl) (ann_nil _) (ann_seq (a := (subc (code Tryd.f5) [1, 1, 1, 1, 0])) (b := (subc (code Tryd.f5) [1, 1, 1, 1, 1])) (by kernel_rfl) (ann_nil _) (ann_seq (a := (subc (code Tryd.f5) [1, 1, 1, 1, 1, 0])) (b := (subc (code Tryd.f5) [1, 1, 1, 1, 1, 1])) (by kernel_rfl) (ann_seq (a := (subc (code Tryd.f5) [1, 1, 1, 1, 1, 0, 0])) (b := (subc (code Tryd.f5) [1, 1, 1, 1, 1, 0, 1])) (by kernel_rfl) (ann_nil _) (ann_blk (x := (subc (code Tryd.f5) [1, 1, 1, 1, 1, 0, 1, 0])) (by kernel_rfl) (ann_loop (x := (subc (code Tryd.f5) [1, 1, 1, 1, 1, 0, 1, 0, 0])) (by kernel_rfl) k5_l0))) (ann_nil _))))))) (fun v => Nat.le_of_ble_eq_true (by kernel_rfl)) (fun v => h5 C7 C8 C10 C5_l0 v)
end Go.Proofs.YtaoaagbfjekecaaDoor.W
