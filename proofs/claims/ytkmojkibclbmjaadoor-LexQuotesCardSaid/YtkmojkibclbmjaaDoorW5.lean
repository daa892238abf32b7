/- Plain forms of functions. Written by a program. -/
import Derived.Test.YtkmojkibclbmjaaDoorW4
set_option maxRecDepth 100000
set_option linter.unusedVariables false
namespace Go.Proofs.YtkmojkibclbmjaaDoor.W
open Go Go.Ae

def F40_c0 (f30 : List UInt8 × Int × Unit → Option (Int × Unit)) : List UInt8 × List UInt8 × Int × Bool × Unit → Option (Int × Unit) := fun (x0, x1, x2, x3, _) =>
  bif x3 then some (0, ())
  else
    bif x2 == 1 then
      bif decide (0 < (↑x1.length : Int)) then
        (f30 (x0, (↑(x1.getD 0 0).toNat : Int), ())).bind fun val => some (val.fst, ())
      else none
    else bif decide (x2 ≥ (↑x0.length : Int)) then some (-1, ()) else none
theorem h40_c0 (f30 : HS f30_ins → Option (OTy f30_outs)) (v : HS f40_c0_ins) : aev Γ (fun f => Ae.look f [(30, ⟨f30_ins, f30_outs, f30⟩)]) 0 (subc (code Tryd.f40) [1, 1, 0, 0, 1]) .nil (stof f40_c0_ins v) (oout 0 f40_c0_outs) = F40_c0 f30 v := by kernel_rfl
def C40_c0 (v : List UInt8 × List UInt8 × Int × Bool × Unit) : Option (Int × Unit) := F40_c0 C30 v
theorem k40_c0 : FragOk Tryd.prog 0 (fun Q a w => ((subc (code Tryd.f40) [1, 1, 0, 0, 1])).wp Tryd.prog Q a w) ⟨f40_c0_ins, f40_c0_outs, C40_c0⟩ :=
  frag_code (ins := f40_c0_ins) (os := f40_c0_outs) (np := 0) (n := .nil) (F := C40_c0) hm hΓ (K := (fun f => Ae.look f [(30, ⟨f30_ins, f30_outs, C30⟩)])) (kok_cons ok30 (kok_nil _))
    (ann_nil _) (fun v => h40_c0 C30 v)

def F40 (f30 : List UInt8 × Int × Unit → Option (Int × Unit)) (f40_c0 : List UInt8 × List UInt8 × Int × Bool × Unit → Option (Int × Unit)) : List UInt8 × List UInt8 × Unit → Option (Int × Unit) := fun (x0, x1, _) =>
  bif (↑x1.length : Int) == 0 then
    (f40_c0 (x0, x1, (↑x1.length : Int), true, ())).bind fun val => some (val.fst, ())
  else (f40_c0 (x0, x1, (↑x1.length : Int), x1 == x0, ())).bind fun val => some (val.fst, ())
theorem h40 (f30 : HS f30_ins → Option (OTy f30_outs)) (f40_c0 : HS f40_c0_ins → Option (OTy f40_c0_outs)) (v : HS f40_ins) : afun Γ (fun f => Ae.look f [(30, ⟨f30_ins, f30_outs, f30⟩)]) 0 Tryd.f40.ntmps Tryd.f40.results.toList (code Tryd.f40) (.seq .nil (.seq .nil (.seq (.blk (.cut .nil ⟨f40_c0_ins, f40_c0_outs, f40_c0⟩)) .nil))) (em id f40_ins v).1 (em id f40_ins v).2 (ofin 0 f40_outs) = F40 f30 f40_c0 v := by kernel_rfl
def C40 (v : List UInt8 × List UInt8 × Unit) : Option (Int × Unit) := F40 C30 C40_c0 v
theorem ok40 : FnOk Tryd.prog 40 ⟨f40_ins, f40_outs, C40⟩ :=
  fn_ok (np := 0) (n := (.seq .nil (.seq .nil (.seq (.blk (.cut .nil ⟨f40_c0_ins, f40_c0_outs, C40_c0⟩)) .nil)))) hm hΓ (K := (fun f => Ae.look f [(30, ⟨f30_ins, f30_outs, C30⟩)])) (kok_cons ok30 (kok_nil _)) Tryd.func40 (c := code Tryd.f40) (by kernel_rfl) (name_ne (by kernel_rfl))
    (ann_seq (a := (subc (code Tryd.f40) [0])) (b := (subc (code Tryd.f40) [1])) (by kernel_rfl) (ann_nil _) (ann_seq (a := (subc (code Tryd.f40) [1, 0])) (b := (subc (code Tryd.f40) [1, 1])) (by kernel_rfl) (ann_nil _) (ann_seq (a := (subc (code Tryd.f40) [1, 1, 0])) (b := (subc (code Tryd.f40) [1, 1, 1])) (by kernel_rfl) (ann_blk (x := (subc (code Tryd.f40) [1, 1, 0, 0])) (by kernel_rfl) (ann_cut (a := (subc (code Tryd.f40) [1, 1, 0, 0, 0])) (b := (subc (code Tryd.f40) [1, 1, 0, 0, 1])) (by kernel_rfl) (ann_nil _) k40_c0)) (ann_nil _)))) (fun v => Nat.le_of_ble_eq_true (by kernel_rfl)) (fun v => h40 C30 C40_c0 v)

def F35 (f40 : List UInt8 × List UInt8 × Unit → Option (Int × Unit)) : List UInt8 × List UInt8 × Unit → Option (Int × Unit) := fun (x0, x1, _) =>
  (f40 (x0, x1, ())).bind fun val => some (val.fst, ())
theorem h35 (f40 : HS f40_ins → Option (OTy f40_outs)) (v : HS f35_ins) : afun Γ (fun f => Ae.look f [(40, ⟨f40_ins, f40_outs, f40⟩)]) 0 Tryd.f35.ntmps Tryd.f35.results.toList (code Tryd.f35) .nil (em id f35_ins v).1 (em id f35_ins v).2 (ofin 0 f35_outs) = F35 f40 v := by kernel_rfl
def C35 (v : List UInt8 × List UInt8 × Unit) : Option (Int × Unit) := F35 C40 v
theorem ok35 : FnOk Tryd.prog 35 ⟨f35_ins, f35_outs, C35⟩ :=
  fn_ok (np := 0) (n := .nil) hm hΓ (K := (fun f => Ae.look f [(40, ⟨f40_ins, f40_outs, C40⟩)])) (kok_cons ok40 (kok_nil _)) Tryd.func35 (c := code Tryd.f35) (by kernel_rfl) (name_ne (by kernel_rfl))
    (ann_nil _) (fun v => Nat.le_of_ble_eq_true (by kernel_rfl)) (fun v => h35 C40 v)

def F34_l0 (f35 : List UInt8 × List UInt8 × Unit → Option (Int × Unit)) : List UInt8 × List UInt8 × Int × Unit → Option ((List UInt8 × List UInt8 × Int × Unit) ⊕ (Int × Unit)) := fun (x0, x1, x2, _) =>
  (f35 (x0, x1, ())).bind fun val =>
    bif val.fst == -1 then some (Sum.inr (x2, ()))
    else
      bif
          decide (0 ≤ IntKind.i64.wrap (val.fst + (↑x1.length : Int))) &&
            decide (IntKind.i64.wrap (val.fst + (↑x1.length : Int)) ≤ (↑x0.length : Int)) then
        some
          (Sum.inl
            (List.drop (IntKind.i64.wrap (val.fst + (↑x1.length : Int))).toNat x0, x1, IntKind.i64.wrap (x2 + 1),
              ()))
      else none
theorem h34_l0 (f35 : HS f35_ins → Option (OTy f35_outs)) (v : HS f34_l0_ins) : aev Γ (fun f => Ae.look f [(35, ⟨f35_ins, f35_outs, f35⟩)]) 0 (subc (code Tryd.f34) [1, 1, 1, 1, 0, 0]) .nil (stof f34_l0_ins v) (around 0 f34_l0_ins f34_l0_outs) = F34_l0 f35 v := by kernel_rfl
def C34_l0 (v : List UInt8 × List UInt8 × Int × Unit) : Option (Int × Unit) := loopN (F34_l0 C35) big v
theorem k34_l0 : FragOk Tryd.prog 0 (fun Q a w => (Code.loop (subc (code Tryd.f34) [1, 1, 1, 1, 0, 0])).wp Tryd.prog Q a w) ⟨f34_l0_ins, f34_l0_outs, C34_l0⟩ :=
  frag_loop (ins := f34_l0_ins) (os := f34_l0_outs) (np := 0) (n := .nil) (F := F34_l0 C35) hm hΓ (K := (fun f => Ae.look f [(35, ⟨f35_ins, f35_outs, C35⟩)])) (kok_cons ok35 (kok_nil _)) (fun _ => big)
    (ann_nil _) (fun v => h34_l0 C35 v)

def F34 (f35 : List UInt8 × List UInt8 × Unit → Option (Int × Unit)) (f39 : List UInt8 × Int × Unit → Option (Int × Unit)) (f34_l0 : List UInt8 × List UInt8 × Int × Unit → Option (Int × Unit)) : List UInt8 × List UInt8 × Unit → Option (Int × Unit) := fun (x0, x1, _) =>
  bif (↑x1.length : Int) == 0 then none
  else
    bif (↑x1.length : Int) == 1 then
      bif decide (0 < (↑x1.length : Int)) then
        (f39 (x0, (↑(x1.getD 0 0).toNat : Int), ())).bind fun val => some (val.fst, ())
      else none
    else (f34_l0 (x0, x1, 0, ())).bind fun val => some (val.fst, ())
theorem h34 (f35 : HS f35_ins → Option (OTy f35_outs)) (f39 : HS f39_ins → Option (OTy f39_outs)) (f34_l0 : HS f34_l0_ins → Option (OTy f34_l0_outs)) (v : HS f34_ins) : afun Γ (fun f => Ae.look f [(35, ⟨f35_ins, f35_outs, f35⟩), (39, ⟨f39_ins, f39_outs, f39⟩)]) 0 Tryd.f34.ntmps Tryd.f34.results.toList (code Tryd.f34) (.seq .nil (.seq .nil (.seq .nil (.seq .nil (.blk (.loop ⟨f34_l0_ins, f34_l0_outs, f34_l0⟩)))))) (em id f34_ins v).1 (em id f34_ins v).2 (ofin 0 f34_outs) = F34 f35 f39 f34_l0 v := by kernel_rfl
def C34 (v : List UInt8 × List UInt8 × Unit) : Option (Int × Unit) := F34 C35 C39 C34_l0 v
theorem ok34 : FnOk Tryd.prog 34 ⟨f34_ins, f34_outs, C34⟩ :=
  fn_ok (np := 0) (n := (.seq .nil (.seq .nil (.seq .nil (.seq .nil (.blk (.loop ⟨f34_l0_ins, f34_l0_outs, C34_l0⟩))))))) hm hΓ (K := (fun f => Ae.look f [(35, ⟨f35_ins, f35_outs, C35⟩), (39, ⟨f39_ins, f39_outs, C39⟩)])) (kok_cons ok35 (kok_cons ok39 (kok_nil _))) Tryd.func34 (c := code Tryd.f34) (by kernel_rfl) (name_ne (by kernel_rfl))
    (ann_seq (a := (subc (code Tryd.f34) [0])) (b := (subc (code Tryd.f34) [1])) (by kernel_rfl) (ann_nil _) (ann_seq (a := (subc (code Tryd.f34) [1, 0])) (b := (subc (code Tryd.f34) [1, 1])) (by kernel_rfl) (ann_nil _) (ann_seq (a := (subc (code Tryd.f34) [1, 1, 0])) (b := (subc (code Tryd.f34) [1, 1, 1])) (by kernel_rfl) (ann_nil _) (ann_seq (a := (subc (code Tryd.f34) [1, 1, 1, 0])) (b := (subc (code Tryd.f34) [1, 1, 1, 1])) (by kernel_rfl) (ann_nil _) (ann_blk (x := (subc (code Tryd.f34) [1, 1, 1, 1, 0])) (by kernel_rfl) (ann_loop (x := (subc (code Tryd.f34) [1, 1, 1, 1, 0, 0])) (by kernel_rfl) k34_l0)))))) (fun v => Nat.le_of_ble_eq_true (by kernel_rfl)) (fun v => h34 C35 C39 C34_l0 v)

def F28_l0 (f35 : List UInt8 × List UInt8 × Unit → Option (Int × Unit)) : List UInt8 × List UInt8 × Int × Int × Int × List (List UInt8) × Unit → Option ((List UInt8 × List UInt8 × Int × Int × Int × List (List UInt8) × Unit) ⊕ (List UInt8 × Int × List (List UInt8) × Unit)) := fun (x0, x1, x2, x3, x4, x5, _) =>
  bif decide (x4 < x3) then
    (f35 (x0, x1, ())).bind fun val =>
      bif decide (val.fst < 0) then some (Sum.inr (x0, x4, x5, ()))
      else
        bif
            decide (0 ≤ IntKind.i64.wrap (val.fst + x2)) &&
              decide (IntKind.i64.wrap (val.fst + x2) ≤ (↑x0.length : Int)) then
          bif decide (0 ≤ x4) && decide (x4 < (↑x5.length : Int)) then
            bif
                decide (0 ≤ IntKind.i64.wrap (val.fst + (↑x1.length : Int))) &&
                  decide (IntKind.i64.wrap (val.fst + (↑x1.length : Int)) ≤ (↑x0.length : Int)) then
              some
                (Sum.inl
                  (List.drop (IntKind.i64.wrap (val.fst + (↑x1.length : Int))).toNat x0, x1, x2, x3,
                    IntKind.i64.wrap (x4 + 1), x5.set x4.toNat (List.take (IntKind.i64.wrap (val.fst + x2)).toNat x0),
                    ()))
            else none
          else none
        else none
  else some (Sum.inr (x0, x4, x5, ()))
theorem h28_l0 (f35 : HS f35_ins → Option (OTy f35_outs)) (v : HS f28_l0_ins) : aev Γ (fun f => Ae.look f [(35, ⟨f35_ins, f35_outs, f35⟩)]) 0 (subc (code Tryd.f28) [1, 1, 1, 1, 1, 1, 1, 1, 0, 0, 0]) .nil (stof f28_l0_ins v) (around 0 f28_l0_ins f28_l0_outs) = F28_l0 f35 v := by kernel_rfl
def C28_l0 (v : List UInt8 × List UInt8 × Int × Int × Int × List (List UInt8) × Unit) : Option (List UInt8 × Int × List (List UInt8) × Unit) := loopN (F28_l0 C35) big v
theorem k28_l0 : FragOk Tryd.prog 0 (fun Q a w => (Code.loop (subc (code Tryd.f28) [1, 1, 1, 1, 1, 1, 1, 1, 0, 0, 0])).wp Tryd.prog Q a w) ⟨f28_l0_ins, f28_l0_outs, C28_l0⟩ :=
  frag_loop (ins := f28_l0_ins) (os := f28_l0_outs) (np := 0) (n := .nil) (F := F28_l0 C35) hm hΓ (K := (fun f => Ae.look f [(35, ⟨f35_ins, f35_outs, C35⟩)])) (kok_cons ok35 (kok_nil _)) (fun _ => big)
    (ann_nil _) (fun v => h28_l0 C35 v)

def F28_c0 (f35 : List UInt8 × List UInt8 × Unit → Option (Int × Unit)) (f28_l0 : List UInt8 × List UInt8 × Int × Int × Int × List (List UInt8) × Unit → Option (List UInt8 × Int × List (List UInt8) × Unit)) : List UInt8 × List UInt8 × Int × Int × Unit → Option (List (List UInt8) × Unit) := fun (x0, x1, x2, x3, _) =>
  bif
      decide
          (0 ≤
            if IntKind.i64.wrap ((↑x0.length : Int) + 1) < x3 then IntKind.i64.wrap ((↑x0.length : Int) + 1) else x3) &&
        (decide
            ((if IntKind.i64.wrap ((↑x0.length : Int) + 1) < x3 then IntKind.i64.wrap ((↑x0.length : Int) + 1) else x3) =
              if IntKind.i64.wrap ((↑x0.length : Int) + 1) < x3 then IntKind.i64.wrap ((↑x0.length : Int) + 1) else x3) &&
          (decide
              (((↑16 : Int) *
                  if IntKind.i64.wrap ((↑x0.length : Int) + 1) < x3 then IntKind.i64.wrap ((↑x0.length : Int) + 1)
                  else x3) ≤
                281474976710656) &&
            decide
              ((if IntKind.i64.wrap ((↑x0.length : Int) + 1) < x3 then IntKind.i64.wrap ((↑x0.length : Int) + 1)
                else x3) ≤
                140737488355328))) then
    (f28_l0
          (x0, x1, x2,
            IntKind.i64.wrap
              ((if IntKind.i64.wrap ((↑x0.length : Int) + 1) < x3 then IntKind.i64.wrap ((↑x0.length : Int) + 1)
                else x3) -
                1),
            0,
            List.replicate
              (if IntKind.i64.wrap ((↑x0.length : Int) + 1) < x3 then IntKind.i64.wrap ((↑x0.length : Int) + 1)
                else x3).toNat
              [],
            ())).bind
      fun val =>
      bif decide (0 ≤ val.snd.fst) && decide (val.snd.fst < (↑(List.length val.snd.snd.fst) : Int)) then
        bif
            decide (0 ≤ IntKind.i64.wrap (val.snd.fst + 1)) &&
              decide
                (IntKind.i64.wrap (val.snd.fst + 1) ≤
                  (↑(List.set val.snd.snd.fst (Int.toNat val.snd.fst) val.fst).length : Int)) then
          some
            (List.take (IntKind.i64.wrap (val.snd.fst + 1)).toNat
                (List.set val.snd.snd.fst (Int.toNat val.snd.fst) val.fst),
              ())
        else none
      else none
  else none
theorem h28_c0 (f35 : HS f35_ins → Option (OTy f35_outs)) (f28_l0 : HS f28_l0_ins → Option (OTy f28_l0_outs)) (v : HS f28_c0_ins) : aev Γ (fun f => Ae.look f [(35, ⟨f35_ins, f35_outs, f35⟩)]) 0 (subc (code Tryd.f28) [1, 1, 1, 1]) (.seq .nil (.seq .nil (.seq .nil (.seq .nil (.seq (.blk (.loop ⟨f28_l0_ins, f28_l0_outs, f28_l0⟩)) .nil))))) (stof f28_c0_ins v) (oout 0 f28_c0_outs) = F28_c0 f35 f28_l0 v := by kernel_rfl
def C28_c0 (v : List UInt8 × List UInt8 × Int × Int × Unit) : Option (List (List UInt8) × Unit) := F28_c0 C35 C28_l0 v
theorem k28_c0 : FragOk Tryd.prog 0 (fun Q a w => ((subc (code Tryd.f28) [1, 1, 1, 1])).wp Tryd.prog Q a w) ⟨f28_c0_ins, f28_c0_outs, C28_c0⟩ :=
  frag_code (ins := f28_c0_ins) (os := f28_c0_outs) (np := 0) (n := (.seq .nil (.seq .nil (.seq .nil (.seq .nil (.seq (.blk (.loop ⟨f28_l0_ins, f28_l0_outs, C28_l0⟩)) .nil)))))) (F := C28_c0) hm hΓ (K := (fun f => Ae.look f [(35, ⟨f35_ins, f35_outs, C35⟩)])) (kok_cons ok35 (kok_nil _))
    (ann_seq (a := (subc (code Tryd.f28) [1, 1, 1, 1, 0])) (b := (subc (code Tryd.f28) [1, 1, 1, 1, 1])) (by kernel_rfl) (ann_nil _) (ann_seq (a := (subc (code Tryd.f28) [1, 1, 1, 1, 1, 0])) (b := (subc (code Tryd.f28) [1, 1, 1, 1, 1, 1])) (by kernel_rfl) (ann_nil _) (ann_seq (a := (subc (code Tryd.f28) [1, 1, 1, 1, 1, 1, 0])) (b := (subc (code Tryd.f28) [1, 1, 1, 1, 1, 1, 1])) (by kernel_rfl) (ann_nil _) (ann_seq (a := (subc (code Tryd.f28) [1, 1, 1, 1, 1, 1, 1, 0])) (b := (subc (code Tryd.f28) [1, 1, 1, 1, 1, 1, 1, 1])) (by kernel_rfl) (ann_nil _) (ann_seq (a := (subc (code Tryd.f28) [1, 1, 1, 1, 1, 1, 1, 1, 0])) (b := (subc (code Tryd.f28) [1, 1, 1, 1, 1, 1, 1, 1, 1])) (by kernel_rfl) (ann_blk (x := (subc (code Tryd.f28) [1, 1, 1, 1, 1, 1, 1, 1, 0, 0])) (by kernel_rfl) (ann_loop (x := (subc (code Tryd.f28) [1, 1, 1, 1, 1, 1, 1, 1, 0, 0, 0])) (by kernel_rfl) k28_l0)) (ann_nil _)))))) (fun v => h28_c0 C35 C28_l0 v)

def F28 (f34 : List UInt8 × List UInt8 × Unit → Option (Int × Unit)) (f35 : List UInt8 × List UInt8 × Unit → Option (Int × Unit)) (f28_c0 : List UInt8 × List UInt8 × Int × Int × Unit → Option (List (List UInt8) × Unit)) : List UInt8 × List UInt8 × Int × Int × Unit → Option (List (List UInt8) × Unit) := fun (x0, x1, x2, x3, _) =>
  bif x3 == 0 then some ([], ())
  else
    bif x1 == [] then none
    else
      bif decide (x3 < 0) then
        (f34 (x0, x1, ())).bind fun val =>
          (f28_c0 (x0, x1, x2, IntKind.i64.wrap (val.fst + 1), ())).bind fun val => some (val.fst, ())
      else (f28_c0 (x0, x1, x2, x3, ())).bind fun val => some (val.fst, ())
theorem h28 (f34 : HS f34_ins → Option (OTy f34_outs)) (f35 : HS f35_ins → Option (OTy f35_outs)) (f28_c0 : HS f28_c0_ins → Option (OTy f28_c0_outs)) (v : HS f28_ins) : afun Γ (fun f => Ae.look f [(34, ⟨f34_ins, f34_outs, f34⟩), (35, ⟨f35_ins, f35_outs, f35⟩)]) 0 Tryd.f28.ntmps Tryd.f28.results.toList (code Tryd.f28) (.seq .nil (.seq .nil (.seq .nil (.cut .nil ⟨f28_c0_ins, f28_c0_outs, f28_c0⟩)))) (em id f28_ins v).1 (em id f28_ins v).2 (ofin 0 f28_outs) = F28 f34 f35 f28_c0 v := by kernel_rfl
def C28 (v : List UInt8 × List UInt8 × Int × Int × Unit) : Option (List (List UInt8) × Unit) := F28 C34 C35 C28_c0 v
theorem ok28 : FnOk Tryd.prog 28 ⟨f28_ins, f28_outs, C28⟩ :=
  fn_ok (np := 0) (n := (.seq .nil (.seq .nil (.seq .nil (.cut .nil ⟨f28_c0_ins, f28_c0_outs, C28_c0⟩))))) hm hΓ (K := (fun f => Ae.look f [(34, ⟨f34_ins, f34_outs, C34⟩), (35, ⟨f35_ins, f35_outs, C35⟩)])) (kok_cons ok34 (kok_cons ok35 (kok_nil _))) Tryd.func28 (c := code Tryd.f28) (by kernel_rfl) (name_ne (by kernel_rfl))
    (ann_seq (a := (subc (code Tryd.f28) [0])) (b := (subc (code Tryd.f28) [1])) (by kernel_rfl) (ann_nil _) (ann_seq (a := (subc (code Tryd.f28) [1, 0])) (b := (subc (code Tryd.f28) [1, 1])) (by kernel_rfl) (ann_nil _) (ann_seq (a := (subc (code Tryd.f28) [1, 1, 0])) (b := (subc (code Tryd.f28) [1, 1, 1])) (by kernel_rfl) (ann_nil _) (ann_cut (a := (subc (code Tryd.f28) [1, 1, 1, 0])) (b := (subc (code Tryd.f28) [1, 1, 1, 1])) (by kernel_rfl) (ann_nil _) k28_c0)))) (fun v => Nat.le_of_ble_eq_true (by kernel_rfl)) (fun v => h28 C34 C35 C28_c0 v)

def F18 (f28 : List UInt8 × List UInt8 × Int × Int × Unit → Option (List (List UInt8) × Unit)) : List UInt8 × List UInt8 × Unit → Option (List (List UInt8) × Unit) := fun (x0, x1, _) =>
  (f28 (x0, x1, 0, -1, ())).bind fun val => some (val.fst, ())
theorem h18 (f28 : HS f28_ins → Option (OTy f28_outs)) (v : HS f18_ins) : afun Γ (fun f => Ae.look f [(28, ⟨f28_ins, f28_outs, f28⟩)]) 0 Tryd.f18.ntmps Tryd.f18.results.toList (code Tryd.f18) .nil (em id f18_ins v).1 (em id f18_ins v).2 (ofin 0 f18_outs) = F18 f28 v := by kernel_rfl
def C18 (v : List UInt8 × List UInt8 × Unit) : Option (List (List UInt8) × Unit) := F18 C28 v
theorem ok18 : FnOk Tryd.prog 18 ⟨f18_ins, f18_outs, C18⟩ :=
  fn_ok (np := 0) (n := .nil) hm hΓ (K := (fun f => Ae.look f [(28, ⟨f28_ins, f28_outs, C28⟩)])) (kok_cons ok28 (kok_nil _)) Tryd.func18 (c := code Tryd.f18) (by kernel_rfl) (name_ne (by kernel_rfl))
    (ann_nil _) (fun v => Nat.le_of_ble_eq_true (by kernel_rfl)) (fun v => h18 C28 v)
end Go.Proofs.YtkmojkibclbmjaaDoor.W
