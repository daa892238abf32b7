/- Plain forms of functions. Written by a program. -/
import Derived.Test.YtaoaagbfjekecaaDoorW2
set_option maxRecDepth 100000
set_option linter.unusedVariables false
namespace Go.Proofs.YtaoaagbfjekecaaDoor.W
open Go Go.Ae

def F12_l0 (f19 : List UInt8 × Int × Unit → Option (Int × Unit)) (f20 : List UInt8 × Unit → Option (List UInt8 × List UInt8 × Bool × Unit)) : Bool × List (List UInt8) × Int × Int × List ((List UInt8 × List UInt8)) × Unit → Option ((Bool × List (List UInt8) × Int × Int × List ((List UInt8 × List UInt8)) × Unit) ⊕ (List ((List UInt8 × List UInt8)) × Unit)) := fun (x0, x1, x2, x3, x4, _) =>
  bif decide (x3 < x2) then
    bif decide (0 ≤ x3) && decide (x3 < (↑x1.length : Int)) then
      bif decide (0 < (↑(List.length (x1.getD x3.toNat [])) : Int)) then
        (f19 ([32, 9], (↑(List.getD (x1.getD x3.toNat []) 0 0).toNat : Int), ())).bind
          fun val =>
          bif decide (val.fst ≥ 0) then
            bif x0 then
              bif
                  decide (0 ≤ IntKind.i64.wrap ((↑x4.length : Int) - 1)) &&
                    decide (IntKind.i64.wrap ((↑x4.length : Int) - 1) < (↑x4.length : Int)) then
                bif
                    decide
                      (List.length
                            (x4.getD (IntKind.i64.wrap ((↑x4.length : Int) - 1)).toNat ([], [])).snd +
                          List.length (x1.getD x3.toNat []) ≤
                        9223372036854775807) then
                  bif
                      decide (0 ≤ IntKind.i64.wrap ((↑x4.length : Int) - 1)) &&
                        decide (IntKind.i64.wrap ((↑x4.length : Int) - 1) < (↑x4.length : Int)) then
                    some
                      (Sum.inl
                        (x0, x1, x2, IntKind.i64.wrap (x3 + 1),
                          x4.set (IntKind.i64.wrap ((↑x4.length : Int) - 1)).toNat
                            ((x4.getD (IntKind.i64.wrap ((↑x4.length : Int) - 1)).toNat ([], [])).fst,
                              (x4.getD (IntKind.i64.wrap ((↑x4.length : Int) - 1)).toNat ([], [])).snd ++
                                x1.getD x3.toNat []),
                          ()))
                  else none
                else none
              else none
            else some (Sum.inl (x0, x1, x2, IntKind.i64.wrap (x3 + 1), x4, ()))
          else
            (f20 (x1.getD x3.toNat [], ())).bind fun val =>
              bif val.snd.snd.fst then
                bif decide (x4.length + [(val.fst, val.snd.fst)].length ≤ 140737488355328 / 32) then
                  some
                    (Sum.inl
                      (val.snd.snd.fst, x1, x2, IntKind.i64.wrap (x3 + 1), x4 ++ [(val.fst, val.snd.fst)], ()))
                else none
              else some (Sum.inl (val.snd.snd.fst, x1, x2, IntKind.i64.wrap (x3 + 1), x4, ()))
      else none
    else none
  else some (Sum.inr (x4, ()))
theorem h12_l0 (f19 : HS f19_ins → Option (OTy f19_outs)) (f20 : HS f20_ins → Option (OTy f20_outs)) (v : HS f12_l0_ins) : aev Γ (fun f => Ae.lookA f [(19, ⟨f19_ins, f19_outs, f19⟩), (20, ⟨f20_ins, f20_outs, f20⟩)]) 0 (subc (code Tryd.f12) [1, 1, 1, 0, 1, 0, 0]) .nil (stof f12_l0_ins v) (around 0 f12_l0_ins f12_l0_outs) = F12_l0 f19 f20 v := by kernel_rfl
def C12_l0 (v : Bool × List (List UInt8) × Int × Int × List ((List UInt8 × List UInt8)) × Unit) : Option (List ((List UInt8 × List UInt8)) × Unit) := loopN (F12_l0 C19 C20) big v
theorem k12_l0 : FragOk Tryd.prog 0 (fun Q a w => (Code.loop (subc (code Tryd.f12) [1, 1, 1, 0, 1, 0, 0])).wp Tryd.prog Q a w) ⟨f12_l0_ins, f12_l0_outs, C12_l0⟩ :=
  frag_loop (ins := f12_l0_ins) (os := f12_l0_outs) (np := 0) (n := .nil) (F := F12_l0 C19 C20) hm hΓ (K := (fun f => Ae.lookA f [(19, ⟨f19_ins, f19_outs, C19⟩), (20, ⟨f20_ins, f20_outs, C20⟩)])) (kok_cons ok19 (kok_cons ok20 (kok_nil _))) (fun _ => big)
    (ann_nil _) (fun v => h12_l0 C19 C20 v)

def F12_l1 (f21 : List UInt8 × List UInt8 × Unit → Option (List UInt8 × Unit)) : Int × Int × List ((List UInt8 × List UInt8)) × Unit → Option ((Int × Int × List ((List UInt8 × List UInt8)) × Unit) ⊕ (List ((List UInt8 × List UInt8)) × Unit)) := fun (x0, x1, x2, _) =>
  bif decide (x1 < x0) then
    bif decide (0 ≤ x1) && decide (x1 < (↑x2.length : Int)) then
      (f21 ((x2.getD x1.toNat ([], [])).snd, [32, 9], ())).bind fun val =>
        bif decide (0 ≤ x1) && decide (x1 < (↑x2.length : Int)) then
          some
            (Sum.inl
              (x0, IntKind.i64.wrap (x1 + 1), x2.set x1.toNat ((x2.getD x1.toNat ([], [])).fst, val.fst),
                ()))
        else none
    else none
  else some (Sum.inr (x2, ()))
theorem h12_l1 (f21 : HS f21_ins → Option (OTy f21_outs)) (v : HS f12_l1_ins) : aev Γ (fun f => Ae.lookA f [(21, ⟨f21_ins, f21_outs, f21⟩)]) 0 (subc (code Tryd.f12) [1, 1, 1, 1, 0, 1, 0, 0]) .nil (stof f12_l1_ins v) (around 0 f12_l1_ins f12_l1_outs) = F12_l1 f21 v := by kernel_rfl
def C12_l1 (v : Int × Int × List ((List UInt8 × List UInt8)) × Unit) : Option (List ((List UInt8 × List UInt8)) × Unit) := loopN (F12_l1 C21) big v
theorem k12_l1 : FragOk Tryd.prog 0 (fun Q a w => (Code.loop (subc (code Tryd.f12) [1, 1, 1, 1, 0, 1, 0, 0])).wp Tryd.prog Q a w) ⟨f12_l1_ins, f12_l1_outs, C12_l1⟩ :=
  frag_loop (ins := f12_l1_ins) (os := f12_l1_outs) (np := 0) (n := .nil) (F := F12_l1 C21) hm hΓ (K := (fun f => Ae.lookA f [(21, ⟨f21_ins, f21_outs, C21⟩)])) (kok_cons ok21 (kok_nil _)) (fun _ => big)
    (ann_nil _) (fun v => h12_l1 C21 v)

def F12 (f9 : List (List UInt8) × Unit → Option (Int × Unit)) (f12_l0 : Bool × List (List UInt8) × Int × Int × List ((List UInt8 × List UInt8)) × Unit → Option (List ((List UInt8 × List UInt8)) × Unit)) (f12_l1 : Int × Int × List ((List UInt8 × List UInt8)) × Unit → Option (List ((List UInt8 × List UInt8)) × Unit)) : List (List UInt8) × Unit → Option (List ((List UInt8 × List UInt8)) × Unit) := fun (x0, _) =>
  (f9 (x0, ())).bind fun val =>
    bif decide (0 ≤ val.fst) && decide (val.fst ≤ (↑x0.length : Int)) then
      (f12_l0
            (false, List.take (Int.toNat val.fst) x0, (↑(List.take (Int.toNat val.fst) x0).length : Int), 0, [], ())).bind
        fun val => (f12_l1 ((↑(List.length val.fst) : Int), 0, val.fst, ())).bind fun val => some (val.fst, ())
    else none
theorem h12 (f9 : HS f9_ins → Option (OTy f9_outs)) (f12_l0 : HS f12_l0_ins → Option (OTy f12_l0_outs)) (f12_l1 : HS f12_l1_ins → Option (OTy f12_l1_outs)) (v : HS f12_ins) : afun Γ (fun f => Ae.lookA f [(9, ⟨f9_ins, f9_outs, f9⟩)]) 0 Tryd.f12.ntmps Tryd.f12.results.toList (code Tryd.f12) (.seq .nil (.seq .nil (.seq .nil (.seq (.seq .nil (.blk (.loop ⟨f12_l0_ins, f12_l0_outs, f12_l0⟩))) (.seq (.seq .nil (.blk (.loop ⟨f12_l1_ins, f12_l1_outs, f12_l1⟩))) .nil))))) (em id f12_ins v).1 (em id f12_ins v).2 (ofin 0 f12_outs) = F12 f9 f12_l0 f12_l1 v := by kernel_rfl
def C12 (v : List (List UInt8) × Unit) : Option (List ((List UInt8 × List UInt8)) × Unit) := F12 C9 C12_l0 C12_l1 v
theorem ok12 : FnOk Tryd.prog 12 ⟨f12_ins, f12_outs, C12⟩ :=
  fn_ok (np := 0) (n := (.seq .nil (.seq .nil (.seq .nil (.seq (.seq .nil (.blk (.loop ⟨f12_l0_ins, f12_l0_outs, C12_l0⟩))) (.seq (.seq .nil (.blk (.loop ⟨f12_l1_ins, f12_l1_outs, C12_l1⟩))) .nil)))))) hm hΓ (K := (fun f => Ae.lookA f [(9, ⟨f9_ins, f9_outs, C9⟩)])) (kok_cons ok9 (kok_nil _)) Tryd.func12 (c := code Tryd.f12) (by kernel_rfl) (name_ne (by kernel_rfl))
    (ann_seq (a := (subc (code Tryd.f12) [0])) (b := (subc (code Tryd.f12) [1])) (by kernel_rfl) (ann_nil _) (ann_seq (a := (subc (code Tryd.f12) [1, 0])) (b := (subc (code Tryd.f12) [1, 1])) (by kernel_rfl) (ann_nil _) (ann_seq (a := (subc (code Tryd.f12) [1, 1, 0])) (b := (subc (code Tryd.f12) [1, 1, 1])) (by kernel_rfl) (ann_nil _) (ann_seq (a := (subc (code Tryd.f12) [1, 1, 1, 0])) (b := (subc (code Tryd.f12) [1, 1, 1, 1])) (by kernel_rfl) (ann_seq (a := (subc (code Tryd.f12) [1, 1, 1, 0, 0])) (b := (subc (code Tryd.f12) [1, 1, 1, 0, 1])) (by kernel_rfl) (ann_nil _) (ann_blk (x := (subc (code Tryd.f12) [1, 1, 1, 0, 1, 0])) (by kernel_rfl) (ann_loop (x := (subc (code Tryd.f12) [1, 1, 1, 0, 1, 0, 0])) (by kernel_rfl) k12_l0))) (ann_seq (a := (subc (code Tryd.f12) [1, 1, 1, 1, 0])) (b := (subc (code Tryd.f12) [1, 1, 1, 1, 1])) (by kernel_rfl) (ann_seq (a := (subc (code Tryd.f12) [1, 1, 1, 1, 0, 0])) (b := (subc (code Tryd.f12) [1, 1, 1, 1, 0, 1])) (by kernel_rfl) (ann_nil _) (ann_blk (x := (subc (code Tryd.f12) [1, 1, 1, 1, 0, 1, 0])) (by kernel_rfl) (ann_loop (x := (subc (code Tryd.f12) [1, 1, 1, 1, 0, 1, 0, 0])) (by kernel_rfl) k12_l1))) (ann_nil _)))))) (fun v => Nat.le_of_ble_eq_true (by kernel_rfl)) (fun v => h12 C9 C12_l0 C12_l1 v)

def F14_l0  : List UInt8 × List ((List UInt8 × List UInt8)) × Int × Int × Unit → Option ((List UInt8 × List ((List UInt8 × List UInt8)) × Int × Int × Unit) ⊕ (Unit ⊕ (List UInt8 × Bool × Unit))) := fun (x0, x1, x2, x3, _) =>
  bif decide (x3 < x2) then
    bif decide (0 ≤ x3) && decide (x3 < (↑x1.length : Int)) then
      bif (x1.getD x3.toNat ([], [])).fst == x0 then
        some (Sum.inr (Sum.inr ((x1.getD x3.toNat ([], [])).snd, true, ())))
      else some (Sum.inl (x0, x1, x2, IntKind.i64.wrap (x3 + 1), ()))
    else none
  else some (Sum.inr (Sum.inl ()))
theorem h14_l0  (v : HS f14_l0_ins) : aev Γ (fun f => Ae.lookA f []) 0 (subc (code Tryd.f14) [1, 1, 0, 1, 0, 0]) .nil (stof f14_l0_ins v) (around 0 f14_l0_ins f14_l0_outs) = F14_l0 v := by kernel_rfl
def C14_l0 (v : List UInt8 × List ((List UInt8 × List UInt8)) × Int × Int × Unit) : Option (Unit ⊕ (List UInt8 × Bool × Unit)) := loopN (F14_l0) big v
theorem k14_l0 : FragOk Tryd.prog 0 (fun Q a w => (Code.loop (subc (code Tryd.f14) [1, 1, 0, 1, 0, 0])).wp Tryd.prog Q a w) ⟨f14_l0_ins, f14_l0_outs, C14_l0⟩ :=
  frag_loop (ins := f14_l0_ins) (os := f14_l0_outs) (np := 0) (n := .nil) (F := F14_l0) hm hΓ (K := (fun f => Ae.lookA f [])) (kok_nil _) (fun _ => big)
    (ann_nil _) (fun v => h14_l0 v)

def F14 (f12 : List (List UInt8) × Unit → Option (List ((List UInt8 × List UInt8)) × Unit)) (f13 : List UInt8 × Unit → Option (List UInt8 × Unit)) (f14_l0 : List UInt8 × List ((List UInt8 × List UInt8)) × Int × Int × Unit → Option (Unit ⊕ (List UInt8 × Bool × Unit))) : List (List UInt8) × List UInt8 × Unit → Option (List UInt8 × Bool × Unit) := fun (x0, x1, _) =>
  (f13 (x1, ())).bind fun val =>
    (f12 (x0, ())).bind fun val_1 =>
      (f14_l0 (val.fst, val_1.fst, (↑(List.length val_1.fst) : Int), 0, ())).bind fun val =>
        Sum.elim (fun val => some ([], false, ())) (fun val => some (val.fst, val.snd.fst, ()))
          val
theorem h14 (f12 : HS f12_ins → Option (OTy f12_outs)) (f13 : HS f13_ins → Option (OTy f13_outs)) (f14_l0 : HS f14_l0_ins → Option (OTy f14_l0_outs)) (v : HS f14_ins) : afun Γ (fun f => Ae.lookA f [(12, ⟨f12_ins, f12_outs, f12⟩), (13, ⟨f13_ins, f13_outs, f13⟩)]) 0 Tryd.f14.ntmps Tryd.f14.results.toList (code Tryd.f14) (.seq .nil (.seq .nil (.seq (.seq .nil (.blk (.loop ⟨f14_l0_ins, f14_l0_outs, f14_l0⟩))) .nil))) (em id f14_ins v).1 (em id f14_ins v).2 (ofin 0 f14_outs) = F14 f12 f13 f14_l0 v := by kernel_rfl
def C14 (v : List (List UInt8) × List UInt8 × Unit) : Option (List UInt8 × Bool × Unit) := F14 C12 C13 C14_l0 v
theorem ok14 : FnOk Tryd.prog 14 ⟨f14_ins, f14_outs, C14⟩ :=
  fn_ok (np := 0) (n := (.seq .nil (.seq .nil (.seq (.seq .nil (.blk (.loop ⟨f14_l0_ins, f14_l0_outs, C14_l0⟩))) .nil)))) hm hΓ (K := (fun f => Ae.lookA f [(12, ⟨f12_ins, f12_outs, C12⟩), (13, ⟨f13_ins, f13_outs, C13⟩)])) (kok_cons ok12 (kok_cons ok13 (kok_nil _))) Tryd.func14 (c := code Tryd.f14) (by kernel_rfl) (name_ne (by kernel_rfl))
    (ann_seq (a := (subc (code Tryd.f14) [0])) (b := (subc (code Tryd.f14) [1])) (by kernel_rfl) (ann_nil _) (ann_seq (a := (subc (code Tryd.f14) [1, 0])) (b := (subc (code Tryd.f14) [1, 1])) (by kernel_rfl) (ann_nil _) (ann_seq (a := (subc (code Tryd.f14) [1, 1, 0])) (b := (subc (code Tryd.f14) [1, 1, 1])) (by kernel_rfl) (ann_seq (a := (subc (code Tryd.f14) [1, 1, 0, 0])) (b := (subc (code Tryd.f14) [1, 1, 0, 1])) (by kernel_rfl) (ann_nil _) (ann_blk (x := (subc (code Tryd.f14) [1, 1, 0, 1, 0])) (by kernel_rfl) (ann_loop (x := (subc (code Tryd.f14) [1, 1, 0, 1, 0, 0])) (by kernel_rfl) k14_l0))) (ann_nil _)))) (fun v => Nat.le_of_ble_eq_true (by kernel_rfl)) (fun v => h14 C12 C13 C14_l0 v)

def F15_l0  : List UInt8 × Int × Int × Unit → Option ((List UInt8 × Int × Int × Unit) ⊕ (Unit ⊕ (Int × Unit))) := fun (x0, x1, x2, _) =>
  bif decide (x2 < x1) then
    bif decide (0 ≤ x2) && decide (x2 < (↑x0.length : Int)) then
      bif decide ((↑(x0.getD x2.toNat 0).toNat : Int) ≥ 128) then some (Sum.inr (Sum.inr (x2, ())))
      else some (Sum.inl (x0, x1, IntKind.i64.wrap (x2 + 1), ()))
    else none
  else some (Sum.inr (Sum.inl ()))
theorem h15_l0  (v : HS f15_l0_ins) : aev Γ (fun f => Ae.lookA f []) 0 (subc (code Tryd.f15) [1, 0, 1, 0, 0]) .nil (stof f15_l0_ins v) (around 0 f15_l0_ins f15_l0_outs) = F15_l0 v := by kernel_rfl
def C15_l0 (v : List UInt8 × Int × Int × Unit) : Option (Unit ⊕ (Int × Unit)) := loopN (F15_l0) big v
theorem k15_l0 : FragOk Tryd.prog 0 (fun Q a w => (Code.loop (subc (code Tryd.f15) [1, 0, 1, 0, 0])).wp Tryd.prog Q a w) ⟨f15_l0_ins, f15_l0_outs, C15_l0⟩ :=
  frag_loop (ins := f15_l0_ins) (os := f15_l0_outs) (np := 0) (n := .nil) (F := F15_l0) hm hΓ (K := (fun f => Ae.lookA f [])) (kok_nil _) (fun _ => big)
    (ann_nil _) (fun v => h15_l0 v)

def F15 (f15_l0 : List UInt8 × Int × Int × Unit → Option (Unit ⊕ (Int × Unit))) : List UInt8 × Unit → Option (Int × Unit) := fun (x0, _) =>
  (f15_l0 (x0, (↑x0.length : Int), 0, ())).bind fun val =>
    Sum.elim (fun val => some (-1, ())) (fun val => some (val.fst, ())) val
theorem h15 (f15_l0 : HS f15_l0_ins → Option (OTy f15_l0_outs)) (v : HS f15_ins) : afun Γ (fun f => Ae.lookA f []) 0 Tryd.f15.ntmps Tryd.f15.results.toList (code Tryd.f15) (.seq .nil (.seq (.seq .nil (.blk (.loop ⟨f15_l0_ins, f15_l0_outs, f15_l0⟩))) .nil)) (em id f15_ins v).1 (em id f15_ins v).2 (ofin 0 f15_outs) = F15 f15_l0 v := by kernel_rfl
def C15 (v : List UInt8 × Unit) : Option (Int × Unit) := F15 C15_l0 v
theorem ok15 : FnOk Tryd.prog 15 ⟨f15_ins, f15_outs, C15⟩ :=
  fn_ok (np := 0) (n := (.seq .nil (.seq (.seq .nil (.blk (.loop ⟨f15_l0_ins, f15_l0_outs, C15_l0⟩))) .nil))) hm hΓ (K := (fun f => Ae.lookA f [])) (kok_nil _) Tryd.func15 (c := code Tryd.f15) (by kernel_rfl) (name_ne (by kernel_rfl))
    (ann_seq (a := (subc (code Tryd.f15) [0])) (b := (subc (code Tryd.f15) [1])) (by kernel_rfl) (ann_nil _) (ann_seq (a := (subc (code Tryd.f15) [1, 0])) (b := (subc (code Tryd.f15) [1, 1])) (by kernel_rfl) (ann_seq (a := (subc (code Tryd.f15) [1, 0, 0])) (b := (subc (code Tryd.f15) [1, 0, 1])) (by kernel_rfl) (ann_nil _) (ann_blk (x := (subc (code Tryd.f15) [1, 0, 1, 0])) (by kernel_rfl) (ann_loop (x := (subc (code Tryd.f15) [1, 0, 1, 0, 0])) (by kernel_rfl) k15_l0))) (ann_nil _))) (fun v => Nat.le_of_ble_eq_true (by kernel_rfl)) (fun v => h15 C15_l0 v)

def F17 (f15 : List UInt8 × Unit → Option (Int × Unit)) : List UInt8 × Unit → Option (Bool × Unit) := fun (x0, _) =>
  (f15 (x0, ())).bind fun val => some (decide (val.fst ≥ 0), ())
theorem h17 (f15 : HS f15_ins → Option (OTy f15_outs)) (v : HS f17_ins) : afun Γ (fun f => Ae.lookA f [(15, ⟨f15_ins, f15_outs, f15⟩)]) 0 Tryd.f17.ntmps Tryd.f17.results.toList (code Tryd.f17) .nil (em id f17_ins v).1 (em id f17_ins v).2 (ofin 0 f17_outs) = F17 f15 v := by kernel_rfl
def C17 (v : List UInt8 × Unit) : Option (Bool × Unit) := F17 C15 v
theorem ok17 : FnOk Tryd.prog 17 ⟨f17_ins, f17_outs, C17⟩ :=
  fn_ok (np := 0) (n := .nil) hm hΓ (K := (fun f => Ae.lookA f [(15, ⟨f15_ins, f15_outs, C15⟩)])) (kok_cons ok15 (kok_nil _)) Tryd.func17 (c := code Tryd.f17) (by kernel_rfl) (name_ne (by kernel_rfl))
    (ann_nil _) (fun v => Nat.le_of_ble_eq_true (by kernel_rfl)) (fun v => h17 C15 v)

def F24_l0 (f17 : List UInt8 × Unit → Option (Bool × Unit)) : List (List UInt8) × Int × Int × Unit → Option ((List (List UInt8) × Int × Int × Unit) ⊕ (Unit ⊕ (Int × Unit))) := fun (x0, x1, x2, _) =>
  bif decide (x2 < x1) then
    bif decide (0 ≤ x2) && decide (x2 < (↑x0.length : Int)) then
      (f17 (x0.getD x2.toNat [], ())).bind fun val =>
        bif val.fst then some (Sum.inr (Sum.inr (x2, ())))
        else some (Sum.inl (x0, x1, IntKind.i64.wrap (x2 + 1), ()))
    else none
  else some (Sum.inr (Sum.inl ()))
theorem h24_l0 (f17 : HS f17_ins → Option (OTy f17_outs)) (v : HS f24_l0_ins) : aev Γ (fun f => Ae.lookA f [(17, ⟨f17_ins, f17_outs, f17⟩)]) 0 (subc (code Tryd.f24) [1, 0, 1, 0, 0]) .nil (stof f24_l0_ins v) (around 0 f24_l0_ins f24_l0_outs) = F24_l0 f17 v := by kernel_rfl
def C24_l0 (v : List (List UInt8) × Int × Int × Unit) : Option (Unit ⊕ (Int × Unit)) := loopN (F24_l0 C17) big v
theorem k24_l0 : FragOk Tryd.prog 0 (fun Q a w => (Code.loop (subc (code Tryd.f24) [1, 0, 1, 0, 0])).wp Tryd.prog Q a w) ⟨f24_l0_ins, f24_l0_outs, C24_l0⟩ :=
  frag_loop (ins := f24_l0_ins) (os := f24_l0_outs) (np := 0) (n := .nil) (F := F24_l0 C17) hm hΓ (K := (fun f => Ae.lookA f [(17, ⟨f17_ins, f17_outs, C17⟩)])) (kok_cons ok17 (kok_nil _)) (fun _ => big)
    (ann_nil _) (fun v => h24_l0 C17 v)
end Go.Proofs.YtaoaagbfjekecaaDoor.W
