/- Plain forms of functions. Written by a program. -/
import Derived.Test.YtaoaagbfjekecaaDoorX
set_option maxRecDepth 100000
set_option linter.unusedVariables false
namespace Go.Proofs.YtaoaagbfjekecaaDoor.W
open Go Go.Ae

def F9_g0  : List (List UInt8) × Int × Unit → Option ((List (List UInt8) × Int × Unit) ⊕ (Int × Unit)) := fun (x0, x1, _) =>
  bif x1 == (↑x0.length : Int) then some (Sum.inr (x1, ()))
  else
    bif decide (0 ≤ x1) && decide (x1 < (↑x0.length : Int)) then
      bif x0.getD x1.toNat [] == [] then some (Sum.inr (x1, ()))
      else some (Sum.inl (x0, IntKind.i64.wrap (x1 + 1), ()))
    else none
theorem h9_g0  (v : HS f9_g0_ins) : aev Γ (fun f => Ae.lookA f []) 0 ((findLabel (subc (code Tryd.f9) [1, 0]) 0).getD .skip) .nil (stof f9_g0_ins v) (aroundL 0 0 [] f9_g0_ins f9_g0_outs) = F9_g0 v := by kernel_rfl
def C9_g0 (v : List (List UInt8) × Int × Unit) : Option (Int × Unit) := loopN (F9_g0) big v
theorem k9_g0 : FragOk Tryd.prog 0 (ScopeFrom Tryd.prog (subc (code Tryd.f9) [1, 0]) 0) ⟨f9_g0_ins, f9_g0_outs, C9_g0⟩ :=
  frag_label (ins := f9_g0_ins) (os := f9_g0_outs) (np := 0) (n := .nil) (ls := []) (F := F9_g0) (rest := (findLabel (subc (code Tryd.f9) [1, 0]) 0).getD .skip) hm hΓ (K := (fun f => Ae.lookA f [])) (kok_nil _) (fun _ => big) (by kernel_rfl)
    (ann_nil _) find_nil (fun v => h9_g0 v)

def F9 (f9_g0 : List (List UInt8) × Int × Unit → Option (Int × Unit)) : List (List UInt8) × Unit → Option (Int × Unit) := fun (x0, _) =>
  bif 0 == (↑x0.length : Int) then some (0, ())
  else
    bif decide (0 < (↑x0.length : Int)) then
      bif x0.getD 0 [] == [] then some (0, ())
      else (f9_g0 (x0, IntKind.i64.wrap (0 + 1), ())).bind fun val => some (val.fst, ())
    else none
theorem h9 (f9_g0 : HS f9_g0_ins → Option (OTy f9_g0_outs)) (v : HS f9_ins) : afun Γ (fun f => Ae.lookA f []) 0 Tryd.f9.ntmps Tryd.f9.results.toList (code Tryd.f9) (.seq .nil (.scope .nil [(0, ⟨f9_g0_ins, f9_g0_outs, f9_g0⟩)])) (em id f9_ins v).1 (em id f9_ins v).2 (ofin 0 f9_outs) = F9 f9_g0 v := by kernel_rfl
def C9 (v : List (List UInt8) × Unit) : Option (Int × Unit) := F9 C9_g0 v
theorem ok9 : FnOk Tryd.prog 9 ⟨f9_ins, f9_outs, C9⟩ :=
  fn_ok (np := 0) (n := (.seq .nil (.scope .nil [(0, ⟨f9_g0_ins, f9_g0_outs, C9_g0⟩)]))) hm hΓ (K := (fun f => Ae.lookA f [])) (kok_nil _) Tryd.func9 (c := code Tryd.f9) (by kernel_rfl) (name_ne (by kernel_rfl))
    (ann_seq (a := (subc (code Tryd.f9) [0])) (b := (subc (code Tryd.f9) [1])) (by kernel_rfl) (ann_nil _) (ann_scope (x := (subc (code Tryd.f9) [1, 0])) (by kernel_rfl) (ann_nil _) (find_cons k9_g0 find_nil))) (fun v => Nat.le_of_ble_eq_true (by kernel_rfl)) (fun v => h9 C9_g0 v)

def F26 (f39 : List UInt8 × Int × Unit → Option (Int × Unit)) : List UInt8 × Int × Unit → Option (Int × Unit) := fun (x0, x1, _) =>
  (f39 (x0, x1, ())).bind fun val => some (val.fst, ())
theorem h26 (f39 : HS f39_ins → Option (OTy f39_outs)) (v : HS f26_ins) : afun Γ (fun f => Ae.lookA f [(39, ⟨f39_ins, f39_outs, f39⟩)]) 0 Tryd.f26.ntmps Tryd.f26.results.toList (code Tryd.f26) .nil (em id f26_ins v).1 (em id f26_ins v).2 (ofin 0 f26_outs) = F26 f39 v := by kernel_rfl
def C26 (v : List UInt8 × Int × Unit) : Option (Int × Unit) := F26 C39 v
theorem ok26 : FnOk Tryd.prog 26 ⟨f26_ins, f26_outs, C26⟩ :=
  fn_ok (np := 0) (n := .nil) hm hΓ (K := (fun f => Ae.lookA f [(39, ⟨f39_ins, f39_outs, C39⟩)])) (kok_cons ok39 (kok_nil _)) Tryd.func26 (c := code Tryd.f26) (by kernel_rfl) (name_ne (by kernel_rfl))
    (ann_nil _) (fun v => Nat.le_of_ble_eq_true (by kernel_rfl)) (fun v => h26 C39 v)

def F19 (f26 : List UInt8 × Int × Unit → Option (Int × Unit)) : List UInt8 × Int × Unit → Option (Int × Unit) := fun (x0, x1, _) =>
  (f26 (x0, x1, ())).bind fun val => some (val.fst, ())
theorem h19 (f26 : HS f26_ins → Option (OTy f26_outs)) (v : HS f19_ins) : afun Γ (fun f => Ae.lookA f [(26, ⟨f26_ins, f26_outs, f26⟩)]) 0 Tryd.f19.ntmps Tryd.f19.results.toList (code Tryd.f19) .nil (em id f19_ins v).1 (em id f19_ins v).2 (ofin 0 f19_outs) = F19 f26 v := by kernel_rfl
def C19 (v : List UInt8 × Int × Unit) : Option (Int × Unit) := F19 C26 v
theorem ok19 : FnOk Tryd.prog 19 ⟨f19_ins, f19_outs, C19⟩ :=
  fn_ok (np := 0) (n := .nil) hm hΓ (K := (fun f => Ae.lookA f [(26, ⟨f26_ins, f26_outs, C26⟩)])) (kok_cons ok26 (kok_nil _)) Tryd.func19 (c := code Tryd.f19) (by kernel_rfl) (name_ne (by kernel_rfl))
    (ann_nil _) (fun v => Nat.le_of_ble_eq_true (by kernel_rfl)) (fun v => h19 C26 v)

def F47_c0 (f26 : List UInt8 × Int × Unit → Option (Int × Unit)) : List UInt8 × List UInt8 × Int × Bool × Unit → Option (Int × Unit) := fun (x0, x1, x2, x3, _) =>
  bif x3 then some (0, ())
  else
    bif x2 == 1 then
      bif decide (0 < (↑x1.length : Int)) then
        (f26 (x0, (↑(x1.getD 0 0).toNat : Int), ())).bind fun val => some (val.fst, ())
      else none
    else bif decide (x2 ≥ (↑x0.length : Int)) then some (-1, ()) else none
theorem h47_c0 (f26 : HS f26_ins → Option (OTy f26_outs)) (v : HS f47_c0_ins) : aev Γ (fun f => Ae.lookA f [(26, ⟨f26_ins, f26_outs, f26⟩)]) 0 (subc (code Tryd.f47) [1, 1, 0, 0, 1]) .nil (stof f47_c0_ins v) (oout 0 f47_c0_outs) = F47_c0 f26 v := by kernel_rfl
def C47_c0 (v : List UInt8 × List UInt8 × Int × Bool × Unit) : Option (Int × Unit) := F47_c0 C26 v
theorem k47_c0 : FragOk Tryd.prog 0 (fun Q a w => ((subc (code Tryd.f47) [1, 1, 0, 0, 1])).wp Tryd.prog Q a w) ⟨f47_c0_ins, f47_c0_outs, C47_c0⟩ :=
  frag_code (ins := f47_c0_ins) (os := f47_c0_outs) (np := 0) (n := .nil) (F := C47_c0) hm hΓ (K := (fun f => Ae.lookA f [(26, ⟨f26_ins, f26_outs, C26⟩)])) (kok_cons ok26 (kok_nil _))
    (ann_nil _) (fun v => h47_c0 C26 v)

def F47 (f47_c0 : List UInt8 × List UInt8 × Int × Bool × Unit → Option (Int × Unit)) : List UInt8 × List UInt8 × Unit → Option (Int × Unit) := fun (x0, x1, _) =>
  bif (↑x1.length : Int) == 0 then
    (f47_c0 (x0, x1, (↑x1.length : Int), true, ())).bind fun val => some (val.fst, ())
  else (f47_c0 (x0, x1, (↑x1.length : Int), x1 == x0, ())).bind fun val => some (val.fst, ())
theorem h47 (f47_c0 : HS f47_c0_ins → Option (OTy f47_c0_outs)) (v : HS f47_ins) : afun Γ (fun f => Ae.lookA f []) 0 Tryd.f47.ntmps Tryd.f47.results.toList (code Tryd.f47) (.seq .nil (.seq .nil (.seq (.blk (.cut .nil ⟨f47_c0_ins, f47_c0_outs, f47_c0⟩)) .nil))) (em id f47_ins v).1 (em id f47_ins v).2 (ofin 0 f47_outs) = F47 f47_c0 v := by kernel_rfl
def C47 (v : List UInt8 × List UInt8 × Unit) : Option (Int × Unit) := F47 C47_c0 v
theorem ok47 : FnOk Tryd.prog 47 ⟨f47_ins, f47_outs, C47⟩ :=
  fn_ok (np := 0) (n := (.seq .nil (.seq .nil (.seq (.blk (.cut .nil ⟨f47_c0_ins, f47_c0_outs, C47_c0⟩)) .nil)))) hm hΓ (K := (fun f => Ae.lookA f [])) (kok_nil _) Tryd.func47 (c := code Tryd.f47) (by kernel_rfl) (name_ne (by kernel_rfl))
    (ann_seq (a := (subc (code Tryd.f47) [0])) (b := (subc (code Tryd.f47) [1])) (by kernel_rfl) (ann_nil _) (ann_seq (a := (subc (code Tryd.f47) [1, 0])) (b := (subc (code Tryd.f47) [1, 1])) (by kernel_rfl) (ann_nil _) (ann_seq (a := (subc (code Tryd.f47) [1, 1, 0])) (b := (subc (code Tryd.f47) [1, 1, 1])) (by kernel_rfl) (ann_blk (x := (subc (code Tryd.f47) [1, 1, 0, 0])) (by kernel_rfl) (ann_cut (a := (subc (code Tryd.f47) [1, 1, 0, 0, 0])) (b := (subc (code Tryd.f47) [1, 1, 0, 0, 1])) (by kernel_rfl) (ann_nil _) k47_c0)) (ann_nil _)))) (fun v => Nat.le_of_ble_eq_true (by kernel_rfl)) (fun v => h47 C47_c0 v)

def F40 (f47 : List UInt8 × List UInt8 × Unit → Option (Int × Unit)) : List UInt8 × List UInt8 × Unit → Option (List UInt8 × List UInt8 × Bool × Unit) := fun (x0, x1, _) =>
  (f47 (x0, x1, ())).bind fun val =>
    bif decide (val.fst ≥ 0) then
      bif decide (0 ≤ val.fst) && decide (val.fst ≤ (↑x0.length : Int)) then
        bif
            decide (0 ≤ IntKind.i64.wrap (val.fst + (↑x1.length : Int))) &&
              decide (IntKind.i64.wrap (val.fst + (↑x1.length : Int)) ≤ (↑x0.length : Int)) then
          some
            (List.take (Int.toNat val.fst) x0, List.drop (IntKind.i64.wrap (val.fst + (↑x1.length : Int))).toNat x0, true,
              ())
        else none
      else none
    else some (x0, [], false, ())
theorem h40 (f47 : HS f47_ins → Option (OTy f47_outs)) (v : HS f40_ins) : afun Γ (fun f => Ae.lookA f [(47, ⟨f47_ins, f47_outs, f47⟩)]) 0 Tryd.f40.ntmps Tryd.f40.results.toList (code Tryd.f40) .nil (em id f40_ins v).1 (em id f40_ins v).2 (ofin 0 f40_outs) = F40 f47 v := by kernel_rfl
def C40 (v : List UInt8 × List UInt8 × Unit) : Option (List UInt8 × List UInt8 × Bool × Unit) := F40 C47 v
theorem ok40 : FnOk Tryd.prog 40 ⟨f40_ins, f40_outs, C40⟩ :=
  fn_ok (np := 0) (n := .nil) hm hΓ (K := (fun f => Ae.lookA f [(47, ⟨f47_ins, f47_outs, C47⟩)])) (kok_cons ok47 (kok_nil _)) Tryd.func40 (c := code Tryd.f40) (by kernel_rfl) (name_ne (by kernel_rfl))
    (ann_nil _) (fun v => Nat.le_of_ble_eq_true (by kernel_rfl)) (fun v => h40 C47 v)

def F27 (f40 : List UInt8 × List UInt8 × Unit → Option (List UInt8 × List UInt8 × Bool × Unit)) : List UInt8 × List UInt8 × Unit → Option (List UInt8 × List UInt8 × Bool × Unit) := fun (x0, x1, _) =>
  (f40 (x0, x1, ())).bind fun val => some (val.fst, val.snd.fst, val.snd.snd.fst, ())
theorem h27 (f40 : HS f40_ins → Option (OTy f40_outs)) (v : HS f27_ins) : afun Γ (fun f => Ae.lookA f [(40, ⟨f40_ins, f40_outs, f40⟩)]) 0 Tryd.f27.ntmps Tryd.f27.results.toList (code Tryd.f27) .nil (em id f27_ins v).1 (em id f27_ins v).2 (ofin 0 f27_outs) = F27 f40 v := by kernel_rfl
def C27 (v : List UInt8 × List UInt8 × Unit) : Option (List UInt8 × List UInt8 × Bool × Unit) := F27 C40 v
theorem ok27 : FnOk Tryd.prog 27 ⟨f27_ins, f27_outs, C27⟩ :=
  fn_ok (np := 0) (n := .nil) hm hΓ (K := (fun f => Ae.lookA f [(40, ⟨f40_ins, f40_outs, C40⟩)])) (kok_cons ok40 (kok_nil _)) Tryd.func27 (c := code Tryd.f27) (by kernel_rfl) (name_ne (by kernel_rfl))
    (ann_nil _) (fun v => Nat.le_of_ble_eq_true (by kernel_rfl)) (fun v => h27 C40 v)

def F23  : Int × Unit → Option (Int × Unit) := fun (x0, _) =>
  bif decide (x0 ≥ 65) then
    bif decide (x0 ≤ 90) then some (IntKind.u8.wrap (IntKind.u8.wrap (x0 - 65) + 97), ())
    else some (x0, ())
  else some (x0, ())
theorem h23  (v : HS f23_ins) : afun Γ (fun f => Ae.lookA f []) 0 Tryd.f23.ntmps Tryd.f23.results.toList (code Tryd.f23) .nil (em id f23_ins v).1 (em id f23_ins v).2 (ofin 0 f23_outs) = F23 v := by kernel_rfl
def C23 (v : Int × Unit) : Option (Int × Unit) := F23 v
theorem ok23 : FnOk Tryd.prog 23 ⟨f23_ins, f23_outs, C23⟩ :=
  fn_ok (np := 0) (n := .nil) hm hΓ (K := (fun f => Ae.lookA f [])) (kok_nil _) Tryd.func23 (c := code Tryd.f23) (by kernel_rfl) (name_ne (by kernel_rfl))
    (ann_nil _) (fun v => Nat.le_of_ble_eq_true (by kernel_rfl)) (fun v => h23 v)
end Go.Proofs.YtaoaagbfjekecaaDoor.W
