/- Plain forms of functions. Written by a program. -/
import Derived.Test.YtaoaagbfjekecaaDoorW4
set_option maxRecDepth 100000
set_option linter.unusedVariables false
namespace Go.Proofs.YtaoaagbfjekecaaDoor.W
open Go Go.Ae

def F25_g0  : Int × List (Int) × Unit → Option ((Int × List (Int) × Unit) ⊕ (Int × List (Int) × Unit)) := fun (x0, x1, _) =>
  some (Sum.inr (x0, x1, ()))
theorem h25_g0  (v : HS f25_g0_ins) : aev Γ (fun f => Ae.lookA f []) 0 ((findLabel (subc (code Tryd.f25) [1, 0]) 0).getD .skip) .nil (stof f25_g0_ins v) (aroundL 0 0 [] f25_g0_ins f25_g0_outs) = F25_g0 v := by kernel_rfl
def C25_g0 (v : Int × List (Int) × Unit) : Option (Int × List (Int) × Unit) := loopN (F25_g0) big v
theorem k25_g0 : FragOk Tryd.prog 0 (ScopeFrom Tryd.prog (subc (code Tryd.f25) [1, 0]) 0) ⟨f25_g0_ins, f25_g0_outs, C25_g0⟩ :=
  frag_label (ins := f25_g0_ins) (os := f25_g0_outs) (np := 0) (n := .nil) (ls := []) (F := F25_g0) (rest := (findLabel (subc (code Tryd.f25) [1, 0]) 0).getD .skip) hm hΓ (K := (fun f => Ae.lookA f [])) (kok_nil _) (fun _ => big) (by kernel_rfl)
    (ann_nil _) find_nil (fun v => h25_g0 v)

def F25 (f25_g0 : Int × List (Int) × Unit → Option (Int × List (Int) × Unit)) (f25_l1 : List UInt8 × Int × List (Int) × Unit → Option ((List (Int) × Unit) ⊕ (Int × List (Int) × Unit))) : List UInt8 × Unit → Option (List (Int) × Int × Unit) := fun (x0, _) =>
  (f25_l1 (x0, 0, [], ())).bind fun val =>
    Sum.elim (fun val => some (val.fst, -1, ()))
      (fun val => (f25_g0 (val.fst, val.snd.fst, ())).bind fun val => some (val.snd.fst, val.fst, ())) val
theorem h25 (f25_g0 : HS f25_g0_ins → Option (OTy f25_g0_outs)) (f25_l1 : HS f25_l1_ins → Option (OTy f25_l1_outs)) (v : HS f25_ins) : afun Γ (fun f => Ae.lookA f []) 0 Tryd.f25.ntmps Tryd.f25.results.toList (code Tryd.f25) (.seq .nil (.scope (.seq .nil (.seq .nil (.seq .nil (.seq .nil (.seq (.blk (.loop ⟨f25_l1_ins, f25_l1_outs, f25_l1⟩)) .nil))))) [(0, ⟨f25_g0_ins, f25_g0_outs, f25_g0⟩)])) (em id f25_ins v).1 (em id f25_ins v).2 (ofin 0 f25_outs) = F25 f25_g0 f25_l1 v := by kernel_rfl
def C25 (v : List UInt8 × Unit) : Option (List (Int) × Int × Unit) := F25 C25_g0 C25_l1 v
theorem ok25 : FnOk Tryd.prog 25 ⟨f25_ins, f25_outs, C25⟩ :=
  fn_ok (np := 0) (n := (.seq .nil (.scope (.seq .nil (.seq .nil (.seq .nil (.seq .nil (.seq (.blk (.loop ⟨f25_l1_ins, f25_l1_outs, C25_l1⟩)) .nil))))) [(0, ⟨f25_g0_ins, f25_g0_outs, C25_g0⟩)]))) hm hΓ (K := (fun f => Ae.lookA f [])) (kok_nil _) Tryd.func25 (c := code Tryd.f25) (by kernel_rfl) (name_ne (by kernel_rfl))
    (ann_seq (a := (subc (code Tryd.f25) [0])) (b := (subc (code Tryd.f25) [1])) (by kernel_rfl) (ann_nil _) (ann_scope (x := (subc (code Tryd.f25) [1, 0])) (by kernel_rfl) (ann_seq (a := (subc (code Tryd.f25) [1, 0, 0])) (b := (subc (code Tryd.f25) [1, 0, 1])) (by kernel_rfl) (ann_nil _) (ann_seq (a := (subc (code Tryd.f25) [1, 0, 1, 0])) (b := (subc (code Tryd.f25) [1, 0, 1, 1])) (by kernel_rfl) (ann_nil _) (ann_seq (a := (subc (code Tryd.f25) [1, 0, 1, 1, 0])) (b := (subc (code Tryd.f25) [1, 0, 1, 1, 1])) (by kernel_rfl) (ann_nil _) (ann_seq (a := (subc (code Tryd.f25) [1, 0, 1, 1, 1, 0])) (b := (subc (code Tryd.f25) [1, 0, 1, 1, 1, 1])) (by kernel_rfl) (ann_nil _) (ann_seq (a := (subc (code Tryd.f25) [1, 0, 1, 1, 1, 1, 0])) (b := (subc (code Tryd.f25) [1, 0, 1, 1, 1, 1, 1])) (by kernel_rfl) (ann_blk (x := (subc (code Tryd.f25) [1, 0, 1, 1, 1, 1, 0, 0])) (by kernel_rfl) (ann_loop (x := (subc (code Tryd.f25) [1, 0, 1, 1, 1, 1, 0, 0, 0])) (by kernel_rfl) k25_l1)) (ann_nil _)))))) (find_cons k25_g0 find_nil))) (fun v => Nat.le_of_ble_eq_true (by kernel_rfl)) (fun v => h25 C25_g0 C25_l1 v)

def F18 (f25 : List UInt8 × Unit → Option (List (Int) × Int × Unit)) : List UInt8 × Unit → Option (Bool × Unit) := fun (x0, _) =>
  (f25 (x0, ())).bind fun val => some (decide (val.snd.fst ≥ 0), ())
theorem h18 (f25 : HS f25_ins → Option (OTy f25_outs)) (v : HS f18_ins) : afun Γ (fun f => Ae.lookA f [(25, ⟨f25_ins, f25_outs, f25⟩)]) 0 Tryd.f18.ntmps Tryd.f18.results.toList (code Tryd.f18) .nil (em id f18_ins v).1 (em id f18_ins v).2 (ofin 0 f18_outs) = F18 f25 v := by kernel_rfl
def C18 (v : List UInt8 × Unit) : Option (Bool × Unit) := F18 C25 v
theorem ok18 : FnOk Tryd.prog 18 ⟨f18_ins, f18_outs, C18⟩ :=
  fn_ok (np := 0) (n := .nil) hm hΓ (K := (fun f => Ae.lookA f [(25, ⟨f25_ins, f25_outs, C25⟩)])) (kok_cons ok25 (kok_nil _)) Tryd.func18 (c := code Tryd.f18) (by kernel_rfl) (name_ne (by kernel_rfl))
    (ann_nil _) (fun v => Nat.le_of_ble_eq_true (by kernel_rfl)) (fun v => h18 C25 v)

def F24v1_l0 (f18 : List UInt8 × Unit → Option (Bool × Unit)) : List (List UInt8) × Int × Int × Unit → Option ((List (List UInt8) × Int × Int × Unit) ⊕ (Unit ⊕ (Int × Unit))) := fun (x0, x1, x2, _) =>
  bif decide (x2 < x1) then
    bif decide (0 ≤ x2) && decide (x2 < (↑x0.length : Int)) then
      (f18 (x0.getD x2.toNat [], ())).bind fun val =>
        bif val.fst then some (Sum.inr (Sum.inr (x2, ())))
        else some (Sum.inl (x0, x1, IntKind.i64.wrap (x2 + 1), ()))
    else none
  else some (Sum.inr (Sum.inl ()))
theorem h24v1_l0 (f18 : HS f18_ins → Option (OTy f18_outs)) (v : HS f24v1_l0_ins) : aev Γ (fun f => Ae.lookA f [(18, ⟨f18_ins, f18_outs, f18⟩)]) 0 (subc (code Tryd.f24) [1, 0, 1, 0, 0]) .nil (stof f24v1_l0_ins v) (around 0 f24v1_l0_ins f24v1_l0_outs) = F24v1_l0 f18 v := by kernel_rfl
def C24v1_l0 (v : List (List UInt8) × Int × Int × Unit) : Option (Unit ⊕ (Int × Unit)) := loopN (F24v1_l0 C18) big v
theorem k24v1_l0 : FragOk Tryd.prog 0 (fun Q a w => (Code.loop (subc (code Tryd.f24) [1, 0, 1, 0, 0])).wp Tryd.prog Q a w) ⟨f24v1_l0_ins, f24v1_l0_outs, C24v1_l0⟩ :=
  frag_loop (ins := f24v1_l0_ins) (os := f24v1_l0_outs) (np := 0) (n := .nil) (F := F24v1_l0 C18) hm hΓ (K := (fun f => Ae.lookA f [(18, ⟨f18_ins, f18_outs, C18⟩)])) (kok_cons ok18 (kok_nil _)) (fun _ => big)
    (ann_nil _) (fun v => h24v1_l0 C18 v)

def F24v1 (f24v1_l0 : List (List UInt8) × Int × Int × Unit → Option (Unit ⊕ (Int × Unit))) : List (List UInt8) × Unit → Option (Int × Unit) := fun (x0, _) =>
  (f24v1_l0 (x0, (↑x0.length : Int), 0, ())).bind fun val =>
    Sum.elim (fun val => some (-1, ())) (fun val => some (val.fst, ())) val
theorem h24v1 (f24v1_l0 : HS f24v1_l0_ins → Option (OTy f24v1_l0_outs)) (v : HS f24v1_ins) : afun Γ (fun f => Ae.lookA f []) 0 Tryd.f24.ntmps Tryd.f24.results.toList (code Tryd.f24) (.seq .nil (.seq (.seq .nil (.blk (.loop ⟨f24v1_l0_ins, f24v1_l0_outs, f24v1_l0⟩))) .nil)) (em id f24v1_ins v).1 (em id f24v1_ins v).2 (ofin 0 f24v1_outs) = F24v1 f24v1_l0 v := by kernel_rfl
def C24v1 (v : List (List UInt8) × Unit) : Option (Int × Unit) := F24v1 C24v1_l0 v
theorem ok24v1 : FnOk Tryd.prog 24 ⟨f24v1_ins, f24v1_outs, C24v1⟩ :=
  fn_ok (np := 0) (n := (.seq .nil (.seq (.seq .nil (.blk (.loop ⟨f24v1_l0_ins, f24v1_l0_outs, C24v1_l0⟩))) .nil))) hm hΓ (K := (fun f => Ae.lookA f [])) (kok_nil _) Tryd.func24 (c := code Tryd.f24) (by kernel_rfl) (name_ne (by kernel_rfl))
    (ann_seq (a := (subc (code Tryd.f24) [0])) (b := (subc (code Tryd.f24) [1])) (by kernel_rfl) (ann_nil _) (ann_seq (a := (subc (code Tryd.f24) [1, 0])) (b := (subc (code Tryd.f24) [1, 1])) (by kernel_rfl) (ann_seq (a := (subc (code Tryd.f24) [1, 0, 0])) (b := (subc (code Tryd.f24) [1, 0, 1])) (by kernel_rfl) (ann_nil _) (ann_blk (x := (subc (code Tryd.f24) [1, 0, 1, 0])) (by kernel_rfl) (ann_loop (x := (subc (code Tryd.f24) [1, 0, 1, 0, 0])) (by kernel_rfl) k24v1_l0))) (ann_nil _))) (fun v => Nat.le_of_ble_eq_true (by kernel_rfl)) (fun v => h24v1 C24v1_l0 v)

def F16v1 (f24v1 : List (List UInt8) × Unit → Option (Int × Unit)) : List (List UInt8) × Unit → Option (Bool × Unit) := fun (x0, _) =>
  (f24v1 (x0, ())).bind fun val => some (decide (val.fst ≥ 0), ())
theorem h16v1 (f24v1 : HS f24v1_ins → Option (OTy f24v1_outs)) (v : HS f16v1_ins) : afun Γ (fun f => Ae.lookA f [(24, ⟨f24v1_ins, f24v1_outs, f24v1⟩)]) 0 Tryd.f16.ntmps Tryd.f16.results.toList (code Tryd.f16) .nil (em id f16v1_ins v).1 (em id f16v1_ins v).2 (ofin 0 f16v1_outs) = F16v1 f24v1 v := by kernel_rfl
def C16v1 (v : List (List UInt8) × Unit) : Option (Bool × Unit) := F16v1 C24v1 v
theorem ok16v1 : FnOk Tryd.prog 16 ⟨f16v1_ins, f16v1_outs, C16v1⟩ :=
  fn_ok (np := 0) (n := .nil) hm hΓ (K := (fun f => Ae.lookA f [(24, ⟨f24v1_ins, f24v1_outs, C24v1⟩)])) (kok_cons ok24v1 (kok_nil _)) Tryd.func16 (c := code Tryd.f16) (by kernel_rfl) (name_ne (by kernel_rfl))
    (ann_nil _) (fun v => Nat.le_of_ble_eq_true (by kernel_rfl)) (fun v => h16v1 C24v1 v)

def F10_l0  : List ((List UInt8 × List UInt8)) × Int × Int × Bool × Bool × Bool × Int × Int × Bool × Bool × Bool × Int × Int × Unit → Option ((List ((List UInt8 × List UInt8)) × Int × Int × Bool × Bool × Bool × Int × Int × Bool × Bool × Bool × Int × Int × Unit) ⊕ (Bool × Bool × Bool × Int × Int × Bool × Bool × Bool × Int × Int × Unit)) := fun (x0, x1, x2, x3, x4, x5, x6, x7, x8, x9, x10, x11, x12, _) =>
  bif decide (x2 < x1) then
    bif decide (0 ≤ x2) && decide (x2 < (↑x0.length : Int)) then
      bif (x0.getD x2.toNat ([], [])).fst == [114, 101, 99, 101, 105, 118, 101, 100] then
        some
          (Sum.inl
            (x0, x1, IntKind.i64.wrap (x2 + 1), x3, x4, x5, x6, x7, x8, x9, x10, x11, IntKind.i64.wrap (x12 + 1),
              ()))
      else some (Sum.inl (x0, x1, IntKind.i64.wrap (x2 + 1), x3, x4, x5, x6, x7, x8, x9, x10, x11, x12, ()))
    else none
  else some (Sum.inr (x3, x4, x5, x6, x7, x8, x9, x10, x11, x12, ()))
theorem h10_l0  (v : HS f10_l0_ins) : aev Γ (fun f => Ae.lookA f []) 0 (subc (code Tryd.f10) [1, 1, 1, 1, 0, 1, 0, 0]) .nil (stof f10_l0_ins v) (around 0 f10_l0_ins f10_l0_outs) = F10_l0 v := by kernel_rfl
def C10_l0 (v : List ((List UInt8 × List UInt8)) × Int × Int × Bool × Bool × Bool × Int × Int × Bool × Bool × Bool × Int × Int × Unit) : Option (Bool × Bool × Bool × Int × Int × Bool × Bool × Bool × Int × Int × Unit) := loopN (F10_l0) big v
theorem k10_l0 : FragOk Tryd.prog 0 (fun Q a w => (Code.loop (subc (code Tryd.f10) [1, 1, 1, 1, 0, 1, 0, 0])).wp Tryd.prog Q a w) ⟨f10_l0_ins, f10_l0_outs, C10_l0⟩ :=
  frag_loop (ins := f10_l0_ins) (os := f10_l0_outs) (np := 0) (n := .nil) (F := F10_l0) hm hΓ (K := (fun f => Ae.lookA f [])) (kok_nil _) (fun _ => big)
    (ann_nil _) (fun v => h10_l0 v)

def F10 (f9 : List (List UInt8) × Unit → Option (Int × Unit)) (f12 : List (List UInt8) × Unit → Option (List ((List UInt8 × List UInt8)) × Unit)) (f16 : List (List UInt8) × Unit → Option (Bool × Unit)) (f16v1 : List (List UInt8) × Unit → Option (Bool × Unit)) (f10_l0 : List ((List UInt8 × List UInt8)) × Int × Int × Bool × Bool × Bool × Int × Int × Bool × Bool × Bool × Int × Int × Unit → Option (Bool × Bool × Bool × Int × Int × Bool × Bool × Bool × Int × Int × Unit)) : List (List UInt8) × Unit → Option (Bool × Bool × Bool × Int × Int × Unit) := fun (x0, _) =>
  (f9 (x0, ())).bind fun val =>
    bif decide (0 ≤ val.fst) && decide (val.fst ≤ (↑x0.length : Int)) then
      bif decide (0 ≤ val.fst) && decide (val.fst ≤ (↑x0.length : Int)) then
        (f16 (List.take (Int.toNat val.fst) x0, ())).bind fun val_1 =>
          (f16 (List.drop (Int.toNat val.fst) x0, ())).bind fun val_2 =>
            (f16v1 (List.take (Int.toNat val.fst) x0, ())).bind fun val_3 =>
              (f12 (x0, ())).bind fun val_4 =>
                (f10_l0
                      (val_4.fst, (↑(List.length val_4.fst) : Int), 0, false, false, false, 0, 0, val_1.fst, val_2.fst,
                        val_3.fst, val.fst, 0, ())).bind
                  fun val =>
                  some
                    (val.snd.snd.snd.snd.snd.fst, val.snd.snd.snd.snd.snd.snd.fst, val.snd.snd.snd.snd.snd.snd.snd.fst,
                      val.snd.snd.snd.snd.snd.snd.snd.snd.fst, val.snd.snd.snd.snd.snd.snd.snd.snd.snd.fst, ())
      else none
    else none
theorem h10 (f9 : HS f9_ins → Option (OTy f9_outs)) (f12 : HS f12_ins → Option (OTy f12_outs)) (f16 : HS f16_ins → Option (OTy f16_outs)) (f16v1 : HS f16v1_ins → Option (OTy f16v1_outs)) (f10_l0 : HS f10_l0_ins → Option (OTy f10_l0_outs)) (v : HS f10_ins) : afun Γ (fun f => Ae.lookA f [(9, ⟨f9_ins, f9_outs, f9⟩), (12, ⟨f12_ins, f12_outs, f12⟩), (16, ⟨f16_ins, f16_outs, f16⟩), (16, ⟨f16v1_ins, f16v1_outs, f16v1⟩)]) 0 Tryd.f10.ntmps Tryd.f10.results.toList (code Tryd.f10) (.seq .nil (.seq .nil (.seq .nil (.seq .nil (.seq (.seq .nil (.blk (.loop ⟨f10_l0_ins, f10_l0_outs, f10_l0⟩))) .nil))))) (em id f10_ins v).1 (em id f10_ins v).2 (ofin 0 f10_outs) = F10 f9 f12 f16 f16v1 f10_l0 v := by kernel_rfl
def C10 (v : List (List UInt8) × Unit) : Option (Bool × Bool × Bool × Int × Int × Unit) := F10 C9 C12 C16 C16v1 C10_l0 v
theorem ok10 : FnOk Tryd.prog 10 ⟨f10_ins, f10_outs, C10⟩ :=
  fn_ok (np := 0) (n := (.seq .nil (.seq .nil (.seq .nil (.seq .nil (.seq (.seq .nil (.blk (.loop ⟨f10_l0_ins, f10_l0_outs, C10_l0⟩))) .nil)))))) hm hΓ (K := (fun f => Ae.lookA f [(9, ⟨f9_ins, f9_outs, C9⟩), (12, ⟨f12_ins, f12_outs, C12⟩), (16, ⟨f16_ins, f16_outs, C16⟩), (16, ⟨f16v1_ins, f16v1_outs, C16v1⟩)])) (kok_cons ok9 (kok_cons ok12 (kok_cons ok16 (kok_cons ok16v1 (kok_nil _))))) Tryd.func10 (c := code Tryd.f10) (by kernel_rfl) (name_ne (by kernel_rfl))
    (ann_seq (a := (subc (code Tryd.f10) [0])) (b := (subc (code Tryd.f10) [1])) (by kernel_rfl) (ann_nil _) (ann_seq (a := (subc (code Tryd.f10) [1, 0])) (b := (subc (code Tryd.f10) [1, 1])) (by kernel_rfl) (ann_nil _) (ann_seq (a := (subc (code Tryd.f10) [1, 1, 0])) (b := (subc (code Tryd.f10) [1, 1, 1])) (by kernel_rfl) (ann_nil _) (ann_seq (a := (subc (code Tryd.f10) [1, 1, 1, 0])) (b := (subc (code Tryd.f10) [1, 1, 1, 1])) (by kernel_rfl) (ann_nil _) (ann_seq (a := (subc (code Tryd.f10) [1, 1, 1, 1, 0])) (b := (subc (code Tryd.f10) [1, 1, 1, 1, 1])) (by kernel_rfl) (ann_seq (a := (subc (code Tryd.f10) [1, 1, 1, 1, 0, 0])) (b := (subc (code Tryd.f10) [1, 1, 1, 1, 0, 1])) (by kernel_rfl) (ann_nil _) (ann_blk (x := (subc (code Tryd.f10) [1, 1, 1, 1, 0, 1, 0])) (by kernel_rfl) (ann_loop (x := (subc (code Tryd.f10) [1, 1, 1, 1, 0, 1, 0, 0])) (by kernel_rfl) k10_l0))) (ann_nil _)))))) (fun v => Nat.le_of_ble_eq_true (by kernel_rfl)) (fun v => h10 C9 C12 C16 C16v1 C10_l0 v)

def C7 (v : Unit) : Option (Bool × Unit) := some (true, ())
theorem h7 : afun Γ (fun f => Ae.lookA f [(9, ⟨f9_ins, f9_outs, C9⟩), (10, ⟨f10_ins, f10_outs, C10⟩), (12, ⟨f12_ins, f12_outs, C12⟩), (14, ⟨f14_ins, f14_outs, C14⟩)]) 0 Tryd.f7.ntmps Tryd.f7.results.toList (code Tryd.f7) .nil (em id f7_ins ()).1 (em id f7_ins ()).2 (ofin 0 f7_outs) = some (true, ()) := by kernel_rfl
theorem ok7 : FnOk Tryd.prog 7 ⟨f7_ins, f7_outs, C7⟩ :=
  fn_ok (np := 0) (n := .nil) hm hΓ (K := (fun f => Ae.lookA f [(9, ⟨f9_ins, f9_outs, C9⟩), (10, ⟨f10_ins, f10_outs, C10⟩), (12, ⟨f12_ins, f12_outs, C12⟩), (14, ⟨f14_ins, f14_outs, C14⟩)])) (kok_cons ok9 (kok_cons ok10 (kok_cons ok12 (kok_cons ok14 (kok_nil _))))) Tryd.func7 (c := code Tryd.f7) (by kernel_rfl) (name_ne (by kernel_rfl))
    (ann_nil _) (fun v => Nat.le_of_ble_eq_true (by kernel_rfl)) (fun v => h7)
end Go.Proofs.YtaoaagbfjekecaaDoor.W
