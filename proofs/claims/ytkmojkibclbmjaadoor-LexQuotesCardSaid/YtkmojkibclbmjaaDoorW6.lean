/- Plain forms of functions. Written by a program. -/
import Derived.Test.YtkmojkibclbmjaaDoorW5
set_option maxRecDepth 100000
set_option linter.unusedVariables false
namespace Go.Proofs.YtkmojkibclbmjaaDoor.W
open Go Go.Ae

def F12_l0 (f17 : Int × Unit → Option (Bool × Unit)) : List UInt8 × Int × Int × Unit → Option ((List UInt8 × Int × Int × Unit) ⊕ ((List UInt8 × Unit) ⊕ (Bool × Unit))) := fun (x0, x1, x2, _) =>
  bif decide (x2 < x1) then
    bif decide (0 ≤ x2) && decide (x2 < (↑x0.length : Int)) then
      (f17 ((↑(x0.getD x2.toNat 0).toNat : Int), ())).bind fun val =>
        bif !val.fst then some (Sum.inr (Sum.inr (false, ())))
        else some (Sum.inl (x0, x1, IntKind.i64.wrap (x2 + 1), ()))
    else none
  else some (Sum.inr (Sum.inl (x0, ())))
theorem h12_l0 (f17 : HS f17_ins → Option (OTy f17_outs)) (v : HS f12_l0_ins) : aev Γ (fun f => Ae.look f [(17, ⟨f17_ins, f17_outs, f17⟩)]) 0 (subc (code Tryd.f12) [1, 0, 1, 0, 0]) .nil (stof f12_l0_ins v) (around 0 f12_l0_ins f12_l0_outs) = F12_l0 f17 v := by kernel_rfl
def C12_l0 (v : List UInt8 × Int × Int × Unit) : Option ((List UInt8 × Unit) ⊕ (Bool × Unit)) := loopN (F12_l0 C17) big v
theorem k12_l0 : FragOk Tryd.prog 0 (fun Q a w => (Code.loop (subc (code Tryd.f12) [1, 0, 1, 0, 0])).wp Tryd.prog Q a w) ⟨f12_l0_ins, f12_l0_outs, C12_l0⟩ :=
  frag_loop (ins := f12_l0_ins) (os := f12_l0_outs) (np := 0) (n := .nil) (F := F12_l0 C17) hm hΓ (K := (fun f => Ae.look f [(17, ⟨f17_ins, f17_outs, C17⟩)])) (kok_cons ok17 (kok_nil _)) (fun _ => big)
    (ann_nil _) (fun v => h12_l0 C17 v)

def F12 (f17 : Int × Unit → Option (Bool × Unit)) (f12_l0 : List UInt8 × Int × Int × Unit → Option ((List UInt8 × Unit) ⊕ (Bool × Unit))) : List UInt8 × Unit → Option (Bool × Unit) := fun (x0, _) =>
  (f12_l0 (x0, (↑x0.length : Int), 0, ())).bind fun val =>
    Sum.elim (fun val => some (bif val.fst == [] then false else true, ()))
      (fun val => some (val.fst, ())) val
theorem h12 (f17 : HS f17_ins → Option (OTy f17_outs)) (f12_l0 : HS f12_l0_ins → Option (OTy f12_l0_outs)) (v : HS f12_ins) : afun Γ (fun f => Ae.look f [(17, ⟨f17_ins, f17_outs, f17⟩)]) 0 Tryd.f12.ntmps Tryd.f12.results.toList (code Tryd.f12) (.seq .nil (.seq (.seq .nil (.blk (.loop ⟨f12_l0_ins, f12_l0_outs, f12_l0⟩))) .nil)) (em id f12_ins v).1 (em id f12_ins v).2 (ofin 0 f12_outs) = F12 f17 f12_l0 v := by kernel_rfl
def C12 (v : List UInt8 × Unit) : Option (Bool × Unit) := F12 C17 C12_l0 v
theorem ok12 : FnOk Tryd.prog 12 ⟨f12_ins, f12_outs, C12⟩ :=
  fn_ok (np := 0) (n := (.seq .nil (.seq (.seq .nil (.blk (.loop ⟨f12_l0_ins, f12_l0_outs, C12_l0⟩))) .nil))) hm hΓ (K := (fun f => Ae.look f [(17, ⟨f17_ins, f17_outs, C17⟩)])) (kok_cons ok17 (kok_nil _)) Tryd.func12 (c := code Tryd.f12) (by kernel_rfl) (name_ne (by kernel_rfl))
    (ann_seq (a := (subc (code Tryd.f12) [0])) (b := (subc (code Tryd.f12) [1])) (by kernel_rfl) (ann_nil _) (ann_seq (a := (subc (code Tryd.f12) [1, 0])) (b := (subc (code Tryd.f12) [1, 1])) (by kernel_rfl) (ann_seq (a := (subc (code Tryd.f12) [1, 0, 0])) (b := (subc (code Tryd.f12) [1, 0, 1])) (by kernel_rfl) (ann_nil _) (ann_blk (x := (subc (code Tryd.f12) [1, 0, 1, 0])) (by kernel_rfl) (ann_loop (x := (subc (code Tryd.f12) [1, 0, 1, 0, 0])) (by kernel_rfl) k12_l0))) (ann_nil _))) (fun v => Nat.le_of_ble_eq_true (by kernel_rfl)) (fun v => h12 C17 C12_l0 v)

def F13_l0 (f12 : List UInt8 × Unit → Option (Bool × Unit)) : List (List UInt8) × Int × Int × Unit → Option ((List (List UInt8) × Int × Int × Unit) ⊕ (Unit ⊕ (Bool × Unit))) := fun (x0, x1, x2, _) =>
  bif decide (x2 < x1) then
    bif decide (0 ≤ x2) && decide (x2 < (↑x0.length : Int)) then
      (f12 (x0.getD x2.toNat [], ())).bind fun val =>
        bif !val.fst then some (Sum.inr (Sum.inr (false, ())))
        else some (Sum.inl (x0, x1, IntKind.i64.wrap (x2 + 1), ()))
    else none
  else some (Sum.inr (Sum.inl ()))
theorem h13_l0 (f12 : HS f12_ins → Option (OTy f12_outs)) (v : HS f13_l0_ins) : aev Γ (fun f => Ae.look f [(12, ⟨f12_ins, f12_outs, f12⟩)]) 0 (subc (code Tryd.f13) [1, 0, 1, 0, 0]) .nil (stof f13_l0_ins v) (around 0 f13_l0_ins f13_l0_outs) = F13_l0 f12 v := by kernel_rfl
def C13_l0 (v : List (List UInt8) × Int × Int × Unit) : Option (Unit ⊕ (Bool × Unit)) := loopN (F13_l0 C12) big v
theorem k13_l0 : FragOk Tryd.prog 0 (fun Q a w => (Code.loop (subc (code Tryd.f13) [1, 0, 1, 0, 0])).wp Tryd.prog Q a w) ⟨f13_l0_ins, f13_l0_outs, C13_l0⟩ :=
  frag_loop (ins := f13_l0_ins) (os := f13_l0_outs) (np := 0) (n := .nil) (F := F13_l0 C12) hm hΓ (K := (fun f => Ae.look f [(12, ⟨f12_ins, f12_outs, C12⟩)])) (kok_cons ok12 (kok_nil _)) (fun _ => big)
    (ann_nil _) (fun v => h13_l0 C12 v)

def F13 (f12 : List UInt8 × Unit → Option (Bool × Unit)) (f18 : List UInt8 × List UInt8 × Unit → Option (List (List UInt8) × Unit)) (f13_l0 : List (List UInt8) × Int × Int × Unit → Option (Unit ⊕ (Bool × Unit))) : List UInt8 × Unit → Option (Bool × Unit) := fun (x0, _) =>
  (f18 (x0, [46], ())).bind fun val =>
    (f13_l0 (val.fst, (↑(List.length val.fst) : Int), 0, ())).bind fun val =>
      Sum.elim (fun val => some (true, ())) (fun val => some (val.fst, ())) val
theorem h13 (f12 : HS f12_ins → Option (OTy f12_outs)) (f18 : HS f18_ins → Option (OTy f18_outs)) (f13_l0 : HS f13_l0_ins → Option (OTy f13_l0_outs)) (v : HS f13_ins) : afun Γ (fun f => Ae.look f [(12, ⟨f12_ins, f12_outs, f12⟩), (18, ⟨f18_ins, f18_outs, f18⟩)]) 0 Tryd.f13.ntmps Tryd.f13.results.toList (code Tryd.f13) (.seq .nil (.seq (.seq .nil (.blk (.loop ⟨f13_l0_ins, f13_l0_outs, f13_l0⟩))) .nil)) (em id f13_ins v).1 (em id f13_ins v).2 (ofin 0 f13_outs) = F13 f12 f18 f13_l0 v := by kernel_rfl
def C13 (v : List UInt8 × Unit) : Option (Bool × Unit) := F13 C12 C18 C13_l0 v
theorem ok13 : FnOk Tryd.prog 13 ⟨f13_ins, f13_outs, C13⟩ :=
  fn_ok (np := 0) (n := (.seq .nil (.seq (.seq .nil (.blk (.loop ⟨f13_l0_ins, f13_l0_outs, C13_l0⟩))) .nil))) hm hΓ (K := (fun f => Ae.look f [(12, ⟨f12_ins, f12_outs, C12⟩), (18, ⟨f18_ins, f18_outs, C18⟩)])) (kok_cons ok12 (kok_cons ok18 (kok_nil _))) Tryd.func13 (c := code Tryd.f13) (by kernel_rfl) (name_ne (by kernel_rfl))
    (ann_seq (a := (subc (code Tryd.f13) [0])) (b := (subc (code Tryd.f13) [1])) (by kernel_rfl) (ann_nil _) (ann_seq (a := (subc (code Tryd.f13) [1, 0])) (b := (subc (code Tryd.f13) [1, 1])) (by kernel_rfl) (ann_seq (a := (subc (code Tryd.f13) [1, 0, 0])) (b := (subc (code Tryd.f13) [1, 0, 1])) (by kernel_rfl) (ann_nil _) (ann_blk (x := (subc (code Tryd.f13) [1, 0, 1, 0])) (by kernel_rfl) (ann_loop (x := (subc (code Tryd.f13) [1, 0, 1, 0, 0])) (by kernel_rfl) k13_l0))) (ann_nil _))) (fun v => Nat.le_of_ble_eq_true (by kernel_rfl)) (fun v => h13 C12 C18 C13_l0 v)

def C8 (v : Unit) : Option (Bool × Unit) := some (true, ())
theorem h8 : afun Γ (fun f => Ae.look f [(9, ⟨f9_ins, f9_outs, C9⟩), (11, ⟨f11_ins, f11_outs, C11⟩), (12, ⟨f12_ins, f12_outs, C12⟩), (13, ⟨f13_ins, f13_outs, C13⟩)]) 0 Tryd.f8.ntmps Tryd.f8.results.toList (code Tryd.f8) .nil (em id f8_ins ()).1 (em id f8_ins ()).2 (ofin 0 f8_outs) = some (true, ()) := by kernel_rfl
theorem ok8 : FnOk Tryd.prog 8 ⟨f8_ins, f8_outs, C8⟩ :=
  fn_ok (np := 0) (n := .nil) hm hΓ (K := (fun f => Ae.look f [(9, ⟨f9_ins, f9_outs, C9⟩), (11, ⟨f11_ins, f11_outs, C11⟩), (12, ⟨f12_ins, f12_outs, C12⟩), (13, ⟨f13_ins, f13_outs, C13⟩)])) (kok_cons ok9 (kok_cons ok11 (kok_cons ok12 (kok_cons ok13 (kok_nil _))))) Tryd.func8 (c := code Tryd.f8) (by kernel_rfl) (name_ne (by kernel_rfl))
    (ann_nil _) (fun v => Nat.le_of_ble_eq_true (by kernel_rfl)) (fun v => h8)

def F10_c0  : Int × Int × List UInt8 × Int × List UInt8 × Unit → Option (Int × Int × List UInt8 × Int × List UInt8 × Unit) := fun (x0, x1, x2, x3, x4, _) =>
  bif decide (0 ≤ x0) && decide (x0 < (↑x2.length : Int)) then
    bif decide (x4.length + [UInt8.ofNat (↑(x2.getD x0.toNat 0).toNat : Int).toNat].length ≤ 140737488355328 / 1) then
      some (x0, x1, x2, x3, x4 ++ [UInt8.ofNat (↑(x2.getD x0.toNat 0).toNat : Int).toNat], ())
    else none
  else none
theorem h10_c0  (v : HS f10_c0_ins) : aev Γ (fun f => Ae.look f []) 0 (subc (code Tryd.f10) [1, 0, 1, 0, 1, 1, 1, 1, 1, 0, 1, 0, 1, 0, 0, 1, 0, 0, 1]) .nil (stof f10_c0_ins v) (oout 0 f10_c0_outs) = F10_c0 v := by kernel_rfl
def C10_c0 (v : Int × Int × List UInt8 × Int × List UInt8 × Unit) : Option (Int × Int × List UInt8 × Int × List UInt8 × Unit) := F10_c0 v
theorem k10_c0 : FragOk Tryd.prog 0 (fun Q a w => ((subc (code Tryd.f10) [1, 0, 1, 0, 1, 1, 1, 1, 1, 0, 1, 0, 1, 0, 0, 1, 0, 0, 1])).wp Tryd.prog Q a w) ⟨f10_c0_ins, f10_c0_outs, C10_c0⟩ :=
  frag_code (ins := f10_c0_ins) (os := f10_c0_outs) (np := 0) (n := .nil) (F := C10_c0) hm hΓ (K := (fun f => Ae.look f [])) (kok_nil _)
    (ann_nil _) (fun v => h10_c0 v)

def F10_l0 (f10_c0 : Int × Int × List UInt8 × Int × List UInt8 × Unit → Option (Int × Int × List UInt8 × Int × List UInt8 × Unit)) : Int × Int × List UInt8 × Int × List UInt8 × Unit → Option ((Int × Int × List UInt8 × Int × List UInt8 × Unit) ⊕ (List UInt8 × Unit)) := fun (x0, x1, x2, x3, x4, _) =>
  bif decide (x0 < (↑x2.length : Int)) then
    bif decide (0 ≤ x0) && decide (x0 < (↑x2.length : Int)) then
      bif (↑(x2.getD x0.toNat 0).toNat : Int) == 34 then
        bif decide (x4.length + [92].length ≤ 140737488355328 / 1) then
          (f10_c0 (x0, x1, x2, x3, x4 ++ [92], ())).bind fun val =>
            some
              (Sum.inl
                (IntKind.i64.wrap (val.fst + 1), val.snd.fst, val.snd.snd.fst, val.snd.snd.snd.fst,
                  val.snd.snd.snd.snd.fst, ()))
        else none
      else
        bif decide (0 ≤ x0) && decide (x0 < (↑x2.length : Int)) then
          bif (↑(x2.getD x0.toNat 0).toNat : Int) == 92 then
            bif decide (x4.length + [92].length ≤ 140737488355328 / 1) then
              (f10_c0 (x0, x1, x2, x3, x4 ++ [92], ())).bind fun val =>
                some
                  (Sum.inl
                    (IntKind.i64.wrap (val.fst + 1), val.snd.fst, val.snd.snd.fst, val.snd.snd.snd.fst,
                      val.snd.snd.snd.snd.fst, ()))
            else none
          else
            (f10_c0 (x0, x1, x2, x3, x4, ())).bind fun val =>
              some
                (Sum.inl
                  (IntKind.i64.wrap (val.fst + 1), val.snd.fst, val.snd.snd.fst, val.snd.snd.snd.fst,
                    val.snd.snd.snd.snd.fst, ()))
        else none
    else none
  else some (Sum.inr (x4, ()))
theorem h10_l0 (f10_c0 : HS f10_c0_ins → Option (OTy f10_c0_outs)) (v : HS f10_l0_ins) : aev Γ (fun f => Ae.look f []) 0 (subc (code Tryd.f10) [1, 0, 1, 0, 1, 1, 1, 1, 1, 0, 1, 0, 1, 0, 0]) (.seq .nil (.seq (.blk (.cut .nil ⟨f10_c0_ins, f10_c0_outs, f10_c0⟩)) .nil)) (stof f10_l0_ins v) (around 0 f10_l0_ins f10_l0_outs) = F10_l0 f10_c0 v := by kernel_rfl
def C10_l0 (v : Int × Int × List UInt8 × Int × List UInt8 × Unit) : Option (List UInt8 × Unit) := loopN (F10_l0 C10_c0) big v
theorem k10_l0 : FragOk Tryd.prog 0 (fun Q a w => (Code.loop (subc (code Tryd.f10) [1, 0, 1, 0, 1, 1, 1, 1, 1, 0, 1, 0, 1, 0, 0])).wp Tryd.prog Q a w) ⟨f10_l0_ins, f10_l0_outs, C10_l0⟩ :=
  frag_loop (ins := f10_l0_ins) (os := f10_l0_outs) (np := 0) (n := (.seq .nil (.seq (.blk (.cut .nil ⟨f10_c0_ins, f10_c0_outs, C10_c0⟩)) .nil))) (F := F10_l0 C10_c0) hm hΓ (K := (fun f => Ae.look f [])) (kok_nil _) (fun _ => big)
    (ann_seq (a := (subc (code Tryd.f10) [1, 0, 1, 0, 1, 1, 1, 1, 1, 0, 1, 0, 1, 0, 0, 0])) (b := (subc (code Tryd.f10) [1, 0, 1, 0, 1, 1, 1, 1, 1, 0, 1, 0, 1, 0, 0, 1])) (by kernel_rfl) (ann_nil _) (ann_seq (a := (subc (code Tryd.f10) [1, 0, 1, 0, 1, 1, 1, 1, 1, 0, 1, 0, 1, 0, 0, 1, 0])) (b := (subc (code Tryd.f10) [1, 0, 1, 0, 1, 1, 1, 1, 1, 0, 1, 0, 1, 0, 0, 1, 1])) (by kernel_rfl) (ann_blk (x := (subc (code Tryd.f10) [1, 0, 1, 0, 1, 1, 1, 1, 1, 0, 1, 0, 1, 0, 0, 1, 0, 0])) (by kernel_rfl) (ann_cut (a := (subc (code Tryd.f10) [1, 0, 1, 0, 1, 1, 1, 1, 1, 0, 1, 0, 1, 0, 0, 1, 0, 0, 0])) (b := (subc (code Tryd.f10) [1, 0, 1, 0, 1, 1, 1, 1, 1, 0, 1, 0, 1, 0, 0, 1, 0, 0, 1])) (by kernel_rfl) (ann_nil _) k10_c0)) (ann_nil _))) (fun v => h10_l0 C10_c0 v)

def F10 (f10_l0 : Int × Int × List UInt8 × Int × List UInt8 × Unit → Option (List UInt8 × Unit)) : Int × List UInt8 × Int × Unit → Option (List UInt8 × Unit) := fun (x0, x1, x2, _) =>
  bif x0 == 3 then
    bif decide ([40].length + x1.length ≤ 9223372036854775807) then
      bif decide (([40] ++ x1).length + [41].length ≤ 9223372036854775807) then
        some ([40] ++ x1 ++ [41], ())
      else none
    else none
  else
    bif x0 == 5 then
      bif decide ([91].length + x1.length ≤ 9223372036854775807) then
        bif decide (([91] ++ x1).length + [93].length ≤ 9223372036854775807) then
          some ([91] ++ x1 ++ [93], ())
        else none
      else none
    else
      bif x0 == 1 then
        (f10_l0 (0, x0, x1, x2, [34], ())).bind fun val =>
          bif decide (List.length val.fst + [34].length ≤ 140737488355328 / 1) then
            some (val.fst ++ [34], ())
          else none
      else some (x1, ())
theorem h10 (f10_l0 : HS f10_l0_ins → Option (OTy f10_l0_outs)) (v : HS f10_ins) : afun Γ (fun f => Ae.look f []) 0 Tryd.f10.ntmps Tryd.f10.results.toList (code Tryd.f10) (.seq .nil (.seq (.seq .nil (.blk (.seq .nil (.cond .nil (.seq .nil (.cond .nil (.seq .nil (.cond (.seq .nil (.seq (.seq .nil (.blk (.loop ⟨f10_l0_ins, f10_l0_outs, f10_l0⟩))) .nil)) .nil)))))))) .nil)) (em id f10_ins v).1 (em id f10_ins v).2 (ofin 0 f10_outs) = F10 f10_l0 v := by kernel_rfl
def C10 (v : Int × List UInt8 × Int × Unit) : Option (List UInt8 × Unit) := F10 C10_l0 v
theorem ok10 : FnOk Tryd.prog 10 ⟨f10_ins, f10_outs, C10⟩ :=
  fn_ok (np := 0) (n := (.seq .nil (.seq (.seq .nil (.blk (.seq .nil (.cond .nil (.seq .nil (.cond .nil (.seq .nil (.cond (.seq .nil (.seq (.seq .nil (.blk (.loop ⟨f10_l0_ins, f10_l0_outs, C10_l0⟩))) .nil)) .nil)))))))) .nil))) hm hΓ (K := (fun f => Ae.look f [])) (kok_nil _) Tryd.func10 (c := code Tryd.f10) (by kernel_rfl) (name_ne (by kernel_rfl))
    (ann_seq (a := (subc (code Tryd.f10) [0])) (b := (subc (code Tryd.f10) [1])) (by kernel_rfl) (ann_nil _) (ann_seq (a := (subc (code Tryd.f10) [1, 0])) (b := (subc (code Tryd.f10) [1, 1])) (by kernel_rfl) (ann_seq (a := (subc (code Tryd.f10) [1, 0, 0])) (b := (subc (code Tryd.f10) [1, 0, 1])) (by kernel_rfl) (ann_nil _) (ann_blk (x := (subc (code Tryd.f10) [1, 0, 1, 0])) (by kernel_rfl) (ann_seq (a := (subc (code Tryd.f10) [1, 0, 1, 0, 0])) (b := (subc (code Tryd.f10) [1, 0, 1, 0, 1])) (by kernel_rfl) (ann_nil _) (ann_cond (x := (subc (code Tryd.f10) [1, 0, 1, 0, 1, 0])) (y := (subc (code Tryd.f10) [1, 0, 1, 0, 1, 1])) (by kernel_rfl) (ann_nil _) (ann_seq (a := (subc (code Tryd.f10) [1, 0, 1, 0, 1, 1, 0])) (b := (subc (code Tryd.f10) [1, 0, 1, 0, 1, 1, 1])) (by kernel_rfl) (ann_nil _) (ann_cond (x := (subc (code Tryd.f10) [1, 0, 1, 0, 1, 1, 1, 0])) (y := (subc (code Tryd.f10) [1, 0, 1, 0, 1, 1, 1, 1])) (by kernel_rfl) (ann_nil _) (ann_seq (a := (subc (code Tryd.f10) [1, 0, 1, 0, 1, 1, 1, 1, 0])) (b := (subc (code Tryd.f10) [1, 0, 1, 0, 1, 1, 1, 1, 1])) (by kernel_rfl) (ann_nil _) (ann_cond (x := (subc (code Tryd.f10) [1, 0, 1, 0, 1, 1, 1, 1, 1, 0])) (y := (subc (code Tryd.f10) [1, 0, 1, 0, 1, 1, 1, 1, 1, 1])) (by kernel_rfl) (ann_seq (a := (subc (code Tryd.f10) [1, 0, 1, 0, 1, 1, 1, 1, 1, 0, 0])) (b := (subc (code Tryd.f10) [1, 0, 1, 0, 1, 1, 1, 1, 1, 0, 1])) (by kernel_rfl) (ann_nil _) (ann_seq (a := (subc (code Tryd.f10) [1, 0, 1, 0, 1, 1, 1, 1, 1, 0, 1, 0])) (b := (subc (code Tryd.f10) [1, 0, 1, 0, 1, 1, 1, 1, 1, 0, 1, 1])) (by kernel_rfl) (ann_seq (a := (subc (code Tryd.f10) [1, 0, 1, 0, 1, 1, 1, 1, 1, 0, 1, 0, 0])) (b := (subc (code Tryd.f10) [1, 0, 1, 0, 1, 1, 1, 1, 1, 0, 1, 0, 1])) (by kernel_rfl) (ann_nil _) (ann_blk (x := (subc (code Tryd.f10) [1, 0, 1, 0, 1, 1, 1, 1, 1, 0, 1, 0, 1, 0])) (by kernel_rfl) (ann_loop (x := (subc (code Tryd.f10) [1, 0, 1, 0, 1, 1, 1, 1, 1, 0, 1, 0, 1, 0, 0])) (by kernel_rfl) k10_l0))) (ann_nil _))) (ann_nil _))))))))) (ann_nil _))) (fun v => Nat.le_of_ble_eq_true (by kernel_rfl)) (fun v => h10 C10_l0 v)

def F3 (f8 : Unit → Option (Bool × Unit)) (f9 : Int × List UInt8 × Int × Unit → Option (List UInt8 × Unit)) (f10 : Int × List UInt8 × Int × Unit → Option (List UInt8 × Unit)) : Int × List UInt8 × Int × Unit → Option (Bool × Unit) := fun (x0, x1, x2, _) =>
  (f8 ()).bind fun val =>
    bif val.fst then
      bif decide ((↑x1.length : Int) > 3000) then some (true, ())
      else
        (f9 (x0, x1, x2, ())).bind fun val =>
          (f10 (x0, x1, x2, ())).bind fun val_1 => some (val.fst == val_1.fst, ())
    else some (false, ())
theorem h3 (f8 : HS f8_ins → Option (OTy f8_outs)) (f9 : HS f9_ins → Option (OTy f9_outs)) (f10 : HS f10_ins → Option (OTy f10_outs)) (v : HS f3_ins) : afun Γ (fun f => Ae.look f [(8, ⟨f8_ins, f8_outs, f8⟩), (9, ⟨f9_ins, f9_outs, f9⟩), (10, ⟨f10_ins, f10_outs, f10⟩)]) 0 Tryd.f3.ntmps Tryd.f3.results.toList (code Tryd.f3) .nil (em id f3_ins v).1 (em id f3_ins v).2 (ofin 0 f3_outs) = F3 f8 f9 f10 v := by kernel_rfl
def C3 (v : Int × List UInt8 × Int × Unit) : Option (Bool × Unit) := F3 C8 C9 C10 v
theorem ok3 : FnOk Tryd.prog 3 ⟨f3_ins, f3_outs, C3⟩ :=
  fn_ok (np := 0) (n := .nil) hm hΓ (K := (fun f => Ae.look f [(8, ⟨f8_ins, f8_outs, C8⟩), (9, ⟨f9_ins, f9_outs, C9⟩), (10, ⟨f10_ins, f10_outs, C10⟩)])) (kok_cons ok8 (kok_cons ok9 (kok_cons ok10 (kok_nil _)))) Tryd.func3 (c := code Tryd.f3) (by kernel_rfl) (name_ne (by kernel_rfl))
    (ann_nil _) (fun v => Nat.le_of_ble_eq_true (by kernel_rfl)) (fun v => h3 C8 C9 C10 v)
end Go.Proofs.YtkmojkibclbmjaaDoor.W
