/- An operation's value and writes do not depend on what is done with them. -/
import Derived.Test.YtaoaagbfjekecaaDoorAe18
set_option linter.unusedVariables false
set_option linter.unusedSimpArgs false
namespace Go.Ae
open Go.RowKit
variable {Γ : Tys} {K : Calls'} {ρ : Operand → AV} {ob : Store} {slot : Nat}

def Nat1 (f : ∀ (R : Type), (AV → Option R) → Option R) : Prop := ∀ (R : Type) (κ : AV → Option R) (r : R), f R κ = some r → ∃ av, (∀ (R : Type) (κ : AV → Option R), f R κ = κ av) ∧ κ av = some r
def Nat2 (f : ∀ (R : Type), (AV → List Wr → Option R) → Option R) : Prop := ∀ (R : Type) (κ : AV → List Wr → Option R) (r : R), f R κ = some r → ∃ av ws, (∀ (R : Type) (κ : AV → List Wr → Option R), f R κ = κ av ws) ∧ κ av ws = some r

theorem Nat2.ret (av : AV) (ws : List Wr) : Nat2 fun R κ => κ av ws := fun R κ r h => ⟨av, ws, fun _ _ => rfl, h⟩
theorem Nat2.no : Nat2 fun R κ => none := fun R κ r h => by cases h
theorem Nat2.cond {b : Bool} {f g : ∀ (R : Type), (AV → List Wr → Option R) → Option R} (hf : Nat2 f) (hg : Nat2 g) : Nat2 fun R κ => cond b (f R κ) (g R κ) := by
  cases b
  · exact hg
  · exact hf
theorem Nat2.ite {p : Prop} [Decidable p] {f g : ∀ (R : Type), (AV → List Wr → Option R) → Option R} (hf : Nat2 f) (hg : Nat2 g) : Nat2 fun R κ => if p then f R κ else g R κ := by
  by_cases h : p
  · simpa [h] using hf
  · simpa [h] using hg
theorem Nat2.chk {b : Bool} {f : ∀ (R : Type), (AV → List Wr → Option R) → Option R} (hf : Nat2 f) : Nat2 fun R κ => Go.Ae.chk b (f R κ) := Nat2.cond hf .no
theorem Nat1.ret (av : AV) : Nat1 fun R κ => κ av := fun R κ r h => ⟨av, fun _ _ => rfl, h⟩
theorem Nat1.no : Nat1 fun R κ => none := fun R κ r h => by cases h
theorem Nat1.cond {b : Bool} {f g : ∀ (R : Type), (AV → Option R) → Option R} (hf : Nat1 f) (hg : Nat1 g) : Nat1 fun R κ => cond b (f R κ) (g R κ) := by
  cases b
  · exact hg
  · exact hf
theorem Nat1.ite {p : Prop} [Decidable p] {f g : ∀ (R : Type), (AV → Option R) → Option R} (hf : Nat1 f) (hg : Nat1 g) : Nat1 fun R κ => if p then f R κ else g R κ := by
  by_cases h : p
  · simpa [h] using hf
  · simpa [h] using hg
theorem Nat1.chk {b : Bool} {f : ∀ (R : Type), (AV → Option R) → Option R} (hf : Nat1 f) : Nat1 fun R κ => Go.Ae.chk b (f R κ) := Nat1.cond hf .no
theorem Nat1.two {f : ∀ (R : Type), (AV → Option R) → Option R} (h : Nat1 f) (ws : List Wr) : Nat2 fun R κ => f R fun v => κ v ws := fun R κ r hr => by
  obtain ⟨av, h1, h2⟩ := h R _ r hr
  exact ⟨av, ws, fun R κ => h1 R _, h2⟩

theorem binF_nat (op : BinOp) (t : TypeId) (x y : AV) : Nat1 fun R κ => binF Γ op t x y κ := by
  unfold binF
  repeat' (first | exact Nat1.ret _ | exact Nat1.no | apply Nat1.chk | apply Nat1.cond | apply Nat1.ite | (split))
theorem cut_nat {α : Type} (l : List α) (lo hi : Option Int) (f : List α → ∀ (R : Type), (AV → List Wr → Option R) → Option R) (hf : ∀ l, Nat2 (f l)) : Nat2 fun R κ => cut l lo hi fun l => f l R κ := by
  unfold cut
  repeat' (first | exact hf _ | exact Nat2.no | apply Nat2.chk | split)
theorem appendG_nat (t u e : TypeId) (ei : TI) (T : Ty) (x : AV) (l : List T.den) (kill : List Wr) : Nat2 fun R κ => appendG Γ ob slot t u e ei T x l kill κ := by
  unfold appendG
  repeat' (first | exact Nat2.ret _ _ | exact Nat2.no | apply Nat2.chk | apply Nat2.ite | split)
theorem appendF_nat (t u : TypeId) (s x : AV) : Nat2 fun R κ => appendF Γ ob slot t u s x κ := by
  unfold appendF
  repeat' (first | exact appendG_nat _ _ _ _ _ _ _ _ | exact Nat2.no | apply Nat2.chk | apply Nat2.ite | split)
theorem builtinF_nat (b : Builtin) (ts : List TypeId) (args : List AV) : Nat2 fun R κ => builtinF Γ ob slot b ts args κ := by
  unfold builtinF
  repeat' (first | exact appendF_nat _ _ _ _ | exact Nat2.ret _ _ | exact Nat2.no | apply Nat2.chk | apply Nat2.ite | split)
theorem callF_nat (e : FEnt) (args : List AV) : Nat2 fun R κ => callF e ob args κ := by
  unfold callF
  split
  · apply Nat2.ite
    · rename_i v ms _
      cases hy : e.fn v with
      | none => exact Nat2.no
      | some y =>
        obtain ⟨ax, l, u, hs⟩ := osel_some e.outs y
        simp only [Option.bind_some]
        intro R κ r h
        replace h := (hs.2 R _).symm.trans h
        have key : Nat2 fun R κ => (match (em (back ms.m ob.length) l u).1 with
          | [a] => if ms.m.length ≤ (em (back ms.m ob.length) l u).2.length then κ a ((if l.any Sh.isLst then frees ob (ms.fz.map AV.row) else []) ++ merge ms.m (em (back ms.m ob.length) l u).2) else none
          | _ => (none : Option R)) := by
          split
          · exact Nat2.ite (Nat2.ret _ _) .no
          · exact Nat2.no
        obtain ⟨av, ws, h1, h2⟩ := key R κ r h
        exact ⟨av, ws, fun R κ => (hs.2 R _).trans (h1 R κ), h2⟩
    · exact Nat2.no
  · exact Nat2.no
set_option maxHeartbeats 1000000 in
theorem opF_nat (op : Op) : Nat2 fun R κ => opF Γ K ρ ob slot op κ := by
  cases op <;> simp only [opF] <;> (try exact Nat2.no) <;> (try exact Nat2.ret _ _) <;>
    repeat' (first | exact builtinF_nat _ _ _ | exact callF_nat _ _ | exact Nat2.ret _ _ | exact Nat2.no | exact (binF_nat _ _ _ _).two _ | apply Nat2.chk | apply Nat2.cond | apply Nat2.ite | (apply cut_nat; intro _) | split)
end Go.Ae
