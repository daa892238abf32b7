/- Annotations, piece by piece; loops in plain Lean. -/
import Derived.Test.YtaoaagbfjekecaaDoorAe25
set_option linter.unusedVariables false
namespace Go.Ae
open Go.RowKit
variable {P : Program} {np : Nat}
theorem ann_nil : ∀ c : Code, AnnOk P np c .nil := by
  intro c
  induction c with
  | seq a b iha ihb => exact ⟨iha, ihb, fun e h => by cases h⟩
  | cond o x y ihx ihy => exact ⟨ihx, ihy⟩
  | block i c ih => exact ih
  | loop c ih => exact fun e h => by cases h
  | scope c ih => exact ⟨ih, fun l e h => by cases h⟩
  | _ => exact trivial
theorem ann_seq {c a b : Code} {n1 n2 : Ann} (h : c = .seq a b) (h1 : AnnOk P np a n1) (h2 : AnnOk P np b n2) : AnnOk P np c (.seq n1 n2) := by
  subst h; exact ⟨h1, h2, fun e h => by cases h⟩
theorem ann_cut {c a b : Code} {n1 : Ann} {e : LEnt} (h : c = .seq a b) (h1 : AnnOk P np a n1) (h2 : FragOk P np (fun Q a w => b.wp P Q a w) e) : AnnOk P np c (.cut n1 e) := by
  subst h; exact ⟨h1, ann_nil _, fun e h => by cases h; exact h2⟩
def condo : Code → Operand | .cond o _ _ => o | _ => .tmp 0
def blki : Code → Nat | .block i _ => i | _ => 0
theorem ann_cond {c x y : Code} {n1 n2 : Ann} (h : c = .cond (condo c) x y) (h1 : AnnOk P np x n1) (h2 : AnnOk P np y n2) : AnnOk P np c (.cond n1 n2) := by
  rw [h]; exact ⟨h1, h2⟩
theorem ann_blk {c x : Code} {n1 : Ann} (h : c = .block (blki c) x) (h1 : AnnOk P np x n1) : AnnOk P np c (.blk n1) := by
  rw [h]; exact h1
theorem ann_loop {c x : Code} {e : LEnt} (h : c = .loop x) (h1 : FragOk P np (fun Q a w => (Code.loop x).wp P Q a w) e) : AnnOk P np c (.loop e) := by
  subst h; exact fun e h => by cases h; exact h1
theorem ann_scope {c x : Code} {n1 : Ann} {ls : List (Nat × LEnt)} (h : c = .scope x) (h1 : AnnOk P np x n1) (h2 : ∀ l e, Ann.find l ls = some e → FragOk P np (ScopeFrom P x l) e) : AnnOk P np c (.scope n1 ls) := by
  subst h; exact ⟨h1, h2⟩
theorem find_nil {X : Nat → LEnt → Prop} : ∀ l e, Ann.find l [] = some e → X l e := fun l e h => by cases h
theorem find_cons {X : Nat → LEnt → Prop} {l0 : Nat} {e0 : LEnt} {ls : List (Nat × LEnt)} (h : X l0 e0) (hs : ∀ l e, Ann.find l ls = some e → X l e) : ∀ l e, Ann.find l ((l0, e0) :: ls) = some e → X l e := by
  intro l e h'
  simp only [Ann.find] at h'
  split at h'
  · rename_i hb
    have := Nat.eq_of_beq_eq_true hb
    cases h'; subst this; exact h
  · exact hs l e h'
theorem name_ne {s : String} (h : (s == "runtime.NumGoroutine") = false) : s ≠ "runtime.NumGoroutine" := by
  simpa using h
/-- A number of rounds that no loop comes to. -/
def big : Nat := 1000000000000000000000
def tp (n : Nat) (l : List Sh) : List Sh := List.replicate n Sh.top ++ l

/-- A loop: what holds ahead of each round, what grows less, what holds at its end. -/
theorem loopN_of {α β : Type} {F : α → Option (α ⊕ β)} (I : α → Prop) (Q : β → Prop) (μ : α → Nat)
    (h : ∀ v, I v → (∃ v', F v = some (.inl v') ∧ I v' ∧ μ v' < μ v) ∨ ∃ y, F v = some (.inr y) ∧ Q y) :
    ∀ (n : Nat) (v : α), I v → μ v < n → ∃ y, loopN F n v = some y ∧ Q y
  | 0, v, _, hn => absurd hn (Nat.not_lt_zero _)
  | n + 1, v, hv, hn => by
    rcases h v hv with ⟨v', h1, h2, h3⟩ | ⟨y, h1, h2⟩
    · obtain ⟨y, hy, hq⟩ := loopN_of I Q μ h n v' h2 (by omega)
      exact ⟨y, by simp only [loopN, h1, Option.bind_some, Sum.elim_inl]; exact hy, hq⟩
    · exact ⟨y, by simp only [loopN, h1, Option.bind_some, Sum.elim_inr], h2⟩
theorem loopN_inl {α β : Type} {F : α → Option (α ⊕ β)} {n : Nat} {v v' : α} (h : F v = some (.inl v')) : loopN F (n + 1) v = loopN F n v' := by
  simp only [loopN, h, Option.bind_some, Sum.elim_inl]
theorem loopN_inr {α β : Type} {F : α → Option (α ⊕ β)} {n : Nat} {v : α} {y : β} (h : F v = some (.inr y)) : loopN F (n + 1) v = some y := by
  simp only [loopN, h, Option.bind_some, Sum.elim_inr]
end Go.Ae
