/- The plain law. -/
import Derived.Test.YtaoaagbfjekecaaDoorPS3
set_option linter.unusedVariables false
set_option linter.unusedSimpArgs false
namespace Go.Proofs.YtaoaagbfjekecaaDoor.PScanParts
open Go Go.Ae Go.Pl Go.Proofs.YtaoaagbfjekecaaDoor.W
theorem hd_app (l a : List Ln) : hd (l.take (hd l) ++ [] :: a) = hd l := by
  have hle := hd_le l
  refine fp_of _ (fun j h hj => ?_) ⟨by simp; omega, ?_⟩
  · rw [List.getElem_append_left (by simp; omega), List.getElem_take]
    exact hd_ne hj
  · rw [List.getElem_append_right (by simp; omega)]
    simp [hle]
theorem take_app (l a : List Ln) : (l.take (hd l) ++ [] :: a).take (hd l) = l.take (hd l) := by
  have hle := hd_le l
  rw [List.take_append, List.take_take]
  simp [hle]
theorem drop_app (l a : List Ln) : (l.take (hd l) ++ [] :: a).drop (hd l) = [] :: a := by
  have hle := hd_le l
  rw [List.drop_append]
  simp [hle]
theorem main (l a b : List Ln) (hn : l.length ≤ 140737488355328) (ha : a.length ≤ 140737488355328) (hb : b.length ≤ 140737488355328) : C3 (l, a, b, ()) = some (true, ()) := by
  show F3 C7 C8 C9 C10 C11 C12 _ = _
  simp only [F3, C7, c8 l hn, c8 a ha, c8 b hb, Option.bind_some]
  cases hfl : few l with
  | false => rfl
  | true =>
    cases hfa : few a with
    | false => rfl
    | true =>
      cases hfb : few b with
      | false => rfl
      | true =>
        have h1 := few_len hfl
        have h2 := few_len hfa
        have h3 := few_len hfb
        have hle := hd_le l
        have g : ∀ (c : List Ln), few c = true → (∀ s ∈ l.take (hd l) ++ [] :: c, s.length ≤ 1000) ∧ (l.take (hd l) ++ [] :: c).length ≤ 121 := by
          intro c hc
          constructor
          · intro s hs
            rcases List.mem_append.1 hs with hs | hs
            · have := few_mem hfl (List.mem_of_mem_take hs); omega
            · rcases List.mem_cons.1 hs with rfl | hs
              · simp
              · have := few_mem hc hs; omega
          · have := few_len hc
            simp; omega
        have ga := g a hfa
        have gb := g b hfb
        have c9l := c9 l (by omega)
        have c10a := c10 (by have := ga.2; omega) ga.1
        have c10b := c10 (by have := gb.2; omega) gb.1
        have c12a := c12 (by have := ga.2; omega) ga.1
        have c12b := c12 (by have := gb.2; omega) gb.1
        have c9a := c9 (l.take (hd l) ++ [] :: a) (by have := ga.2; omega)
        have c10e := c10 (l := [] :: a) (by simp; omega) (fun s hs => ga.1 s (List.mem_append_right _ hs))
        have ef : ∀ c, fields (l.take (hd l) ++ [] :: c) = ((l.take (hd l)).foldl fstep (false, [])).2.map trimF := fun c => by
          unfold fields; rw [hd_app, take_app]
        have he : hd ([] :: a) = 0 := rfl
        rw [ef, hd_app, take_app, drop_app] at c10a c10b
        rw [ef] at c12a c12b
        rw [hd_app] at c9a
        rw [he] at c10e
        have hfn := fields_len (l := l.take (hd l) ++ [] :: a) ga.1
        rw [ef, hd_app] at hfn
        have c11e := c11 (((l.take (hd l)).foldl fstep (false, [])).2.map trimF) (by omega)
        have ea : ∀ c, ([] ++ ([] ++ List.take (hd l) l ++ [[]]) ++ c : List Ln) = l.take (hd l) ++ [] :: c := fun c => by simp
        have eb : ([[]] ++ a : List Ln) = [] :: a := rfl
        have hw : ∀ n : Nat, n ≤ 1000 → decide (n ≤ 140737488355328 / 16) = true := fun n h => by simp; omega
        simp (disch := (first | omega | (simp only [List.length_append, List.length_cons, List.length_nil]; omega))) only [c9l, decide_eq_true, decide_eq_false, cond_true, cond_false, Bool.and_self, Bool.true_and, Bool.and_true, Bool.false_and, Bool.and_false, Bool.not_true, Bool.not_false, List.length_append, List.length_cons, List.length_nil, Int.toNat_natCast, ibT, ibF, inT, inF, wrN, gd, dr, Option.bind_some, Sum.elim_inl, Sum.elim_inr, byte_back, of_to, hw, List.length_take, ea, eb, c10a, c10b, c12a, c12b, c11e, c9a, c10e, beq_self_eq_true, List.take_zero, List.any_nil, Nat.min_eq_left]
        simp
theorem len {x : (Ty.lst .str).den} (b : Bd (Ty.lst .str) x) : List.length (α := List UInt8) x ≤ 140737488355328 := by
  have := b.1; simp only [asL] at this; exact Nat.le_trans this (by decide)
theorem pure (x0 : (Ty.lst .str).den) (b0 : Bd (Ty.lst .str) x0) (x1 : (Ty.lst .str).den) (b1 : Bd (Ty.lst .str) x1) (x2 : (Ty.lst .str).den) (b2 : Bd (Ty.lst .str) x2) : C3 (x0, x1, x2, ()) = some (true, ()) := main x0 x1 x2 (len b0) (len b1) (len b2)
end Go.Proofs.YtaoaagbfjekecaaDoor.PScanParts
