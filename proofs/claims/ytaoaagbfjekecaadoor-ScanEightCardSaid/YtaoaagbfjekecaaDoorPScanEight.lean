/- The plain law. -/
import Derived.Test.YtaoaagbfjekecaaDoorPS3
set_option linter.unusedVariables false
set_option linter.unusedSimpArgs false
namespace Go.Proofs.YtaoaagbfjekecaaDoor.PScanEight
open Go Go.Ae Go.Pl Go.Proofs.YtaoaagbfjekecaaDoor.W
theorem c5l (l : List Ln) (hn : l.length ≤ 100000) (hb : ∀ s ∈ l, s.length ≤ 1000) : C5_l0 (l, true, false, 0, ()) = some (l, true, l.any eight, ()) := by
  refine loopN_to (fun k => (l, true, (l.take k).any eight, ((k : Nat) : Int), ())) l.length (fun k hk => ?_) ?_ (by unfold big; omega)
  · have h1 := c15 l[k] (by have := hb _ (List.getElem_mem hk); omega)
    have h2 := fnd_any hi l[k]
    have e : (l.take (k + 1)).any eight = ((l.take k).any eight || eight l[k]) := by rw [take_succ_get hk, List.any_append]; simp
    simp only [e]
    cases hx : (l.take k).any eight with
    | true => simp (disch := (first | omega | (simp only [List.length_append, List.length_cons, List.length_nil]; omega))) only [F5_l0, decide_eq_true, decide_eq_false, cond_true, cond_false, Bool.and_self, Bool.true_and, Bool.and_true, Bool.false_and, Bool.and_false, Bool.not_true, Bool.not_false, List.length_append, List.length_cons, List.length_nil, Int.toNat_natCast, ibT, ibF, inT, inF, wrN, gd, dr, Option.bind_some, Sum.elim_inl, Sum.elim_inr, byte_back, of_to, Bool.true_or]
    | false => simp (disch := (first | omega | (simp only [List.length_append, List.length_cons, List.length_nil]; omega))) only [F5_l0, decide_eq_true, decide_eq_false, cond_true, cond_false, Bool.and_self, Bool.true_and, Bool.and_true, Bool.false_and, Bool.and_false, Bool.not_true, Bool.not_false, List.length_append, List.length_cons, List.length_nil, Int.toNat_natCast, ibT, ibF, inT, inF, wrN, gd, dr, Option.bind_some, Sum.elim_inl, Sum.elim_inr, byte_back, of_to, getD_lt hk, h1, h2, Bool.false_or]; rfl
  · simp (disch := (first | omega | (simp only [List.length_append, List.length_cons, List.length_nil]; omega))) only [F5_l0, decide_eq_true, decide_eq_false, cond_true, cond_false, Bool.and_self, Bool.true_and, Bool.and_true, Bool.false_and, Bool.and_false, Bool.not_true, Bool.not_false, List.length_append, List.length_cons, List.length_nil, Int.toNat_natCast, ibT, ibF, inT, inF, wrN, gd, dr, Option.bind_some, Sum.elim_inl, Sum.elim_inr, byte_back, of_to, List.take_length]
theorem main (l : List Ln) (hn : l.length ≤ 140737488355328) : C5 (l, ()) = some (true, ()) := by
  show F5 C7 C8 C10 C5_l0 (l, ()) = _
  have h8 := c8 l hn
  simp only [F5, C7, h8, Option.bind_some]
  cases hf : few l with
  | false => rfl
  | true =>
    have h1 := few_len hf
    have hb : ∀ s ∈ l, s.length ≤ 1000 := fun s hs => by have := few_mem hf hs; omega
    have hc := c10 (l := l) (by omega) hb
    have hl := c5l l (by omega) hb
    have hle := hd_le l
    have hfl := fields_len hb
    have hh : hops (fields l) ≤ hd l := Nat.le_trans List.countP_le_length hfl
    have e : l.any eight = ((l.take (hd l)).any eight || (l.drop (hd l)).any eight) := by
      rw [← List.any_append, List.take_append_drop]
    have hbr := any_brk (l := l.take (hd l))
    simp only [Bool.not_true, cond_false, hl, hc, Option.bind_some, cond_true, e]
    generalize (l.take (hd l)).any eight = a at *
    generalize (l.drop (hd l)).any eight = b
    generalize (l.take (hd l)).any brk = c at *
    cases a
    · rw [hbr rfl]
      cases b <;> simp [hh, hle]
    · cases b <;> cases c <;> simp [hh, hle]
theorem pure (x0 : (Ty.lst .str).den) (b0 : Bd (Ty.lst .str) x0) : C5 (x0, ()) = some (true, ()) := main x0 (by have := b0.1; simp only [asL] at this; exact Nat.le_trans this (by decide))
end Go.Proofs.YtaoaagbfjekecaaDoor.PScanEight
