/- White, quotes, literals. -/
import Derived.Test.YtkmojkibclbmjaaDoorPL1
set_option linter.unusedVariables false
set_option linter.unusedSimpArgs false
namespace Go.Proofs.YtkmojkibclbmjaaDoor.W
open Go Go.Ae
theorem beq2 (c b : UInt8) : ([c, b] == [13, 10]) = (c == 13 && b == 10) := by
  rw [Bool.eq_iff_iff]; simp
theorem cut_ok {pre r : List UInt8} {p k f : Nat} (hp : pre.length = p) (hf : f ≤ p) (hk : k ≤ r.length) : True := trivial
theorem c26c (f p : Nat) (s : List UInt8) (bad err : Int) (b : Bool) (hf : f ≤ p) (hp : p ≤ s.length) (hb : p ≤ 140737488355328) :
    C26_c0 ((f : Int), b, s, (p : Int), bad, err, ()) = some (bif b then .inl ((f : Int), s, ((p + 3 : Nat) : Int), bad, err, ()) else .inr (List.drop f (List.take p s), s, (p : Int), bad, err, ())) := by
  cases b with
  | true => simp only [C26_c0, F26_c0, cond_true]; rw [wr (by omega) (by omega)]; rfl
  | false => simp (disch := (first | omega | (simp only [List.length_append, List.length_cons, List.length_nil]; omega))) only [C26_c0, F26_c0, decide_eq_true, decide_eq_false, cond_true, cond_false, Bool.and_self, Bool.true_and, Bool.and_true, Bool.false_and, Bool.and_false, Bool.not_true, Bool.not_false, List.length_append, List.length_cons, List.length_nil, Int.toNat_natCast, ibT, ibF, inT, inF, wrN, gd, dr, Option.bind_some, Sum.elim_inl, Sum.elim_inr, byte_back, of_to]
theorem wl_t {c : UInt8} {r : List UInt8} (h : blankB c = true) : wl (c :: r) = wl r + 1 := by
  match r with
  | [] => simp [wl, h]
  | [b] => simp [wl, h]
  | b :: d :: r => rw [wl, h]; rfl
theorem wl_stop {c : UInt8} {r : List UInt8} (h : blankB c = false) (h2 : r.length < 2) : wl (c :: r) = 0 := by
  match r, h2 with
  | [], _ => simp [wl, h]
  | [b], _ => simp [wl, h]
  | b :: d :: r, h2 => simp at h2; omega
theorem l26 (f : Nat) (bad err : Int) : ∀ (m : Nat) (r pre : List UInt8) (p n : Nat), r.length ≤ m → pre.length = p → r.length < n → f ≤ p → p + r.length ≤ 140737488355328 →
    loopN (F26_l0 C32 C26_c0) n ((f : Int), pre ++ r, (p : Int), bad, err, ()) = some (.inl ((f : Int), pre ++ r, ((p + wl r : Nat) : Int), bad, err, ())) ∨
    loopN (F26_l0 C32 C26_c0) n ((f : Int), pre ++ r, (p : Int), bad, err, ()) = some (.inr (List.drop f (List.take (p + wl r) (pre ++ r)), pre ++ r, ((p + wl r : Nat) : Int), bad, err, ()))
  | _, _, _, _, 0, _, _, hn, _, _ => by omega
  | m, [], pre, p, n + 1, hm, hp, hn, hf, hb => by
    refine .inl (loopN_inr ?_)
    simp (disch := (first | omega | (simp only [List.length_append, List.length_cons, List.length_nil]; omega))) only [F26_l0, decide_eq_true, decide_eq_false, cond_true, cond_false, Bool.and_self, Bool.true_and, Bool.and_true, Bool.false_and, Bool.and_false, Bool.not_true, Bool.not_false, List.length_append, List.length_cons, List.length_nil, Int.toNat_natCast, ibT, ibF, inT, inF, wrN, gd, dr, Option.bind_some, Sum.elim_inl, Sum.elim_inr, byte_back, of_to, wl, List.append_nil, Nat.add_zero]
  | 0, c :: r, pre, p, n + 1, hm, hp, hn, hf, hb => by simp at hm
  | m + 1, c :: r, pre, p, n + 1, hm, hp, hn, hf, hb => by
    simp only [List.length_cons] at hn hb hm
    cases h : blankB c with
    | true =>
      rw [loopN_inl (v' := ((f : Int), pre ++ c :: r, ((p + 1 : Nat) : Int), bad, err, ())) (by simp (disch := (first | omega | (simp only [List.length_append, List.length_cons, List.length_nil]; omega))) only [F26_l0, decide_eq_true, decide_eq_false, cond_true, cond_false, Bool.and_self, Bool.true_and, Bool.and_true, Bool.false_and, Bool.and_false, Bool.not_true, Bool.not_false, List.length_append, List.length_cons, List.length_nil, Int.toNat_natCast, ibT, ibF, inT, inF, wrN, gd, dr, Option.bind_some, Sum.elim_inl, Sum.elim_inr, byte_back, of_to, c32, h, List.getD_cons_zero])]
      rw [shift]
      have := l26 f bad err m r (pre ++ [c]) (p + 1) n (by omega) (by simp [hp]) (by omega) (by omega) (by omega)
      rw [show p + wl (c :: r) = p + 1 + wl r by rw [wl_t h]; omega]
      exact this
    | false =>
      have stop : ∀ (hw : wl (c :: r) = 0), F26_l0 C32 C26_c0 ((f : Int), pre ++ c :: r, (p : Int), bad, err, ()) = some (.inr (.inr (List.drop f (List.take p (pre ++ c :: r)), pre ++ c :: r, (p : Int), bad, err, ()))) →
          loopN (F26_l0 C32 C26_c0) (n + 1) ((f : Int), pre ++ c :: r, (p : Int), bad, err, ()) = some (.inr (List.drop f (List.take (p + wl (c :: r)) (pre ++ c :: r)), pre ++ c :: r, ((p + wl (c :: r) : Nat) : Int), bad, err, ())) := by
        intro hw h
        rw [hw]; exact loopN_inr h
      match r, hm, hn, hb with
      | [], hm, hn, hb =>
        refine .inr (stop (wl_stop h (by simp)) ?_)
        simp (disch := (first | omega | (simp only [List.length_append, List.length_cons, List.length_nil]; omega))) only [F26_l0, decide_eq_true, decide_eq_false, cond_true, cond_false, Bool.and_self, Bool.true_and, Bool.and_true, Bool.false_and, Bool.and_false, Bool.not_true, Bool.not_false, List.length_append, List.length_cons, List.length_nil, Int.toNat_natCast, ibT, ibF, inT, inF, wrN, gd, dr, Option.bind_some, Sum.elim_inl, Sum.elim_inr, byte_back, of_to, c32, h, List.getD_cons_zero, c26c]
      | [b], hm, hn, hb =>
        refine .inr (stop (wl_stop h (by simp)) ?_)
        simp only [List.length_cons, List.length_nil] at hn hb hm
        simp (disch := (first | omega | (simp only [List.length_append, List.length_cons, List.length_nil]; omega))) only [F26_l0, decide_eq_true, decide_eq_false, cond_true, cond_false, Bool.and_self, Bool.true_and, Bool.and_true, Bool.false_and, Bool.and_false, Bool.not_true, Bool.not_false, List.length_append, List.length_cons, List.length_nil, Int.toNat_natCast, ibT, ibF, inT, inF, wrN, gd, dr, Option.bind_some, Sum.elim_inl, Sum.elim_inr, byte_back, of_to, c32, h, List.getD_cons_zero, c26c]
      | b :: d :: r', hm, hn, hb =>
        simp only [List.length_cons] at hn hb hm
        cases hq : (c == 13 && b == 10) with
        | false =>
          refine .inr (stop (by rw [wl, h, hq]; rfl) ?_)
          simp (disch := (first | omega | (simp only [List.length_append, List.length_cons, List.length_nil]; omega))) only [F26_l0, decide_eq_true, decide_eq_false, cond_true, cond_false, Bool.and_self, Bool.true_and, Bool.and_true, Bool.false_and, Bool.and_false, Bool.not_true, Bool.not_false, List.length_append, List.length_cons, List.length_nil, Int.toNat_natCast, ibT, ibF, inT, inF, wrN, gd, dr, Option.bind_some, Sum.elim_inl, Sum.elim_inr, byte_back, of_to, c32, h, List.getD_cons_zero, c26c, List.take_succ_cons, List.take_zero, beq2, hq]
        | true =>
          cases hd : blankB d with
          | false =>
            refine .inr (stop (by rw [wl, h, hq, hd]; rfl) ?_)
            simp (disch := (first | omega | (simp only [List.length_append, List.length_cons, List.length_nil]; omega))) only [F26_l0, decide_eq_true, decide_eq_false, cond_true, cond_false, Bool.and_self, Bool.true_and, Bool.and_true, Bool.false_and, Bool.and_false, Bool.not_true, Bool.not_false, List.length_append, List.length_cons, List.length_nil, Int.toNat_natCast, ibT, ibF, inT, inF, wrN, gd, dr, Option.bind_some, Sum.elim_inl, Sum.elim_inr, byte_back, of_to, c32, h, List.getD_cons_zero, List.getD_cons_succ, c26c, List.take_succ_cons, List.take_zero, beq2, hq, hd]
          | true =>
            rw [loopN_inl (v' := ((f : Int), pre ++ c :: b :: d :: r', ((p + 3 : Nat) : Int), bad, err, ())) (by simp (disch := (first | omega | (simp only [List.length_append, List.length_cons, List.length_nil]; omega))) only [F26_l0, decide_eq_true, decide_eq_false, cond_true, cond_false, Bool.and_self, Bool.true_and, Bool.and_true, Bool.false_and, Bool.and_false, Bool.not_true, Bool.not_false, List.length_append, List.length_cons, List.length_nil, Int.toNat_natCast, ibT, ibF, inT, inF, wrN, gd, dr, Option.bind_some, Sum.elim_inl, Sum.elim_inr, byte_back, of_to, c32, h, List.getD_cons_zero, List.getD_cons_succ, c26c, List.take_succ_cons, List.take_zero, beq2, hq, hd])]
            have := l26 f bad err m r' (pre ++ [c, b, d]) (p + 3) n (by omega) (by simp [hp]) (by omega) (by omega) (by omega)
            rw [show p + wl (c :: b :: d :: r') = p + 3 + wl r' by rw [wl, h, hq, hd]; simp only [cond_true, cond_false, Bool.and_self]; omega]
            rw [show pre ++ c :: b :: d :: r' = (pre ++ [c, b, d]) ++ r' by simp]
            exact this
theorem text_eq {pre r : List UInt8} {p k : Nat} (hp : pre.length = p) : List.drop p (List.take (p + k) (pre ++ r)) = r.take k := by
  rw [← hp, List.take_append, List.take_of_length_le (by omega), List.drop_append]; simp
theorem c26 (pre r : List UInt8) (p : Nat) (bad err : Int) (hp : pre.length = p) (hb : p + r.length ≤ 140737488355328) :
    C26 (pre ++ r, (p : Int), bad, err, ()) = some (r.take (wl r), pre ++ r, ((p + wl r : Nat) : Int), bad, err, ()) := by
  have := wl_le r
  show F26 C32 C26_l0 (pre ++ r, (p : Int), bad, err, ()) = _
  rcases l26 p bad err r.length r pre p big (Nat.le_refl _) hp (by unfold big; omega) (Nat.le_refl _) hb with hl | hl
  · have hl' : C26_l0 ((p : Int), pre ++ r, (p : Int), bad, err, ()) = _ := hl
    simp (disch := (first | omega | (simp only [List.length_append, List.length_cons, List.length_nil]; omega))) only [F26, hl', decide_eq_true, decide_eq_false, cond_true, cond_false, Bool.and_self, Bool.true_and, Bool.and_true, Bool.false_and, Bool.and_false, Bool.not_true, Bool.not_false, List.length_append, List.length_cons, List.length_nil, Int.toNat_natCast, ibT, ibF, inT, inF, wrN, gd, dr, Option.bind_some, Sum.elim_inl, Sum.elim_inr, byte_back, of_to, text_eq]
  · have hl' : C26_l0 ((p : Int), pre ++ r, (p : Int), bad, err, ()) = _ := hl
    simp (disch := (first | omega | (simp only [List.length_append, List.length_cons, List.length_nil]; omega))) only [F26, hl', decide_eq_true, decide_eq_false, cond_true, cond_false, Bool.and_self, Bool.true_and, Bool.and_true, Bool.false_and, Bool.and_false, Bool.not_true, Bool.not_false, List.length_append, List.length_cons, List.length_nil, Int.toNat_natCast, ibT, ibF, inT, inF, wrN, gd, dr, Option.bind_some, Sum.elim_inl, Sum.elim_inr, byte_back, of_to, text_eq]
end Go.Proofs.YtkmojkibclbmjaaDoor.W
