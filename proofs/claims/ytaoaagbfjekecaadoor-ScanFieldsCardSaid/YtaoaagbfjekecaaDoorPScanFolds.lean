/- The plain law. -/
import Derived.Test.YtaoaagbfjekecaaDoorPS3
set_option linter.unusedVariables false
set_option linter.unusedSimpArgs false
namespace Go.Proofs.YtaoaagbfjekecaaDoor.PScanFolds
open Go Go.Ae Go.Pl Go.Proofs.YtaoaagbfjekecaaDoor.W
theorem fp_mid (n x : Ln) : fp (fun c => c == 58) (n ++ 58 :: x) = fp (fun c => c == 58) n ∧ fp (fun c => c == 58) n ≤ n.length := by
  refine ⟨?_, fp_le _ n⟩
  induction n with
  | nil => rfl
  | cons c r ih =>
    simp only [List.cons_append, fp, ih]
/-- A line with a colon in it: what is ahead of its first one, and behind. -/
theorem cut_col (n x : Ln) : cutC (n ++ 58 :: x) = ((n ++ [58]).take (fp (fun c => c == 58) n), (n ++ [58]).drop (fp (fun c => c == 58) n + 1) ++ x, true) := by
  obtain ⟨h1, h2⟩ := fp_mid n x
  unfold cutC
  rw [h1, if_pos (by simp; omega)]
  have e : n ++ 58 :: x = (n ++ [58]) ++ x := by simp
  rw [e, List.take_append_of_le_length (by simp; omega), List.drop_append_of_le_length (by simp; omega)]
theorem hd_cons {s : Ln} {l : List Ln} (h : s ≠ []) : hd (s :: l) = hd l + 1 := by
  show (bif s == [] then 0 else fp _ l + 1) = _
  rw [beq_eq_false_iff_ne.2 h]; rfl
theorem getD0 {n x y : Ln} (h : n ≠ []) : (n ++ x).getD 0 0 = (n ++ y).getD 0 0 := by
  cases n with
  | nil => exact absurd rfl h
  | cons c r => rfl
theorem folds {n t : Ln} {k : Nat} (hn : n ≠ []) (hk : k < t.length) (hb : blk t[k] = true) :
    fields [n ++ 58 :: t] = fields [n ++ 58 :: t.take k, t.drop k] := by
  have hd1 : t.drop k ≠ [] := by
    intro h
    have := congrArg List.length h
    simp at this; omega
  have hne : ∀ x : Ln, n ++ 58 :: x ≠ [] := fun x => by simp
  have e1 : hd [n ++ 58 :: t] = 1 := by rw [hd_cons (hne _)]; rfl
  have e2 : hd [n ++ 58 :: t.take k, t.drop k] = 2 := by rw [hd_cons (hne _), hd_cons hd1]; rfl
  have h0 : (t.drop k).getD 0 0 = t[k] := by
    rw [List.getD_eq_getElem?_getD, List.getElem?_drop, Nat.add_zero, List.getElem?_eq_getElem hk]; rfl
  have hg := getD0 (x := 58 :: t) (y := 58 :: t.take k) hn
  unfold fields
  rw [e1, e2]
  simp only [List.take_succ_cons, List.take_zero, List.foldl_cons, List.foldl_nil]
  congr 1
  unfold fstep
  simp only [h0, hb, cond_true, hg]
  cases blk ((n ++ 58 :: t.take k).getD 0 0) with
  | true => simp
  | false =>
    simp only [cond_false, beg, cut_col]
    cases (true && (!((n ++ [58]).take (fp (fun c => c == 58) n) == []) && !((n ++ [58]).take (fp (fun c => c == 58) n)).any sb)) with
    | false => rfl
    | true => simp [addL]
theorem blk_of {c : UInt8} (h : ((c.toNat : Int) != 32) = false ∨ ((c.toNat : Int) != 9) = false) : blk c = true := by
  rcases h with h | h
  · have : c = 32 := u8_eq (n := 32) (by simp at h; omega)
    subst this; rfl
  · have : c = 9 := u8_eq (n := 9) (by simp at h; omega)
    subst this; rfl
theorem main (n t : Ln) (at_ : Int) : C6 (n, t, at_, ()) = some (true, ()) := by
  show F6 C7 C11 C12 _ = _
  simp only [F6, C7, Option.bind_some]
  cases h1 : ((n.length : Nat) : Int) == 0 with
  | true => rfl
  | false =>
    have h1' : n ≠ [] := fun h => by subst h; cases h1
    by_cases h2 : ((n.length : Nat) : Int) > 50
    · simp (disch := (first | omega | (simp only [List.length_append, List.length_cons, List.length_nil]; omega))) only [decide_eq_true, decide_eq_false, cond_true, cond_false, Bool.and_self, Bool.true_and, Bool.and_true, Bool.false_and, Bool.and_false, Bool.not_true, Bool.not_false, List.length_append, List.length_cons, List.length_nil, Int.toNat_natCast, ibT, ibF, inT, inF, wrN, gd, dr, Option.bind_some, Sum.elim_inl, Sum.elim_inr, byte_back, of_to]
    by_cases h3 : ((t.length : Nat) : Int) > 100
    · simp (disch := (first | omega | (simp only [List.length_append, List.length_cons, List.length_nil]; omega))) only [decide_eq_true, decide_eq_false, cond_true, cond_false, Bool.and_self, Bool.true_and, Bool.and_true, Bool.false_and, Bool.and_false, Bool.not_true, Bool.not_false, List.length_append, List.length_cons, List.length_nil, Int.toNat_natCast, ibT, ibF, inT, inF, wrN, gd, dr, Option.bind_some, Sum.elim_inl, Sum.elim_inr, byte_back, of_to]
    by_cases h4 : at_ < 0
    · simp (disch := (first | omega | (simp only [List.length_append, List.length_cons, List.length_nil]; omega))) only [decide_eq_true, decide_eq_false, cond_true, cond_false, Bool.and_self, Bool.true_and, Bool.and_true, Bool.false_and, Bool.and_false, Bool.not_true, Bool.not_false, List.length_append, List.length_cons, List.length_nil, Int.toNat_natCast, ibT, ibF, inT, inF, wrN, gd, dr, Option.bind_some, Sum.elim_inl, Sum.elim_inr, byte_back, of_to]
    by_cases h5 : at_ ≥ ((t.length : Nat) : Int)
    · simp (disch := (first | omega | (simp only [List.length_append, List.length_cons, List.length_nil]; omega))) only [decide_eq_true, decide_eq_false, cond_true, cond_false, Bool.and_self, Bool.true_and, Bool.and_true, Bool.false_and, Bool.and_false, Bool.not_true, Bool.not_false, List.length_append, List.length_cons, List.length_nil, Int.toNat_natCast, ibT, ibF, inT, inF, wrN, gd, dr, Option.bind_some, Sum.elim_inl, Sum.elim_inr, byte_back, of_to]
    obtain ⟨k, rfl⟩ : ∃ k : Nat, at_ = k := ⟨at_.toNat, by omega⟩
    have hk : k < t.length := by omega
    have key : blk t[k] = true → C12 ([n ++ [58] ++ t], ()) = some (fields [n ++ 58 :: t], ()) ∧ C12 ([n ++ [58] ++ t.take k, t.drop k], ()) = some (fields [n ++ 58 :: t], ()) ∧
        C11 (fields [n ++ 58 :: t], fields [n ++ 58 :: t], ()) = some (true, ()) := by
      intro hb
      have hl1 : ∀ s ∈ [n ++ 58 :: t], s.length ≤ 1000 := by intro s hs; simp only [List.mem_singleton] at hs; subst hs; simp; omega
      refine ⟨?_, ?_, c11 _ ?_⟩
      · have := c12 (l := [n ++ 58 :: t]) (by simp) hl1
        simpa using this
      · have := c12 (l := [n ++ 58 :: t.take k, t.drop k]) (by simp) (by
          intro s hs
          simp only [List.mem_cons, List.not_mem_nil, or_false] at hs
          rcases hs with rfl | rfl
          · simp; omega
          · simp; omega)
        rw [← folds h1' hk hb] at this
        simpa using this
      · have := fields_len hl1
        have := hd_le [n ++ 58 :: t]
        simp at this; omega
    cases h6 : ((t[k].toNat : Nat) : Int) != 32 with
    | false =>
      obtain ⟨k1, k2, k3⟩ := key (blk_of (.inl h6))
      simp (disch := (first | omega | (simp only [List.length_append, List.length_cons, List.length_nil]; omega))) only [decide_eq_true, decide_eq_false, cond_true, cond_false, Bool.and_self, Bool.true_and, Bool.and_true, Bool.false_and, Bool.and_false, Bool.not_true, Bool.not_false, List.length_append, List.length_cons, List.length_nil, Int.toNat_natCast, ibT, ibF, inT, inF, wrN, gd, dr, Option.bind_some, Sum.elim_inl, Sum.elim_inr, byte_back, of_to, getD_lt hk, h6, k1, k2, k3, List.length_take]
    | true =>
      cases h7 : ((t[k].toNat : Nat) : Int) != 9 with
      | true => simp (disch := (first | omega | (simp only [List.length_append, List.length_cons, List.length_nil]; omega))) only [decide_eq_true, decide_eq_false, cond_true, cond_false, Bool.and_self, Bool.true_and, Bool.and_true, Bool.false_and, Bool.and_false, Bool.not_true, Bool.not_false, List.length_append, List.length_cons, List.length_nil, Int.toNat_natCast, ibT, ibF, inT, inF, wrN, gd, dr, Option.bind_some, Sum.elim_inl, Sum.elim_inr, byte_back, of_to, getD_lt hk, h6, h7]
      | false =>
        obtain ⟨k1, k2, k3⟩ := key (blk_of (.inr h7))
        simp (disch := (first | omega | (simp only [List.length_append, List.length_cons, List.length_nil]; omega))) only [decide_eq_true, decide_eq_false, cond_true, cond_false, Bool.and_self, Bool.true_and, Bool.and_true, Bool.false_and, Bool.and_false, Bool.not_true, Bool.not_false, List.length_append, List.length_cons, List.length_nil, Int.toNat_natCast, ibT, ibF, inT, inF, wrN, gd, dr, Option.bind_some, Sum.elim_inl, Sum.elim_inr, byte_back, of_to, getD_lt hk, h6, h7, k1, k2, k3, List.length_take]
theorem pure (x0 : Ty.str.den) (b0 : Bd Ty.str x0) (x1 : Ty.str.den) (b1 : Bd Ty.str x1) (x2 : (Ty.int .i64).den) (b2 : Bd (Ty.int .i64) x2) : C6 (x0, x1, x2, ()) = some (true, ()) := main x0 x1 x2
end Go.Proofs.YtaoaagbfjekecaaDoor.PScanFolds
