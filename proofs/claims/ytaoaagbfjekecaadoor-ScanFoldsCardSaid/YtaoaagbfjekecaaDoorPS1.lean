/- What the scanner's small functions come to: headers, plain names, bytes of 80 or more. -/
import Derived.Test.YtaoaagbfjekecaaDoorW7
import Derived.Test.YtaoaagbfjekecaaDoorAe30
set_option linter.unusedVariables false
set_option linter.unusedSimpArgs false
set_option maxRecDepth 100000
namespace Go.Proofs.YtaoaagbfjekecaaDoor.W
open Go Go.Ae Go.Pl
abbrev Ln := List UInt8
/-- How many lines a header has. -/
def hd (l : List Ln) : Nat := fp (fun s => s == []) l
theorem hd_le (l : List Ln) : hd l ≤ l.length := fp_le _ l
theorem hd_ne {l : List Ln} {k : Nat} (h : k < hd l) : (l[k]'(by have := hd_le l; omega) == []) = false := fp_lt _ l k h _
theorem hd_at {l : List Ln} (h : hd l < l.length) : (l[hd l] == []) = true := fp_at _ l h
theorem c9 (l : List Ln) (hb : l.length ≤ 140737488355328) : C9 (l, ()) = some ((hd l : Int), ()) := by
  have hl := hd_le l
  have key : ∀ (k n : Nat), k ≤ hd l → hd l - k < n → loopN F9_g0 n (l, (k : Int), ()) = some ((hd l : Int), ()) := by
    intro k n
    induction n generalizing k with
    | zero => intro _ h; omega
    | succ n ih =>
      intro hk hn
      by_cases h : k < hd l
      · rw [loopN_inl (v' := (l, ((k + 1 : Nat) : Int), ())) (by simp (disch := (first | omega | (simp only [List.length_append, List.length_cons, List.length_nil]; omega))) only [F9_g0, decide_eq_true, decide_eq_false, cond_true, cond_false, Bool.and_self, Bool.true_and, Bool.and_true, Bool.false_and, Bool.and_false, Bool.not_true, Bool.not_false, List.length_append, List.length_cons, List.length_nil, Int.toNat_natCast, ibT, ibF, inT, inF, wrN, gd, dr, Option.bind_some, Sum.elim_inl, Sum.elim_inr, byte_back, of_to, getD_lt, hd_ne])]
        exact ih (k + 1) (by omega) (by omega)
      · have : k = hd l := by omega
        subst this
        refine loopN_inr ?_
        by_cases h2 : hd l < l.length
        · simp (disch := (first | omega | (simp only [List.length_append, List.length_cons, List.length_nil]; omega))) only [F9_g0, decide_eq_true, decide_eq_false, cond_true, cond_false, Bool.and_self, Bool.true_and, Bool.and_true, Bool.false_and, Bool.and_false, Bool.not_true, Bool.not_false, List.length_append, List.length_cons, List.length_nil, Int.toNat_natCast, ibT, ibF, inT, inF, wrN, gd, dr, Option.bind_some, Sum.elim_inl, Sum.elim_inr, byte_back, of_to, getD_lt, hd_at]
        · have : hd l = l.length := by omega
          simp (disch := (first | omega | (simp only [List.length_append, List.length_cons, List.length_nil]; omega))) only [F9_g0, decide_eq_true, decide_eq_false, cond_true, cond_false, Bool.and_self, Bool.true_and, Bool.and_true, Bool.false_and, Bool.and_false, Bool.not_true, Bool.not_false, List.length_append, List.length_cons, List.length_nil, Int.toNat_natCast, ibT, ibF, inT, inF, wrN, gd, dr, Option.bind_some, Sum.elim_inl, Sum.elim_inr, byte_back, of_to, this]
  show F9 C9_g0 (l, ()) = _
  cases l with
  | nil => rfl
  | cons s r =>
    by_cases h : hd (s :: r) = 0
    · have h2 := hd_at (l := s :: r) (by rw [h]; simp)
      simp only [h, List.getElem_cons_zero] at h2
      simp (disch := (first | omega | (simp only [List.length_append, List.length_cons, List.length_nil]; omega))) only [F9, decide_eq_true, decide_eq_false, cond_true, cond_false, Bool.and_self, Bool.true_and, Bool.and_true, Bool.false_and, Bool.and_false, Bool.not_true, Bool.not_false, List.length_append, List.length_cons, List.length_nil, Int.toNat_natCast, ibT, ibF, inT, inF, wrN, gd, dr, Option.bind_some, Sum.elim_inl, Sum.elim_inr, byte_back, of_to, h, List.getD_cons_zero, h2]
      rfl
    · have h2 := hd_ne (l := s :: r) (k := 0) (by omega)
      simp only [List.getElem_cons_zero] at h2
      have hk : C9_g0 (s :: r, IntKind.i64.wrap (0 + 1), ()) = some ((hd (s :: r) : Int), ()) := key 1 big (by omega) (by unfold big; simp only [List.length_cons] at *; omega)
      simp (disch := (first | omega | (simp only [List.length_append, List.length_cons, List.length_nil]; omega))) only [F9, decide_eq_true, decide_eq_false, cond_true, cond_false, Bool.and_self, Bool.true_and, Bool.and_true, Bool.false_and, Bool.and_false, Bool.not_true, Bool.not_false, List.length_append, List.length_cons, List.length_nil, Int.toNat_natCast, ibT, ibF, inT, inF, wrN, gd, dr, Option.bind_some, Sum.elim_inl, Sum.elim_inr, byte_back, of_to, List.getD_cons_zero, h2, hk]
/-! ### plain names -/
def lowI (c : UInt8) : Int := gI (C23 ((c.toNat : Int), ()))
def lo (c : UInt8) : UInt8 := UInt8.ofNat (lowI c).toNat
theorem c23 (c : UInt8) : C23 ((c.toNat : Int), ()) = some (lowI c, ()) := okI_some (all256 (fun c => okI (C23 ((c.toNat : Int), ()))) (by kernel_rfl) c)
def plain (s : Ln) : Ln := s.map lo
theorem c22 (s : Ln) (hb : s.length ≤ 140737488355327) : C22 (s, ()) = some (plain s, ()) := by
  show F22 C22_l0 (s, ()) = _
  have : C22_l0 (s, (s.length : Int), ((0 : Nat) : Int), plain (s.take 0), ()) = some (plain s, ()) := by
    refine loopN_to (fun k => (s, (s.length : Int), ((k : Nat) : Int), plain (s.take k), ())) s.length (fun k hk => ?_) ?_ (by unfold big; omega)
    · have hl : (plain (s.take k)).length ≤ s.length := by simp only [plain, List.length_map, List.length_take]; omega
      have e : plain (s.take (k + 1)) = plain (s.take k) ++ [lo s[k]] := by simp only [plain, take_succ_get hk, List.map_append, List.map_cons, List.map_nil]
      rw [e]
      simp (disch := (first | omega | (simp only [List.length_append, List.length_cons, List.length_nil]; omega))) only [F22_l0, decide_eq_true, decide_eq_false, cond_true, cond_false, Bool.and_self, Bool.true_and, Bool.and_true, Bool.false_and, Bool.and_false, Bool.not_true, Bool.not_false, List.length_append, List.length_cons, List.length_nil, Int.toNat_natCast, ibT, ibF, inT, inF, wrN, gd, dr, Option.bind_some, Sum.elim_inl, Sum.elim_inr, byte_back, of_to, getD_lt, c23]
      rfl
    · simp (disch := (first | omega | (simp only [List.length_append, List.length_cons, List.length_nil]; omega))) only [F22_l0, decide_eq_true, decide_eq_false, cond_true, cond_false, Bool.and_self, Bool.true_and, Bool.and_true, Bool.false_and, Bool.and_false, Bool.not_true, Bool.not_false, List.length_append, List.length_cons, List.length_nil, Int.toNat_natCast, ibT, ibF, inT, inF, wrN, gd, dr, Option.bind_some, Sum.elim_inl, Sum.elim_inr, byte_back, of_to, List.take_length]
  simp only [List.take_zero] at this
  simp only [F22]
  rw [show C22_l0 (s, (s.length : Int), 0, [], ()) = some (plain s, ()) from this]
  rfl
theorem c13 (s : Ln) (hb : s.length ≤ 140737488355327) : C13 (s, ()) = some (plain s, ()) := by
  show F13 C22 (s, ()) = _
  simp (disch := (first | omega | (simp only [List.length_append, List.length_cons, List.length_nil]; omega))) only [F13, decide_eq_true, decide_eq_false, cond_true, cond_false, Bool.and_self, Bool.true_and, Bool.and_true, Bool.false_and, Bool.and_false, Bool.not_true, Bool.not_false, List.length_append, List.length_cons, List.length_nil, Int.toNat_natCast, ibT, ibF, inT, inF, wrN, gd, dr, Option.bind_some, Sum.elim_inl, Sum.elim_inr, byte_back, of_to, c22]
/-! ### bytes of 80 or more -/
def hi (c : UInt8) : Bool := decide ((c.toNat : Int) ≥ 128)
def eight (s : Ln) : Bool := s.any hi
theorem c15 (s : Ln) (hb : s.length ≤ 140737488355328) : C15 (s, ()) = some (fnd hi s, ()) := by
  have hl := fp_le hi s
  show F15 C15_l0 (s, ()) = _
  by_cases h : fp hi s < s.length
  · have e : C15_l0 (s, (s.length : Int), ((0 : Nat) : Int), ()) = some (.inr ((fp hi s : Int), ())) := by
      refine loopN_to (fun k => (s, (s.length : Int), ((k : Nat) : Int), ())) (fp hi s) (fun k hk => ?_) ?_ (by unfold big; omega)
      · have h2 := fp_lt hi s k hk (by omega)
        simp only [hi] at h2
        simp (disch := (first | omega | (simp only [List.length_append, List.length_cons, List.length_nil]; omega))) only [F15_l0, decide_eq_true, decide_eq_false, cond_true, cond_false, Bool.and_self, Bool.true_and, Bool.and_true, Bool.false_and, Bool.and_false, Bool.not_true, Bool.not_false, List.length_append, List.length_cons, List.length_nil, Int.toNat_natCast, ibT, ibF, inT, inF, wrN, gd, dr, Option.bind_some, Sum.elim_inl, Sum.elim_inr, byte_back, of_to, getD_lt, h2]
      · have h2 := fp_at hi s h
        simp only [hi] at h2
        simp (disch := (first | omega | (simp only [List.length_append, List.length_cons, List.length_nil]; omega))) only [F15_l0, decide_eq_true, decide_eq_false, cond_true, cond_false, Bool.and_self, Bool.true_and, Bool.and_true, Bool.false_and, Bool.and_false, Bool.not_true, Bool.not_false, List.length_append, List.length_cons, List.length_nil, Int.toNat_natCast, ibT, ibF, inT, inF, wrN, gd, dr, Option.bind_some, Sum.elim_inl, Sum.elim_inr, byte_back, of_to, getD_lt]
        rw [h2]; rfl
    simp only [F15]
    rw [show C15_l0 (s, (s.length : Int), 0, ()) = _ from e]
    simp only [decide_eq_true, decide_eq_false, cond_true, cond_false, Bool.and_self, Bool.true_and, Bool.and_true, Bool.false_and, Bool.and_false, Bool.not_true, Bool.not_false, List.length_append, List.length_cons, List.length_nil, Int.toNat_natCast, ibT, ibF, inT, inF, wrN, gd, dr, Option.bind_some, Sum.elim_inl, Sum.elim_inr, byte_back, of_to, fnd, if_pos h]
  · have e : C15_l0 (s, (s.length : Int), ((0 : Nat) : Int), ()) = some (.inl ()) := by
      refine loopN_to (fun k => (s, (s.length : Int), ((k : Nat) : Int), ())) s.length (fun k hk => ?_) ?_ (by unfold big; omega)
      · have h2 := fp_lt hi s k (by omega) (by omega)
        simp only [hi] at h2
        simp (disch := (first | omega | (simp only [List.length_append, List.length_cons, List.length_nil]; omega))) only [F15_l0, decide_eq_true, decide_eq_false, cond_true, cond_false, Bool.and_self, Bool.true_and, Bool.and_true, Bool.false_and, Bool.and_false, Bool.not_true, Bool.not_false, List.length_append, List.length_cons, List.length_nil, Int.toNat_natCast, ibT, ibF, inT, inF, wrN, gd, dr, Option.bind_some, Sum.elim_inl, Sum.elim_inr, byte_back, of_to, getD_lt, h2]
      · simp (disch := (first | omega | (simp only [List.length_append, List.length_cons, List.length_nil]; omega))) only [F15_l0, decide_eq_true, decide_eq_false, cond_true, cond_false, Bool.and_self, Bool.true_and, Bool.and_true, Bool.false_and, Bool.and_false, Bool.not_true, Bool.not_false, List.length_append, List.length_cons, List.length_nil, Int.toNat_natCast, ibT, ibF, inT, inF, wrN, gd, dr, Option.bind_some, Sum.elim_inl, Sum.elim_inr, byte_back, of_to]
    simp only [F15]
    rw [show C15_l0 (s, (s.length : Int), 0, ()) = _ from e]
    simp only [decide_eq_true, decide_eq_false, cond_true, cond_false, Bool.and_self, Bool.true_and, Bool.and_true, Bool.false_and, Bool.and_false, Bool.not_true, Bool.not_false, List.length_append, List.length_cons, List.length_nil, Int.toNat_natCast, ibT, ibF, inT, inF, wrN, gd, dr, Option.bind_some, Sum.elim_inl, Sum.elim_inr, byte_back, of_to, fnd, if_neg h]
theorem c17 (s : Ln) (hb : s.length ≤ 140737488355328) : C17 (s, ()) = some (eight s, ()) := by
  show F17 C15 (s, ()) = _
  simp (disch := (first | omega | (simp only [List.length_append, List.length_cons, List.length_nil]; omega))) only [F17, c15, decide_eq_true, decide_eq_false, cond_true, cond_false, Bool.and_self, Bool.true_and, Bool.and_true, Bool.false_and, Bool.and_false, Bool.not_true, Bool.not_false, List.length_append, List.length_cons, List.length_nil, Int.toNat_natCast, ibT, ibF, inT, inF, wrN, gd, dr, Option.bind_some, Sum.elim_inl, Sum.elim_inr, byte_back, of_to, fnd_any, eight]
theorem c16 (l : List Ln) (hl : l.length ≤ 140737488355328) (hb : ∀ s ∈ l, s.length ≤ 140737488355328) : C16 (l, ()) = some (l.any eight, ()) := by
  have hle := fp_le eight l
  have hc : ∀ k (h : k < l.length), C17 (l[k], ()) = some (eight l[k], ()) := fun k h => c17 _ (hb _ (List.getElem_mem h))
  have e : C24 (l, ()) = some (fnd eight l, ()) := by
    show F24 C24_l0 (l, ()) = _
    by_cases h : fp eight l < l.length
    · have e : C24_l0 (l, (l.length : Int), ((0 : Nat) : Int), ()) = some (.inr ((fp eight l : Int), ())) := by
        refine loopN_to (fun k => (l, (l.length : Int), ((k : Nat) : Int), ())) (fp eight l) (fun k hk => ?_) ?_ (by unfold big; omega)
        · have h2 := fp_lt eight l k hk (by omega)
          simp (disch := (first | omega | (simp only [List.length_append, List.length_cons, List.length_nil]; omega))) only [F24_l0, decide_eq_true, decide_eq_false, cond_true, cond_false, Bool.and_self, Bool.true_and, Bool.and_true, Bool.false_and, Bool.and_false, Bool.not_true, Bool.not_false, List.length_append, List.length_cons, List.length_nil, Int.toNat_natCast, ibT, ibF, inT, inF, wrN, gd, dr, Option.bind_some, Sum.elim_inl, Sum.elim_inr, byte_back, of_to, getD_lt, hc, h2]
        · have h2 := fp_at eight l h
          simp (disch := (first | omega | (simp only [List.length_append, List.length_cons, List.length_nil]; omega))) only [F24_l0, decide_eq_true, decide_eq_false, cond_true, cond_false, Bool.and_self, Bool.true_and, Bool.and_true, Bool.false_and, Bool.and_false, Bool.not_true, Bool.not_false, List.length_append, List.length_cons, List.length_nil, Int.toNat_natCast, ibT, ibF, inT, inF, wrN, gd, dr, Option.bind_some, Sum.elim_inl, Sum.elim_inr, byte_back, of_to, getD_lt, hc, h2]
      simp only [F24]
      rw [show C24_l0 (l, (l.length : Int), 0, ()) = _ from e]
      simp only [decide_eq_true, decide_eq_false, cond_true, cond_false, Bool.and_self, Bool.true_and, Bool.and_true, Bool.false_and, Bool.and_false, Bool.not_true, Bool.not_false, List.length_append, List.length_cons, List.length_nil, Int.toNat_natCast, ibT, ibF, inT, inF, wrN, gd, dr, Option.bind_some, Sum.elim_inl, Sum.elim_inr, byte_back, of_to, fnd, if_pos h]
    · have e : C24_l0 (l, (l.length : Int), ((0 : Nat) : Int), ()) = some (.inl ()) := by
        refine loopN_to (fun k => (l, (l.length : Int), ((k : Nat) : Int), ())) l.length (fun k hk => ?_) ?_ (by unfold big; omega)
        · have h2 := fp_lt eight l k (by omega) (by omega)
          simp (disch := (first | omega | (simp only [List.length_append, List.length_cons, List.length_nil]; omega))) only [F24_l0, decide_eq_true, decide_eq_false, cond_true, cond_false, Bool.and_self, Bool.true_and, Bool.and_true, Bool.false_and, Bool.and_false, Bool.not_true, Bool.not_false, List.length_append, List.length_cons, List.length_nil, Int.toNat_natCast, ibT, ibF, inT, inF, wrN, gd, dr, Option.bind_some, Sum.elim_inl, Sum.elim_inr, byte_back, of_to, getD_lt, hc, h2]
        · simp (disch := (first | omega | (simp only [List.length_append, List.length_cons, List.length_nil]; omega))) only [F24_l0, decide_eq_true, decide_eq_false, cond_true, cond_false, Bool.and_self, Bool.true_and, Bool.and_true, Bool.false_and, Bool.and_false, Bool.not_true, Bool.not_false, List.length_append, List.length_cons, List.length_nil, Int.toNat_natCast, ibT, ibF, inT, inF, wrN, gd, dr, Option.bind_some, Sum.elim_inl, Sum.elim_inr, byte_back, of_to]
      simp only [F24]
      rw [show C24_l0 (l, (l.length : Int), 0, ()) = _ from e]
      simp only [decide_eq_true, decide_eq_false, cond_true, cond_false, Bool.and_self, Bool.true_and, Bool.and_true, Bool.false_and, Bool.and_false, Bool.not_true, Bool.not_false, List.length_append, List.length_cons, List.length_nil, Int.toNat_natCast, ibT, ibF, inT, inF, wrN, gd, dr, Option.bind_some, Sum.elim_inl, Sum.elim_inr, byte_back, of_to, fnd, if_neg h]
  show F16 C24 (l, ()) = _
  simp (disch := (first | omega | (simp only [List.length_append, List.length_cons, List.length_nil]; omega))) only [F16, e, decide_eq_true, decide_eq_false, cond_true, cond_false, Bool.and_self, Bool.true_and, Bool.and_true, Bool.false_and, Bool.and_false, Bool.not_true, Bool.not_false, List.length_append, List.length_cons, List.length_nil, Int.toNat_natCast, ibT, ibF, inT, inF, wrN, gd, dr, Option.bind_some, Sum.elim_inl, Sum.elim_inr, byte_back, of_to, fnd_any]
end Go.Proofs.YtaoaagbfjekecaaDoor.W
