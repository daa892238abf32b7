/- What the scanner comes to: broken lines, lines that begin a field. -/
import Derived.Test.YtaoaagbfjekecaaDoorPUtf
set_option linter.unusedVariables false
set_option linter.unusedSimpArgs false
set_option maxRecDepth 100000
namespace Go.Proofs.YtaoaagbfjekecaaDoor.W
open Go Go.Ae Go.Pl
def brk (s : Ln) : Bool := (utf s).isSome
theorem c18 (s : Ln) (hb : s.length ≤ 1000000) : C18 (s, ()) = some (brk s, ()) := by
  obtain ⟨o, h⟩ := c25 s hb
  simp only [C18, F18, h, Option.bind_some, brk]
  cases utf s <;> simp
theorem brk_eight {s : Ln} (h : eight s = false) : brk s = false := by
  have : utf s = none := utf_low fun c hc => by
    have := List.any_eq_false.1 h c hc
    simp [hi] at this; omega
  simp [brk, this]
theorem any_brk {l : List Ln} (h : l.any eight = false) : l.any brk = false := by
  rw [List.any_eq_false] at *
  intro s hs
  have := h s hs
  simp only [Bool.not_eq_true] at *
  exact brk_eight this
theorem c16v (l : List Ln) (hl : l.length ≤ 140737488355328) (hb : ∀ s ∈ l, s.length ≤ 1000000) : C16v1 (l, ()) = some (l.any brk, ()) := by
  have hle := fp_le brk l
  have hc : ∀ k (h : k < l.length), C18 (l[k], ()) = some (brk l[k], ()) := fun k h => c18 _ (hb _ (List.getElem_mem h))
  have e : C24v1 (l, ()) = some (fnd brk l, ()) := by
    show F24v1 C24v1_l0 (l, ()) = _
    by_cases h : fp brk l < l.length
    · have e : C24v1_l0 (l, (l.length : Int), ((0 : Nat) : Int), ()) = some (.inr ((fp brk l : Int), ())) := by
        refine loopN_to (fun k => (l, (l.length : Int), ((k : Nat) : Int), ())) (fp brk l) (fun k hk => ?_) ?_ (by unfold big; omega)
        · have h2 := fp_lt brk l k hk (by omega)
          simp (disch := (first | omega | (simp only [List.length_append, List.length_cons, List.length_nil]; omega))) only [F24v1_l0, decide_eq_true, decide_eq_false, cond_true, cond_false, Bool.and_self, Bool.true_and, Bool.and_true, Bool.false_and, Bool.and_false, Bool.not_true, Bool.not_false, List.length_append, List.length_cons, List.length_nil, Int.toNat_natCast, ibT, ibF, inT, inF, wrN, gd, dr, Option.bind_some, Sum.elim_inl, Sum.elim_inr, byte_back, of_to, getD_lt, hc, h2]
        · have h2 := fp_at brk l h
          simp (disch := (first | omega | (simp only [List.length_append, List.length_cons, List.length_nil]; omega))) only [F24v1_l0, decide_eq_true, decide_eq_false, cond_true, cond_false, Bool.and_self, Bool.true_and, Bool.and_true, Bool.false_and, Bool.and_false, Bool.not_true, Bool.not_false, List.length_append, List.length_cons, List.length_nil, Int.toNat_natCast, ibT, ibF, inT, inF, wrN, gd, dr, Option.bind_some, Sum.elim_inl, Sum.elim_inr, byte_back, of_to, getD_lt, hc, h2]
      simp only [F24v1]
      rw [show C24v1_l0 (l, (l.length : Int), 0, ()) = _ from e]
      simp only [decide_eq_true, decide_eq_false, cond_true, cond_false, Bool.and_self, Bool.true_and, Bool.and_true, Bool.false_and, Bool.and_false, Bool.not_true, Bool.not_false, List.length_append, List.length_cons, List.length_nil, Int.toNat_natCast, ibT, ibF, inT, inF, wrN, gd, dr, Option.bind_some, Sum.elim_inl, Sum.elim_inr, byte_back, of_to, fnd, if_pos h]
    · have e : C24v1_l0 (l, (l.length : Int), ((0 : Nat) : Int), ()) = some (.inl ()) := by
        refine loopN_to (fun k => (l, (l.length : Int), ((k : Nat) : Int), ())) l.length (fun k hk => ?_) ?_ (by unfold big; omega)
        · have h2 := fp_lt brk l k (by omega) (by omega)
          simp (disch := (first | omega | (simp only [List.length_append, List.length_cons, List.length_nil]; omega))) only [F24v1_l0, decide_eq_true, decide_eq_false, cond_true, cond_false, Bool.and_self, Bool.true_and, Bool.and_true, Bool.false_and, Bool.and_false, Bool.not_true, Bool.not_false, List.length_append, List.length_cons, List.length_nil, Int.toNat_natCast, ibT, ibF, inT, inF, wrN, gd, dr, Option.bind_some, Sum.elim_inl, Sum.elim_inr, byte_back, of_to, getD_lt, hc, h2]
        · simp (disch := (first | omega | (simp only [List.length_append, List.length_cons, List.length_nil]; omega))) only [F24v1_l0, decide_eq_true, decide_eq_false, cond_true, cond_false, Bool.and_self, Bool.true_and, Bool.and_true, Bool.false_and, Bool.and_false, Bool.not_true, Bool.not_false, List.length_append, List.length_cons, List.length_nil, Int.toNat_natCast, ibT, ibF, inT, inF, wrN, gd, dr, Option.bind_some, Sum.elim_inl, Sum.elim_inr, byte_back, of_to]
      simp only [F24v1]
      rw [show C24v1_l0 (l, (l.length : Int), 0, ()) = _ from e]
      simp only [decide_eq_true, decide_eq_false, cond_true, cond_false, Bool.and_self, Bool.true_and, Bool.and_true, Bool.false_and, Bool.and_false, Bool.not_true, Bool.not_false, List.length_append, List.length_cons, List.length_nil, Int.toNat_natCast, ibT, ibF, inT, inF, wrN, gd, dr, Option.bind_some, Sum.elim_inl, Sum.elim_inr, byte_back, of_to, fnd, if_neg h]
  show F16v1 C24v1 (l, ()) = _
  simp (disch := (first | omega | (simp only [List.length_append, List.length_cons, List.length_nil]; omega))) only [F16v1, e, decide_eq_true, decide_eq_false, cond_true, cond_false, Bool.and_self, Bool.true_and, Bool.and_true, Bool.false_and, Bool.and_false, Bool.not_true, Bool.not_false, List.length_append, List.length_cons, List.length_nil, Int.toNat_natCast, ibT, ibF, inT, inF, wrN, gd, dr, Option.bind_some, Sum.elim_inl, Sum.elim_inr, byte_back, of_to, fnd_any]
/-! ### few -/
def few (l : List Ln) : Bool := l.all (fun s => decide (s.length ≤ 400)) && decide (l.length ≤ 60)
def lg (s : Ln) : Bool := decide ((s.length : Int) > 400)
theorem c8 (l : List Ln) (hl : l.length ≤ 140737488355328) : C8 (l, ()) = some (few l, ()) := by
  have hle := fp_le lg l
  show F8 C8_l0 (l, ()) = _
  by_cases h : fp lg l < l.length
  · have h2 := fp_at lg l h
    have e : C8_l0 (l, ((0 : Nat) : Int), ()) = some (.inr (false, ())) := by
      refine loopN_to (fun k => (l, ((k : Nat) : Int), ())) (fp lg l) (fun k hk => ?_) ?_ (by unfold big; omega)
      · have h2 := fp_lt lg l k hk (by omega)
        simp only [lg] at h2
        simp (disch := (first | omega | (simp only [List.length_append, List.length_cons, List.length_nil]; omega))) only [F8_l0, decide_eq_true, decide_eq_false, cond_true, cond_false, Bool.and_self, Bool.true_and, Bool.and_true, Bool.false_and, Bool.and_false, Bool.not_true, Bool.not_false, List.length_append, List.length_cons, List.length_nil, Int.toNat_natCast, ibT, ibF, inT, inF, wrN, gd, dr, Option.bind_some, Sum.elim_inl, Sum.elim_inr, byte_back, of_to, getD_lt, h2]
      · simp only [lg] at h2
        simp (disch := (first | omega | (simp only [List.length_append, List.length_cons, List.length_nil]; omega))) only [F8_l0, decide_eq_true, decide_eq_false, cond_true, cond_false, Bool.and_self, Bool.true_and, Bool.and_true, Bool.false_and, Bool.and_false, Bool.not_true, Bool.not_false, List.length_append, List.length_cons, List.length_nil, Int.toNat_natCast, ibT, ibF, inT, inF, wrN, gd, dr, Option.bind_some, Sum.elim_inl, Sum.elim_inr, byte_back, of_to, getD_lt]
        rw [h2]; rfl
    have hf : few l = false := by
      simp only [few, Bool.and_eq_false_iff]
      left
      rw [List.all_eq_false]
      refine ⟨_, List.getElem_mem h, ?_⟩
      simp only [lg, decide_eq_true_eq] at h2
      simp only [decide_eq_true_eq]; omega
    simp only [F8]
    rw [show C8_l0 (l, 0, ()) = _ from e, hf]
    simp only [decide_eq_true, decide_eq_false, cond_true, cond_false, Bool.and_self, Bool.true_and, Bool.and_true, Bool.false_and, Bool.and_false, Bool.not_true, Bool.not_false, List.length_append, List.length_cons, List.length_nil, Int.toNat_natCast, ibT, ibF, inT, inF, wrN, gd, dr, Option.bind_some, Sum.elim_inl, Sum.elim_inr, byte_back, of_to]
  · have e : C8_l0 (l, ((0 : Nat) : Int), ()) = some (.inl (l, ())) := by
      refine loopN_to (fun k => (l, ((k : Nat) : Int), ())) l.length (fun k hk => ?_) ?_ (by unfold big; omega)
      · have h2 := fp_lt lg l k (by omega) (by omega)
        simp only [lg] at h2
        simp (disch := (first | omega | (simp only [List.length_append, List.length_cons, List.length_nil]; omega))) only [F8_l0, decide_eq_true, decide_eq_false, cond_true, cond_false, Bool.and_self, Bool.true_and, Bool.and_true, Bool.false_and, Bool.and_false, Bool.not_true, Bool.not_false, List.length_append, List.length_cons, List.length_nil, Int.toNat_natCast, ibT, ibF, inT, inF, wrN, gd, dr, Option.bind_some, Sum.elim_inl, Sum.elim_inr, byte_back, of_to, getD_lt, h2]
      · simp (disch := (first | omega | (simp only [List.length_append, List.length_cons, List.length_nil]; omega))) only [F8_l0, decide_eq_true, decide_eq_false, cond_true, cond_false, Bool.and_self, Bool.true_and, Bool.and_true, Bool.false_and, Bool.and_false, Bool.not_true, Bool.not_false, List.length_append, List.length_cons, List.length_nil, Int.toNat_natCast, ibT, ibF, inT, inF, wrN, gd, dr, Option.bind_some, Sum.elim_inl, Sum.elim_inr, byte_back, of_to]
    have hf : l.all (fun s => decide (s.length ≤ 400)) = true := by
      rw [List.all_eq_true]
      intro s hs
      obtain ⟨k, hk, rfl⟩ := List.getElem_of_mem hs
      have h2 := fp_lt lg l k (by omega) hk
      simp only [lg, decide_eq_false_iff_not] at h2
      simp only [decide_eq_true_eq]; omega
    simp only [F8]
    rw [show C8_l0 (l, 0, ()) = _ from e]
    simp only [decide_eq_true, decide_eq_false, cond_true, cond_false, Bool.and_self, Bool.true_and, Bool.and_true, Bool.false_and, Bool.and_false, Bool.not_true, Bool.not_false, List.length_append, List.length_cons, List.length_nil, Int.toNat_natCast, ibT, ibF, inT, inF, wrN, gd, dr, Option.bind_some, Sum.elim_inl, Sum.elim_inr, byte_back, of_to, few, hf]
    congr 2
    rw [decide_eq_decide]; omega
theorem few_len {l : List Ln} (h : few l = true) : l.length ≤ 60 := by
  simp only [few, Bool.and_eq_true, decide_eq_true_eq] at h; exact h.2
theorem few_mem {l : List Ln} (h : few l = true) {s : Ln} (hs : s ∈ l) : s.length ≤ 400 := by
  simp only [few, Bool.and_eq_true, List.all_eq_true, decide_eq_true_eq] at h; exact h.1 s hs
/-! ### what begins a field -/
theorem c26 (s : Ln) (c : UInt8) : C26 (s, (c.toNat : Int), ()) = some (Lib.indexByte s c, ()) := by
  show F26 C39 _ = _
  simp only [F26, C39, Option.bind_some]
  congr 2
  simp
theorem c19 (s : Ln) (c : UInt8) : C19 (s, (c.toNat : Int), ()) = some (Lib.indexByte s c, ()) := by
  show F19 C26 _ = _
  simp only [F19, c26, Option.bind_some]
theorem iB (s : Ln) (c : UInt8) : Lib.indexByte s c = fnd (fun x => x == c) s := by
  induction s with
  | nil => rfl
  | cons b r ih =>
    unfold Lib.indexByte fnd
    by_cases h : (b == c) = true
    · simp [h, fp]
    · simp only [Bool.not_eq_true] at h
      simp only [h, ih, fp, cond_false, List.length_cons, fnd]
      simp only [Bool.false_eq_true, if_false]
      by_cases h2 : fp (fun x => x == c) r < r.length
      · simp only [if_pos h2, if_pos (show fp (fun x => x == c) r + 1 < r.length + 1 by omega)]
        rw [if_neg (by simp)]
        rfl
      · simp [h2]
def cutC (s : Ln) : Ln × Ln × Bool := if fp (fun x => x == 58) s < s.length then (s.take (fp (fun x => x == 58) s), s.drop (fp (fun x => x == 58) s + 1), true) else (s, [], false)
theorem c47 (s : Ln) : C47 (s, [58], ()) = some (fnd (fun x => x == 58) s, ()) := by
  have h1 : IntKind.i64.wrap 1 = 1 := rfl
  show F47 C47_c0 _ = _
  have e : C47_c0 (s, [58], 1, [58] == s, ()) = some (fnd (fun x => x == 58) s, ()) := by
    show F47_c0 C26 _ = _
    simp only [F47_c0]
    by_cases h : ([58] == s) = true
    · have : s = [58] := (beq_iff_eq.1 h).symm
      subst this
      rfl
    · simp only [Bool.not_eq_true] at h
      rw [h]
      have := c26 s 58
      rw [iB] at this
      simp only [cond_false]
      simp (disch := (first | omega | (simp only [List.length_append, List.length_cons, List.length_nil]; omega))) only [decide_eq_true, decide_eq_false, cond_true, cond_false, Bool.and_self, Bool.true_and, Bool.and_true, Bool.false_and, Bool.and_false, Bool.not_true, Bool.not_false, List.length_append, List.length_cons, List.length_nil, Int.toNat_natCast, ibT, ibF, inT, inF, wrN, gd, dr, Option.bind_some, Sum.elim_inl, Sum.elim_inr, byte_back, of_to, List.getD_cons_zero]
      rw [show ((UInt8.toNat 58 : Nat) : Int) = (58 : Int) from rfl] at this
      rw [show (((58 : UInt8).toNat : Nat) : Int) = (58 : Int) from rfl, this]
      simp (disch := (first | omega | (simp only [List.length_append, List.length_cons, List.length_nil]; omega))) only [decide_eq_true, decide_eq_false, cond_true, cond_false, Bool.and_self, Bool.true_and, Bool.and_true, Bool.false_and, Bool.and_false, Bool.not_true, Bool.not_false, List.length_append, List.length_cons, List.length_nil, Int.toNat_natCast, ibT, ibF, inT, inF, wrN, gd, dr, Option.bind_some, Sum.elim_inl, Sum.elim_inr, byte_back, of_to]
  simp only [F47]
  rw [show ((([58] : List UInt8).length : Nat) : Int) = 1 from rfl, e]
  rfl
theorem c27 (s : Ln) (hb : s.length ≤ 9223372036854775800) : C27 (s, [58], ()) = some ((cutC s).1, (cutC s).2.1, (cutC s).2.2, ()) := by
  have hl := fp_le (fun x => x == 58) s
  have e : C40 (s, [58], ()) = some ((cutC s).1, (cutC s).2.1, (cutC s).2.2, ()) := by
    show F40 C47 _ = _
    simp only [F40, c47, Option.bind_some, fnd, cutC]
    by_cases h : fp (fun x => x == 58) s < s.length
    · have := wrN (fp (fun x => x == 58) s) (by omega)
      simp (disch := (first | omega | (simp only [List.length_append, List.length_cons, List.length_nil]; omega))) only [if_pos h, decide_eq_true, decide_eq_false, cond_true, cond_false, Bool.and_self, Bool.true_and, Bool.and_true, Bool.false_and, Bool.and_false, Bool.not_true, Bool.not_false, List.length_append, List.length_cons, List.length_nil, Int.toNat_natCast, ibT, ibF, inT, inF, wrN, gd, dr, Option.bind_some, Sum.elim_inl, Sum.elim_inr, byte_back, of_to, Nat.zero_add, Int.natCast_one, this]
    · simp (disch := (first | omega | (simp only [List.length_append, List.length_cons, List.length_nil]; omega))) only [if_neg h, decide_eq_true, decide_eq_false, cond_true, cond_false, Bool.and_self, Bool.true_and, Bool.and_true, Bool.false_and, Bool.and_false, Bool.not_true, Bool.not_false, List.length_append, List.length_cons, List.length_nil, Int.toNat_natCast, ibT, ibF, inT, inF, wrN, gd, dr, Option.bind_some, Sum.elim_inl, Sum.elim_inr, byte_back, of_to]
  show F27 C40 _ = _
  simp only [F27, e, Option.bind_some]
def sb (c : UInt8) : Bool := decide (c.toNat ≤ 32) || decide (c.toNat > 126)
theorem c28 (n : Nat) : C28 ((n : Int), ()) = some (decide (n ≤ 32) || decide (n > 126), ()) := by
  show F28 _ = _
  by_cases h : n ≤ 32
  · simp (disch := (first | omega | (simp only [List.length_append, List.length_cons, List.length_nil]; omega))) only [F28, decide_eq_true, decide_eq_false, cond_true, cond_false, Bool.and_self, Bool.true_and, Bool.and_true, Bool.false_and, Bool.and_false, Bool.not_true, Bool.not_false, List.length_append, List.length_cons, List.length_nil, Int.toNat_natCast, ibT, ibF, inT, inF, wrN, gd, dr, Option.bind_some, Sum.elim_inl, Sum.elim_inr, byte_back, of_to, h, decide_true, Bool.true_or]
  · simp only [F28]
    rw [decide_eq_false (show ¬ (n : Int) ≤ 32 by omega)]
    simp only [cond_false, h, decide_false, Bool.false_or]
    congr 2
    rw [decide_eq_decide]; omega
theorem r48 {s : Ln} {p : Nat} (h : p < s.length) : F48_l0 C28 (true, (s, (p : Int)), ()) = some (if sb s[p] then .inr (.inl ((p : Int), ())) else .inl (true, (s, ((p + 1 : Nat) : Int)), ())) := by
  by_cases hc : s[p].toNat < 128
  · simp (disch := (first | omega | (simp only [List.length_append, List.length_cons, List.length_nil]; omega))) only [F48_l0, decide_eq_true, decide_eq_false, cond_true, cond_false, Bool.and_self, Bool.true_and, Bool.and_true, Bool.false_and, Bool.and_false, Bool.not_true, Bool.not_false, List.length_append, List.length_cons, List.length_nil, Int.toNat_natCast, ibT, ibF, inT, inF, wrN, gd, dr, Option.bind_some, Sum.elim_inl, Sum.elim_inr, byte_back, of_to, decR_low h hc, c28]
    rw [show (decide (s[p].toNat ≤ 32) || decide (s[p].toNat > 126)) = sb s[p] from rfl]
    by_cases hh : sb s[p] = true
    · rw [if_pos hh, hh]; rfl
    · rw [if_neg hh, Bool.eq_false_iff.2 hh]; rfl
  · have h2 := decR_high h (by omega)
    have e : sb s[p] = true := by simp [sb]; omega
    have e2 : (decide ((decR s p).1 ≤ 32) || decide ((decR s p).1 > 126)) = true := by simp; omega
    simp (disch := (first | omega | (simp only [List.length_append, List.length_cons, List.length_nil]; omega))) only [F48_l0, decide_eq_true, decide_eq_false, cond_true, cond_false, Bool.and_self, Bool.true_and, Bool.and_true, Bool.false_and, Bool.and_false, Bool.not_true, Bool.not_false, List.length_append, List.length_cons, List.length_nil, Int.toNat_natCast, ibT, ibF, inT, inF, wrN, gd, dr, Option.bind_some, Sum.elim_inl, Sum.elim_inr, byte_back, of_to, c28, e, e2, if_true]
    rfl
theorem c29 (s : Ln) (hb : s.length ≤ 140737488355328) : C29 (s, ()) = some (s.any sb, ()) := by
  have hle := fp_le sb s
  have e : C48 (s, true, ()) = some (fnd sb s, ()) := by
    show F48 C48_l0 _ = _
    by_cases h : fp sb s < s.length
    · have e : C48_l0 (true, (s, ((0 : Nat) : Int)), ()) = some (.inl ((fp sb s : Int), ())) := by
        refine loopN_to (fun k => (true, (s, ((k : Nat) : Int)), ())) (fp sb s) (fun k hk => ?_) ?_ (by unfold big; omega)
        · rw [r48 (by omega), fp_lt sb s k hk (by omega)]; rfl
        · rw [r48 h, fp_at sb s h]; rfl
      simp only [F48]
      rw [show C48_l0 (true, (s, 0), ()) = _ from e]
      simp only [decide_eq_true, decide_eq_false, cond_true, cond_false, Bool.and_self, Bool.true_and, Bool.and_true, Bool.false_and, Bool.and_false, Bool.not_true, Bool.not_false, List.length_append, List.length_cons, List.length_nil, Int.toNat_natCast, ibT, ibF, inT, inF, wrN, gd, dr, Option.bind_some, Sum.elim_inl, Sum.elim_inr, byte_back, of_to, fnd, if_pos h]
    · have e : C48_l0 (true, (s, ((0 : Nat) : Int)), ()) = some (.inr ()) := by
        refine loopN_to (fun k => (true, (s, ((k : Nat) : Int)), ())) s.length (fun k hk => ?_) ?_ (by unfold big; omega)
        · rw [r48 hk, fp_lt sb s k (by omega) (by omega)]; rfl
        · simp (disch := (first | omega | (simp only [List.length_append, List.length_cons, List.length_nil]; omega))) only [F48_l0, decide_eq_true, decide_eq_false, cond_true, cond_false, Bool.and_self, Bool.true_and, Bool.and_true, Bool.false_and, Bool.and_false, Bool.not_true, Bool.not_false, List.length_append, List.length_cons, List.length_nil, Int.toNat_natCast, ibT, ibF, inT, inF, wrN, gd, dr, Option.bind_some, Sum.elim_inl, Sum.elim_inr, byte_back, of_to]
      simp only [F48]
      rw [show C48_l0 (true, (s, 0), ()) = _ from e]
      simp only [decide_eq_true, decide_eq_false, cond_true, cond_false, Bool.and_self, Bool.true_and, Bool.and_true, Bool.false_and, Bool.and_false, Bool.not_true, Bool.not_false, List.length_append, List.length_cons, List.length_nil, Int.toNat_natCast, ibT, ibF, inT, inF, wrN, gd, dr, Option.bind_some, Sum.elim_inl, Sum.elim_inr, byte_back, of_to, fnd, if_neg h]
  have e2 : C41 (s, ()) = some (fnd sb s, ()) := by
    show F41 C48 _ = _
    simp only [F41, e, Option.bind_some]
  show F29 C41 _ = _
  simp only [F29, e2, Option.bind_some, fnd_any]
/-- A line that begins a field: its name, what is behind it, and whether it does. -/
def beg (s : Ln) : Ln × Ln × Bool := (plain (cutC s).1, (cutC s).2.1, (cutC s).2.2 && (!((cutC s).1 == []) && !(cutC s).1.any sb))
theorem cut_len (s : Ln) : (cutC s).1.length ≤ s.length ∧ (cutC s).2.1.length ≤ s.length := by
  unfold cutC
  split
  · simp only [List.length_take, List.length_drop]; omega
  · simp
theorem c20 (s : Ln) (hb : s.length ≤ 140737488355327) : C20 (s, ()) = some ((beg s).1, (beg s).2.1, (beg s).2.2, ()) := by
  have hl := (cut_len s).1
  show F20 C13 C27 C29 _ = _
  simp (disch := (first | omega | (simp only [List.length_append, List.length_cons, List.length_nil]; omega))) only [F20, c27, c13, c29, Option.bind_some, beg]
  cases (cutC s).2.2 <;> cases (cutC s).1 == [] <;> cases (cutC s).1.any sb <;> rfl
end Go.Proofs.YtaoaagbfjekecaaDoor.W
