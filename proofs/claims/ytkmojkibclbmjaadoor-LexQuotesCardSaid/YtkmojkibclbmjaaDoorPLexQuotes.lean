/- The plain law: what is quoted is told by its quote. -/
import Derived.Test.YtkmojkibclbmjaaDoorPL6
set_option linter.unusedVariables false
set_option linter.unusedSimpArgs false
set_option maxRecDepth 100000
namespace Go.Proofs.YtkmojkibclbmjaaDoor.W
open Go Go.Ae
def fineB (c : UInt8) : Bool := decide (c.toNat = 9) || (decide (32 ≤ c.toNat) && !decide (c.toNat = 127))
theorem fine_k : ((List.range 256).all fun n => (fun c : UInt8 => (fineB c && mayB c) || (!fineB c && !mayB c)) (UInt8.ofNat n)) = true := by kernel_rfl
theorem fine_may (c : UInt8) : fineB c = mayB c := by
  have h := all256 (fun c : UInt8 => (fineB c && mayB c) || (!fineB c && !mayB c)) fine_k c
  cases h1 : fineB c <;> cases h2 : mayB c <;> simp_all
theorem may_q {c : UInt8} (h : c.toNat = 34 ∨ c.toNat = 92) : mayB c = true := by
  rw [← fine_may]; unfold fineB; rcases h with h | h <;> rw [h] <;> rfl
theorem qt_esc : ∀ (s x : List UInt8), (s.all mayB = true → qt (esc s ++ 34 :: x) = .ok s ((esc s).length + 1)) ∧ (s.all mayB = false → ∃ off, qt (esc s ++ 34 :: x) = .bad off 4)
  | [], x => ⟨fun _ => by rw [show esc [] = [] from rfl, List.nil_append, qt_q rfl]; rfl, fun h => by simp at h⟩
  | c :: s, x => by
    obtain ⟨i1, i2⟩ := qt_esc s x
    have he : esc (c :: s) ++ 34 :: x = esc1 c ++ (esc s ++ 34 :: x) := by simp [esc]
    have hl : (esc (c :: s)).length = (esc1 c).length + (esc s).length := by simp [esc]
    rw [he, hl]
    by_cases e1 : c.toNat = 34 ∨ c.toNat = 92
    · have hm := may_q e1
      have h1 : esc1 c = [92, c] := by simp [esc1, e1]
      rw [h1, List.cons_append, List.cons_append, List.nil_append, qt_b1 rfl, hm, cond_true]
      refine ⟨fun h => ?_, fun h => ?_⟩
      · rw [i1 (by simpa [hm] using h)]; simp [Tk.push]; omega
      · obtain ⟨off, ho⟩ := i2 (by simpa [hm] using h)
        rw [ho]; exact ⟨_, rfl⟩
    · have h1 : esc1 c = [c] := by simp [esc1, e1]
      have e2 : ¬ c.toNat = 34 := fun h => e1 (.inl h)
      have e3 : ¬ c.toNat = 92 := fun h => e1 (.inr h)
      rw [h1, List.cons_append, List.nil_append, qt_c e2 e3]
      cases hm : mayB c with
      | true =>
        rw [cond_true]
        refine ⟨fun h => ?_, fun h => ?_⟩
        · rw [i1 (by simpa [hm] using h)]; simp [Tk.push]; omega
        · obtain ⟨off, ho⟩ := i2 (by simpa [hm] using h)
          rw [ho]; exact ⟨_, rfl⟩
      | false => exact ⟨fun h => by simp [hm] at h, fun _ => ⟨0, rfl⟩⟩
theorem l7 (s : List UInt8) : ∀ (r pre : List UInt8) (k n : Nat) (b : Bool), s = pre ++ r → pre.length = k → r.length < n → k + r.length ≤ 1000000 →
    loopN F7_l0 n (s, true, b, (k : Int), ()) = some (s, true, (b && r.all mayB), ())
  | _, _, _, 0, _, _, _, hn, _ => by omega
  | [], pre, k, n + 1, b, hs, hk, hn, hb => by
    refine loopN_inr ?_
    have : s.length = k := by rw [hs]; simp [hk]
    simp (disch := (first | omega | (simp only [List.length_append, List.length_cons, List.length_nil]; omega))) only [F7_l0, this, decide_eq_true, decide_eq_false, cond_true, cond_false, Bool.and_self, Bool.true_and, Bool.and_true, Bool.false_and, Bool.and_false, Bool.not_true, Bool.not_false, List.length_append, List.length_cons, List.length_nil, Int.toNat_natCast, ibT, ibF, inT, inF, wrN, gd, dr, Option.bind_some, Sum.elim_inl, Sum.elim_inr, byte_back, of_to, List.all_nil]
  | c :: r, pre, k, n + 1, b, hs, hk, hn, hb => by
    simp only [List.length_cons] at hn hb
    have hl : s.length = k + (r.length + 1) := by rw [hs]; simp [hk]
    have hg : s.getD k 0 = c := by rw [hs]; exact gd hk
    have next : F7_l0 (s, true, b, (k : Int), ()) = some (.inl (s, true, (b && mayB c), ((k + 1 : Nat) : Int), ())) := by
      cases b with
      | false => simp (disch := (first | omega | (simp only [List.length_append, List.length_cons, List.length_nil]; omega))) only [F7_l0, hl, hg, decide_eq_true, decide_eq_false, cond_true, cond_false, Bool.and_self, Bool.true_and, Bool.and_true, Bool.false_and, Bool.and_false, Bool.not_true, Bool.not_false, List.length_append, List.length_cons, List.length_nil, Int.toNat_natCast, ibT, ibF, inT, inF, wrN, gd, dr, Option.bind_some, Sum.elim_inl, Sum.elim_inr, byte_back, of_to]
      | true =>
        rw [← fine_may c]
        have hf : fineB c = (decide (c.toNat = 9) || (decide (32 ≤ c.toNat) && !decide (c.toNat = 127))) := rfl
        by_cases h1 : c.toNat = 9
        · have : fineB c = true := by rw [hf, h1]; rfl
          simp (disch := (first | omega | (simp only [List.length_append, List.length_cons, List.length_nil]; omega))) only [F7_l0, hl, hg, decide_eq_true, decide_eq_false, cond_true, cond_false, Bool.and_self, Bool.true_and, Bool.and_true, Bool.false_and, Bool.and_false, Bool.not_true, Bool.not_false, List.length_append, List.length_cons, List.length_nil, Int.toNat_natCast, ibT, ibF, inT, inF, wrN, gd, dr, Option.bind_some, Sum.elim_inl, Sum.elim_inr, byte_back, of_to, this]
        · by_cases h2 : 32 ≤ c.toNat
          · by_cases h3 : c.toNat = 127
            · have : fineB c = false := by rw [hf, h3]; rfl
              simp (disch := (first | omega | (simp only [List.length_append, List.length_cons, List.length_nil]; omega))) only [F7_l0, hl, hg, decide_eq_true, decide_eq_false, cond_true, cond_false, Bool.and_self, Bool.true_and, Bool.and_true, Bool.false_and, Bool.and_false, Bool.not_true, Bool.not_false, List.length_append, List.length_cons, List.length_nil, Int.toNat_natCast, ibT, ibF, inT, inF, wrN, gd, dr, Option.bind_some, Sum.elim_inl, Sum.elim_inr, byte_back, of_to, this]
            · have : fineB c = true := by rw [hf]; simp [h2, h3]
              simp (disch := (first | omega | (simp only [List.length_append, List.length_cons, List.length_nil]; omega))) only [F7_l0, hl, hg, decide_eq_true, decide_eq_false, cond_true, cond_false, Bool.and_self, Bool.true_and, Bool.and_true, Bool.false_and, Bool.and_false, Bool.not_true, Bool.not_false, List.length_append, List.length_cons, List.length_nil, Int.toNat_natCast, ibT, ibF, inT, inF, wrN, gd, dr, Option.bind_some, Sum.elim_inl, Sum.elim_inr, byte_back, of_to, this]
          · have : fineB c = false := by rw [hf]; simp [h1, h2]
            simp (disch := (first | omega | (simp only [List.length_append, List.length_cons, List.length_nil]; omega))) only [F7_l0, hl, hg, decide_eq_true, decide_eq_false, cond_true, cond_false, Bool.and_self, Bool.true_and, Bool.and_true, Bool.false_and, Bool.and_false, Bool.not_true, Bool.not_false, List.length_append, List.length_cons, List.length_nil, Int.toNat_natCast, ibT, ibF, inT, inF, wrN, gd, dr, Option.bind_some, Sum.elim_inl, Sum.elim_inr, byte_back, of_to, this]
    rw [loopN_inl next, l7 s r (pre ++ [c]) (k + 1) n _ (by rw [hs]; simp) (by simp [hk]) (by omega) (by omega)]
    simp [Bool.and_assoc]
theorem atom_sign_k : (atomB 34 || signB 34) = false := by kernel_rfl
theorem one_q (r : List UInt8) : one 34 r = (1, (qt r).up) := by
  have h := atom_sign_k
  simp only [Bool.or_eq_false_iff] at h
  unfold one
  rw [if_neg (by rw [h.1]; decide), if_neg (by rw [h.2]; decide), if_pos (show UInt8.toNat 34 = 34 from rfl)]
end Go.Proofs.YtkmojkibclbmjaaDoor.W
namespace Go.Proofs.YtkmojkibclbmjaaDoor.PLexQuotes
open Go Go.Ae Go.Proofs.YtkmojkibclbmjaaDoor.W
theorem pure (x0 : Ty.str.den) (b0 : Bd Ty.str x0) : C7 (x0, ()) = some (true, ()) := by
  show F7 C8 C9 C11 C7_l0 ((x0 : List UInt8), ()) = _
  change List UInt8 at x0
  by_cases h : x0.length ≤ 900
  · have h7 := l7 x0 x0 [] 0 big true rfl rfl (by unfold big; omega) (by omega)
    have h7' : C7_l0 (x0, true, true, 0, ()) = some (x0, true, x0.all mayB, ()) := by
      show loopN F7_l0 big _ = _
      simpa using h7
    have h9 := c9 1 x0 0 (by omega)
    have hsrc : src 1 x0 = 34 :: (esc x0 ++ [34]) := by simp [src]
    rw [hsrc] at h9
    have hesc := esc_len x0
    have h11 := c11 (34 :: (esc x0 ++ [34]))
    simp (disch := (first | omega | (simp only [List.length_append, List.length_cons, List.length_nil]; omega))) only [F7, C8, decide_eq_true, decide_eq_false, cond_true, cond_false, Bool.and_self, Bool.true_and, Bool.and_true, Bool.false_and, Bool.and_false, Bool.not_true, Bool.not_false, List.length_append, List.length_cons, List.length_nil, Int.toNat_natCast, ibT, ibF, inT, inF, wrN, gd, dr, Option.bind_some, Sum.elim_inl, Sum.elim_inr, byte_back, of_to, h7', h9, h11]
    obtain ⟨q1, q2⟩ := qt_esc x0 []
    have hR : lexR (34 :: (esc x0 ++ [34])) = end2 (utf (34 :: (esc x0 ++ [34]))) (lexs (34 :: (esc x0 ++ [34])) 0) := by
      unfold lexR
      rw [if_neg (by simp; omega)]
    rw [hR]
    cases hu : utf (34 :: (esc x0 ++ [34])) with
    | some b => simp [end2]
    | none =>
      cases ha : x0.all mayB with
      | true =>
        have h1 : one 34 (esc x0 ++ [34]) = (1, .ok x0 (1 + ((esc x0).length + 1))) := by rw [one_q, q1 ha]; rfl
        rw [lexs_ok h1, List.drop_of_length_le (by simp; omega), lexs_nil]
        simp [end2, end1, cons1]
      | false =>
        obtain ⟨off, ho⟩ := q2 ha
        have h1 : one 34 (esc x0 ++ [34]) = (1, .bad (1 + off) 4) := by rw [one_q, ho]; rfl
        rw [lexs_bad h1]
        simp [end2, end1]
  · simp (disch := (first | omega | (simp only [List.length_append, List.length_cons, List.length_nil]; omega))) only [F7, C8, decide_eq_true, decide_eq_false, cond_true, cond_false, Bool.and_self, Bool.true_and, Bool.and_true, Bool.false_and, Bool.and_false, Bool.not_true, Bool.not_false, List.length_append, List.length_cons, List.length_nil, Int.toNat_natCast, ibT, ibF, inT, inF, wrN, gd, dr, Option.bind_some, Sum.elim_inl, Sum.elim_inr, byte_back, of_to]
end Go.Proofs.YtkmojkibclbmjaaDoor.PLexQuotes
