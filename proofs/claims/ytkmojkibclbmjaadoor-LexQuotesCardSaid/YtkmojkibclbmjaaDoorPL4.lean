/- Notes. -/
import Derived.Test.YtkmojkibclbmjaaDoorPL3
set_option linter.unusedVariables false
set_option linter.unusedSimpArgs false
namespace Go.Proofs.YtkmojkibclbmjaaDoor.W
open Go Go.Ae
def nt : Nat → List UInt8 → Tk
  | _, [] => .start
  | deep, c :: r => if c.toNat = 40 then (if deep + 1 > 32 then .bad 0 6 else (nt (deep + 1) r).push [c] 1)
    else if c.toNat = 41 then (if deep = 1 then .ok [] 1 else (nt (deep - 1) r).push [c] 1)
    else if c.toNat = 92 then
      match r with
      | [] => .start
      | d :: r' => bif mayB d then (nt deep r').push [c, d] 2 else .bad 1 4
    else bif mayB c then (nt deep r).push [c] 1 else .bad 0 4
theorem nt_o {deep : Nat} {c : UInt8} {r : List UInt8} (h : c.toNat = 40) : nt deep (c :: r) = if deep + 1 > 32 then .bad 0 6 else (nt (deep + 1) r).push [c] 1 := by cases r <;> simp [nt, h]
theorem nt_c {deep : Nat} {c : UInt8} {r : List UInt8} (h : c.toNat = 41) : nt deep (c :: r) = if deep = 1 then .ok [] 1 else (nt (deep - 1) r).push [c] 1 := by cases r <;> simp [nt, h]
theorem nt_b0 {deep : Nat} {c : UInt8} (h : c.toNat = 92) : nt deep [c] = .start := by simp [nt, h]
theorem nt_b1 {deep : Nat} {c d : UInt8} {r : List UInt8} (h : c.toNat = 92) : nt deep (c :: d :: r) = bif mayB d then (nt deep r).push [c, d] 2 else .bad 1 4 := by simp [nt, h]
theorem nt_m {deep : Nat} {c : UInt8} {r : List UInt8} (h1 : ¬ c.toNat = 40) (h2 : ¬ c.toNat = 41) (h3 : ¬ c.toNat = 92) : nt deep (c :: r) = bif mayB c then (nt deep r).push [c] 1 else .bad 0 4 := by cases r <;> simp [nt, h1, h2, h3]
theorem wrM (n : Nat) (h : n ≤ 9223372036854775806) (h1 : 1 ≤ n) : IntKind.i64.wrap ((n : Int) - 1) = ((n - 1 : Nat) : Int) := by rw [wr] <;> omega
def resn (s : List UInt8) (f : Nat) (a bad err : Int) (q : Nat) : Tk → ((Int × Int × List UInt8 × Int × Int × Int × Unit) ⊕ (Int × Int × List UInt8 × Int × Int × Int × Unit) ⊕ (List UInt8 × List UInt8 × Int × Int × Int × Unit))
  | .ok t u => .inr (.inr (List.drop (f + 1) (List.take (q + t.length) s), s, ((q + u : Nat) : Int), bad, err, ()))
  | .bad off e => .inr (.inl (e, ((q + off : Nat) : Int), s, a, bad, err, ()))
  | .start => .inl ((f : Int), 4, s, a, bad, err, ())
theorem resn_push (s : List UInt8) (f : Nat) (a bad err : Int) (q : Nat) (l : List UInt8) (n : Nat) (hl : l.length = n) (k : Tk) : resn s f a bad err q (k.push l n) = resn s f a bad err (q + n) k := by
  cases k <;> simp [Tk.push, resn, Nat.add_assoc, hl]
theorem l25 (f : Nat) (a bad err : Int) : ∀ (m : Nat) (r pre : List UInt8) (deep q n : Nat), r.length ≤ m → 1 ≤ deep → deep ≤ 32 → pre.length = q → f + 1 ≤ q → r.length < n → q + r.length ≤ 140737488355320 →
    loopN (F25_l0 C31) n ((f : Int), (deep : Int), 4, (q : Int), pre ++ r, a, bad, err, ()) = some (resn (pre ++ r) f a bad err q (nt deep r))
  | _, _, _, _, _, 0, _, _, _, _, _, hn, _ => by omega
  | m, [], pre, deep, q, n + 1, hm, hd, hd2, hq, hf, hn, hb => by
    refine loopN_inr ?_
    simp (disch := (first | omega | (simp only [List.length_append, List.length_cons, List.length_nil]; omega))) only [F25_l0, decide_eq_true, decide_eq_false, cond_true, cond_false, Bool.and_self, Bool.true_and, Bool.and_true, Bool.false_and, Bool.and_false, Bool.not_true, Bool.not_false, List.length_append, List.length_cons, List.length_nil, Int.toNat_natCast, ibT, ibF, inT, inF, wrN, gd, dr, Option.bind_some, Sum.elim_inl, Sum.elim_inr, byte_back, of_to, List.append_nil, nt, resn]
  | 0, c :: r, pre, deep, q, n + 1, hm, hd, hd2, hq, hf, hn, hb => by simp at hm
  | m + 1, c :: r, pre, deep, q, n + 1, hm, hd, hd2, hq, hf, hn, hb => by
    simp only [List.length_cons] at hn hb hm
    have next : ∀ (d' : Nat), 1 ≤ d' → d' ≤ 32 → F25_l0 C31 ((f : Int), (deep : Int), 4, (q : Int), pre ++ c :: r, a, bad, err, ()) = some (.inl ((f : Int), (d' : Int), 4, ((q + 1 : Nat) : Int), pre ++ c :: r, a, bad, err, ())) →
        loopN (F25_l0 C31) (n + 1) ((f : Int), (deep : Int), 4, (q : Int), pre ++ c :: r, a, bad, err, ()) = some (resn (pre ++ c :: r) f a bad err q ((nt d' r).push [c] 1)) := by
      intro d' h1 h2 h3
      rw [loopN_inl h3, resn_push (l := [c]) (n := 1) _ _ _ _ _ _ rfl]
      have := l25 f a bad err m r (pre ++ [c]) d' (q + 1) n (by omega) h1 h2 (by simp [hq]) (by omega) (by omega) (by omega)
      rw [shift, this]
    by_cases e1 : c.toNat = 40
    · rw [nt_o e1]
      by_cases hdd : deep + 1 > 32
      · rw [if_pos hdd]
        refine loopN_inr ?_
        simp (disch := (first | omega | (simp only [List.length_append, List.length_cons, List.length_nil]; omega))) only [F25_l0, decide_eq_true, decide_eq_false, cond_true, cond_false, Bool.and_self, Bool.true_and, Bool.and_true, Bool.false_and, Bool.and_false, Bool.not_true, Bool.not_false, List.length_append, List.length_cons, List.length_nil, Int.toNat_natCast, ibT, ibF, inT, inF, wrN, gd, dr, Option.bind_some, Sum.elim_inl, Sum.elim_inr, byte_back, of_to, resn, Nat.add_zero]
      · rw [if_neg hdd]
        refine next (deep + 1) (by omega) (by omega) ?_
        simp (disch := (first | omega | (simp only [List.length_append, List.length_cons, List.length_nil]; omega))) only [F25_l0, decide_eq_true, decide_eq_false, cond_true, cond_false, Bool.and_self, Bool.true_and, Bool.and_true, Bool.false_and, Bool.and_false, Bool.not_true, Bool.not_false, List.length_append, List.length_cons, List.length_nil, Int.toNat_natCast, ibT, ibF, inT, inF, wrN, gd, dr, Option.bind_some, Sum.elim_inl, Sum.elim_inr, byte_back, of_to]
    · by_cases e2 : c.toNat = 41
      · rw [nt_c e2]
        by_cases hd1 : deep = 1
        · rw [if_pos hd1]
          refine loopN_inr ?_
          subst hd1
          simp (disch := (first | omega | (simp only [List.length_append, List.length_cons, List.length_nil]; omega))) only [F25_l0, decide_eq_true, decide_eq_false, cond_true, cond_false, Bool.and_self, Bool.true_and, Bool.and_true, Bool.false_and, Bool.and_false, Bool.not_true, Bool.not_false, List.length_append, List.length_cons, List.length_nil, Int.toNat_natCast, ibT, ibF, inT, inF, wrN, gd, dr, Option.bind_some, Sum.elim_inl, Sum.elim_inr, byte_back, of_to, resn, Nat.add_zero, wrM]
        · rw [if_neg hd1]
          refine next (deep - 1) (by omega) (by omega) ?_
          simp (disch := (first | omega | (simp only [List.length_append, List.length_cons, List.length_nil]; omega))) only [F25_l0, decide_eq_true, decide_eq_false, cond_true, cond_false, Bool.and_self, Bool.true_and, Bool.and_true, Bool.false_and, Bool.and_false, Bool.not_true, Bool.not_false, List.length_append, List.length_cons, List.length_nil, Int.toNat_natCast, ibT, ibF, inT, inF, wrN, gd, dr, Option.bind_some, Sum.elim_inl, Sum.elim_inr, byte_back, of_to, wrM]
      · by_cases e3 : c.toNat = 92
        · match r, hm, hn, hb with
          | [], hm, hn, hb =>
            rw [nt_b0 e3]
            simp only [List.length_nil] at hn hb hm
            rw [loopN_inl (v' := ((f : Int), (deep : Int), 4, ((q + 2 : Nat) : Int), pre ++ [c], a, bad, err, ())) (by
              simp (disch := (first | omega | (simp only [List.length_append, List.length_cons, List.length_nil]; omega))) only [F25_l0, decide_eq_true, decide_eq_false, cond_true, cond_false, Bool.and_self, Bool.true_and, Bool.and_true, Bool.false_and, Bool.and_false, Bool.not_true, Bool.not_false, List.length_append, List.length_cons, List.length_nil, Int.toNat_natCast, ibT, ibF, inT, inF, wrN, gd, dr, Option.bind_some, Sum.elim_inl, Sum.elim_inr, byte_back, of_to])]
            obtain ⟨n', rfl⟩ : ∃ n', n = n' + 1 := ⟨n - 1, by omega⟩
            refine loopN_inr ?_
            simp (disch := (first | omega | (simp only [List.length_append, List.length_cons, List.length_nil]; omega))) only [F25_l0, decide_eq_true, decide_eq_false, cond_true, cond_false, Bool.and_self, Bool.true_and, Bool.and_true, Bool.false_and, Bool.and_false, Bool.not_true, Bool.not_false, List.length_append, List.length_cons, List.length_nil, Int.toNat_natCast, ibT, ibF, inT, inF, wrN, gd, dr, Option.bind_some, Sum.elim_inl, Sum.elim_inr, byte_back, of_to, resn]
          | d :: r', hm, hn, hb =>
            simp only [List.length_cons] at hn hb hm
            rw [nt_b1 e3]
            have hg : (pre ++ c :: d :: r').getD (q + 1) 0 = d := by rw [shift]; exact gd (by simp [hq])
            cases h : mayB d with
            | true =>
              rw [loopN_inl (v' := ((f : Int), (deep : Int), 4, ((q + 2 : Nat) : Int), pre ++ c :: d :: r', a, bad, err, ())) (by
                simp (disch := (first | omega | (simp only [List.length_append, List.length_cons, List.length_nil]; omega))) only [F25_l0, decide_eq_true, decide_eq_false, cond_true, cond_false, Bool.and_self, Bool.true_and, Bool.and_true, Bool.false_and, Bool.and_false, Bool.not_true, Bool.not_false, List.length_append, List.length_cons, List.length_nil, Int.toNat_natCast, ibT, ibF, inT, inF, wrN, gd, dr, Option.bind_some, Sum.elim_inl, Sum.elim_inr, byte_back, of_to, hg, c31, h])]
              have := l25 f a bad err m r' (pre ++ [c, d]) deep (q + 2) n (by omega) hd hd2 (by simp [hq]) (by omega) (by omega) (by omega)
              rw [show pre ++ c :: d :: r' = (pre ++ [c, d]) ++ r' by simp, this, cond_true, resn_push (l := [c, d]) (n := 2) _ _ _ _ _ _ rfl]
            | false =>
              refine loopN_inr ?_
              simp (disch := (first | omega | (simp only [List.length_append, List.length_cons, List.length_nil]; omega))) only [F25_l0, decide_eq_true, decide_eq_false, cond_true, cond_false, Bool.and_self, Bool.true_and, Bool.and_true, Bool.false_and, Bool.and_false, Bool.not_true, Bool.not_false, List.length_append, List.length_cons, List.length_nil, Int.toNat_natCast, ibT, ibF, inT, inF, wrN, gd, dr, Option.bind_some, Sum.elim_inl, Sum.elim_inr, byte_back, of_to, hg, c31, h, resn]
        · rw [nt_m e1 e2 e3]
          cases h : mayB c with
          | true =>
            refine next deep hd hd2 ?_
            simp (disch := (first | omega | (simp only [List.length_append, List.length_cons, List.length_nil]; omega))) only [F25_l0, decide_eq_true, decide_eq_false, cond_true, cond_false, Bool.and_self, Bool.true_and, Bool.and_true, Bool.false_and, Bool.and_false, Bool.not_true, Bool.not_false, List.length_append, List.length_cons, List.length_nil, Int.toNat_natCast, ibT, ibF, inT, inF, wrN, gd, dr, Option.bind_some, Sum.elim_inl, Sum.elim_inr, byte_back, of_to, c31, h]
          | false =>
            refine loopN_inr ?_
            simp (disch := (first | omega | (simp only [List.length_append, List.length_cons, List.length_nil]; omega))) only [F25_l0, decide_eq_true, decide_eq_false, cond_true, cond_false, Bool.and_self, Bool.true_and, Bool.and_true, Bool.false_and, Bool.and_false, Bool.not_true, Bool.not_false, List.length_append, List.length_cons, List.length_nil, Int.toNat_natCast, ibT, ibF, inT, inF, wrN, gd, dr, Option.bind_some, Sum.elim_inl, Sum.elim_inr, byte_back, of_to, c31, h, resn, Nat.add_zero]
theorem push_ok {k : Tk} {l t : List UInt8} {n u : Nat} (h : k.push l n = .ok t u) : ∃ t' u', k = .ok t' u' ∧ t = l ++ t' ∧ u = n + u' := by
  cases k <;> simp [Tk.push] at h
  exact ⟨_, _, rfl, h.1.symm, h.2.symm⟩
theorem nt_ok : ∀ (m : Nat) {r t : List UInt8} {u deep : Nat}, r.length ≤ m → nt deep r = .ok t u → u = t.length + 1 ∧ t.length < r.length ∧ r.take t.length = t
  | _, [], t, u, deep, _, h => by simp [nt] at h
  | 0, c :: r, t, u, deep, hm, h => by simp at hm
  | m + 1, c :: r, t, u, deep, hm, h => by
    simp only [List.length_cons] at hm
    have one : ∀ (d' : Nat), (nt d' r).push [c] 1 = .ok t u → u = t.length + 1 ∧ t.length < (c :: r).length ∧ (c :: r).take t.length = t := by
      intro d' h
      obtain ⟨t', u', h1, rfl, rfl⟩ := push_ok h
      obtain ⟨i1, i2, i3⟩ := nt_ok m (by omega) h1
      exact ⟨by simp; omega, by simpa using i2, by simpa using i3⟩
    by_cases e1 : c.toNat = 40
    · rw [nt_o e1] at h
      split at h
      · cases h
      · exact one _ h
    · by_cases e2 : c.toNat = 41
      · rw [nt_c e2] at h
        split at h
        · cases h; simp
        · exact one _ h
      · by_cases e3 : c.toNat = 92
        · match r, hm, h with
          | [], hm, h => rw [nt_b0 e3] at h; cases h
          | d :: r', hm, h =>
            simp only [List.length_cons] at hm
            rw [nt_b1 e3] at h
            cases hd : mayB d <;> rw [hd] at h
            · cases h
            · obtain ⟨t', u', h1, rfl, rfl⟩ := push_ok h
              obtain ⟨i1, i2, i3⟩ := nt_ok m (by omega) h1
              exact ⟨by simp; omega, by simpa using i2, by simpa using i3⟩
        · rw [nt_m e1 e2 e3] at h
          cases hd : mayB c <;> rw [hd] at h
          · cases h
          · exact one _ h
theorem c25g (k e : Int) (s : List UInt8) (a bad err : Int) : C25_g0 (e, k, s, a, bad, err, ()) = some ([], s, a, k, e, ()) := by
  show loopN _ big _ = _
  rw [show big = 999999999999999999999 + 1 from rfl]
  exact loopN_inr rfl
theorem c25 (pre r : List UInt8) (c : UInt8) (p : Nat) (bad err : Int) (hc : c.toNat = 40) (hp : pre.length = p) (hb : p + r.length ≤ 140737488355000) :
    C25 (pre ++ c :: r, (p : Int), bad, err, ()) = some (fin (pre ++ c :: r) p bad err (p + 1) (nt 1 r)) := by
  show F25 C27 C31 C25_g0 C25_l0 (pre ++ c :: r, (p : Int), bad, err, ()) = _
  have hl := l25 p p bad err r.length r (pre ++ [c]) 1 (p + 1) 999999999999999999999 (Nat.le_refl _) (by omega) (by omega) (by simp [hp]) (by omega) (by omega) (by omega)
  rw [← shift] at hl
  have h0 : C25_l0 ((p : Int), 0, 4, (p : Int), pre ++ c :: r, (p : Int), bad, err, ()) = some (resn (pre ++ c :: r) p p bad err (p + 1) (nt 1 r)) := by
    rw [← hl]
    show loopN _ (999999999999999999999 + 1) _ = _
    refine loopN_inl ?_
    simp (disch := (first | omega | (simp only [List.length_append, List.length_cons, List.length_nil]; omega))) only [F25_l0, decide_eq_true, decide_eq_false, cond_true, cond_false, Bool.and_self, Bool.true_and, Bool.and_true, Bool.false_and, Bool.and_false, Bool.not_true, Bool.not_false, List.length_append, List.length_cons, List.length_nil, Int.toNat_natCast, ibT, ibF, inT, inF, wrN, gd, dr, Option.bind_some, Sum.elim_inl, Sum.elim_inr, byte_back, of_to]
    rfl
  cases hq : nt 1 r with
  | ok t u =>
    rw [hq] at h0
    obtain ⟨i1, i2, i3⟩ := nt_ok _ (Nat.le_refl _) hq
    simp (disch := (first | omega | (simp only [List.length_append, List.length_cons, List.length_nil]; omega))) only [F25, decide_eq_true, decide_eq_false, cond_true, cond_false, Bool.and_self, Bool.true_and, Bool.and_true, Bool.false_and, Bool.and_false, Bool.not_true, Bool.not_false, List.length_append, List.length_cons, List.length_nil, Int.toNat_natCast, ibT, ibF, inT, inF, wrN, gd, dr, Option.bind_some, Sum.elim_inl, Sum.elim_inr, byte_back, of_to, h0, resn, fin]
    rw [shift, text_eq (by simp [hp]), i3]
  | bad o e => rw [hq] at h0; simp (disch := (first | omega | (simp only [List.length_append, List.length_cons, List.length_nil]; omega))) only [F25, decide_eq_true, decide_eq_false, cond_true, cond_false, Bool.and_self, Bool.true_and, Bool.and_true, Bool.false_and, Bool.and_false, Bool.not_true, Bool.not_false, List.length_append, List.length_cons, List.length_nil, Int.toNat_natCast, ibT, ibF, inT, inF, wrN, gd, dr, Option.bind_some, Sum.elim_inl, Sum.elim_inr, byte_back, of_to, h0, resn, fin, c25g]
  | start => rw [hq] at h0; simp (disch := (first | omega | (simp only [List.length_append, List.length_cons, List.length_nil]; omega))) only [F25, decide_eq_true, decide_eq_false, cond_true, cond_false, Bool.and_self, Bool.true_and, Bool.and_true, Bool.false_and, Bool.and_false, Bool.not_true, Bool.not_false, List.length_append, List.length_cons, List.length_nil, Int.toNat_natCast, ibT, ibF, inT, inF, wrN, gd, dr, Option.bind_some, Sum.elim_inl, Sum.elim_inr, byte_back, of_to, h0, resn, fin, c27]
end Go.Proofs.YtkmojkibclbmjaaDoor.W
