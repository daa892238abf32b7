/- Quotes, literals, notes. -/
import Derived.Test.YtkmojkibclbmjaaDoorPL2
set_option linter.unusedVariables false
set_option linter.unusedSimpArgs false
namespace Go.Proofs.YtkmojkibclbmjaaDoor.W
open Go Go.Ae
/-- What a token's text comes to: its text and how many bytes it has; or wrong at an offset; or wrong at its first byte. -/
inductive Tk where
  | ok (t : List UInt8) (u : Nat)
  | bad (off : Nat) (e : Int)
  | start
def Tk.push (l : List UInt8) (n : Nat) : Tk → Tk
  | .ok t u => .ok (l ++ t) (n + u)
  | .bad off e => .bad (n + off) e
  | .start => .start
def qt : List UInt8 → Tk
  | [] => .start
  | c :: r => if c.toNat = 34 then .ok [] 1 else if c.toNat = 92 then
      match r with
      | [] => .start
      | d :: r' => bif mayB d then (qt r').push [d] 2 else .bad 1 4
    else bif mayB c then (qt r).push [c] 1 else .bad 0 4
theorem qt_q {c : UInt8} {r : List UInt8} (h : c.toNat = 34) : qt (c :: r) = .ok [] 1 := by cases r <;> simp [qt, h]
theorem qt_b0 {c : UInt8} (h : c.toNat = 92) : qt [c] = .start := by simp [qt, h]
theorem qt_b1 {c d : UInt8} {r : List UInt8} (h : c.toNat = 92) : qt (c :: d :: r) = bif mayB d then (qt r).push [d] 2 else .bad 1 4 := by simp [qt, h]
theorem qt_c {c : UInt8} {r : List UInt8} (h1 : ¬ c.toNat = 34) (h2 : ¬ c.toNat = 92) : qt (c :: r) = bif mayB c then (qt r).push [c] 1 else .bad 0 4 := by cases r <;> simp [qt, h1, h2]
theorem wr2 {n : Int} (h1 : 0 ≤ n) (h2 : n ≤ 9223372036854775806) : IntKind.i64.wrap (n + 1) = n + 1 := wr (by omega) (by omega)

def resq (s : List UInt8) (a bad err : Int) (out : List UInt8) (q : Nat) : Tk → (List UInt8 × Int × Int × Int × Unit) ⊕ (List UInt8 × List UInt8 × Int × Int × Int × Unit)
  | .ok t u => .inr (out ++ t, s, ((q + u : Nat) : Int), bad, err, ())
  | .bad off e => .inr ([], s, a, ((q + off : Nat) : Int), e, ())
  | .start => .inl (s, a, bad, err, ())
theorem resq_push (s : List UInt8) (a bad err : Int) (out : List UInt8) (q : Nat) (l : List UInt8) (n : Nat) (k : Tk) : resq s a bad err out q (k.push l n) = resq s a bad err (out ++ l) (q + n) k := by
  cases k <;> simp [Tk.push, resq, Nat.add_assoc]
theorem c23c (pre r out : List UInt8) (d : UInt8) (q : Nat) (a bad err : Int) (hq : pre.length = q) (hb : q + r.length ≤ 140737488355320) (ho : out.length + 1 ≤ 140737488355328) :
    C23_c0 ((q : Int), pre ++ d :: r, a, bad, err, out, ()) = some (bif mayB d then .inr ((q : Int), pre ++ d :: r, a, bad, err, out ++ [d], ()) else .inl ([], pre ++ d :: r, a, (q : Int), 4, ())) := by
  cases h : mayB d <;> simp (disch := (first | omega | (simp only [List.length_append, List.length_cons, List.length_nil]; omega))) only [C23_c0, F23_c0, decide_eq_true, decide_eq_false, cond_true, cond_false, Bool.and_self, Bool.true_and, Bool.and_true, Bool.false_and, Bool.and_false, Bool.not_true, Bool.not_false, List.length_append, List.length_cons, List.length_nil, Int.toNat_natCast, ibT, ibF, inT, inF, wrN, gd, dr, Option.bind_some, Sum.elim_inl, Sum.elim_inr, byte_back, of_to, c31, c27, h]
theorem l23 (a bad err : Int) : ∀ (m : Nat) (r pre out : List UInt8) (q n : Nat), r.length ≤ m → pre.length = q → r.length < n → q + r.length ≤ 140737488355320 → out.length + r.length ≤ 140737488355320 →
    loopN (F23_l0 C27 C31 C23_c0) n ((q : Int), pre ++ r, a, bad, err, out, ()) = some (resq (pre ++ r) a bad err out q (qt r))
  | _, _, _, _, _, 0, _, _, hn, _, _ => by omega
  | m, [], pre, out, q, n + 1, hm, hq, hn, hb, ho => by
    refine loopN_inr ?_
    simp (disch := (first | omega | (simp only [List.length_append, List.length_cons, List.length_nil]; omega))) only [F23_l0, decide_eq_true, decide_eq_false, cond_true, cond_false, Bool.and_self, Bool.true_and, Bool.and_true, Bool.false_and, Bool.and_false, Bool.not_true, Bool.not_false, List.length_append, List.length_cons, List.length_nil, Int.toNat_natCast, ibT, ibF, inT, inF, wrN, gd, dr, Option.bind_some, Sum.elim_inl, Sum.elim_inr, byte_back, of_to, List.append_nil, qt, resq]
  | 0, c :: r, pre, out, q, n + 1, hm, hq, hn, hb, ho => by simp at hm
  | m + 1, c :: r, pre, out, q, n + 1, hm, hq, hn, hb, ho => by
    simp only [List.length_cons] at hn hb hm ho
    by_cases e1 : c.toNat = 34
    · refine loopN_inr ?_
      rw [qt_q e1]
      simp (disch := (first | omega | (simp only [List.length_append, List.length_cons, List.length_nil]; omega))) only [F23_l0, decide_eq_true, decide_eq_false, cond_true, cond_false, Bool.and_self, Bool.true_and, Bool.and_true, Bool.false_and, Bool.and_false, Bool.not_true, Bool.not_false, List.length_append, List.length_cons, List.length_nil, Int.toNat_natCast, ibT, ibF, inT, inF, wrN, gd, dr, Option.bind_some, Sum.elim_inl, Sum.elim_inr, byte_back, of_to, resq, List.append_nil]
    · by_cases e2 : c.toNat = 92
      · match r, hm, hn, hb, ho with
        | [], hm, hn, hb, ho =>
          refine loopN_inr ?_
          rw [qt_b0 e2]
          simp (disch := (first | omega | (simp only [List.length_append, List.length_cons, List.length_nil]; omega))) only [F23_l0, decide_eq_true, decide_eq_false, cond_true, cond_false, Bool.and_self, Bool.true_and, Bool.and_true, Bool.false_and, Bool.and_false, Bool.not_true, Bool.not_false, List.length_append, List.length_cons, List.length_nil, Int.toNat_natCast, ibT, ibF, inT, inF, wrN, gd, dr, Option.bind_some, Sum.elim_inl, Sum.elim_inr, byte_back, of_to, resq, List.append_nil]
        | d :: r', hm, hn, hb, ho =>
          simp only [List.length_cons] at hn hb hm ho
          have hc := c23c (pre ++ [c]) r' out d (q + 1) a bad err (by simp [hq]) (by omega) (by omega)
          rw [← shift] at hc
          rw [qt_b1 e2]
          cases h : mayB d with
          | true =>
            rw [h] at hc
            simp only [cond_true] at hc ⊢
            rw [loopN_inl (v' := (((q + 2 : Nat) : Int), pre ++ c :: d :: r', a, bad, err, out ++ [d], ())) (by
              simp (disch := (first | omega | (simp only [List.length_append, List.length_cons, List.length_nil]; omega))) only [F23_l0, decide_eq_true, decide_eq_false, cond_true, cond_false, Bool.and_self, Bool.true_and, Bool.and_true, Bool.false_and, Bool.and_false, Bool.not_true, Bool.not_false, List.length_append, List.length_cons, List.length_nil, Int.toNat_natCast, ibT, ibF, inT, inF, wrN, gd, dr, Option.bind_some, Sum.elim_inl, Sum.elim_inr, byte_back, of_to, hc])]
            have := l23 a bad err m r' (pre ++ [c, d]) (out ++ [d]) (q + 2) n (by omega) (by simp [hq]) (by omega) (by omega) (by simp; omega)
            rw [show pre ++ c :: d :: r' = (pre ++ [c, d]) ++ r' by simp, this, ← resq_push]
          | false =>
            rw [h] at hc
            simp only [cond_false] at hc ⊢
            refine loopN_inr ?_
            simp (disch := (first | omega | (simp only [List.length_append, List.length_cons, List.length_nil]; omega))) only [F23_l0, decide_eq_true, decide_eq_false, cond_true, cond_false, Bool.and_self, Bool.true_and, Bool.and_true, Bool.false_and, Bool.and_false, Bool.not_true, Bool.not_false, List.length_append, List.length_cons, List.length_nil, Int.toNat_natCast, ibT, ibF, inT, inF, wrN, gd, dr, Option.bind_some, Sum.elim_inl, Sum.elim_inr, byte_back, of_to, hc, resq]
      · have hc := c23c pre r out c q a bad err hq (by omega) (by omega)
        rw [qt_c e1 e2]
        cases h : mayB c with
        | true =>
          rw [h] at hc
          simp only [cond_true] at hc ⊢
          rw [loopN_inl (v' := (((q + 1 : Nat) : Int), pre ++ c :: r, a, bad, err, out ++ [c], ())) (by
            simp (disch := (first | omega | (simp only [List.length_append, List.length_cons, List.length_nil]; omega))) only [F23_l0, decide_eq_true, decide_eq_false, cond_true, cond_false, Bool.and_self, Bool.true_and, Bool.and_true, Bool.false_and, Bool.and_false, Bool.not_true, Bool.not_false, List.length_append, List.length_cons, List.length_nil, Int.toNat_natCast, ibT, ibF, inT, inF, wrN, gd, dr, Option.bind_some, Sum.elim_inl, Sum.elim_inr, byte_back, of_to, hc])]
          have := l23 a bad err m r (pre ++ [c]) (out ++ [c]) (q + 1) n (by omega) (by simp [hq]) (by omega) (by omega) (by simp; omega)
          rw [shift, this, ← resq_push]
        | false =>
          rw [h] at hc
          simp only [cond_false] at hc ⊢
          refine loopN_inr ?_
          simp (disch := (first | omega | (simp only [List.length_append, List.length_cons, List.length_nil]; omega))) only [F23_l0, decide_eq_true, decide_eq_false, cond_true, cond_false, Bool.and_self, Bool.true_and, Bool.and_true, Bool.false_and, Bool.and_false, Bool.not_true, Bool.not_false, List.length_append, List.length_cons, List.length_nil, Int.toNat_natCast, ibT, ibF, inT, inF, wrN, gd, dr, Option.bind_some, Sum.elim_inl, Sum.elim_inr, byte_back, of_to, hc, resq, Nat.add_zero]
/-- A token's end: what the reader hands back. -/
def fin (s : List UInt8) (p : Nat) (bad err : Int) (q : Nat) : Tk → List UInt8 × List UInt8 × Int × Int × Int × Unit
  | .ok t u => (t, s, ((q + u : Nat) : Int), bad, err, ())
  | .bad off e => ([], s, (p : Int), ((q + off : Nat) : Int), e, ())
  | .start => ([], s, (p : Int), (p : Int), 4, ())
theorem c23 (pre r : List UInt8) (c : UInt8) (p : Nat) (bad err : Int) (hp : pre.length = p) (hb : p + r.length ≤ 140737488355000) :
    C23 (pre ++ c :: r, (p : Int), bad, err, ()) = some (fin (pre ++ c :: r) p bad err (p + 1) (qt r)) := by
  show F23 C27 C31 C23_l0 (pre ++ c :: r, (p : Int), bad, err, ()) = _
  have hl := l23 p bad err r.length r (pre ++ [c]) [] (p + 1) big (Nat.le_refl _) (by simp [hp]) (by unfold big; omega) (by omega) (by simp; omega)
  rw [← shift] at hl
  have hl' : C23_l0 (((p + 1 : Nat) : Int), pre ++ c :: r, (p : Int), bad, err, [], ()) = _ := hl
  cases hq : qt r <;> rw [hq] at hl' <;> simp (disch := (first | omega | (simp only [List.length_append, List.length_cons, List.length_nil]; omega))) only [F23, decide_eq_true, decide_eq_false, cond_true, cond_false, Bool.and_self, Bool.true_and, Bool.and_true, Bool.false_and, Bool.and_false, Bool.not_true, Bool.not_false, List.length_append, List.length_cons, List.length_nil, Int.toNat_natCast, ibT, ibF, inT, inF, wrN, gd, dr, Option.bind_some, Sum.elim_inl, Sum.elim_inr, byte_back, of_to, hl', resq, fin, c27, List.nil_append]

/-! ### literal -/
def ltk : List UInt8 → Tk
  | [] => .start
  | c :: r => if c.toNat = 93 then .ok [] 1 else if c.toNat = 91 then .bad 0 4 else if c.toNat = 92 then .bad 0 4 else
      bif blankB c then .bad 0 4 else bif mayB c then (ltk r).push [c] 1 else .bad 0 4
def resl (s : List UInt8) (a bad err : Int) (from_ : Nat) (q : Nat) : Tk → (List UInt8 × Int × Int × Int × Unit) ⊕ (List UInt8 × List UInt8 × Int × Int × Int × Unit)
  | .ok t u => .inr (List.drop from_ (List.take (q + t.length) s), s, ((q + u : Nat) : Int), bad, err, ())
  | .bad off e => .inr ([], s, a, ((q + off : Nat) : Int), e, ())
  | .start => .inl (s, a, bad, err, ())
theorem resl_push (s : List UInt8) (a bad err : Int) (f q : Nat) (l : List UInt8) (n : Nat) (hl : l.length = n) (k : Tk) : resl s a bad err f q (k.push l n) = resl s a bad err f (q + n) k := by
  cases k <;> simp [Tk.push, resl, Nat.add_assoc, hl]
theorem l24 (a : Nat) (bad err : Int) : ∀ (r pre : List UInt8) (q n : Nat), pre.length = q → a + 1 ≤ q → r.length < n → q + r.length ≤ 140737488355320 →
    loopN (F24_l0 C27 C31 C32) n ((q : Int), pre ++ r, (a : Int), bad, err, ()) = some (resl (pre ++ r) a bad err (a + 1) q (ltk r))
  | _, _, _, 0, _, _, hn, _ => by omega
  | [], pre, q, n + 1, hq, ha, hn, hb => by
    refine loopN_inr ?_
    simp (disch := (first | omega | (simp only [List.length_append, List.length_cons, List.length_nil]; omega))) only [F24_l0, decide_eq_true, decide_eq_false, cond_true, cond_false, Bool.and_self, Bool.true_and, Bool.and_true, Bool.false_and, Bool.and_false, Bool.not_true, Bool.not_false, List.length_append, List.length_cons, List.length_nil, Int.toNat_natCast, ibT, ibF, inT, inF, wrN, gd, dr, Option.bind_some, Sum.elim_inl, Sum.elim_inr, byte_back, of_to, List.append_nil, ltk, resl]
  | c :: r, pre, q, n + 1, hq, ha, hn, hb => by
    simp only [List.length_cons] at hn hb
    by_cases e1 : c.toNat = 93
    · refine loopN_inr ?_
      simp (disch := (first | omega | (simp only [List.length_append, List.length_cons, List.length_nil]; omega))) only [F24_l0, decide_eq_true, decide_eq_false, cond_true, cond_false, Bool.and_self, Bool.true_and, Bool.and_true, Bool.false_and, Bool.and_false, Bool.not_true, Bool.not_false, List.length_append, List.length_cons, List.length_nil, Int.toNat_natCast, ibT, ibF, inT, inF, wrN, gd, dr, Option.bind_some, Sum.elim_inl, Sum.elim_inr, byte_back, of_to, ltk, if_pos, resl, Nat.add_zero]
    · by_cases e2 : c.toNat = 91
      · refine loopN_inr ?_
        simp (disch := (first | omega | (simp only [List.length_append, List.length_cons, List.length_nil]; omega))) only [F24_l0, decide_eq_true, decide_eq_false, cond_true, cond_false, Bool.and_self, Bool.true_and, Bool.and_true, Bool.false_and, Bool.and_false, Bool.not_true, Bool.not_false, List.length_append, List.length_cons, List.length_nil, Int.toNat_natCast, ibT, ibF, inT, inF, wrN, gd, dr, Option.bind_some, Sum.elim_inl, Sum.elim_inr, byte_back, of_to, ltk, if_pos, if_neg, resl, Nat.add_zero, c27]
      · by_cases e3 : c.toNat = 92
        · refine loopN_inr ?_
          simp (disch := (first | omega | (simp only [List.length_append, List.length_cons, List.length_nil]; omega))) only [F24_l0, decide_eq_true, decide_eq_false, cond_true, cond_false, Bool.and_self, Bool.true_and, Bool.and_true, Bool.false_and, Bool.and_false, Bool.not_true, Bool.not_false, List.length_append, List.length_cons, List.length_nil, Int.toNat_natCast, ibT, ibF, inT, inF, wrN, gd, dr, Option.bind_some, Sum.elim_inl, Sum.elim_inr, byte_back, of_to, ltk, if_pos, if_neg, resl, Nat.add_zero, c27]
        · cases h1 : blankB c with
          | true =>
            refine loopN_inr ?_
            simp (disch := (first | omega | (simp only [List.length_append, List.length_cons, List.length_nil]; omega))) only [F24_l0, decide_eq_true, decide_eq_false, cond_true, cond_false, Bool.and_self, Bool.true_and, Bool.and_true, Bool.false_and, Bool.and_false, Bool.not_true, Bool.not_false, List.length_append, List.length_cons, List.length_nil, Int.toNat_natCast, ibT, ibF, inT, inF, wrN, gd, dr, Option.bind_some, Sum.elim_inl, Sum.elim_inr, byte_back, of_to, ltk, if_pos, if_neg, resl, Nat.add_zero, c27, c32, h1]
          | false =>
            cases h2 : mayB c with
            | false =>
              refine loopN_inr ?_
              simp (disch := (first | omega | (simp only [List.length_append, List.length_cons, List.length_nil]; omega))) only [F24_l0, decide_eq_true, decide_eq_false, cond_true, cond_false, Bool.and_self, Bool.true_and, Bool.and_true, Bool.false_and, Bool.and_false, Bool.not_true, Bool.not_false, List.length_append, List.length_cons, List.length_nil, Int.toNat_natCast, ibT, ibF, inT, inF, wrN, gd, dr, Option.bind_some, Sum.elim_inl, Sum.elim_inr, byte_back, of_to, ltk, if_pos, if_neg, resl, Nat.add_zero, c27, c32, c31, h1, h2]
            | true =>
              rw [loopN_inl (v' := (((q + 1 : Nat) : Int), pre ++ c :: r, (a : Int), bad, err, ())) (by
                simp (disch := (first | omega | (simp only [List.length_append, List.length_cons, List.length_nil]; omega))) only [F24_l0, decide_eq_true, decide_eq_false, cond_true, cond_false, Bool.and_self, Bool.true_and, Bool.and_true, Bool.false_and, Bool.and_false, Bool.not_true, Bool.not_false, List.length_append, List.length_cons, List.length_nil, Int.toNat_natCast, ibT, ibF, inT, inF, wrN, gd, dr, Option.bind_some, Sum.elim_inl, Sum.elim_inr, byte_back, of_to, c32, c31, h1, h2])]
              have := l24 a bad err r (pre ++ [c]) (q + 1) n (by simp [hq]) (by omega) (by omega) (by omega)
              rw [shift, this, ← resl_push (l := [c]) (n := 1) _ _ _ _ _ _ rfl]
              simp only [ltk, if_neg e1, if_neg e2, if_neg e3, h1, h2, cond_true, cond_false]
theorem ltk_ok : ∀ {r t : List UInt8} {u : Nat}, ltk r = .ok t u → u = t.length + 1 ∧ t.length < r.length ∧ r.take t.length = t
  | [], t, u, h => by simp [ltk] at h
  | c :: r, t, u, h => by
    unfold ltk at h
    split at h
    · cases h; simp
    · split at h
      · cases h
      · split at h
        · cases h
        · cases h1 : blankB c <;> cases h2 : mayB c <;> rw [h1, h2] at h <;> simp only [cond_true, cond_false] at h <;> try (cases h; done)
          cases hr : ltk r with
          | ok t' u' =>
            rw [hr] at h
            cases h
            obtain ⟨i1, i2, i3⟩ := ltk_ok hr
            exact ⟨by simp; omega, by simpa using i2, by simpa using i3⟩
          | bad o e => rw [hr] at h; cases h
          | start => rw [hr] at h; cases h
theorem c24 (pre r : List UInt8) (c : UInt8) (p : Nat) (bad err : Int) (hp : pre.length = p) (hb : p + r.length ≤ 140737488355000) :
    C24 (pre ++ c :: r, (p : Int), bad, err, ()) = some (fin (pre ++ c :: r) p bad err (p + 1) (ltk r)) := by
  show F24 C27 C31 C32 C24_l0 (pre ++ c :: r, (p : Int), bad, err, ()) = _
  have hl := l24 p bad err r (pre ++ [c]) (p + 1) big (by simp [hp]) (by omega) (by unfold big; omega) (by omega)
  rw [← shift] at hl
  have hl' : C24_l0 (((p + 1 : Nat) : Int), pre ++ c :: r, (p : Int), bad, err, ()) = _ := hl
  cases hq : ltk r with
  | ok t u =>
    rw [hq] at hl'
    obtain ⟨i1, i2, i3⟩ := ltk_ok hq
    simp (disch := (first | omega | (simp only [List.length_append, List.length_cons, List.length_nil]; omega))) only [F24, decide_eq_true, decide_eq_false, cond_true, cond_false, Bool.and_self, Bool.true_and, Bool.and_true, Bool.false_and, Bool.and_false, Bool.not_true, Bool.not_false, List.length_append, List.length_cons, List.length_nil, Int.toNat_natCast, ibT, ibF, inT, inF, wrN, gd, dr, Option.bind_some, Sum.elim_inl, Sum.elim_inr, byte_back, of_to, hl', resl, fin]
    rw [shift, text_eq (by simp [hp]), i3]
  | bad o e => rw [hq] at hl'; simp (disch := (first | omega | (simp only [List.length_append, List.length_cons, List.length_nil]; omega))) only [F24, decide_eq_true, decide_eq_false, cond_true, cond_false, Bool.and_self, Bool.true_and, Bool.and_true, Bool.false_and, Bool.and_false, Bool.not_true, Bool.not_false, List.length_append, List.length_cons, List.length_nil, Int.toNat_natCast, ibT, ibF, inT, inF, wrN, gd, dr, Option.bind_some, Sum.elim_inl, Sum.elim_inr, byte_back, of_to, hl', resl, fin]
  | start => rw [hq] at hl'; simp (disch := (first | omega | (simp only [List.length_append, List.length_cons, List.length_nil]; omega))) only [F24, decide_eq_true, decide_eq_false, cond_true, cond_false, Bool.and_self, Bool.true_and, Bool.and_true, Bool.false_and, Bool.and_false, Bool.not_true, Bool.not_false, List.length_append, List.length_cons, List.length_nil, Int.toNat_natCast, ibT, ibF, inT, inF, wrN, gd, dr, Option.bind_some, Sum.elim_inl, Sum.elim_inr, byte_back, of_to, hl', resl, fin, c27]
end Go.Proofs.YtkmojkibclbmjaaDoor.W
