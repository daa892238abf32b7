/- Tokens. -/
import Derived.Test.YtkmojkibclbmjaaDoorPL5
set_option linter.unusedVariables false
set_option linter.unusedSimpArgs false
set_option maxRecDepth 100000
namespace Go.Proofs.YtkmojkibclbmjaaDoor.W
open Go Go.Ae
def Tk.up : Tk → Tk
  | .ok t u => .ok t (1 + u)
  | .bad off e => .bad (1 + off) e
  | .start => .start
def one (c : UInt8) (r : List UInt8) : Int × Tk :=
  if atomB c = true then (0, .ok ((c :: r).take (al (c :: r))) (al (c :: r)))
  else if signB c = true then (2, .ok [c] 1)
  else if c.toNat = 34 then (1, (qt r).up)
  else if c.toNat = 91 then (5, (ltk r).up)
  else if c.toNat = 40 then (3, (nt 1 r).up)
  else if wl (c :: r) = 0 then (4, .start) else (4, .ok ((c :: r).take (wl (c :: r))) (wl (c :: r)))
theorem fin_up (s : List UInt8) (p : Nat) (bad err : Int) (k : Tk) : fin s p bad err (p + 1) k = fin s p bad err p k.up := by
  cases k <;> simp [fin, Tk.up, Nat.add_assoc]
def tkres (s : List UInt8) (p : Nat) (bad err : Int) (x : Int × Tk) : Int × List UInt8 × Int × List UInt8 × Int × Int × Int × Unit :=
  (x.1, (fin s p bad err p x.2).1, (p : Int), (fin s p bad err p x.2).2)
theorem c16 (pre r : List UInt8) (c : UInt8) (p : Nat) (bad err : Int) (hp : pre.length = p) (hb : p + r.length ≤ 140737488354000) :
    C16 (pre ++ c :: r, (p : Int), bad, err, ()) = some (tkres (pre ++ c :: r) p bad err (one c r)) := by
  show F16 C17 C21 C22 C23 C24 C25 C26 C27 (pre ++ c :: r, (p : Int), bad, err, ()) = _
  have h21 := c21 pre (c :: r) p bad err hp (by simp; omega)
  have h26 := c26 pre (c :: r) p bad err hp (by simp; omega)
  have h23 := c23 pre r c p bad err hp (by omega)
  have h24 := c24 pre r c p bad err hp (by omega)
  unfold one
  by_cases h1 : atomB c = true
  · rw [if_pos h1]
    simp (disch := (first | omega | (simp only [List.length_append, List.length_cons, List.length_nil]; omega))) only [F16, decide_eq_true, decide_eq_false, cond_true, cond_false, Bool.and_self, Bool.true_and, Bool.and_true, Bool.false_and, Bool.and_false, Bool.not_true, Bool.not_false, List.length_append, List.length_cons, List.length_nil, Int.toNat_natCast, ibT, ibF, inT, inF, wrN, gd, dr, Option.bind_some, Sum.elim_inl, Sum.elim_inr, byte_back, of_to, c17, h1, h21, tkres, fin]
  · rw [if_neg h1]
    have h1' : atomB c = false := by simpa using h1
    by_cases h2 : signB c = true
    · rw [if_pos h2]
      have h2' : signI c ≥ 0 := by simpa [signB] using h2
      have ht : List.drop p (List.take (p + 1) (pre ++ c :: r)) = [c] := by rw [text_eq hp]; rfl
      simp (disch := (first | omega | (simp only [List.length_append, List.length_cons, List.length_nil]; omega))) only [F16, decide_eq_true, decide_eq_false, cond_true, cond_false, Bool.and_self, Bool.true_and, Bool.and_true, Bool.false_and, Bool.and_false, Bool.not_true, Bool.not_false, List.length_append, List.length_cons, List.length_nil, Int.toNat_natCast, ibT, ibF, inT, inF, wrN, gd, dr, Option.bind_some, Sum.elim_inl, Sum.elim_inr, byte_back, of_to, c17, h1', c22s, ht, tkres, fin]
    · rw [if_neg h2]
      have h2' : ¬ signI c ≥ 0 := by simpa [signB] using h2
      by_cases h3 : c.toNat = 34
      · rw [if_pos h3]
        rw [fin_up] at h23
        simp (disch := (first | omega | (simp only [List.length_append, List.length_cons, List.length_nil]; omega))) only [F16, decide_eq_true, decide_eq_false, cond_true, cond_false, Bool.and_self, Bool.true_and, Bool.and_true, Bool.false_and, Bool.and_false, Bool.not_true, Bool.not_false, List.length_append, List.length_cons, List.length_nil, Int.toNat_natCast, ibT, ibF, inT, inF, wrN, gd, dr, Option.bind_some, Sum.elim_inl, Sum.elim_inr, byte_back, of_to, c17, h1', c22s, h23, tkres]
      · rw [if_neg h3]
        by_cases h4 : c.toNat = 91
        · rw [if_pos h4]
          rw [fin_up] at h24
          simp (disch := (first | omega | (simp only [List.length_append, List.length_cons, List.length_nil]; omega))) only [F16, decide_eq_true, decide_eq_false, cond_true, cond_false, Bool.and_self, Bool.true_and, Bool.and_true, Bool.false_and, Bool.and_false, Bool.not_true, Bool.not_false, List.length_append, List.length_cons, List.length_nil, Int.toNat_natCast, ibT, ibF, inT, inF, wrN, gd, dr, Option.bind_some, Sum.elim_inl, Sum.elim_inr, byte_back, of_to, c17, h1', c22s, h24, tkres]
        · rw [if_neg h4]
          by_cases h5 : c.toNat = 40
          · rw [if_pos h5]
            have h25 := c25 pre r c p bad err h5 hp (by omega)
            rw [fin_up] at h25
            simp (disch := (first | omega | (simp only [List.length_append, List.length_cons, List.length_nil]; omega))) only [F16, decide_eq_true, decide_eq_false, cond_true, cond_false, Bool.and_self, Bool.true_and, Bool.and_true, Bool.false_and, Bool.and_false, Bool.not_true, Bool.not_false, List.length_append, List.length_cons, List.length_nil, Int.toNat_natCast, ibT, ibF, inT, inF, wrN, gd, dr, Option.bind_some, Sum.elim_inl, Sum.elim_inr, byte_back, of_to, c17, h1', c22s, h25, tkres]
          · rw [if_neg h5]
            by_cases h6 : wl (c :: r) = 0
            · rw [if_pos h6]
              rw [h6] at h26
              simp (disch := (first | omega | (simp only [List.length_append, List.length_cons, List.length_nil]; omega))) only [F16, decide_eq_true, decide_eq_false, cond_true, cond_false, Bool.and_self, Bool.true_and, Bool.and_true, Bool.false_and, Bool.and_false, Bool.not_true, Bool.not_false, List.length_append, List.length_cons, List.length_nil, Int.toNat_natCast, ibT, ibF, inT, inF, wrN, gd, dr, Option.bind_some, Sum.elim_inl, Sum.elim_inr, byte_back, of_to, c17, h1', c22s, h26, tkres, fin, List.take_zero, c27, beq_self_eq_true, Nat.add_zero]
            · rw [if_neg h6]
              obtain ⟨w, hw⟩ : ∃ w, wl (c :: r) = w + 1 := ⟨wl (c :: r) - 1, by omega⟩
              have hne : ((c :: r).take (wl (c :: r)) == []) = false := by rw [hw]; rfl
              simp (disch := (first | omega | (simp only [List.length_append, List.length_cons, List.length_nil]; omega))) only [F16, decide_eq_true, decide_eq_false, cond_true, cond_false, Bool.and_self, Bool.true_and, Bool.and_true, Bool.false_and, Bool.and_false, Bool.not_true, Bool.not_false, List.length_append, List.length_cons, List.length_nil, Int.toNat_natCast, ibT, ibF, inT, inF, wrN, gd, dr, Option.bind_some, Sum.elim_inl, Sum.elim_inr, byte_back, of_to, c17, h1', c22s, h26, tkres, fin, hne]
abbrev Tok := Int × (List UInt8 × Int)
/-- A text's tokens, from a place on; or where it is wrong, and how. -/
def lx : Nat → List UInt8 → Nat → List Tok ⊕ (Nat × Int)
  | 0, _, _ => .inl []
  | n + 1, s, p => match s with
    | [] => .inl []
    | c :: r => match one c r with
      | (k, .ok t u) => match lx n ((c :: r).drop u) (p + u) with
        | .inl l => .inl ((k, t, (p : Int)) :: l)
        | .inr e => .inr e
      | (_, .bad off e) => .inr (p + off, e)
      | (_, .start) => .inr (p, 4)
theorem qt_used : ∀ (m : Nat) {r t : List UInt8} {u : Nat}, r.length ≤ m → qt r = .ok t u → t.length + 1 ≤ u ∧ u ≤ r.length
  | _, [], t, u, _, h => by simp [qt] at h
  | 0, c :: r, t, u, hm, h => by simp at hm
  | m + 1, c :: r, t, u, hm, h => by
    simp only [List.length_cons] at hm ⊢
    by_cases e1 : c.toNat = 34
    · rw [qt_q e1] at h; cases h; simp
    · by_cases e2 : c.toNat = 92
      · match r, hm, h with
        | [], hm, h => rw [qt_b0 e2] at h; cases h
        | d :: r', hm, h =>
          rw [qt_b1 e2] at h
          cases hd : mayB d <;> rw [hd] at h
          · cases h
          · obtain ⟨t', u', h1, rfl, rfl⟩ := push_ok h
            have := qt_used m (by simp at hm; omega) h1
            simp; omega
      · rw [qt_c e1 e2] at h
        cases hd : mayB c <;> rw [hd] at h
        · cases h
        · obtain ⟨t', u', h1, rfl, rfl⟩ := push_ok h
          have := qt_used m (by omega) h1
          simp; omega
theorem up_ok {k : Tk} {t : List UInt8} {u : Nat} (h : k.up = .ok t u) : ∃ u', k = .ok t u' ∧ u = 1 + u' := by
  cases k <;> simp [Tk.up] at h
  obtain ⟨rfl, rfl⟩ := h
  exact ⟨_, rfl, rfl⟩
theorem al_pos {c : UInt8} {r : List UInt8} (h : atomB c = true) : 1 ≤ al (c :: r) := by simp [al, h]
theorem one_used {c : UInt8} {r t : List UInt8} {k : Int} {u : Nat} (h : one c r = (k, .ok t u)) : 1 ≤ u ∧ u ≤ r.length + 1 := by
  unfold one at h
  split at h
  · rename_i h1
    cases h
    have := al_le (c :: r)
    exact ⟨al_pos h1, by simpa using this⟩
  · split at h
    · cases h; exact ⟨by omega, by omega⟩
    · split at h
      · obtain ⟨u', h1, rfl⟩ := up_ok (Prod.mk.inj h).2
        have := qt_used _ (Nat.le_refl _) h1
        omega
      · split at h
        · obtain ⟨u', h1, rfl⟩ := up_ok (Prod.mk.inj h).2
          have := ltk_ok h1
          omega
        · split at h
          · obtain ⟨u', h1, rfl⟩ := up_ok (Prod.mk.inj h).2
            have := nt_ok _ (Nat.le_refl _) h1
            omega
          · split at h
            · cases h
            · rename_i h6
              cases h
              have := wl_le (c :: r)
              exact ⟨by omega, by simpa using this⟩
def r11 (out : List Tok) : List Tok ⊕ (Nat × Int) → (List Tok × Unit) ⊕ (Int × Int × Unit)
  | .inl l => .inl (out ++ l, ())
  | .inr (b, e) => .inr ((b : Int), e, ())
def Tk.eok : Tk → Prop
  | .bad _ e => e = 4 ∨ e = 6
  | _ => True
theorem push_eok {k : Tk} {l : List UInt8} {n : Nat} (h : k.eok) : (k.push l n).eok := by cases k <;> first | exact h | exact trivial
theorem up_eok {k : Tk} (h : k.eok) : k.up.eok := by cases k <;> first | exact h | exact trivial
theorem qt_e : ∀ (m : Nat) (r : List UInt8), r.length ≤ m → (qt r).eok
  | _, [], _ => trivial
  | 0, c :: r, hm => by simp at hm
  | m + 1, c :: r, hm => by
    simp only [List.length_cons] at hm
    by_cases e1 : c.toNat = 34
    · rw [qt_q e1]; trivial
    · by_cases e2 : c.toNat = 92
      · match r, hm with
        | [], hm => rw [qt_b0 e2]; trivial
        | d :: r', hm =>
          rw [qt_b1 e2]
          cases mayB d
          · exact .inl rfl
          · exact push_eok (qt_e m r' (by simp at hm; omega))
      · rw [qt_c e1 e2]
        cases mayB c
        · exact .inl rfl
        · exact push_eok (qt_e m r (by omega))
theorem ltk_e : ∀ r : List UInt8, (ltk r).eok
  | [] => trivial
  | c :: r => by
    unfold ltk
    split
    · trivial
    · split
      · exact .inl rfl
      · split
        · exact .inl rfl
        · cases blankB c
          · cases mayB c
            · exact .inl rfl
            · exact push_eok (ltk_e r)
          · exact .inl rfl
theorem nt_e : ∀ (m deep : Nat) (r : List UInt8), r.length ≤ m → (nt deep r).eok
  | _, _, [], _ => by simp [nt, Tk.eok]
  | 0, _, c :: r, hm => by simp at hm
  | m + 1, deep, c :: r, hm => by
    simp only [List.length_cons] at hm
    by_cases e1 : c.toNat = 40
    · rw [nt_o e1]
      split
      · exact .inr rfl
      · exact push_eok (nt_e m _ r (by omega))
    · by_cases e2 : c.toNat = 41
      · rw [nt_c e2]
        split
        · trivial
        · exact push_eok (nt_e m _ r (by omega))
      · by_cases e3 : c.toNat = 92
        · match r, hm with
          | [], hm => rw [nt_b0 e3]; trivial
          | d :: r', hm =>
            rw [nt_b1 e3]
            cases mayB d
            · exact .inl rfl
            · exact push_eok (nt_e m _ r' (by simp at hm; omega))
        · rw [nt_m e1 e2 e3]
          cases mayB c
          · exact .inl rfl
          · exact push_eok (nt_e m _ r (by omega))
theorem one_e (c : UInt8) (r : List UInt8) : (one c r).2.eok := by
  unfold one
  split
  · trivial
  · split
    · trivial
    · split
      · exact up_eok (qt_e _ r (Nat.le_refl _))
      · split
        · exact up_eok (ltk_e r)
        · split
          · exact up_eok (nt_e _ _ r (Nat.le_refl _))
          · split <;> trivial
theorem l11 (s : List UInt8) : ∀ (m : Nat) (r pre : List UInt8) (out : List Tok) (bad : Int) (p n : Nat), r.length ≤ m → s = pre ++ r → pre.length = p → r.length < n → p + r.length ≤ 100000 → out.length + r.length ≤ 100000 →
    loopN (F11_l0 C16) n (s, out, s, (p : Int), bad, 0, ()) = some (r11 out (lx m r p))
  | _, _, _, _, _, _, 0, _, _, _, hn, _, _ => by omega
  | 0, [], pre, out, bad, p, n + 1, hm, hs, hp, hn, hb, ho => by
    refine loopN_inr ?_
    have : s.length = p := by rw [hs]; simp [hp]
    simp (disch := (first | omega | (simp only [List.length_append, List.length_cons, List.length_nil]; omega))) only [F11_l0, this, decide_eq_true, decide_eq_false, cond_true, cond_false, Bool.and_self, Bool.true_and, Bool.and_true, Bool.false_and, Bool.and_false, Bool.not_true, Bool.not_false, List.length_append, List.length_cons, List.length_nil, Int.toNat_natCast, ibT, ibF, inT, inF, wrN, gd, dr, Option.bind_some, Sum.elim_inl, Sum.elim_inr, byte_back, of_to, lx, r11, List.append_nil]
  | m + 1, [], pre, out, bad, p, n + 1, hm, hs, hp, hn, hb, ho => by
    refine loopN_inr ?_
    have : s.length = p := by rw [hs]; simp [hp]
    simp (disch := (first | omega | (simp only [List.length_append, List.length_cons, List.length_nil]; omega))) only [F11_l0, this, decide_eq_true, decide_eq_false, cond_true, cond_false, Bool.and_self, Bool.true_and, Bool.and_true, Bool.false_and, Bool.and_false, Bool.not_true, Bool.not_false, List.length_append, List.length_cons, List.length_nil, Int.toNat_natCast, ibT, ibF, inT, inF, wrN, gd, dr, Option.bind_some, Sum.elim_inl, Sum.elim_inr, byte_back, of_to, lx, r11, List.append_nil]
  | 0, c :: r, pre, out, bad, p, n + 1, hm, hs, hp, hn, hb, ho => by simp at hm
  | m + 1, c :: r, pre, out, bad, p, n + 1, hm, hs, hp, hn, hb, ho => by
    simp only [List.length_cons] at hm hn hb ho
    have h16 := c16 pre r c p bad 0 hp (by omega)
    have he := one_e c r
    rw [← hs] at h16
    have hl : s.length = p + (r.length + 1) := by rw [hs]; simp [hp]
    cases h1 : one c r with
    | mk k tk =>
      rw [h1] at h16 he
      cases tk with
      | ok t u =>
        have hu := one_used h1
        rw [loopN_inl (v' := (s, out ++ [(k, t, (p : Int))], s, ((p + u : Nat) : Int), bad, 0, ())) (by
          simp (disch := (first | omega | (simp only [List.length_append, List.length_cons, List.length_nil]; omega))) only [F11_l0, hl, decide_eq_true, decide_eq_false, cond_true, cond_false, Bool.and_self, Bool.true_and, Bool.and_true, Bool.false_and, Bool.and_false, Bool.not_true, Bool.not_false, List.length_append, List.length_cons, List.length_nil, Int.toNat_natCast, ibT, ibF, inT, inF, wrN, gd, dr, Option.bind_some, Sum.elim_inl, Sum.elim_inr, byte_back, of_to, h16, tkres, fin])]
        have := l11 s m ((c :: r).drop u) (pre ++ (c :: r).take u) (out ++ [(k, t, (p : Int))]) bad (p + u) n (by simp; omega) (by rw [hs, List.append_assoc, List.take_append_drop]) (by simp [hp]; omega) (by simp; omega) (by simp; omega) (by simp; omega)
        rw [this]
        simp only [lx, h1]
        cases lx m ((c :: r).drop u) (p + u) with
        | inl l => simp [r11]
        | inr e => rfl
      | bad off e =>
        have he' : e = 4 ∨ e = 6 := he
        refine loopN_inr ?_
        simp (disch := (first | omega | (simp only [List.length_append, List.length_cons, List.length_nil]; omega))) only [F11_l0, hl, decide_eq_true, decide_eq_false, cond_true, cond_false, Bool.and_self, Bool.true_and, Bool.and_true, Bool.false_and, Bool.and_false, Bool.not_true, Bool.not_false, List.length_append, List.length_cons, List.length_nil, Int.toNat_natCast, ibT, ibF, inT, inF, wrN, gd, dr, Option.bind_some, Sum.elim_inl, Sum.elim_inr, byte_back, of_to, h16, tkres, fin, lx, h1, r11]
      | start =>
        refine loopN_inr ?_
        simp (disch := (first | omega | (simp only [List.length_append, List.length_cons, List.length_nil]; omega))) only [F11_l0, hl, decide_eq_true, decide_eq_false, cond_true, cond_false, Bool.and_self, Bool.true_and, Bool.and_true, Bool.false_and, Bool.and_false, Bool.not_true, Bool.not_false, List.length_append, List.length_cons, List.length_nil, Int.toNat_natCast, ibT, ibF, inT, inF, wrN, gd, dr, Option.bind_some, Sum.elim_inl, Sum.elim_inr, byte_back, of_to, h16, tkres, fin, lx, h1, r11]
theorem lx_fuel : ∀ (n m : Nat) (s : List UInt8) (p : Nat), s.length ≤ n → s.length ≤ m → lx n s p = lx m s p
  | 0, 0, _, _, _, _ => rfl
  | 0, m + 1, [], p, _, _ => rfl
  | n + 1, 0, [], p, _, _ => rfl
  | n + 1, m + 1, [], p, _, _ => rfl
  | 0, _, c :: r, p, h, _ => by simp at h
  | n + 1, 0, c :: r, p, _, h => by simp at h
  | n + 1, m + 1, c :: r, p, h, h' => by
    simp only [List.length_cons] at h h'
    simp only [lx]
    cases h1 : one c r with
    | mk k tk =>
      cases tk with
      | ok t u =>
        have hu := one_used h1
        simp only
        rw [lx_fuel n m ((c :: r).drop u) (p + u) (by simp; omega) (by simp; omega)]
      | bad off e => rfl
      | start => rfl
def lexs (s : List UInt8) (p : Nat) : List Tok ⊕ (Nat × Int) := lx s.length s p
theorem lexs_nil (p : Nat) : lexs [] p = .inl [] := rfl
theorem lexs_cons (c : UInt8) (r : List UInt8) (p : Nat) : lexs (c :: r) p = match one c r with
      | (k, .ok t u) => (match lexs ((c :: r).drop u) (p + u) with
        | .inl l => .inl ((k, t, (p : Int)) :: l)
        | .inr e => .inr e)
      | (_, .bad off e) => .inr (p + off, e)
      | (_, .start) => .inr (p, 4) := by
  unfold lexs
  simp only [List.length_cons, lx]
  cases h1 : one c r with
  | mk k tk =>
    cases tk with
    | ok t u =>
      have hu := one_used h1
      simp only
      rw [lx_fuel r.length ((c :: r).drop u).length ((c :: r).drop u) (p + u) (by simp; omega) (Nat.le_refl _)]
    | bad off e => rfl
    | start => rfl
def cons1 (x : Tok) : List Tok ⊕ (Nat × Int) → List Tok ⊕ (Nat × Int)
  | .inl l => .inl (x :: l)
  | .inr e => .inr e
theorem lexs_ok {c : UInt8} {r t : List UInt8} {k : Int} {u : Nat} (h : one c r = (k, .ok t u)) (p : Nat) : lexs (c :: r) p = cons1 (k, t, (p : Int)) (lexs ((c :: r).drop u) (p + u)) := by
  rw [lexs_cons, h]; rfl
theorem lexs_bad {c : UInt8} {r : List UInt8} {k e : Int} {off : Nat} (h : one c r = (k, .bad off e)) (p : Nat) : lexs (c :: r) p = .inr (p + off, e) := by
  rw [lexs_cons, h]
theorem lexs_start {c : UInt8} {r : List UInt8} {k : Int} (h : one c r = (k, .start)) (p : Nat) : lexs (c :: r) p = .inr (p, 4) := by
  rw [lexs_cons, h]
def end1 : List Tok ⊕ (Nat × Int) → List Tok × Int × Int
  | .inl l => (l, 0, 0)
  | .inr x => ([], (x.1 : Int), x.2)
def end2 : Option Nat → List Tok ⊕ (Nat × Int) → List Tok × Int × Int
  | some b, _ => ([], (b : Int), 7)
  | none, x => end1 x
/-- Lex. -/
def lexR (s : List UInt8) : List Tok × Int × Int := if 2000 < s.length then ([], 0, 5) else end2 (utf s) (lexs s 0)
theorem c11 (s : List UInt8) : C11 (s, ()) = some ((lexR s).1, (lexR s).2.1, (lexR s).2.2, ()) := by
  show F11 C15 C16 C11_l0 (s, ()) = _
  unfold lexR
  by_cases h : 2000 < s.length
  · simp only [if_pos h]
    simp (disch := (first | omega | (simp only [List.length_append, List.length_cons, List.length_nil]; omega))) only [F11, decide_eq_true, decide_eq_false, cond_true, cond_false, Bool.and_self, Bool.true_and, Bool.and_true, Bool.false_and, Bool.and_false, Bool.not_true, Bool.not_false, List.length_append, List.length_cons, List.length_nil, Int.toNat_natCast, ibT, ibF, inT, inF, wrN, gd, dr, Option.bind_some, Sum.elim_inl, Sum.elim_inr, byte_back, of_to]
  · simp only [if_neg h]
    obtain ⟨o, h15⟩ := c15 s (by omega)
    cases hu : utf s with
    | some b =>
      rw [hu] at h15
      simp only at h15
      simp (disch := (first | omega | (simp only [List.length_append, List.length_cons, List.length_nil]; omega))) only [F11, decide_eq_true, decide_eq_false, cond_true, cond_false, Bool.and_self, Bool.true_and, Bool.and_true, Bool.false_and, Bool.and_false, Bool.not_true, Bool.not_false, List.length_append, List.length_cons, List.length_nil, Int.toNat_natCast, ibT, ibF, inT, inF, wrN, gd, dr, Option.bind_some, Sum.elim_inl, Sum.elim_inr, byte_back, of_to, h15, end2]
    | none =>
      rw [hu] at h15
      have hl := l11 s s.length s [] [] 0 0 big (Nat.le_refl _) (by simp) rfl (by unfold big; omega) (by omega) (by simp; omega)
      have hl' : C11_l0 (s, [], s, 0, 0, 0, ()) = some (r11 [] (lexs s 0)) := hl
      simp (disch := (first | omega | (simp only [List.length_append, List.length_cons, List.length_nil]; omega))) only [F11, decide_eq_true, decide_eq_false, cond_true, cond_false, Bool.and_self, Bool.true_and, Bool.and_true, Bool.false_and, Bool.and_false, Bool.not_true, Bool.not_false, List.length_append, List.length_cons, List.length_nil, Int.toNat_natCast, ibT, ibF, inT, inF, wrN, gd, dr, Option.bind_some, Sum.elim_inl, Sum.elim_inr, byte_back, of_to, h15, hl']
      cases lexs s 0 with
      | inl l => simp [r11, end2, end1]
      | inr x => obtain ⟨b, e⟩ := x; simp [r11, end2, end1]
end Go.Proofs.YtkmojkibclbmjaaDoor.W
