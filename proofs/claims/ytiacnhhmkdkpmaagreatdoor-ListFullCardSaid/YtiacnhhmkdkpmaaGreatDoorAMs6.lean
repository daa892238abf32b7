/- The texts of the proof, one behind the other: PL4, PL5, PL6, PL7, PQ, PL8, PL9, PM1, PM2, PM3, PListFull, PGlob. -/
import Derived.Test.YtiacnhhmkdkpmaaGreatDoorAMs5
import Derived.Test.YtiacnhhmkdkpmaaGreatDoorRows
import Derived.Test.YtiacnhhmkdkpmaaGreatDoorProg
import Derived.Test.YtiacnhhmkdkpmaaGreatDoorAMs2
import Derived.MakeChecks
set_option linter.unusedVariables false
set_option linter.unusedSimpArgs false
namespace Go.Proofs.YtiacnhhmkdkpmaaGreatDoorA.W
open Go Go.Ae
def nt : Nat → List UInt8 → Tk
  | _, [] => .start
  | deep, c :: r => if c.toNat = 40 then (if deep + 1 > 32 then .bad 0 6 else (nt (deep + 1) r).push [c] 1)
    else if c.toNat = 41 then (if deep = 1 then .ok [] 1 else (nt (deep - 1) r).push [c] 1)
    else if c.toNat = 92 then
      match r with
      | [] => .start
      | d :: r' => bif mayB d then (nt deep r').push [c, d] 2 else .bad 1 4
    else bif mayB c then (nt deep r).push [c] 1 else .bad 0 4
theorem nt_o {deep : Nat} {c : UInt8} {r : List UInt8} (h : c.toNat = 40) : nt deep (c :: r) = if deep + 1 > 32 then .bad 0 6 else (nt (deep + 1) r).push [c] 1 := by cases r <;> simp [nt, h]
theorem nt_c {deep : Nat} {c : UInt8} {r : List UInt8} (h : c.toNat = 41) : nt deep (c :: r) = if deep = 1 then .ok [] 1 else (nt (deep - 1) r).push [c] 1 := by cases r <;> simp [nt, h]
theorem nt_b0 {deep : Nat} {c : UInt8} (h : c.toNat = 92) : nt deep [c] = .start := by simp [nt, h]
theorem nt_b1 {deep : Nat} {c d : UInt8} {r : List UInt8} (h : c.toNat = 92) : nt deep (c :: d :: r) = bif mayB d then (nt deep r).push [c, d] 2 else .bad 1 4 := by simp [nt, h]
theorem nt_m {deep : Nat} {c : UInt8} {r : List UInt8} (h1 : ¬ c.toNat = 40) (h2 : ¬ c.toNat = 41) (h3 : ¬ c.toNat = 92) : nt deep (c :: r) = bif mayB c then (nt deep r).push [c] 1 else .bad 0 4 := by cases r <;> simp [nt, h1, h2, h3]
theorem wrM (n : Nat) (h : n ≤ 9223372036854775806) (h1 : 1 ≤ n) : IntKind.i64.wrap ((n : Int) - 1) = ((n - 1 : Nat) : Int) := by rw [wr] <;> omega
def resn (s : List UInt8) (f : Nat) (a bad err : Int) (q : Nat) : Tk → ((Int × Int × List UInt8 × Int × Int × Int × Unit) ⊕ (Int × Int × List UInt8 × Int × Int × Int × Unit) ⊕ (List UInt8 × List UInt8 × Int × Int × Int × Unit))
  | .ok t u => .inr (.inr (List.drop (f + 1) (List.take (q + t.length) s), s, ((q + u : Nat) : Int), bad, err, ()))
  | .bad off e => .inr (.inl (e, ((q + off : Nat) : Int), s, a, bad, err, ()))
  | .start => .inl ((f : Int), 4, s, a, bad, err, ())
theorem resn_push (s : List UInt8) (f : Nat) (a bad err : Int) (q : Nat) (l : List UInt8) (n : Nat) (hl : l.length = n) (k : Tk) : resn s f a bad err q (k.push l n) = resn s f a bad err (q + n) k := by
  cases k <;> simp [Tk.push, resn, Nat.add_assoc, hl]
theorem l25 (f : Nat) (a bad err : Int) : ∀ (m : Nat) (r pre : List UInt8) (deep q n : Nat), r.length ≤ m → 1 ≤ deep → deep ≤ 32 → pre.length = q → f + 1 ≤ q → r.length < n → q + r.length ≤ 140737488355320 →
    loopN (F139_l0 C141 C173) n ((f : Int), (deep : Int), 4, (q : Int), pre ++ r, a, bad, err, ()) = some (resn (pre ++ r) f a bad err q (nt deep r))
  | _, _, _, _, _, 0, _, _, _, _, _, hn, _ => by omega
  | m, [], pre, deep, q, n + 1, hm, hd, hd2, hq, hf, hn, hb => by
    refine loopN_inr ?_
    simp (disch := (first | omega | (simp only [List.length_append, List.length_cons, List.length_nil]; omega))) only [F139_l0, decide_eq_true, decide_eq_false, cond_true, cond_false, Bool.and_self, Bool.true_and, Bool.and_true, Bool.false_and, Bool.and_false, Bool.not_true, Bool.not_false, List.length_append, List.length_cons, List.length_nil, Int.toNat_natCast, ibT, ibF, inT, inF, wrN, gd, dr, Option.bind_some, Sum.elim_inl, Sum.elim_inr, byte_back, of_to, List.append_nil, nt, resn]
  | 0, c :: r, pre, deep, q, n + 1, hm, hd, hd2, hq, hf, hn, hb => by simp at hm
  | m + 1, c :: r, pre, deep, q, n + 1, hm, hd, hd2, hq, hf, hn, hb => by
    simp only [List.length_cons] at hn hb hm
    have next : ∀ (d' : Nat), 1 ≤ d' → d' ≤ 32 → F139_l0 C141 C173 ((f : Int), (deep : Int), 4, (q : Int), pre ++ c :: r, a, bad, err, ()) = some (.inl ((f : Int), (d' : Int), 4, ((q + 1 : Nat) : Int), pre ++ c :: r, a, bad, err, ())) →
        loopN (F139_l0 C141 C173) (n + 1) ((f : Int), (deep : Int), 4, (q : Int), pre ++ c :: r, a, bad, err, ()) = some (resn (pre ++ c :: r) f a bad err q ((nt d' r).push [c] 1)) := by
      intro d' h1 h2 h3
      rw [loopN_inl h3, resn_push (l := [c]) (n := 1) _ _ _ _ _ _ rfl]
      have := l25 f a bad err m r (pre ++ [c]) d' (q + 1) n (by omega) h1 h2 (by simp [hq]) (by omega) (by omega) (by omega)
      rw [shift, this]
    by_cases e1 : c.toNat = 40
    · rw [nt_o e1]
      by_cases hdd : deep + 1 > 32
      · rw [if_pos hdd]
        refine loopN_inr ?_
        simp (disch := (first | omega | (simp only [List.length_append, List.length_cons, List.length_nil]; omega))) only [F139_l0, decide_eq_true, decide_eq_false, cond_true, cond_false, Bool.and_self, Bool.true_and, Bool.and_true, Bool.false_and, Bool.and_false, Bool.not_true, Bool.not_false, List.length_append, List.length_cons, List.length_nil, Int.toNat_natCast, ibT, ibF, inT, inF, wrN, gd, dr, Option.bind_some, Sum.elim_inl, Sum.elim_inr, byte_back, of_to, resn, Nat.add_zero]
      · rw [if_neg hdd]
        refine next (deep + 1) (by omega) (by omega) ?_
        simp (disch := (first | omega | (simp only [List.length_append, List.length_cons, List.length_nil]; omega))) only [F139_l0, decide_eq_true, decide_eq_false, cond_true, cond_false, Bool.and_self, Bool.true_and, Bool.and_true, Bool.false_and, Bool.and_false, Bool.not_true, Bool.not_false, List.length_append, List.length_cons, List.length_nil, Int.toNat_natCast, ibT, ibF, inT, inF, wrN, gd, dr, Option.bind_some, Sum.elim_inl, Sum.elim_inr, byte_back, of_to]
    · by_cases e2 : c.toNat = 41
      · rw [nt_c e2]
        by_cases hd1 : deep = 1
        · rw [if_pos hd1]
          refine loopN_inr ?_
          subst hd1
          simp (disch := (first | omega | (simp only [List.length_append, List.length_cons, List.length_nil]; omega))) only [F139_l0, decide_eq_true, decide_eq_false, cond_true, cond_false, Bool.and_self, Bool.true_and, Bool.and_true, Bool.false_and, Bool.and_false, Bool.not_true, Bool.not_false, List.length_append, List.length_cons, List.length_nil, Int.toNat_natCast, ibT, ibF, inT, inF, wrN, gd, dr, Option.bind_some, Sum.elim_inl, Sum.elim_inr, byte_back, of_to, resn, Nat.add_zero, wrM]
        · rw [if_neg hd1]
          refine next (deep - 1) (by omega) (by omega) ?_
          simp (disch := (first | omega | (simp only [List.length_append, List.length_cons, List.length_nil]; omega))) only [F139_l0, decide_eq_true, decide_eq_false, cond_true, cond_false, Bool.and_self, Bool.true_and, Bool.and_true, Bool.false_and, Bool.and_false, Bool.not_true, Bool.not_false, List.length_append, List.length_cons, List.length_nil, Int.toNat_natCast, ibT, ibF, inT, inF, wrN, gd, dr, Option.bind_some, Sum.elim_inl, Sum.elim_inr, byte_back, of_to, wrM]
      · by_cases e3 : c.toNat = 92
        · match r, hm, hn, hb with
          | [], hm, hn, hb =>
            rw [nt_b0 e3]
            simp only [List.length_nil] at hn hb hm
            rw [loopN_inl (v' := ((f : Int), (deep : Int), 4, ((q + 2 : Nat) : Int), pre ++ [c], a, bad, err, ())) (by
              simp (disch := (first | omega | (simp only [List.length_append, List.length_cons, List.length_nil]; omega))) only [F139_l0, decide_eq_true, decide_eq_false, cond_true, cond_false, Bool.and_self, Bool.true_and, Bool.and_true, Bool.false_and, Bool.and_false, Bool.not_true, Bool.not_false, List.length_append, List.length_cons, List.length_nil, Int.toNat_natCast, ibT, ibF, inT, inF, wrN, gd, dr, Option.bind_some, Sum.elim_inl, Sum.elim_inr, byte_back, of_to])]
            obtain ⟨n', rfl⟩ : ∃ n', n = n' + 1 := ⟨n - 1, by omega⟩
            refine loopN_inr ?_
            simp (disch := (first | omega | (simp only [List.length_append, List.length_cons, List.length_nil]; omega))) only [F139_l0, decide_eq_true, decide_eq_false, cond_true, cond_false, Bool.and_self, Bool.true_and, Bool.and_true, Bool.false_and, Bool.and_false, Bool.not_true, Bool.not_false, List.length_append, List.length_cons, List.length_nil, Int.toNat_natCast, ibT, ibF, inT, inF, wrN, gd, dr, Option.bind_some, Sum.elim_inl, Sum.elim_inr, byte_back, of_to, resn]
          | d :: r', hm, hn, hb =>
            simp only [List.length_cons] at hn hb hm
            rw [nt_b1 e3]
            have hg : (pre ++ c :: d :: r').getD (q + 1) 0 = d := by rw [shift]; exact gd (by simp [hq])
            cases h : mayB d with
            | true =>
              rw [loopN_inl (v' := ((f : Int), (deep : Int), 4, ((q + 2 : Nat) : Int), pre ++ c :: d :: r', a, bad, err, ())) (by
                simp (disch := (first | omega | (simp only [List.length_append, List.length_cons, List.length_nil]; omega))) only [F139_l0, decide_eq_true, decide_eq_false, cond_true, cond_false, Bool.and_self, Bool.true_and, Bool.and_true, Bool.false_and, Bool.and_false, Bool.not_true, Bool.not_false, List.length_append, List.length_cons, List.length_nil, Int.toNat_natCast, ibT, ibF, inT, inF, wrN, gd, dr, Option.bind_some, Sum.elim_inl, Sum.elim_inr, byte_back, of_to, hg, c31, h])]
              have := l25 f a bad err m r' (pre ++ [c, d]) deep (q + 2) n (by omega) hd hd2 (by simp [hq]) (by omega) (by omega) (by omega)
              rw [show pre ++ c :: d :: r' = (pre ++ [c, d]) ++ r' by simp, this, cond_true, resn_push (l := [c, d]) (n := 2) _ _ _ _ _ _ rfl]
            | false =>
              refine loopN_inr ?_
              simp (disch := (first | omega | (simp only [List.length_append, List.length_cons, List.length_nil]; omega))) only [F139_l0, decide_eq_true, decide_eq_false, cond_true, cond_false, Bool.and_self, Bool.true_and, Bool.and_true, Bool.false_and, Bool.and_false, Bool.not_true, Bool.not_false, List.length_append, List.length_cons, List.length_nil, Int.toNat_natCast, ibT, ibF, inT, inF, wrN, gd, dr, Option.bind_some, Sum.elim_inl, Sum.elim_inr, byte_back, of_to, hg, c31, h, resn]
        · rw [nt_m e1 e2 e3]
          cases h : mayB c with
          | true =>
            refine next deep hd hd2 ?_
            simp (disch := (first | omega | (simp only [List.length_append, List.length_cons, List.length_nil]; omega))) only [F139_l0, decide_eq_true, decide_eq_false, cond_true, cond_false, Bool.and_self, Bool.true_and, Bool.and_true, Bool.false_and, Bool.and_false, Bool.not_true, Bool.not_false, List.length_append, List.length_cons, List.length_nil, Int.toNat_natCast, ibT, ibF, inT, inF, wrN, gd, dr, Option.bind_some, Sum.elim_inl, Sum.elim_inr, byte_back, of_to, c31, h]
          | false =>
            refine loopN_inr ?_
            simp (disch := (first | omega | (simp only [List.length_append, List.length_cons, List.length_nil]; omega))) only [F139_l0, decide_eq_true, decide_eq_false, cond_true, cond_false, Bool.and_self, Bool.true_and, Bool.and_true, Bool.false_and, Bool.and_false, Bool.not_true, Bool.not_false, List.length_append, List.length_cons, List.length_nil, Int.toNat_natCast, ibT, ibF, inT, inF, wrN, gd, dr, Option.bind_some, Sum.elim_inl, Sum.elim_inr, byte_back, of_to, c31, h, resn, Nat.add_zero]
theorem push_ok {k : Tk} {l t : List UInt8} {n u : Nat} (h : k.push l n = .ok t u) : ∃ t' u', k = .ok t' u' ∧ t = l ++ t' ∧ u = n + u' := by
  cases k <;> simp [Tk.push] at h
  exact ⟨_, _, rfl, h.1.symm, h.2.symm⟩
theorem nt_ok : ∀ (m : Nat) {r t : List UInt8} {u deep : Nat}, r.length ≤ m → nt deep r = .ok t u → u = t.length + 1 ∧ t.length < r.length ∧ r.take t.length = t
  | _, [], t, u, deep, _, h => by simp [nt] at h
  | 0, c :: r, t, u, deep, hm, h => by simp at hm
  | m + 1, c :: r, t, u, deep, hm, h => by
    simp only [List.length_cons] at hm
    have one : ∀ (d' : Nat), (nt d' r).push [c] 1 = .ok t u → u = t.length + 1 ∧ t.length < (c :: r).length ∧ (c :: r).take t.length = t := by
      intro d' h
      obtain ⟨t', u', h1, rfl, rfl⟩ := push_ok h
      obtain ⟨i1, i2, i3⟩ := nt_ok m (by omega) h1
      exact ⟨by simp; omega, by simpa using i2, by simpa using i3⟩
    by_cases e1 : c.toNat = 40
    · rw [nt_o e1] at h
      split at h
      · cases h
      · exact one _ h
    · by_cases e2 : c.toNat = 41
      · rw [nt_c e2] at h
        split at h
        · cases h; simp
        · exact one _ h
      · by_cases e3 : c.toNat = 92
        · match r, hm, h with
          | [], hm, h => rw [nt_b0 e3] at h; cases h
          | d :: r', hm, h =>
            simp only [List.length_cons] at hm
            rw [nt_b1 e3] at h
            cases hd : mayB d <;> rw [hd] at h
            · cases h
            · obtain ⟨t', u', h1, rfl, rfl⟩ := push_ok h
              obtain ⟨i1, i2, i3⟩ := nt_ok m (by omega) h1
              exact ⟨by simp; omega, by simpa using i2, by simpa using i3⟩
        · rw [nt_m e1 e2 e3] at h
          cases hd : mayB c <;> rw [hd] at h
          · cases h
          · exact one _ h
theorem c25g (k e : Int) (s : List UInt8) (a bad err : Int) : C139_g0 (e, k, s, a, bad, err, ()) = some ([], s, a, k, e, ()) := by
  show loopN _ big _ = _
  rw [show big = 999999999999999999999 + 1 from rfl]
  exact loopN_inr rfl
theorem c25 (pre r : List UInt8) (c : UInt8) (p : Nat) (bad err : Int) (hc : c.toNat = 40) (hp : pre.length = p) (hb : p + r.length ≤ 140737488355000) :
    C139 (pre ++ c :: r, (p : Int), bad, err, ()) = some (fin (pre ++ c :: r) p bad err (p + 1) (nt 1 r)) := by
  show F139 C141 C173 C139_g0 C139_l0 (pre ++ c :: r, (p : Int), bad, err, ()) = _
  have hl := l25 p p bad err r.length r (pre ++ [c]) 1 (p + 1) 999999999999999999999 (Nat.le_refl _) (by omega) (by omega) (by simp [hp]) (by omega) (by omega) (by omega)
  rw [← shift] at hl
  have h0 : C139_l0 ((p : Int), 0, 4, (p : Int), pre ++ c :: r, (p : Int), bad, err, ()) = some (resn (pre ++ c :: r) p p bad err (p + 1) (nt 1 r)) := by
    rw [← hl]
    show loopN _ (999999999999999999999 + 1) _ = _
    refine loopN_inl ?_
    simp (disch := (first | omega | (simp only [List.length_append, List.length_cons, List.length_nil]; omega))) only [F139_l0, decide_eq_true, decide_eq_false, cond_true, cond_false, Bool.and_self, Bool.true_and, Bool.and_true, Bool.false_and, Bool.and_false, Bool.not_true, Bool.not_false, List.length_append, List.length_cons, List.length_nil, Int.toNat_natCast, ibT, ibF, inT, inF, wrN, gd, dr, Option.bind_some, Sum.elim_inl, Sum.elim_inr, byte_back, of_to]
    rfl
  cases hq : nt 1 r with
  | ok t u =>
    rw [hq] at h0
    obtain ⟨i1, i2, i3⟩ := nt_ok _ (Nat.le_refl _) hq
    simp (disch := (first | omega | (simp only [List.length_append, List.length_cons, List.length_nil]; omega))) only [F139, decide_eq_true, decide_eq_false, cond_true, cond_false, Bool.and_self, Bool.true_and, Bool.and_true, Bool.false_and, Bool.and_false, Bool.not_true, Bool.not_false, List.length_append, List.length_cons, List.length_nil, Int.toNat_natCast, ibT, ibF, inT, inF, wrN, gd, dr, Option.bind_some, Sum.elim_inl, Sum.elim_inr, byte_back, of_to, h0, resn, fin]
    rw [shift, text_eq (by simp [hp]), i3]
  | bad o e => rw [hq] at h0; simp (disch := (first | omega | (simp only [List.length_append, List.length_cons, List.length_nil]; omega))) only [F139, decide_eq_true, decide_eq_false, cond_true, cond_false, Bool.and_self, Bool.true_and, Bool.and_true, Bool.false_and, Bool.and_false, Bool.not_true, Bool.not_false, List.length_append, List.length_cons, List.length_nil, Int.toNat_natCast, ibT, ibF, inT, inF, wrN, gd, dr, Option.bind_some, Sum.elim_inl, Sum.elim_inr, byte_back, of_to, h0, resn, fin, c25g]
  | start => rw [hq] at h0; simp (disch := (first | omega | (simp only [List.length_append, List.length_cons, List.length_nil]; omega))) only [F139, decide_eq_true, decide_eq_false, cond_true, cond_false, Bool.and_self, Bool.true_and, Bool.and_true, Bool.false_and, Bool.and_false, Bool.not_true, Bool.not_false, List.length_append, List.length_cons, List.length_nil, Int.toNat_natCast, ibT, ibF, inT, inF, wrN, gd, dr, Option.bind_some, Sum.elim_inl, Sum.elim_inr, byte_back, of_to, h0, resn, fin, c27]
end Go.Proofs.YtiacnhhmkdkpmaaGreatDoorA.W
set_option linter.unusedVariables false
set_option linter.unusedSimpArgs false
set_option maxRecDepth 100000
namespace Go.Proofs.YtiacnhhmkdkpmaaGreatDoorA.W
open Go Go.Ae
def g1 (o : Option (Int × Int × Unit)) : Int := match o with | some (n, _, _) => n | none => 0
def g2 (o : Option (Int × Int × Unit)) : Int := match o with | some (_, v, _) => v | none => 0
def ok2 (o : Option (Int × Int × Unit)) : Bool := match o with | some _ => true | none => false
theorem ok2_some {o : Option (Int × Int × Unit)} (h : ok2 o = true) : o = some (g1 o, g2 o, ()) := by
  cases o with
  | none => cases h
  | some x => rfl
def leadN (c : UInt8) : Int := g1 (C121 ((c.toNat : Int), ()))
def leadV (c : UInt8) : Int := g2 (C121 ((c.toNat : Int), ()))
theorem c19k : ((List.range 256).all fun n => (fun c : UInt8 => ok2 (C121 ((c.toNat : Int), ()))) (UInt8.ofNat n)) = true := by kernel_rfl
theorem c19 (c : UInt8) : C121 ((c.toNat : Int), ()) = some (leadN c, leadV c, ()) := ok2_some (all256 (fun c => ok2 (C121 ((c.toNat : Int), ()))) c19k c)
def rngB : Int → Bool
  | .ofNat n => Nat.ble n 3
  | .negSucc n => Nat.beq n 0
theorem lead_k : ((List.range 256).all fun n => (fun c : UInt8 => rngB (leadN c)) (UInt8.ofNat n)) = true := by kernel_rfl
theorem lead_rng (c : UInt8) : leadN c = -1 ∨ 0 ≤ leadN c ∧ leadN c ≤ 3 := by
  have h : rngB (leadN c) = true := all256 (fun c => rngB (leadN c)) lead_k c
  generalize leadN c = x at h
  cases x with
  | ofNat n => have := Nat.le_of_ble_eq_true h; right; simp; omega
  | negSucc n => have := Nat.eq_of_beq_eq_true h; subst this; left; rfl
def lenR (v : Int) : Int := match C122 (v, ()) with | some (n, _) => n | none => 0
theorem c20 (v : Int) : C122 (v, ()) = some (lenR v, ()) := by
  have h : ∃ n, C122 (v, ()) = some (n, ()) := by
    show ∃ n, F122 C155 (v, ()) = some (n, ())
    have h29 : ∃ b, C155 (v, ()) = some (b, ()) := by
      simp only [C155, F155]
      cases decide (v ≥ 0) <;> cases decide (v ≤ 1114111) <;> cases decide (v ≥ 55296) <;> exact ⟨_, rfl⟩
    obtain ⟨b, hb⟩ := h29
    simp only [F122, hb, Option.bind_some]
    cases b <;> cases decide (v ≤ 127) <;> cases decide (v ≤ 2047) <;> cases decide (v ≤ 65535) <;> exact ⟨_, rfl⟩
  obtain ⟨n, hn⟩ := h
  rw [lenR, hn]
def contB (c : UInt8) : Bool := !(intBits BinOp.andNot IntKind.u8 (c.toNat : Int) 63 != 128)
def stepV (v : Int) (c : UInt8) : Int := intBits BinOp.or IntKind.i32 (IntKind.i32.wrap (v * 2 ^ min 6 IntKind.i32.bits)) (IntKind.i32.wrap (intBits BinOp.and IntKind.u8 (c.toNat : Int) 63))
def conts : Nat → List UInt8 → Int → Option Int
  | 0, _, v => some v
  | _ + 1, [], _ => none
  | n + 1, c :: r, v => bif contB c then conts n r (stepV v c) else none
def ch : List UInt8 → Nat
  | [] => 0
  | c :: r => if leadN c < 0 then 0 else if r.length < (leadN c).toNat then 0 else
    match conts (leadN c).toNat r (leadV c) with
    | none => 0
    | some v => if lenR v = leadN c + 1 then (leadN c).toNat + 1 else 0
theorem ch_le : ∀ s, ch s ≤ s.length
  | [] => Nat.le_refl _
  | c :: r => by
    simp only [ch, List.length_cons]
    split
    · omega
    · split
      · omega
      · split
        · omega
        · split <;> omega
def res0 (s : List UInt8) (n a : Int) (out : List Int) : Option Int → (List UInt8 × Int × Int × Int × List Int × Unit) ⊕ (Int × List Int × Unit)
  | some v => .inl (s, n, v, a, out, ())
  | none => .inr (a, out, ())
theorem l150 (a : Nat) (m : Nat) (out : List Int) : ∀ (j : Nat) (r pre : List UInt8) (v : Int) (k n : Nat), pre.length = k → k + j = a + m + 1 → j ≤ r.length → j < n → k + r.length ≤ 140737488355320 → m ≤ 3 →
    loopN (F83_l0 C121 C122) n (pre ++ r, (m : Int), v, (a : Int), (k : Int), out, ()) = some (res0 (pre ++ r) m a out (conts j r v))
  | _, _, _, _, _, 0, _, _, _, hn, _, _ => by omega
  | 0, r, pre, v, k, n + 1, hk, hj, hr, hn, hb, hm => by
    refine loopN_inr ?_
    have h : IntKind.i64.wrap ((a : Int) + (m : Int)) = (a : Int) + m := wr (by omega) (by omega)
    simp (disch := (first | omega | (simp only [List.length_append, List.length_cons, List.length_nil]; omega))) only [F83_l0, h, decide_eq_true, decide_eq_false, cond_true, cond_false, Bool.and_self, Bool.true_and, Bool.and_true, Bool.false_and, Bool.and_false, Bool.not_true, Bool.not_false, List.length_append, List.length_cons, List.length_nil, Int.toNat_natCast, ibT, ibF, inT, inF, wrN, gd, dr, Option.bind_some, Sum.elim_inl, Sum.elim_inr, byte_back, of_to, conts, res0]
  | j + 1, [], pre, v, k, n + 1, hk, hj, hr, hn, hb, hm => by simp at hr
  | j + 1, c :: r, pre, v, k, n + 1, hk, hj, hr, hn, hb, hm => by
    simp only [List.length_cons] at hr hb
    have h : IntKind.i64.wrap ((a : Int) + (m : Int)) = (a : Int) + m := wr (by omega) (by omega)
    cases hc : contB c with
    | true =>
      have hc' : (intBits BinOp.andNot IntKind.u8 (c.toNat : Int) 63 != 128) = false := by simpa [contB] using hc
      rw [loopN_inl (v' := (pre ++ c :: r, (m : Int), stepV v c, (a : Int), ((k + 1 : Nat) : Int), out, ())) (by
        simp (disch := (first | omega | (simp only [List.length_append, List.length_cons, List.length_nil]; omega))) only [F83_l0, h, decide_eq_true, decide_eq_false, cond_true, cond_false, Bool.and_self, Bool.true_and, Bool.and_true, Bool.false_and, Bool.and_false, Bool.not_true, Bool.not_false, List.length_append, List.length_cons, List.length_nil, Int.toNat_natCast, ibT, ibF, inT, inF, wrN, gd, dr, Option.bind_some, Sum.elim_inl, Sum.elim_inr, byte_back, of_to, hc']
        rfl)]
      rw [shift, l150 a m out j r (pre ++ [c]) (stepV v c) (k + 1) n (by simp [hk]) (by omega) (by omega) (by omega) (by omega) hm]
      simp only [conts, hc, cond_true]
    | false =>
      have hc' : (intBits BinOp.andNot IntKind.u8 (c.toNat : Int) 63 != 128) = true := by simpa [contB] using hc
      refine loopN_inr ?_
      simp (disch := (first | omega | (simp only [List.length_append, List.length_cons, List.length_nil]; omega))) only [F83_l0, h, decide_eq_true, decide_eq_false, cond_true, cond_false, Bool.and_self, Bool.true_and, Bool.and_true, Bool.false_and, Bool.and_false, Bool.not_true, Bool.not_false, List.length_append, List.length_cons, List.length_nil, Int.toNat_natCast, ibT, ibF, inT, inF, wrN, gd, dr, Option.bind_some, Sum.elim_inl, Sum.elim_inr, byte_back, of_to, hc', conts, hc, res0]
def ut : Nat → List UInt8 → Nat → Option Nat
  | 0, _, _ => none
  | n + 1, s, p => if s = [] then none else if ch s = 0 then some p else ut n (s.drop (ch s)) (p + ch s)
def r15 (out : List Int) : Option Nat → (List Int × Unit) ⊕ (Int × List Int × Unit)
  | none => .inl (out, ())
  | some b => .inr ((b : Int), out, ())
theorem r151 (c : UInt8) (r pre : List UInt8) (out : List Int) (p : Nat) (hp : pre.length = p) (hb : p + r.length ≤ 140737488355000) (ho : out.length ≤ 1000000000) :
    F83_l1 C121 C122 C83_l0 (pre ++ c :: r, (p : Int), out, ()) = some (if ch (c :: r) = 0 then .inr (.inr ((p : Int), out, ())) else
      .inl (pre ++ c :: r, ((p + ch (c :: r) : Nat) : Int), out ++ [((conts (leadN c).toNat r (leadV c)).getD 0)], ())) := by
  have hrng := lead_rng c
  by_cases h1 : leadN c < 0
  · have : ch (c :: r) = 0 := by simp [ch, h1]
    rw [if_pos this]
    simp (disch := (first | omega | (simp only [List.length_append, List.length_cons, List.length_nil]; omega))) only [F83_l1, decide_eq_true, decide_eq_false, cond_true, cond_false, Bool.and_self, Bool.true_and, Bool.and_true, Bool.false_and, Bool.and_false, Bool.not_true, Bool.not_false, List.length_append, List.length_cons, List.length_nil, Int.toNat_natCast, ibT, ibF, inT, inF, wrN, gd, dr, Option.bind_some, Sum.elim_inl, Sum.elim_inr, byte_back, of_to, c19]
  · have hw : IntKind.i64.wrap (((pre.length + (r.length + 1) : Nat) : Int) - (p : Int)) = (r.length : Int) + 1 := by rw [wr] <;> omega
    obtain ⟨m, hm⟩ : ∃ m : Nat, leadN c = m := ⟨(leadN c).toNat, by omega⟩
    by_cases h2 : r.length < m
    · have : ch (c :: r) = 0 := by simp [ch, hm, h2]
      rw [if_pos this]
      simp (disch := (first | omega | (simp only [List.length_append, List.length_cons, List.length_nil]; omega))) only [F83_l1, decide_eq_true, decide_eq_false, cond_true, cond_false, Bool.and_self, Bool.true_and, Bool.and_true, Bool.false_and, Bool.and_false, Bool.not_true, Bool.not_false, List.length_append, List.length_cons, List.length_nil, Int.toNat_natCast, ibT, ibF, inT, inF, wrN, gd, dr, Option.bind_some, Sum.elim_inl, Sum.elim_inr, byte_back, of_to, c19, hw, hm]
    · have hl := l150 p m out m r (pre ++ [c]) (leadV c) (p + 1) big (by simp [hp]) (by omega) (by omega) (by unfold big; omega) (by omega) (by omega)
      rw [← shift] at hl
      have hl' : C83_l0 (pre ++ c :: r, (m : Int), leadV c, (p : Int), ((p + 1 : Nat) : Int), out, ()) = _ := hl
      cases hc : conts m r (leadV c) with
      | none =>
        have : ch (c :: r) = 0 := by simp [ch, hm, h2, hc]
        rw [if_pos this]
        simp (disch := (first | omega | (simp only [List.length_append, List.length_cons, List.length_nil]; omega))) only [F83_l1, decide_eq_true, decide_eq_false, cond_true, cond_false, Bool.and_self, Bool.true_and, Bool.and_true, Bool.false_and, Bool.and_false, Bool.not_true, Bool.not_false, List.length_append, List.length_cons, List.length_nil, Int.toNat_natCast, ibT, ibF, inT, inF, wrN, gd, dr, Option.bind_some, Sum.elim_inl, Sum.elim_inr, byte_back, of_to, c19, hw, hm, hl', hc, res0]
      | some v =>
        have hw2 : IntKind.i64.wrap ((m : Int) + 1) = (m : Int) + 1 := wr (by omega) (by omega)
        by_cases h3 : lenR v = m + 1
        · have hch : ch (c :: r) = m + 1 := by simp [ch, hm, h2, hc, h3]
          have hw3 : IntKind.i64.wrap ((p : Int) + ((m : Int) + 1)) = ((p + (m + 1) : Nat) : Int) := by rw [wr] <;> omega
          rw [if_neg (by omega), hch]
          simp (disch := (first | omega | (simp only [List.length_append, List.length_cons, List.length_nil]; omega))) only [F83_l1, hw2, hw3, decide_eq_true, decide_eq_false, cond_true, cond_false, Bool.and_self, List.length_append, List.length_cons, List.length_nil, Int.toNat_natCast, inF, gd, Option.bind_some, Sum.elim_inl, wrN, c19, hw, hm, hl', hc, res0, c20, Option.getD_some]
        · have : ch (c :: r) = 0 := by simp [ch, hm, h2, hc, h3]
          rw [if_pos this]
          simp (disch := (first | omega | (simp only [List.length_append, List.length_cons, List.length_nil]; omega))) only [F83_l1, hw2, decide_eq_true, decide_eq_false, cond_true, cond_false, Bool.and_self, Bool.true_and, Bool.and_true, Bool.false_and, Bool.and_false, Bool.not_true, Bool.not_false, List.length_append, List.length_cons, List.length_nil, Int.toNat_natCast, ibT, ibF, inT, inF, wrN, gd, dr, Option.bind_some, Sum.elim_inl, Sum.elim_inr, byte_back, of_to, c19, hw, hm, hl', hc, res0, c20]
theorem l151 : ∀ (m : Nat) (r pre : List UInt8) (out : List Int) (p n : Nat), r.length ≤ m → pre.length = p → r.length < n → p + r.length ≤ 140737488355000 → out.length + r.length ≤ 1000000000 →
    ∃ o, loopN (F83_l1 C121 C122 C83_l0) n (pre ++ r, (p : Int), out, ()) = some (r15 o (ut n r p))
  | _, _, _, _, _, 0, _, _, hn, _, _ => by omega
  | m, [], pre, out, p, n + 1, hm, hp, hn, hb, ho => by
    refine ⟨out, loopN_inr ?_⟩
    simp (disch := (first | omega | (simp only [List.length_append, List.length_cons, List.length_nil]; omega))) only [F83_l1, decide_eq_true, decide_eq_false, cond_true, cond_false, Bool.and_self, Bool.true_and, Bool.and_true, Bool.false_and, Bool.and_false, Bool.not_true, Bool.not_false, List.length_append, List.length_cons, List.length_nil, Int.toNat_natCast, ibT, ibF, inT, inF, wrN, gd, dr, Option.bind_some, Sum.elim_inl, Sum.elim_inr, byte_back, of_to, List.append_nil, ut, if_true, r15]
  | 0, c :: r, pre, out, p, n + 1, hm, hp, hn, hb, ho => by simp at hm
  | m + 1, c :: r, pre, out, p, n + 1, hm, hp, hn, hb, ho => by
    simp only [List.length_cons] at hm hn hb ho
    have hr := r151 c r pre out p hp (by omega) (by omega)
    by_cases h : ch (c :: r) = 0
    · rw [if_pos h] at hr
      refine ⟨out, ?_⟩
      rw [loopN_inr hr]
      simp [ut, h, r15]
    · rw [if_neg h] at hr
      have hle := ch_le (c :: r)
      simp only [List.length_cons] at hle
      have hsplit : pre ++ c :: r = (pre ++ (c :: r).take (ch (c :: r))) ++ (c :: r).drop (ch (c :: r)) := by rw [List.append_assoc, List.take_append_drop]
      obtain ⟨o, ho'⟩ := l151 m ((c :: r).drop (ch (c :: r))) (pre ++ (c :: r).take (ch (c :: r))) (out ++ [((conts (leadN c).toNat r (leadV c)).getD 0)]) (p + ch (c :: r)) n (by simp; omega) (by simp [hp]; omega) (by simp; omega) (by simp; omega) (by simp; omega)
      refine ⟨o, ?_⟩
      rw [loopN_inl hr]
      rw [← hsplit] at ho'
      rw [ho']
      simp [ut, h]
def utf (s : List UInt8) : Option Nat := ut big s 0
theorem c15 (s : List UInt8) (hb : s.length ≤ 1000000) : ∃ o, C83 (s, ()) = some (o, (match utf s with | none => -1 | some b => (b : Int)), ()) := by
  obtain ⟨o, h⟩ := l151 s.length s [] [] 0 big (Nat.le_refl _) rfl (by unfold big; omega) (by omega) (by simp; omega)
  have h' : C83_l1 (s, 0, [], ()) = some (r15 o (utf s)) := h
  refine ⟨o, ?_⟩
  show F83 C121 C122 C83_g0 C83_l1 (s, ()) = _
  have hg : ∀ (b : Int) (o : List Int), C83_g0 (b, o, ()) = some (b, o, ()) := by
    intro b o
    show loopN _ big _ = _
    rw [show big = 999999999999999999999 + 1 from rfl]
    exact loopN_inr rfl
  simp only [F83, h', Option.bind_some]
  cases utf s <;> simp [r15, hg]
end Go.Proofs.YtiacnhhmkdkpmaaGreatDoorA.W
set_option linter.unusedVariables false
set_option linter.unusedSimpArgs false
set_option maxRecDepth 100000
namespace Go.Proofs.YtiacnhhmkdkpmaaGreatDoorA.W
open Go Go.Ae
def Tk.up : Tk → Tk
  | .ok t u => .ok t (1 + u)
  | .bad off e => .bad (1 + off) e
  | .start => .start
def one (c : UInt8) (r : List UInt8) : Int × Tk :=
  if atomB c = true then (0, .ok ((c :: r).take (al (c :: r))) (al (c :: r)))
  else if signB c = true then (2, .ok [c] 1)
  else if c.toNat = 34 then (1, (qt r).up)
  else if c.toNat = 91 then (5, (ltk r).up)
  else if c.toNat = 40 then (3, (nt 1 r).up)
  else if wl (c :: r) = 0 then (4, .start) else (4, .ok ((c :: r).take (wl (c :: r))) (wl (c :: r)))
theorem fin_up (s : List UInt8) (p : Nat) (bad err : Int) (k : Tk) : fin s p bad err (p + 1) k = fin s p bad err p k.up := by
  cases k <;> simp [fin, Tk.up, Nat.add_assoc]
def tkres (s : List UInt8) (p : Nat) (bad err : Int) (x : Int × Tk) : Int × List UInt8 × Int × List UInt8 × Int × Int × Int × Unit :=
  (x.1, (fin s p bad err p x.2).1, (p : Int), (fin s p bad err p x.2).2)
theorem c16 (pre r : List UInt8) (c : UInt8) (p : Nat) (bad err : Int) (hp : pre.length = p) (hb : p + r.length ≤ 140737488354000) :
    C105 (pre ++ c :: r, (p : Int), bad, err, ()) = some (tkres (pre ++ c :: r) p bad err (one c r)) := by
  show F105 C127 C136 C137 C138 C139 C140 C141 C90 C105_c0 (pre ++ c :: r, (p : Int), bad, err, ()) = _
  have h21 := c21 pre (c :: r) p bad err hp (by simp; omega)
  have h26 := c26 pre (c :: r) p bad err hp (by simp; omega)
  have h23 := c23 pre r c p bad err hp (by omega)
  have h24 := c24 pre r c p bad err hp (by omega)
  unfold one
  by_cases h1 : atomB c = true
  · rw [if_pos h1]
    simp (disch := (first | omega | (simp only [List.length_append, List.length_cons, List.length_nil]; omega))) only [F105, C105_c0, F105_c0, decide_eq_true, decide_eq_false, cond_true, cond_false, Bool.and_self, Bool.true_and, Bool.and_true, Bool.false_and, Bool.and_false, Bool.not_true, Bool.not_false, List.length_append, List.length_cons, List.length_nil, Int.toNat_natCast, ibT, ibF, inT, inF, wrN, gd, dr, Option.bind_some, Sum.elim_inl, Sum.elim_inr, byte_back, of_to, c17, h1, h21, tkres, fin]
  · rw [if_neg h1]
    have h1' : atomB c = false := by simpa using h1
    by_cases h2 : signB c = true
    · rw [if_pos h2]
      have h2' : signI c ≥ 0 := by simpa [signB] using h2
      have ht : List.drop p (List.take (p + 1) (pre ++ c :: r)) = [c] := by rw [text_eq hp]; rfl
      simp (disch := (first | omega | (simp only [List.length_append, List.length_cons, List.length_nil]; omega))) only [F105, C105_c0, F105_c0, decide_eq_true, decide_eq_false, cond_true, cond_false, Bool.and_self, Bool.true_and, Bool.and_true, Bool.false_and, Bool.and_false, Bool.not_true, Bool.not_false, List.length_append, List.length_cons, List.length_nil, Int.toNat_natCast, ibT, ibF, inT, inF, wrN, gd, dr, Option.bind_some, Sum.elim_inl, Sum.elim_inr, byte_back, of_to, c17, h1', c22s, ht, tkres, fin]
    · rw [if_neg h2]
      have h2' : ¬ signI c ≥ 0 := by simpa [signB] using h2
      by_cases h3 : c.toNat = 34
      · rw [if_pos h3]
        rw [fin_up] at h23
        simp (disch := (first | omega | (simp only [List.length_append, List.length_cons, List.length_nil]; omega))) only [F105, C105_c0, F105_c0, decide_eq_true, decide_eq_false, cond_true, cond_false, Bool.and_self, Bool.true_and, Bool.and_true, Bool.false_and, Bool.and_false, Bool.not_true, Bool.not_false, List.length_append, List.length_cons, List.length_nil, Int.toNat_natCast, ibT, ibF, inT, inF, wrN, gd, dr, Option.bind_some, Sum.elim_inl, Sum.elim_inr, byte_back, of_to, c17, h1', c22s, h23, tkres]
      · rw [if_neg h3]
        by_cases h4 : c.toNat = 91
        · rw [if_pos h4]
          rw [fin_up] at h24
          simp (disch := (first | omega | (simp only [List.length_append, List.length_cons, List.length_nil]; omega))) only [F105, C105_c0, F105_c0, decide_eq_true, decide_eq_false, cond_true, cond_false, Bool.and_self, Bool.true_and, Bool.and_true, Bool.false_and, Bool.and_false, Bool.not_true, Bool.not_false, List.length_append, List.length_cons, List.length_nil, Int.toNat_natCast, ibT, ibF, inT, inF, wrN, gd, dr, Option.bind_some, Sum.elim_inl, Sum.elim_inr, byte_back, of_to, c17, h1', c22s, h24, tkres]
        · rw [if_neg h4]
          by_cases h5 : c.toNat = 40
          · rw [if_pos h5]
            have h25 := c25 pre r c p bad err h5 hp (by omega)
            rw [fin_up] at h25
            simp (disch := (first | omega | (simp only [List.length_append, List.length_cons, List.length_nil]; omega))) only [F105, C105_c0, F105_c0, decide_eq_true, decide_eq_false, cond_true, cond_false, Bool.and_self, Bool.true_and, Bool.and_true, Bool.false_and, Bool.and_false, Bool.not_true, Bool.not_false, List.length_append, List.length_cons, List.length_nil, Int.toNat_natCast, ibT, ibF, inT, inF, wrN, gd, dr, Option.bind_some, Sum.elim_inl, Sum.elim_inr, byte_back, of_to, c17, h1', c22s, h25, tkres]
          · rw [if_neg h5]
            by_cases h6 : wl (c :: r) = 0
            · rw [if_pos h6]
              rw [h6] at h26
              simp (disch := (first | omega | (simp only [List.length_append, List.length_cons, List.length_nil]; omega))) only [F105, C105_c0, F105_c0, decide_eq_true, decide_eq_false, cond_true, cond_false, Bool.and_self, Bool.true_and, Bool.and_true, Bool.false_and, Bool.and_false, Bool.not_true, Bool.not_false, List.length_append, List.length_cons, List.length_nil, Int.toNat_natCast, ibT, ibF, inT, inF, wrN, gd, dr, Option.bind_some, Sum.elim_inl, Sum.elim_inr, byte_back, of_to, c17, h1', c22s, h26, tkres, fin, List.take_zero, c27, beq_self_eq_true, Nat.add_zero]
            · rw [if_neg h6]
              obtain ⟨w, hw⟩ : ∃ w, wl (c :: r) = w + 1 := ⟨wl (c :: r) - 1, by omega⟩
              have hne : ((c :: r).take (wl (c :: r)) == []) = false := by rw [hw]; rfl
              simp (disch := (first | omega | (simp only [List.length_append, List.length_cons, List.length_nil]; omega))) only [F105, C105_c0, F105_c0, decide_eq_true, decide_eq_false, cond_true, cond_false, Bool.and_self, Bool.true_and, Bool.and_true, Bool.false_and, Bool.and_false, Bool.not_true, Bool.not_false, List.length_append, List.length_cons, List.length_nil, Int.toNat_natCast, ibT, ibF, inT, inF, wrN, gd, dr, Option.bind_some, Sum.elim_inl, Sum.elim_inr, byte_back, of_to, c17, h1', c22s, h26, tkres, fin, hne]
abbrev Tok := Int × (List UInt8 × Int)
def lx : Nat → List UInt8 → Nat → List Tok ⊕ (Nat × Int)
  | 0, _, _ => .inl []
  | n + 1, s, p => match s with
    | [] => .inl []
    | c :: r => match one c r with
      | (k, .ok t u) => match lx n ((c :: r).drop u) (p + u) with
        | .inl l => .inl ((k, t, (p : Int)) :: l)
        | .inr e => .inr e
      | (_, .bad off e) => .inr (p + off, e)
      | (_, .start) => .inr (p, 4)
theorem qt_used : ∀ (m : Nat) {r t : List UInt8} {u : Nat}, r.length ≤ m → qt r = .ok t u → t.length + 1 ≤ u ∧ u ≤ r.length
  | _, [], t, u, _, h => by simp [qt] at h
  | 0, c :: r, t, u, hm, h => by simp at hm
  | m + 1, c :: r, t, u, hm, h => by
    simp only [List.length_cons] at hm ⊢
    by_cases e1 : c.toNat = 34
    · rw [qt_q e1] at h; cases h; simp
    · by_cases e2 : c.toNat = 92
      · match r, hm, h with
        | [], hm, h => rw [qt_b0 e2] at h; cases h
        | d :: r', hm, h =>
          rw [qt_b1 e2] at h
          cases hd : mayB d <;> rw [hd] at h
          · cases h
          · obtain ⟨t', u', h1, rfl, rfl⟩ := push_ok h
            have := qt_used m (by simp at hm; omega) h1
            simp; omega
      · rw [qt_c e1 e2] at h
        cases hd : mayB c <;> rw [hd] at h
        · cases h
        · obtain ⟨t', u', h1, rfl, rfl⟩ := push_ok h
          have := qt_used m (by omega) h1
          simp; omega
theorem up_ok {k : Tk} {t : List UInt8} {u : Nat} (h : k.up = .ok t u) : ∃ u', k = .ok t u' ∧ u = 1 + u' := by
  cases k <;> simp [Tk.up] at h
  obtain ⟨rfl, rfl⟩ := h
  exact ⟨_, rfl, rfl⟩
theorem al_pos {c : UInt8} {r : List UInt8} (h : atomB c = true) : 1 ≤ al (c :: r) := by simp [al, h]
theorem one_used {c : UInt8} {r t : List UInt8} {k : Int} {u : Nat} (h : one c r = (k, .ok t u)) : 1 ≤ u ∧ u ≤ r.length + 1 := by
  unfold one at h
  split at h
  · rename_i h1
    cases h
    have := al_le (c :: r)
    exact ⟨al_pos h1, by simpa using this⟩
  · split at h
    · cases h; exact ⟨by omega, by omega⟩
    · split at h
      · obtain ⟨u', h1, rfl⟩ := up_ok (Prod.mk.inj h).2
        have := qt_used _ (Nat.le_refl _) h1
        omega
      · split at h
        · obtain ⟨u', h1, rfl⟩ := up_ok (Prod.mk.inj h).2
          have := ltk_ok h1
          omega
        · split at h
          · obtain ⟨u', h1, rfl⟩ := up_ok (Prod.mk.inj h).2
            have := nt_ok _ (Nat.le_refl _) h1
            omega
          · split at h
            · cases h
            · rename_i h6
              cases h
              have := wl_le (c :: r)
              exact ⟨by omega, by simpa using this⟩
def rL11 (out : List Tok) : List Tok ⊕ (Nat × Int) → (List Tok × Unit) ⊕ (Int × Int × Unit)
  | .inl l => .inl (out ++ l, ())
  | .inr (b, e) => .inr ((b : Int), e, ())
def Tk.eok : Tk → Prop
  | .bad _ e => e = 4 ∨ e = 6
  | _ => True
theorem push_eok {k : Tk} {l : List UInt8} {n : Nat} (h : k.eok) : (k.push l n).eok := by cases k <;> first | exact h | exact trivial
theorem up_eok {k : Tk} (h : k.eok) : k.up.eok := by cases k <;> first | exact h | exact trivial
theorem qt_e : ∀ (m : Nat) (r : List UInt8), r.length ≤ m → (qt r).eok
  | _, [], _ => trivial
  | 0, c :: r, hm => by simp at hm
  | m + 1, c :: r, hm => by
    simp only [List.length_cons] at hm
    by_cases e1 : c.toNat = 34
    · rw [qt_q e1]; trivial
    · by_cases e2 : c.toNat = 92
      · match r, hm with
        | [], hm => rw [qt_b0 e2]; trivial
        | d :: r', hm =>
          rw [qt_b1 e2]
          cases mayB d
          · exact .inl rfl
          · exact push_eok (qt_e m r' (by simp at hm; omega))
      · rw [qt_c e1 e2]
        cases mayB c
        · exact .inl rfl
        · exact push_eok (qt_e m r (by omega))
theorem ltk_e : ∀ r : List UInt8, (ltk r).eok
  | [] => trivial
  | c :: r => by
    unfold ltk
    split
    · trivial
    · split
      · exact .inl rfl
      · split
        · exact .inl rfl
        · cases blankB c
          · cases mayB c
            · exact .inl rfl
            · exact push_eok (ltk_e r)
          · exact .inl rfl
theorem nt_e : ∀ (m deep : Nat) (r : List UInt8), r.length ≤ m → (nt deep r).eok
  | _, _, [], _ => by simp [nt, Tk.eok]
  | 0, _, c :: r, hm => by simp at hm
  | m + 1, deep, c :: r, hm => by
    simp only [List.length_cons] at hm
    by_cases e1 : c.toNat = 40
    · rw [nt_o e1]
      split
      · exact .inr rfl
      · exact push_eok (nt_e m _ r (by omega))
    · by_cases e2 : c.toNat = 41
      · rw [nt_c e2]
        split
        · trivial
        · exact push_eok (nt_e m _ r (by omega))
      · by_cases e3 : c.toNat = 92
        · match r, hm with
          | [], hm => rw [nt_b0 e3]; trivial
          | d :: r', hm =>
            rw [nt_b1 e3]
            cases mayB d
            · exact .inl rfl
            · exact push_eok (nt_e m _ r' (by simp at hm; omega))
        · rw [nt_m e1 e2 e3]
          cases mayB c
          · exact .inl rfl
          · exact push_eok (nt_e m _ r (by omega))
theorem one_e (c : UInt8) (r : List UInt8) : (one c r).2.eok := by
  unfold one
  split
  · trivial
  · split
    · trivial
    · split
      · exact up_eok (qt_e _ r (Nat.le_refl _))
      · split
        · exact up_eok (ltk_e r)
        · split
          · exact up_eok (nt_e _ _ r (Nat.le_refl _))
          · split <;> trivial
theorem l11 (s : List UInt8) : ∀ (m : Nat) (r pre : List UInt8) (out : List Tok) (bad : Int) (p n : Nat), r.length ≤ m → s = pre ++ r → pre.length = p → r.length < n → p + r.length ≤ 100000 → out.length + r.length ≤ 100000 →
    loopN (F67_l0 C105 C83) n (s, out, s, (p : Int), bad, 0, ()) = some (rL11 out (lx m r p))
  | _, _, _, _, _, _, 0, _, _, _, hn, _, _ => by omega
  | 0, [], pre, out, bad, p, n + 1, hm, hs, hp, hn, hb, ho => by
    refine loopN_inr ?_
    have : s.length = p := by rw [hs]; simp [hp]
    simp (disch := (first | omega | (simp only [List.length_append, List.length_cons, List.length_nil]; omega))) only [F67_l0, this, decide_eq_true, decide_eq_false, cond_true, cond_false, Bool.and_self, Bool.true_and, Bool.and_true, Bool.false_and, Bool.and_false, Bool.not_true, Bool.not_false, List.length_append, List.length_cons, List.length_nil, Int.toNat_natCast, ibT, ibF, inT, inF, wrN, gd, dr, Option.bind_some, Sum.elim_inl, Sum.elim_inr, byte_back, of_to, lx, rL11, List.append_nil]
  | m + 1, [], pre, out, bad, p, n + 1, hm, hs, hp, hn, hb, ho => by
    refine loopN_inr ?_
    have : s.length = p := by rw [hs]; simp [hp]
    simp (disch := (first | omega | (simp only [List.length_append, List.length_cons, List.length_nil]; omega))) only [F67_l0, this, decide_eq_true, decide_eq_false, cond_true, cond_false, Bool.and_self, Bool.true_and, Bool.and_true, Bool.false_and, Bool.and_false, Bool.not_true, Bool.not_false, List.length_append, List.length_cons, List.length_nil, Int.toNat_natCast, ibT, ibF, inT, inF, wrN, gd, dr, Option.bind_some, Sum.elim_inl, Sum.elim_inr, byte_back, of_to, lx, rL11, List.append_nil]
  | 0, c :: r, pre, out, bad, p, n + 1, hm, hs, hp, hn, hb, ho => by simp at hm
  | m + 1, c :: r, pre, out, bad, p, n + 1, hm, hs, hp, hn, hb, ho => by
    simp only [List.length_cons] at hm hn hb ho
    have h16 := c16 pre r c p bad 0 hp (by omega)
    have he := one_e c r
    rw [← hs] at h16
    have hl : s.length = p + (r.length + 1) := by rw [hs]; simp [hp]
    cases h1 : one c r with
    | mk k tk =>
      rw [h1] at h16 he
      cases tk with
      | ok t u =>
        have hu := one_used h1
        rw [loopN_inl (v' := (s, out ++ [(k, t, (p : Int))], s, ((p + u : Nat) : Int), bad, 0, ())) (by
          simp (disch := (first | omega | (simp only [List.length_append, List.length_cons, List.length_nil]; omega))) only [F67_l0, hl, decide_eq_true, decide_eq_false, cond_true, cond_false, Bool.and_self, Bool.true_and, Bool.and_true, Bool.false_and, Bool.and_false, Bool.not_true, Bool.not_false, List.length_append, List.length_cons, List.length_nil, Int.toNat_natCast, ibT, ibF, inT, inF, wrN, gd, dr, Option.bind_some, Sum.elim_inl, Sum.elim_inr, byte_back, of_to, h16, tkres, fin])]
        have := l11 s m ((c :: r).drop u) (pre ++ (c :: r).take u) (out ++ [(k, t, (p : Int))]) bad (p + u) n (by simp; omega) (by rw [hs, List.append_assoc, List.take_append_drop]) (by simp [hp]; omega) (by simp; omega) (by simp; omega) (by simp; omega)
        rw [this]
        simp only [lx, h1]
        cases lx m ((c :: r).drop u) (p + u) with
        | inl l => simp [rL11]
        | inr e => rfl
      | bad off e =>
        have he' : e = 4 ∨ e = 6 := he
        refine loopN_inr ?_
        simp (disch := (first | omega | (simp only [List.length_append, List.length_cons, List.length_nil]; omega))) only [F67_l0, hl, decide_eq_true, decide_eq_false, cond_true, cond_false, Bool.and_self, Bool.true_and, Bool.and_true, Bool.false_and, Bool.and_false, Bool.not_true, Bool.not_false, List.length_append, List.length_cons, List.length_nil, Int.toNat_natCast, ibT, ibF, inT, inF, wrN, gd, dr, Option.bind_some, Sum.elim_inl, Sum.elim_inr, byte_back, of_to, h16, tkres, fin, lx, h1, rL11]
      | start =>
        refine loopN_inr ?_
        simp (disch := (first | omega | (simp only [List.length_append, List.length_cons, List.length_nil]; omega))) only [F67_l0, hl, decide_eq_true, decide_eq_false, cond_true, cond_false, Bool.and_self, Bool.true_and, Bool.and_true, Bool.false_and, Bool.and_false, Bool.not_true, Bool.not_false, List.length_append, List.length_cons, List.length_nil, Int.toNat_natCast, ibT, ibF, inT, inF, wrN, gd, dr, Option.bind_some, Sum.elim_inl, Sum.elim_inr, byte_back, of_to, h16, tkres, fin, lx, h1, rL11]
theorem lx_fuel : ∀ (n m : Nat) (s : List UInt8) (p : Nat), s.length ≤ n → s.length ≤ m → lx n s p = lx m s p
  | 0, 0, _, _, _, _ => rfl
  | 0, m + 1, [], p, _, _ => rfl
  | n + 1, 0, [], p, _, _ => rfl
  | n + 1, m + 1, [], p, _, _ => rfl
  | 0, _, c :: r, p, h, _ => by simp at h
  | n + 1, 0, c :: r, p, _, h => by simp at h
  | n + 1, m + 1, c :: r, p, h, h' => by
    simp only [List.length_cons] at h h'
    simp only [lx]
    cases h1 : one c r with
    | mk k tk =>
      cases tk with
      | ok t u =>
        have hu := one_used h1
        simp only
        rw [lx_fuel n m ((c :: r).drop u) (p + u) (by simp; omega) (by simp; omega)]
      | bad off e => rfl
      | start => rfl
def lexs (s : List UInt8) (p : Nat) : List Tok ⊕ (Nat × Int) := lx s.length s p
theorem lexs_nil (p : Nat) : lexs [] p = .inl [] := rfl
theorem lexs_cons (c : UInt8) (r : List UInt8) (p : Nat) : lexs (c :: r) p = match one c r with
      | (k, .ok t u) => (match lexs ((c :: r).drop u) (p + u) with
        | .inl l => .inl ((k, t, (p : Int)) :: l)
        | .inr e => .inr e)
      | (_, .bad off e) => .inr (p + off, e)
      | (_, .start) => .inr (p, 4) := by
  unfold lexs
  simp only [List.length_cons, lx]
  cases h1 : one c r with
  | mk k tk =>
    cases tk with
    | ok t u =>
      have hu := one_used h1
      simp only
      rw [lx_fuel r.length ((c :: r).drop u).length ((c :: r).drop u) (p + u) (by simp; omega) (Nat.le_refl _)]
    | bad off e => rfl
    | start => rfl
def end1 : List Tok ⊕ (Nat × Int) → List Tok × Int × Int
  | .inl l => (l, 0, 0)
  | .inr x => ([], (x.1 : Int), x.2)
def end2 : Option Nat → List Tok ⊕ (Nat × Int) → List Tok × Int × Int
  | some b, _ => ([], (b : Int), 7)
  | none, x => end1 x
def lexR (s : List UInt8) : List Tok × Int × Int := if 2000 < s.length then ([], 0, 5) else end2 (utf s) (lexs s 0)
theorem c11 (s : List UInt8) : C67 (s, ()) = some ((lexR s).1, (lexR s).2.1, (lexR s).2.2, ()) := by
  show F67 C105 C83 C67_l0 (s, ()) = _
  unfold lexR
  by_cases h : 2000 < s.length
  · simp only [if_pos h]
    simp (disch := (first | omega | (simp only [List.length_append, List.length_cons, List.length_nil]; omega))) only [F67, decide_eq_true, decide_eq_false, cond_true, cond_false, Bool.and_self, Bool.true_and, Bool.and_true, Bool.false_and, Bool.and_false, Bool.not_true, Bool.not_false, List.length_append, List.length_cons, List.length_nil, Int.toNat_natCast, ibT, ibF, inT, inF, wrN, gd, dr, Option.bind_some, Sum.elim_inl, Sum.elim_inr, byte_back, of_to]
  · simp only [if_neg h]
    obtain ⟨o, h15⟩ := c15 s (by omega)
    cases hu : utf s with
    | some b =>
      rw [hu] at h15
      simp only at h15
      simp (disch := (first | omega | (simp only [List.length_append, List.length_cons, List.length_nil]; omega))) only [F67, decide_eq_true, decide_eq_false, cond_true, cond_false, Bool.and_self, Bool.true_and, Bool.and_true, Bool.false_and, Bool.and_false, Bool.not_true, Bool.not_false, List.length_append, List.length_cons, List.length_nil, Int.toNat_natCast, ibT, ibF, inT, inF, wrN, gd, dr, Option.bind_some, Sum.elim_inl, Sum.elim_inr, byte_back, of_to, h15, end2]
    | none =>
      rw [hu] at h15
      have hl := l11 s s.length s [] [] 0 0 big (Nat.le_refl _) (by simp) rfl (by unfold big; omega) (by omega) (by simp; omega)
      have hl' : C67_l0 (s, [], s, 0, 0, 0, ()) = some (rL11 [] (lexs s 0)) := hl
      simp (disch := (first | omega | (simp only [List.length_append, List.length_cons, List.length_nil]; omega))) only [F67, decide_eq_true, decide_eq_false, cond_true, cond_false, Bool.and_self, Bool.true_and, Bool.and_true, Bool.false_and, Bool.and_false, Bool.not_true, Bool.not_false, List.length_append, List.length_cons, List.length_nil, Int.toNat_natCast, ibT, ibF, inT, inF, wrN, gd, dr, Option.bind_some, Sum.elim_inl, Sum.elim_inr, byte_back, of_to, h15, hl']
      cases lexs s 0 with
      | inl l => simp [rL11, end2, end1]
      | inr x => obtain ⟨b, e⟩ := x; simp [rL11, end2, end1]
end Go.Proofs.YtiacnhhmkdkpmaaGreatDoorA.W
set_option linter.unusedVariables false
set_option linter.unusedSimpArgs false
set_option maxRecDepth 100000
namespace Go.Proofs.YtiacnhhmkdkpmaaGreatDoorA.W
open Go Go.Ae
end Go.Proofs.YtiacnhhmkdkpmaaGreatDoorA.W
set_option linter.unusedVariables false
set_option linter.unusedSimpArgs false
set_option maxRecDepth 100000
namespace Go.Proofs.YtiacnhhmkdkpmaaGreatDoorA.W
open Go Go.Ae
def asciiB (c : UInt8) : Bool := decide (c.toNat < 128)
theorem asc_k : ((List.range 256).all fun n => (fun c : UInt8 => !asciiB c || (decide (leadN c = 0) && decide (lenR (leadV c) = 1))) (UInt8.ofNat n)) = true := by kernel_rfl
theorem ch_asc {c : UInt8} (h : c.toNat < 128) (r : List UInt8) : ch (c :: r) = 1 := by
  have h1 : (!asciiB c || (decide (leadN c = 0) && decide (lenR (leadV c) = 1))) = true := all256 (fun c : UInt8 => !asciiB c || (decide (leadN c = 0) && decide (lenR (leadV c) = 1))) asc_k c
  have h2 : asciiB c = true := by simp [asciiB, h]
  simp only [h2, Bool.not_true, Bool.false_or, Bool.and_eq_true, decide_eq_true_eq] at h1
  simp [ch, h1.1, conts, h1.2]
theorem ut_asc : ∀ (n : Nat) (s : List UInt8) (p : Nat), (∀ c ∈ s, c.toNat < 128) → ut n s p = none
  | 0, _, _, _ => rfl
  | n + 1, [], p, _ => by simp [ut]
  | n + 1, c :: r, p, h => by
    have := ch_asc (h c (by simp)) r
    simp only [ut, this, List.drop_succ_cons, List.drop_zero]
    simp only [reduceCtorEq, if_false, Nat.one_ne_zero]
    exact ut_asc n r (p + 1) fun c hc => h c (by simp [hc])
end Go.Proofs.YtiacnhhmkdkpmaaGreatDoorA.W
set_option linter.unusedVariables false
set_option linter.unusedSimpArgs false
set_option maxRecDepth 100000
namespace Go.Proofs.YtiacnhhmkdkpmaaGreatDoorA.W
open Go Go.Ae
def stops (p : UInt8 → Bool) : List UInt8 → Prop
  | [] => True
  | b :: _ => p b = false
end Go.Proofs.YtiacnhhmkdkpmaaGreatDoorA.W
set_option linter.unusedVariables false
set_option linter.unusedSimpArgs false
set_option maxRecDepth 100000
namespace Go.Proofs.YtiacnhhmkdkpmaaGreatDoorA.W
open Go Go.Ae
inductive Val : List UInt8 → Prop
  | nil : Val []
  | cons (s : List UInt8) (h : ch s ≠ 0) (h2 : Val (s.drop (ch s))) : Val s
def contK (c : UInt8) : Bool := !contB c || decide (128 ≤ c.toNat)
theorem cont_k : ((List.range 256).all fun n => contK (UInt8.ofNat n)) = true := by kernel_rfl
theorem cont_hi {c : UInt8} (h : contB c = true) : 128 ≤ c.toNat := by
  have := all256 contK cont_k c
  simpa [contK, h] using this
theorem conts_hi : ∀ (n : Nat) (r : List UInt8) (v v' : Int), conts n r v = some v' → n ≤ r.length ∧ ∀ c ∈ r.take n, 128 ≤ c.toNat
  | 0, r, v, v', _ => ⟨by omega, by simp⟩
  | n + 1, [], v, v', h => by simp [conts] at h
  | n + 1, c :: r, v, v', h => by
    cases hc : contB c with
    | true =>
      simp only [conts, hc, cond_true] at h
      obtain ⟨h1, h2⟩ := conts_hi n r _ _ h
      refine ⟨by simp; omega, fun x hx => ?_⟩
      rw [List.take_succ_cons] at hx
      rcases List.mem_cons.1 hx with rfl | hx
      · exact cont_hi hc
      · exact h2 x hx
    | false => simp [conts, hc] at h
theorem conts_app : ∀ (n : Nat) (r x : List UInt8) (v : Int), n ≤ r.length → conts n (r ++ x) v = conts n r v
  | 0, r, x, v, _ => by cases r <;> rfl
  | n + 1, [], x, v, h => by simp at h
  | n + 1, c :: r, x, v, h => by
    simp only [List.cons_append, conts]
    cases contB c
    · rfl
    · exact conts_app n r x _ (by simpa using h)
theorem ch_some {c : UInt8} {r : List UInt8} (h : ch (c :: r) ≠ 0) : ∃ v, ¬ leadN c < 0 ∧ ¬ r.length < (leadN c).toNat ∧ conts (leadN c).toNat r (leadV c) = some v ∧ lenR v = leadN c + 1 ∧ ch (c :: r) = (leadN c).toNat + 1 := by
  simp only [ch] at h
  split at h
  · exact absurd rfl h
  · rename_i h1
    split at h
    · exact absurd rfl h
    · rename_i h2
      split at h
      · exact absurd rfl h
      · rename_i v hv
        split at h
        · rename_i h3
          exact ⟨v, h1, h2, hv, h3, by simp [ch, h1, h2, hv, h3]⟩
        · exact absurd rfl h
theorem ch_unapp {s x : List UInt8} (h : ch (s ++ x) ≠ 0) (hl : ch (s ++ x) ≤ s.length) : ch s = ch (s ++ x) := by
  cases s with
  | nil => simp at hl; exact absurd hl h
  | cons c r =>
    obtain ⟨v, h1, h2, h3, h4, h5⟩ := ch_some (r := r ++ x) h
    have h5' : ch (c :: r ++ x) = (leadN c).toNat + 1 := h5
    rw [h5'] at hl ⊢
    simp only [List.length_cons] at hl
    rw [conts_app _ _ _ _ (by omega)] at h3
    simp only [ch, if_neg h1, if_neg (show ¬ r.length < (leadN c).toNat by omega), h3, if_pos h4]
theorem Val.one {c : UInt8} (h : c.toNat < 128) : Val [c] := .cons _ (by rw [ch_asc h]; simp) (by rw [ch_asc h]; exact .nil)
theorem Val.split : ∀ (m : Nat) (a : List UInt8) (c : UInt8) (b : List UInt8), a.length ≤ m → c.toNat < 128 → Val (a ++ c :: b) → Val a ∧ Val b
  | m, [], c, b, _, hc, h => by
    refine ⟨.nil, ?_⟩
    cases h with
    | cons _ h h2 => simpa [ch_asc hc] using h2
  | 0, d :: a, c, b, hm, hc, h => by simp at hm
  | m + 1, d :: a, c, b, hm, hc, h => by
    cases h with
    | cons _ h0 h2 =>
      have hk : ch (d :: a ++ c :: b) ≤ (d :: a).length := by
        by_cases hd : d.toNat < 128
        · have : ch (d :: a ++ c :: b) = 1 := ch_asc hd _
          rw [this]; simp
        · obtain ⟨v, g1, g2, g3, g4, g5⟩ := ch_some (r := a ++ c :: b) h0
          have g5' : ch (d :: a ++ c :: b) = (leadN d).toNat + 1 := g5
          rw [g5', List.length_cons]
          obtain ⟨e1, e2⟩ := conts_hi _ _ _ _ g3
          rcases Nat.lt_or_ge a.length (leadN d).toNat with hlt | hge
          · exfalso
            have : c ∈ (a ++ c :: b).take (leadN d).toNat := by
              rw [List.take_append]
              obtain ⟨j, hj⟩ : ∃ j, (leadN d).toNat - a.length = j + 1 := ⟨(leadN d).toNat - a.length - 1, by omega⟩
              rw [hj, List.take_succ_cons]; simp
            have := e2 c this
            omega
          · omega
      have hsame := ch_unapp (s := d :: a) (x := c :: b) h0 hk
      have h0' : ch (d :: a) ≠ 0 := by rw [hsame]; exact h0
      rw [List.drop_append, show ch (d :: a ++ c :: b) - (d :: a).length = 0 by omega, List.drop_zero, ← hsame] at h2
      obtain ⟨i1, i2⟩ := Val.split m ((d :: a).drop (ch (d :: a))) c b (by simp at hm ⊢; omega) hc h2
      exact ⟨.cons _ h0' i1, i2⟩
theorem Val.cut {a b : List UInt8} {c : UInt8} (hc : c.toNat < 128) (h : Val (a ++ c :: b)) : Val a ∧ Val b := Val.split _ a c b (Nat.le_refl _) hc h
end Go.Proofs.YtiacnhhmkdkpmaaGreatDoorA.W
set_option linter.unusedVariables false
set_option linter.unusedSimpArgs false
set_option maxRecDepth 100000
namespace Go.Proofs.YtiacnhhmkdkpmaaGreatDoorA.W
open Go Go.Ae
def kd (d : Nat) (l : List Tok) : Int := match l[d]? with | some t => t.1 | none => -1
theorem gdk {pre l : List Tok} {p d : Nat} (hp : pre.length = p) {x : Tok} : (pre ++ l).getD (p + d) x = l.getD d x := by
  subst hp
  simp [List.getD_eq_getElem?_getD, List.getElem?_append_right]
theorem c146 (d : Nat) (pre l : List Tok) (p : Nat) (a b : List UInt8) (hp : pre.length = p) (hb : p + d + l.length ≤ 1000000000) :
    C146 ((d : Int), pre ++ l, (p : Int), a, b, ()) = some (kd d l, pre ++ l, (p : Int), a, b, ()) := by
  show F146 C146_c0 _ = _
  have hw : IntKind.i64.wrap ((p : Int) + (d : Int)) = ((p + d : Nat) : Int) := by rw [wr (by omega) (by omega)]; simp
  have hlen : (pre ++ l).length = p + l.length := by simp [hp]
  simp only [F146, hw, hlen]
  by_cases h : l.length ≤ d
  · rw [decide_eq_true (by omega)]
    simp only [cond_true, kd, List.getElem?_eq_none h]
  · rw [decide_eq_false (by omega)]
    simp only [cond_false, C146_c0, F146_c0, hw, hlen]
    rw [decide_eq_true (by omega), decide_eq_true (by omega)]
    simp only [Bool.and_self, cond_true, Int.toNat_natCast, Option.bind_some]
    rw [gdk hp]
    simp only [kd, List.getElem?_eq_getElem (show d < l.length by omega), getD_lt (show d < l.length by omega)]
def skn : List Tok → Nat
  | [] => 0
  | t :: r => bif t.1 == 4 || t.1 == 3 then skn r + 1 else 0
theorem skn_le : ∀ l, skn l ≤ l.length
  | [] => Nat.le_refl _
  | t :: r => by have := skn_le r; simp only [skn]; cases (t.1 == 4 || t.1 == 3) <;> simp; omega
theorem kd0_cons (t : Tok) (r : List Tok) : kd 0 (t :: r) = t.1 := rfl
theorem l109 (a b : List UInt8) : ∀ (l pre : List Tok) (p n : Nat), pre.length = p → l.length < n → p + l.length ≤ 100000000 →
    loopN (F109_l0 C146) n (pre ++ l, (p : Int), a, b, ()) = some (pre ++ l, ((p + skn l : Nat) : Int), a, b, ())
  | [], pre, p, n + 1, hp, hn, hb => by
    have h := c146 0 pre [] p a b hp (by simp at hb ⊢; omega)
    refine loopN_inr ?_
    simp only [F109_l0, Int.natCast_zero] at h ⊢
    simp only [h, Option.bind_some, show kd 0 ([] : List Tok) = -1 from rfl, ibF (show (-1 : Int) ≠ 4 by decide), ibF (show (-1 : Int) ≠ 3 by decide), cond_false, skn, Nat.add_zero]
  | t :: l, pre, p, n + 1, hp, hn, hb => by
    simp only [List.length_cons] at hn hb
    have h := c146 0 pre (t :: l) p a b hp (by simp only [List.length_cons]; omega)
    simp only [Int.natCast_zero, kd0_cons] at h
    have hw := wrN p (by omega)
    by_cases h4 : t.1 = 4
    · rw [loopN_inl (v' := (pre ++ t :: l, ((p + 1 : Nat) : Int), a, b, ())) (by simp only [F109_l0, h, Option.bind_some, ibT h4, cond_true, hw])]
      rw [shift, l109 a b l (pre ++ [t]) (p + 1) n (by simp [hp]) (by omega) (by omega)]
      simp only [skn, ibT h4, Bool.true_or, cond_true, Nat.add_assoc, Nat.add_comm 1]
    · by_cases h3 : t.1 = 3
      · rw [loopN_inl (v' := (pre ++ t :: l, ((p + 1 : Nat) : Int), a, b, ())) (by simp only [F109_l0, h, Option.bind_some, ibF h4, ibT h3, cond_true, cond_false, hw])]
        rw [shift, l109 a b l (pre ++ [t]) (p + 1) n (by simp [hp]) (by omega) (by omega)]
        simp only [skn, ibT h3, Bool.or_true, cond_true, Nat.add_assoc, Nat.add_comm 1]
      · refine loopN_inr ?_
        simp only [F109_l0, h, Option.bind_some, ibF h4, ibF h3, cond_false, skn, Bool.or_self, Nat.add_zero]
theorem c109 (pre l : List Tok) (p : Nat) (a b : List UInt8) (hp : pre.length = p) (hb : p + l.length ≤ 100000000) :
    C109 (pre ++ l, (p : Int), a, b, ()) = some (true, pre ++ l, ((p + skn l : Nat) : Int), a, b, ()) := by
  show F109 C146 C109_l0 _ = _
  have hl : C109_l0 (pre ++ l, (p : Int), a, b, ()) = _ := l109 a b l pre p big hp (by unfold big; omega) hb
  simp only [F109, hl, Option.bind_some]
def sgn (s : List UInt8) : List Tok → Bool
  | t :: _ => t.1 == 2 && t.2.1 == s
  | [] => false
theorem c148 (s : List UInt8) (pre l : List Tok) (p : Nat) (a b : List UInt8) (hp : pre.length = p) (hb : p + l.length ≤ 100000000) :
    C148 (s, pre ++ l, (p : Int), a, b, ()) = some (sgn s l, pre ++ l, (p : Int), a, b, ()) := by
  show F148 C146 _ = _
  have h := c146 0 pre l p a b hp (by omega)
  simp only [Int.natCast_zero] at h
  have hlen : (pre ++ l).length = p + l.length := by simp [hp]
  cases l with
  | nil => simp only [F148, h, Option.bind_some, show kd 0 ([] : List Tok) = -1 from rfl, ibF (show (-1 : Int) ≠ 2 by decide), cond_false, sgn]
  | cons t r =>
    simp only [List.length_cons] at hlen hb
    simp only [F148, h, Option.bind_some, kd0_cons]
    by_cases h2 : t.1 = 2
    · simp only [ibT h2, cond_true, hlen, sgn, Bool.true_and]
      rw [decide_eq_true (by omega), decide_eq_true (by omega)]
      simp only [Bool.and_self, cond_true, Int.toNat_natCast, gd hp]
    · simp only [ibF h2, cond_false, sgn, Bool.false_and]
def szT : List Tok → Nat
  | [] => 0
  | t :: r => t.2.1.length + szT r
def dwn (acc : List UInt8) : List Tok → List UInt8 × Nat
  | t :: u :: r => bif (t.1 == 2 && t.2.1 == [46]) && u.1 == 0 then ((dwn (acc ++ ([46] ++ u.2.1)) r).1, (dwn (acc ++ ([46] ++ u.2.1)) r).2 + 2) else (acc, 0)
  | _ => (acc, 0)
theorem l147 (a b : List UInt8) : ∀ (m : Nat) (l pre : List Tok) (acc : List UInt8) (p n : Nat), l.length ≤ m → pre.length = p → l.length < n → p + l.length ≤ 100000000 → acc.length + szT l + l.length ≤ 100000000 →
    loopN (F147_l0 C146 C148) n (acc, pre ++ l, (p : Int), a, b, ()) = some ((dwn acc l).1, pre ++ l, ((p + (dwn acc l).2 : Nat) : Int), a, b, ())
  | m, l, pre, acc, p, n + 1, hm, hp, hn, hb, hz => by
    have h := c148 [46] pre l p a b hp hb
    have hlen : (pre ++ l).length = p + l.length := by simp [hp]
    have hw := wrN p (by omega)
    have h1 := c146 1 pre l p a b hp (by omega)
    simp only [Int.natCast_one] at h1
    match l, hm, hn, hb, hz, h, hlen, h1 with
    | [], hm, hn, hb, hz, h, hlen, h1 =>
      refine loopN_inr ?_
      simp only [F147_l0, h, Option.bind_some, sgn, cond_false, dwn, Nat.add_zero]
    | [t], hm, hn, hb, hz, h, hlen, h1 =>
      refine loopN_inr ?_
      simp only [F147_l0, h, Option.bind_some, sgn]
      cases hs : (t.1 == 2 && t.2.1 == [46]) with
      | false => simp only [cond_false, dwn, Nat.add_zero]
      | true => simp only [cond_true, h1, Option.bind_some, show kd 1 [t] = -1 from rfl, ibF (show (-1 : Int) ≠ 0 by decide), cond_false, dwn, Nat.add_zero]
    | t :: u :: r, hm, hn, hb, hz, h, hlen, h1 =>
      simp only [List.length_cons, szT] at hm hn hb hz hlen
      cases hs : (t.1 == 2 && t.2.1 == [46]) with
      | false =>
        refine loopN_inr ?_
        simp only [F147_l0, h, Option.bind_some, sgn, hs, cond_false, dwn, Bool.false_and, Nat.add_zero]
      | true =>
        by_cases hu : u.1 = 0
        · have hgd : (pre ++ t :: u :: r).getD (p + 1) ((0, ([], 0)) : Tok) = u := by rw [gdk hp]; rfl
          rw [loopN_inl (v' := (acc ++ ([46] ++ u.2.1), pre ++ t :: u :: r, ((p + 2 : Nat) : Int), a, b, ())) ?_]
          · rw [show pre ++ t :: u :: r = (pre ++ [t, u]) ++ r by simp]
            rw [l147 a b (m - 2) r (pre ++ [t, u]) _ (p + 2) n (by omega) (by simp [hp]) (by omega) (by omega) (by simp only [List.length_append, List.length_cons, List.length_nil]; omega)]
            simp only [dwn, hs, ibT hu, Bool.and_self, cond_true]
            rw [show p + 2 + (dwn (acc ++ ([46] ++ u.2.1)) r).2 = p + ((dwn (acc ++ ([46] ++ u.2.1)) r).2 + 2) by omega]
          · simp only [F147_l0, h, Option.bind_some, sgn, hs, cond_true, h1, show kd 1 (t :: u :: r) = u.1 from rfl, ibT hu, hw, hlen, Int.toNat_natCast, hgd]
            rw [decide_eq_true (by omega), decide_eq_true (by omega), decide_eq_true (by simp only [List.length_cons, List.length_nil]; omega), decide_eq_true (by simp only [List.length_append, List.length_cons, List.length_nil]; omega)]
            simp only [Bool.and_self, cond_true]
            rw [show IntKind.i64.wrap ((p : Int) + 2) = ((p + 2 : Nat) : Int) by rw [wr (by omega) (by omega)]; simp]
        · refine loopN_inr ?_
          simp only [F147_l0, h, Option.bind_some, sgn, hs, cond_true, h1, show kd 1 (t :: u :: r) = u.1 from rfl, ibF hu, cond_false, dwn, Bool.and_false, Nat.add_zero]
def dot : List Tok → List UInt8 × Bool × Nat
  | t :: r => bif t.1 == 0 then ((dwn t.2.1 r).1, true, (dwn t.2.1 r).2 + 1) else ([], false, 0)
  | [] => ([], false, 0)
theorem c147 (pre l : List Tok) (p : Nat) (a b : List UInt8) (hp : pre.length = p) (hb : p + l.length ≤ 100000000) (hz : szT l + l.length ≤ 100000000) :
    C147 (pre ++ l, (p : Int), a, b, ()) = some ((dot l).1, (dot l).2.1, pre ++ l, ((p + (dot l).2.2 : Nat) : Int), a, b, ()) := by
  show F147 C146 C148 C147_c0 _ = _
  have h := c146 0 pre l p a b hp (by omega)
  simp only [Int.natCast_zero] at h
  have hlen : (pre ++ l).length = p + l.length := by simp [hp]
  have hw := wrN p (by omega)
  cases l with
  | nil => simp only [F147, h, Option.bind_some, show kd 0 ([] : List Tok) = -1 from rfl, inT (show (-1 : Int) ≠ 0 by decide), cond_true, dot, Nat.add_zero]
  | cons t r =>
    simp only [List.length_cons, szT] at hlen hb hz
    simp only [F147, h, Option.bind_some, kd0_cons]
    by_cases h0 : t.1 = 0
    · have hl : C147_l0 (t.2.1, (pre ++ [t]) ++ r, ((p + 1 : Nat) : Int), a, b, ()) = _ := l147 a b r.length r (pre ++ [t]) t.2.1 (p + 1) big (Nat.le_refl _) (by simp [hp]) (by unfold big; omega) (by omega) (by omega)
      rw [← shift] at hl
      simp only [inF h0, cond_false, hlen, Int.toNat_natCast, gd hp]
      rw [decide_eq_true (by omega), decide_eq_true (by omega)]
      simp only [Bool.and_self, cond_true, C147_c0, F147_c0, hw, hl, Option.bind_some, dot, ibT h0]
      rw [show p + 1 + (dwn t.2.1 r).2 = p + ((dwn t.2.1 r).2 + 1) by omega]
    · simp only [inT h0, cond_true, dot, ibF h0, cond_false, Nat.add_zero]
def loc : List Tok → Bool × List UInt8 × Nat
  | t :: r => bif t.1 == 1 then (true, t.2.1, 1) else ((dot (t :: r)).2.1, (dot (t :: r)).1, (dot (t :: r)).2.2)
  | [] => (false, [], 0)
theorem c110 (pre l : List Tok) (p : Nat) (a b : List UInt8) (hp : pre.length = p) (hb : p + l.length ≤ 100000000) (hz : szT l + l.length ≤ 100000000) :
    C110 (pre ++ l, (p : Int), a, b, ()) = some ((loc l).1, pre ++ l, ((p + (loc l).2.2 : Nat) : Int), (loc l).2.1, b, ()) := by
  show F110 C146 C147 C110_c0 _ = _
  have h := c146 0 pre l p a b hp (by omega)
  have hd := c147 pre l p a b hp hb hz
  simp only [Int.natCast_zero] at h
  have hlen : (pre ++ l).length = p + l.length := by simp [hp]
  have hw := wrN p (by omega)
  cases l with
  | nil => simp only [F110, h, Option.bind_some, show kd 0 ([] : List Tok) = -1 from rfl, ibF (show (-1 : Int) ≠ 1 by decide), cond_false, hd, dot, loc, Nat.add_zero]
  | cons t r =>
    simp only [List.length_cons] at hlen hb
    simp only [F110, h, Option.bind_some, kd0_cons]
    by_cases h1 : t.1 = 1
    · simp only [ibT h1, cond_true, hlen, Int.toNat_natCast, gd hp]
      rw [decide_eq_true (by omega), decide_eq_true (by omega)]
      simp only [Bool.and_self, cond_true, C110_c0, F110_c0, hw, Option.bind_some, loc, ibT h1]
    · simp only [ibF h1, cond_false, hd, Option.bind_some, loc]
theorem c111 (pre l : List Tok) (p : Nat) (a b : List UInt8) (hp : pre.length = p) (hb : p + l.length ≤ 100000000) :
    C111 (pre ++ l, (p : Int), a, b, ()) = some (sgn [64] l, pre ++ l, ((p + 1 : Nat) : Int), a, b, ()) := by
  show F111 C148 _ = _
  simp only [F111, c148 [64] pre l p a b hp hb, Option.bind_some, wrN p (show p ≤ 9223372036854775806 by omega)]
def dom : List Tok → Bool × List UInt8 × Nat
  | t :: r => bif t.1 == 5 then (true, src t.1 t.2.1, 1) else ((dot (t :: r)).2.1, (dot (t :: r)).1, (dot (t :: r)).2.2)
  | [] => (false, [], 0)
theorem c112 (pre l : List Tok) (p : Nat) (a b : List UInt8) (hp : pre.length = p) (hb : p + l.length ≤ 100000000) (hz : szT l + l.length ≤ 3000) :
    C112 (pre ++ l, (p : Int), a, b, ()) = some ((dom l).1, pre ++ l, ((p + (dom l).2.2 : Nat) : Int), a, (dom l).2.1, ()) := by
  show F112 C146 C147 C89 C112_c0 _ = _
  have h := c146 0 pre l p a b hp (by omega)
  have hd := c147 pre l p a b hp hb (by omega)
  simp only [Int.natCast_zero] at h
  have hlen : (pre ++ l).length = p + l.length := by simp [hp]
  have hw := wrN p (by omega)
  cases l with
  | nil => simp only [F112, h, Option.bind_some, show kd 0 ([] : List Tok) = -1 from rfl, ibF (show (-1 : Int) ≠ 5 by decide), cond_false, hd, dot, dom, Nat.add_zero]
  | cons t r =>
    simp only [List.length_cons, szT] at hlen hb hz
    simp only [F112, h, Option.bind_some, kd0_cons]
    by_cases h1 : t.1 = 5
    · simp only [ibT h1, cond_true, hlen, Int.toNat_natCast, gd hp]
      rw [decide_eq_true (by omega), decide_eq_true (by omega), c9 t.1 t.2.1 t.2.2 (by omega)]
      simp only [Bool.and_self, cond_true, C112_c0, F112_c0, hw, Option.bind_some, dom, ibT h1]
    · simp only [ibF h1, cond_false, hd, Option.bind_some, dom]
theorem szT_drop : ∀ (p : Nat) (l : List Tok), szT (l.drop p) ≤ szT l
  | 0, l => Nat.le_refl _
  | p + 1, [] => Nat.le_refl _
  | p + 1, t :: r => Nat.le_trans (szT_drop p r) (by simp only [szT]; omega)
theorem o109 (l : List Tok) (p : Nat) (a b : List UInt8) (hp : p ≤ l.length) (hb : l.length ≤ 3000) :
    C109 (l, (p : Int), a, b, ()) = some (true, l, ((p + skn (l.drop p) : Nat) : Int), a, b, ()) := by
  have h := c109 (l.take p) (l.drop p) p a b (by simp; omega) (by simp; omega)
  rwa [List.take_append_drop] at h
theorem o110 (l : List Tok) (p : Nat) (a b : List UInt8) (hp : p ≤ l.length) (hb : szT l + l.length ≤ 3000) :
    C110 (l, (p : Int), a, b, ()) = some ((loc (l.drop p)).1, l, ((p + (loc (l.drop p)).2.2 : Nat) : Int), (loc (l.drop p)).2.1, b, ()) := by
  have hs := szT_drop p l
  have h := c110 (l.take p) (l.drop p) p a b (by simp; omega) (by simp; omega) (by simp; omega)
  rwa [List.take_append_drop] at h
theorem o111 (l : List Tok) (p : Nat) (a b : List UInt8) (hp : p ≤ l.length) (hb : l.length ≤ 3000) :
    C111 (l, (p : Int), a, b, ()) = some (sgn [64] (l.drop p), l, ((p + 1 : Nat) : Int), a, b, ()) := by
  have h := c111 (l.take p) (l.drop p) p a b (by simp; omega) (by simp; omega)
  rwa [List.take_append_drop] at h
theorem o112 (l : List Tok) (p : Nat) (a b : List UInt8) (hp : p ≤ l.length) (hb : szT l + l.length ≤ 3000) :
    C112 (l, (p : Int), a, b, ()) = some ((dom (l.drop p)).1, l, ((p + (dom (l.drop p)).2.2 : Nat) : Int), a, (dom (l.drop p)).2.1, ()) := by
  have hs := szT_drop p l
  have h := c112 (l.take p) (l.drop p) p a b (by simp; omega) (by simp; omega) (by simp; omega)
  rwa [List.take_append_drop] at h
theorem dwn_le : ∀ (m : Nat) (l : List Tok) (acc : List UInt8), l.length ≤ m → (dwn acc l).2 ≤ l.length
  | _, [], _, _ => Nat.le_refl _
  | _, [_], _, _ => Nat.zero_le _
  | 0, _ :: _ :: _, _, h => by simp at h
  | m + 1, t :: u :: r, acc, h => by
    have := dwn_le m r (acc ++ ([46] ++ u.2.1)) (by simp at h; omega)
    simp only [dwn]
    cases ((t.1 == 2 && t.2.1 == [46]) && u.1 == 0) with
    | true => simp only [cond_true, List.length_cons]; omega
    | false => simp only [cond_false]; omega
theorem dot_le (l : List Tok) : (dot l).2.2 ≤ l.length := by
  cases l with
  | nil => exact Nat.le_refl _
  | cons t r =>
    have := dwn_le r.length r t.2.1 (Nat.le_refl _)
    simp only [dot]
    cases (t.1 == 0) with
    | true => simp only [cond_true, List.length_cons]; omega
    | false => simp only [cond_false]; omega
theorem loc_le (l : List Tok) : (loc l).2.2 ≤ l.length := by
  cases l with
  | nil => exact Nat.le_refl _
  | cons t r =>
    have := dot_le (t :: r)
    simp only [loc]
    cases (t.1 == 1) with
    | true => simp
    | false => simpa using this
theorem dom_le (l : List Tok) : (dom l).2.2 ≤ l.length := by
  cases l with
  | nil => exact Nat.le_refl _
  | cons t r =>
    have := dot_le (t :: r)
    simp only [dom]
    cases (t.1 == 5) with
    | true => simp
    | false => simpa using this
def mt (l : List Tok) : Option (List UInt8 × List UInt8 × Nat) :=
  let n1 := skn l
  let n2 := n1 + (loc (l.drop n1)).2.2
  let n3 := n2 + skn (l.drop n2)
  let n5 := n3 + 1 + skn (l.drop (n3 + 1))
  let n6 := n5 + (dom (l.drop n5)).2.2
  bif !(loc (l.drop n1)).1 then none else bif !sgn [64] (l.drop n3) then none else bif !(dom (l.drop n5)).1 then none else
  some ((loc (l.drop n1)).2.1, (dom (l.drop n5)).2.1, n6 + skn (l.drop n6))
theorem sgn_pos {s : List UInt8} {l : List Tok} (h : sgn s l = true) : 1 ≤ l.length := by
  cases l with
  | nil => cases h
  | cons t r => simp
theorem c71 (l : List Tok) (hb : szT l + l.length ≤ 3000) :
    C71 (l, ()) = some (match mt l with | some r => (r.1, r.2.1, (r.2.2 : Int), true, ()) | none => ([], [], 0, false, ())) := by
  show F71 C109 C110 C111 C112 _ = _
  have h1 := o109 l 0 [] [] (Nat.zero_le _) (by omega)
  simp only [Int.natCast_zero, List.drop_zero, Nat.zero_add] at h1
  have b1 := skn_le l
  have h2 := o110 l (skn l) [] [] b1 hb
  have b2 := loc_le (l.drop (skn l))
  rw [List.length_drop] at b2
  simp only [F71, h1, h2, Option.bind_some, Bool.not_true, cond_false, mt]
  cases hl : (loc (l.drop (skn l))).1 with
  | false => simp only [Bool.not_false, cond_true]
  | true =>
    simp only [Bool.not_true, cond_false]
    generalize hn2 : skn l + (loc (l.drop (skn l))).2.2 = n2
    have b3 : n2 ≤ l.length := by omega
    generalize (loc (l.drop (skn l))).2.1 = A
    rw [o109 l n2 A [] b3 (by omega)]
    have b4 := skn_le (l.drop n2)
    rw [List.length_drop] at b4
    simp only [Option.bind_some, Bool.not_true, cond_false]
    generalize hn3 : n2 + skn (l.drop n2) = n3
    rw [o111 l n3 A [] (by omega) (by omega)]
    simp only [Option.bind_some]
    cases hs : sgn [64] (l.drop n3) with
    | false => simp only [Bool.not_false, cond_true]
    | true =>
      have b5 := sgn_pos hs
      rw [List.length_drop] at b5
      simp only [Bool.not_true, cond_false]
      rw [o109 l (n3 + 1) A [] (by omega) (by omega)]
      have b6 := skn_le (l.drop (n3 + 1))
      rw [List.length_drop] at b6
      simp only [Option.bind_some, Bool.not_true, cond_false]
      generalize hn5 : n3 + 1 + skn (l.drop (n3 + 1)) = n5
      rw [o112 l n5 A [] (by omega) hb]
      have b7 := dom_le (l.drop n5)
      rw [List.length_drop] at b7
      simp only [Option.bind_some]
      cases hd : (dom (l.drop n5)).1 with
      | false => simp only [Bool.not_false, cond_true]
      | true =>
        simp only [Bool.not_true, cond_false]
        rw [o109 l _ A _ (by omega) (by omega)]
        simp only [Option.bind_some, Bool.not_true, cond_false]
end Go.Proofs.YtiacnhhmkdkpmaaGreatDoorA.W
set_option linter.unusedVariables false
set_option linter.unusedSimpArgs false
set_option maxRecDepth 100000
namespace Go.Proofs.YtiacnhhmkdkpmaaGreatDoorA.W
open Go Go.Ae
theorem mt_le (l : List Tok) {r : List UInt8 × List UInt8 × Nat} (h : mt l = some r) : r.2.2 ≤ l.length := by
  unfold mt at h
  simp only at h
  have b1 := skn_le l
  have b2 := loc_le (l.drop (skn l))
  rw [List.length_drop] at b2
  cases hl : (loc (l.drop (skn l))).1 with
  | false => simp only [hl, Bool.not_false, cond_true] at h; cases h
  | true =>
    simp only [hl, Bool.not_true, cond_false] at h
    generalize hn2 : skn l + (loc (l.drop (skn l))).2.2 = n2 at h
    have b4 := skn_le (l.drop n2)
    rw [List.length_drop] at b4
    generalize hn3 : n2 + skn (l.drop n2) = n3 at h
    cases hs : sgn [64] (l.drop n3) with
    | false => simp only [hs, Bool.not_false, cond_true] at h; cases h
    | true =>
      simp only [hs, Bool.not_true, cond_false] at h
      have b5 := sgn_pos hs
      rw [List.length_drop] at b5
      have b6 := skn_le (l.drop (n3 + 1))
      rw [List.length_drop] at b6
      generalize hn5 : n3 + 1 + skn (l.drop (n3 + 1)) = n5 at h
      have b7 := dom_le (l.drop n5)
      rw [List.length_drop] at b7
      cases hd : (dom (l.drop n5)).1 with
      | false => simp only [hd, Bool.not_false, cond_true] at h; cases h
      | true =>
        simp only [hd, Bool.not_true, cond_false] at h
        cases h
        have b8 := skn_le (l.drop (n5 + (dom (l.drop n5)).2.2))
        rw [List.length_drop] at b8
        simp only
        omega
theorem c143 (l : List Tok) (p : Nat) (hp : p ≤ l.length) (hb : szT l + l.length ≤ 3000) :
    C143 (l, (p : Int), ()) = some (match mt (l.drop p) with | some r => (r.1, r.2.1, true, l, ((p + r.2.2 : Nat) : Int), ()) | none => ([], [], false, l, (p : Int), ())) := by
  show F143 C71 C143_c0 _ = _
  have hs := szT_drop p l
  have h := c71 (l.drop p) (by rw [List.length_drop]; omega)
  simp only [F143, Int.toNat_natCast, h, Option.bind_some]
  rw [decide_eq_true (by omega), decide_eq_true (by omega)]
  simp only [Bool.and_self, cond_true]
  cases hm : mt (l.drop p) with
  | none => simp only [C143_c0, F143_c0, Option.bind_some]; rw [show IntKind.i64.wrap ((p : Int) + 0) = (p : Int) by rw [wr (by omega) (by omega)]; simp]
  | some r =>
    have hr := mt_le _ hm
    rw [List.length_drop] at hr
    simp only [C143_c0, F143_c0, Option.bind_some]
    rw [show IntKind.i64.wrap ((p : Int) + (r.2.2 : Int)) = ((p + r.2.2 : Nat) : Int) by rw [wr (by omega) (by omega)]; simp]
theorem l175 (x : Int) : ∀ (r pre : List Int) (p n N : Nat), pre.length = p → N = p + r.length → r.length < n → N ≤ 100000 →
    (loopN F175_l0 n (pre ++ r, x, (N : Int), (p : Int), ())).map (fun y => decide ((Sum.elim (fun _ => (-1 : Int)) (fun v => v.1) y) ≥ 0)) = some (r.any fun y => x == y)
  | [], pre, p, n + 1, N, hp, hN, hn, hb => by
    rw [loopN_inr (show F175_l0 (pre ++ [], x, (N : Int), (p : Int), ()) = some (.inr (.inl ())) by
      simp only [F175_l0]; rw [decide_eq_false (by simp at hN; omega)]; rfl)]
    rfl
  | y :: r, pre, p, n + 1, N, hp, hN, hn, hb => by
    simp only [List.length_cons] at hN hn
    have hlen : (pre ++ y :: r).length = N := by simp [hp]; omega
    by_cases h : x = y
    · rw [loopN_inr (show F175_l0 (pre ++ y :: r, x, (N : Int), (p : Int), ()) = some (.inr (.inr ((p : Int), ()))) by
        simp only [F175_l0, hlen, Int.toNat_natCast, gd hp]
        rw [decide_eq_true (by omega), decide_eq_true (by omega), ibT h]; rfl)]
      simp [h]
    · rw [loopN_inl (v' := (pre ++ y :: r, x, (N : Int), ((p + 1 : Nat) : Int), ())) (by
        simp only [F175_l0, hlen, Int.toNat_natCast, gd hp]
        rw [decide_eq_true (by omega), decide_eq_true (by omega), ibF h, wrN p (by omega)]; rfl)]
      rw [shift, l175 x r (pre ++ [y]) (p + 1) n N (by simp [hp]) (by omega) (by omega) hb]
      simp [h]
theorem c142 (ks : List Int) (x : Int) (hb : ks.length ≤ 100000) : C142 (ks, x, ()) = some (ks.any fun y => x == y, ()) := by
  show F142 C175 _ = _
  have h := l175 x ks [] 0 big ks.length rfl (by simp) (by unfold big; omega) hb
  have h' : (C175_l0 (ks, x, (ks.length : Int), 0, ())).map (fun y => decide ((Sum.elim (fun _ => (-1 : Int)) (fun v => v.1) y) ≥ 0)) = some (ks.any fun y => x == y) := h
  obtain ⟨y, hy, hd⟩ := Option.map_eq_some_iff.1 h'
  have h175 : C175 (ks, x, ()) = some (Sum.elim (fun _ => (-1 : Int)) (fun v => v.1) y, ()) := by
    show F175 C175_l0 _ = _
    simp only [F175, hy, Option.bind_some]
    cases y <;> rfl
  simp only [F142, h175, Option.bind_some, hd]
def isK (ks : List Int) (l : List Tok) (p : Nat) : Bool := match l[p]? with | some t => ks.any fun y => t.1 == y | none => false
theorem c106 (ks : List Int) (l : List Tok) (p : Nat) (hk : ks.length ≤ 100000) : C106 (ks, l, (p : Int), ()) = some (isK ks l p, l, (p : Int), ()) := by
  show F106 C142 _ = _
  simp only [F106]
  by_cases h : p < l.length
  · rw [decide_eq_true (by omega), decide_eq_true (by omega)]
    simp only [Bool.and_self, cond_true, Int.toNat_natCast, getD_lt h, c142 ks _ hk, Option.bind_some, isK, List.getElem?_eq_getElem h]
  · rw [decide_eq_false (by omega)]
    simp only [cond_false, isK, List.getElem?_eq_none (show l.length ≤ p by omega)]
def isS (s : List UInt8) (l : List Tok) (p : Nat) : Bool := match l[p]? with | some t => t.1 == 2 && t.2.1 == s | none => false
theorem c68 (s : List UInt8) (l : List Tok) (p : Nat) (hb : p ≤ 100000) : C68 (s, l, (p : Int), ()) = some (isS s l p, l, ((p + (bif isS s l p then 1 else 0) : Nat) : Int), ()) := by
  show F68 C106 C68_c0 _ = _
  simp only [F68, c106 [2] l p (by simp), Option.bind_some, isS]
  cases hp : l[p]? with
  | none => simp only [isK, hp, Bool.not_false, cond_true, cond_false, Nat.add_zero]
  | some t =>
    obtain ⟨hlt, ht⟩ := List.getElem?_eq_some_iff.1 hp
    by_cases h2 : t.1 = 2
    · have hk : isK [2] l p = true := by simp [isK, hp, h2]
      simp only [hk, Bool.not_true, cond_false, Int.toNat_natCast, getD_lt hlt, ht, ibT h2, Bool.true_and]
      rw [decide_eq_true (by omega), decide_eq_true (by omega)]
      simp only [Bool.and_self, cond_true]
      cases (t.2.1 == s) with
      | false => simp only [Bool.not_false, cond_true, cond_false, Nat.add_zero]
      | true => simp only [Bool.not_true, cond_false, cond_true, C68_c0, F68_c0, wrN p (by omega), Option.bind_some]
    · have hk : isK [2] l p = false := by simp [isK, hp, h2]
      simp only [hk, Bool.not_false, cond_true, ibF h2, Bool.false_and, cond_false, Nat.add_zero]
theorem l145 (l : List Tok) : ∀ (m p n : Nat), l.length - p ≤ m → l.length - p < n → p ≤ 100000 → l.length ≤ 100000 → 
    loopN (F145_l0 C106) n (l, (p : Int), ()) = some (l, ((p + skn (l.drop p) : Nat) : Int), ())
  | m, p, n + 1, hm, hn, hb, hl => by
    have h := c106 [4, 3] l p (by simp)
    by_cases hp : p < l.length
    · rw [List.drop_eq_getElem_cons hp]
      have hk : isK [4, 3] l p = (l[p].1 == 4 || l[p].1 == 3) := by simp [isK, List.getElem?_eq_getElem hp]
      cases hc : (l[p].1 == 4 || l[p].1 == 3) with
      | true =>
        rw [loopN_inl (v' := (l, ((p + 1 : Nat) : Int), ())) (by simp only [F145_l0, h, Option.bind_some, hk, hc, cond_true, wrN p (by omega)])]
        rw [l145 l (m - 1) (p + 1) n (by omega) (by omega) (by omega) hl]
        simp only [skn, hc, cond_true, Nat.add_assoc, Nat.add_comm 1]
      | false =>
        refine loopN_inr ?_
        simp only [F145_l0, h, Option.bind_some, hk, hc, cond_false, skn, Nat.add_zero]
    · refine loopN_inr ?_
      have hk : isK [4, 3] l p = false := by simp [isK, List.getElem?_eq_none (show l.length ≤ p by omega)]
      simp only [F145_l0, h, Option.bind_some, hk, cond_false, List.drop_of_length_le (show l.length ≤ p by omega), skn, Nat.add_zero]
theorem c145 (l : List Tok) (p : Nat) (hp : p ≤ 100000) (hl : l.length ≤ 100000) : C145 (l, (p : Int), ()) = some (l, ((p + skn (l.drop p) : Nat) : Int), ()) := by
  show F145 C106 C145_l0 _ = _
  have h : C145_l0 (l, (p : Int), ()) = _ := l145 l l.length p big (by omega) (by unfold big; omega) hp hl
  simp only [F145, h, Option.bind_some]
def phw : Nat → List Tok → List (List UInt8) × Nat
  | 0, _ => ([], 0)
  | m + 1, l => match l with
    | [] => ([], 0)
    | t :: r => bif t.1 == 0 || t.1 == 1 then (t.2.1 :: (phw m (r.drop (skn r))).1, 1 + skn r + (phw m (r.drop (skn r))).2) else ([], 0)
theorem l144 (l : List Tok) (hl : l.length ≤ 3000) : ∀ (m p n : Nat) (ws : List (List UInt8)), l.length - p ≤ m → m < n → p ≤ l.length → ws.length + m ≤ 100000 →
    loopN (F144_l0 C106 C145 C73 C144_c0) n (l, (p : Int), ws, ()) = some (l, ((p + (phw m (l.drop p)).2 : Nat) : Int), ws ++ (phw m (l.drop p)).1, ())
  | m, p, n + 1, ws, hm, hn, hp, hw => by
    have h := c106 [0, 1] l p (by simp)
    by_cases hlt : p < l.length
    · obtain ⟨k, rfl⟩ : ∃ k, m = k + 1 := ⟨m - 1, by omega⟩
      rw [List.drop_eq_getElem_cons hlt]
      have hk : isK [0, 1] l p = (l[p].1 == 0 || l[p].1 == 1) := by simp [isK, List.getElem?_eq_getElem hlt]
      cases hc : (l[p].1 == 0 || l[p].1 == 1) with
      | true =>
        have h145 := c145 l (p + 1) (by omega) (by omega)
        have hb := skn_le (l.drop (p + 1))
        rw [List.length_drop] at hb
        rw [loopN_inl (v' := (l, ((p + 1 + skn (l.drop (p + 1)) : Nat) : Int), ws ++ [l[p].2.1], ())) ?_]
        · rw [l144 l hl k (p + 1 + skn (l.drop (p + 1))) n (ws ++ [l[p].2.1]) (by omega) (by omega) (by omega) (by simp; omega)]
          simp only [phw, hc, cond_true, List.drop_drop, List.append_assoc, List.cons_append, List.nil_append]
          rw [show p + 1 + skn (l.drop (p + 1)) + (phw k (l.drop (p + 1 + skn (l.drop (p + 1))))).2 = p + (1 + skn (l.drop (p + 1)) + (phw k (l.drop (p + 1 + skn (l.drop (p + 1))))).2) by omega]
        · simp only [F144_l0, h, Option.bind_some, hk, hc, cond_true, Int.toNat_natCast, getD_lt hlt]
          rw [decide_eq_true (by omega), decide_eq_true (by omega), decide_eq_true (by simp only [List.length_cons, List.length_nil]; omega)]
          simp only [Bool.and_self, cond_true, C144_c0, F144_c0, wrN p (by omega), Option.bind_some, h145]
      | false =>
        refine loopN_inr ?_
        simp only [F144_l0, h, Option.bind_some, hk, hc, cond_false, phw, Nat.add_zero, List.append_nil]
    · refine loopN_inr ?_
      have hk : isK [0, 1] l p = false := by simp [isK, List.getElem?_eq_none (show l.length ≤ p by omega)]
      have he : phw m ([] : List Tok) = ([], 0) := by cases m <;> rfl
      simp only [F144_l0, h, Option.bind_some, hk, cond_false, List.drop_of_length_le (show l.length ≤ p by omega), he, Nat.add_zero, List.append_nil]
theorem phw_sz : ∀ (m : Nat) (l : List Tok), Lib.lens (phw m l).1 ≤ szT l ∧ (phw m l).1.length ≤ l.length ∧ (phw m l).2 ≤ l.length
  | 0, _ => ⟨Nat.zero_le _, Nat.zero_le _, Nat.zero_le _⟩
  | m + 1, [] => ⟨Nat.zero_le _, Nat.zero_le _, Nat.zero_le _⟩
  | m + 1, t :: r => by
    have h1 := phw_sz m (r.drop (skn r))
    have h2 := szT_drop (skn r) r
    have h3 := skn_le r
    rw [List.length_drop] at h1
    simp only [phw, szT]
    cases (t.1 == 0 || t.1 == 1) with
    | true => simp only [cond_true, Lib.lens, List.length_cons, List.map_cons, List.sum_cons] at h1 ⊢; omega
    | false => simp [Lib.lens]
def phr (l : List Tok) (p : Nat) : List UInt8 × Bool × Nat :=
  (Lib.join (phw l.length (l.drop (p + skn (l.drop p)))).1 [32], decide (0 < (phw l.length (l.drop (p + skn (l.drop p)))).1.length), p + skn (l.drop p) + (phw l.length (l.drop (p + skn (l.drop p)))).2)
theorem c144 (l : List Tok) (p : Nat) (hp : p ≤ l.length) (hb : szT l + l.length ≤ 3000) :
    C144 (l, (p : Int), ()) = some ((phr l p).1, (phr l p).2.1, l, ((phr l p).2.2 : Int), ()) := by
  show F144 C106 C145 C73 C144_l0 _ = _
  have b1 := skn_le (l.drop p)
  rw [List.length_drop] at b1
  have h1 := c145 l p (by omega) (by omega)
  have h2 : C144_l0 (l, ((p + skn (l.drop p) : Nat) : Int), [], ()) = _ := l144 l (by omega) l.length (p + skn (l.drop p)) big [] (by omega) (by unfold big; omega) (by omega) (by simp; omega)
  simp only [F144, h1, Option.bind_some, h2, List.nil_append, phr]
  have hz := phw_sz l.length (l.drop (p + skn (l.drop p)))
  have hs := szT_drop (p + skn (l.drop p)) l
  rw [List.length_drop] at hz
  generalize phw l.length (l.drop (p + skn (l.drop p))) = W at hz ⊢
  have hj : (Lib.join W.1 [32]).length ≤ 100000 := by
    cases hw : W.1 with
    | nil => exact Nat.zero_le _
    | cons x r =>
      rw [Lib.join_length]
      rw [hw] at hz
      simp only [List.length_cons, List.length_nil] at hz ⊢
      omega
  have hc : C73 (W.1, [32], ()) = some (Lib.join W.1 [32], ()) := by
    show joinF _ = _
    unfold joinF
    simp only
    rw [decide_eq_true (by omega), decide_eq_true (by omega)]
    rfl
  simp only [hc, Option.bind_some]
  congr 2
  simp
end Go.Proofs.YtiacnhhmkdkpmaaGreatDoorA.W
set_option linter.unusedVariables false
set_option linter.unusedSimpArgs false
set_option maxRecDepth 100000
namespace Go.Proofs.YtiacnhhmkdkpmaaGreatDoorA.W
open Go Go.Ae
def bx (q : Nat) (r : List Tok) : List Tok := (0, [97], (q : Int)) :: (2, [64], ((q + 1 : Nat) : Int)) :: (0, [98], ((q + 1 + 1 : Nat) : Int)) :: r
def bxs : Nat → Nat → List Tok → List Tok
  | 0, q, e => bx q e
  | n + 1, q, e => bx q ((2, [44], ((q + 3 : Nat) : Int)) :: bxs n (q + 3 + 1) e)
def tx : Nat → List UInt8 → List UInt8
  | 0, e => 97 :: 64 :: 98 :: e
  | n + 1, e => 97 :: 64 :: 98 :: 44 :: tx n e
theorem at97 : atomB 97 = true := by kernel_rfl
theorem at98 : atomB 98 = true := by kernel_rfl
theorem at64 : atomB 64 = false := by kernel_rfl
theorem at44 : atomB 44 = false := by kernel_rfl
theorem at58 : atomB 58 = false := by kernel_rfl
theorem at59 : atomB 59 = false := by kernel_rfl
theorem at103 : atomB 103 = true := by kernel_rfl
theorem sg64 : signB 64 = true := by kernel_rfl
theorem sg44 : signB 44 = true := by kernel_rfl
theorem sg58 : signB 58 = true := by kernel_rfl
theorem sg59 : signB 59 = true := by kernel_rfl
theorem lex_sign {c : UInt8} (ha : atomB c = false) (hs : signB c = true) (r : List UInt8) (p : Nat) (l : List Tok) (h : lexs r (p + 1) = .inl l) : lexs (c :: r) p = .inl ((2, [c], (p : Int)) :: l) := by
  rw [lexs_cons]
  simp only [one, ha, hs, if_true, Bool.false_eq_true, if_false, List.drop_succ_cons, List.drop_zero, h]
theorem lex_word {c : UInt8} (ha : atomB c = true) (r : List UInt8) (hr : al r = 0) (p : Nat) (l : List Tok) (h : lexs r (p + 1) = .inl l) : lexs (c :: r) p = .inl ((0, [c], (p : Int)) :: l) := by
  rw [lexs_cons]
  simp only [one, ha, if_true, al, cond_true, hr, Nat.zero_add, List.take_succ_cons, List.take_zero, List.drop_succ_cons, List.drop_zero, h]
theorem lex_bx (q : Nat) (e : List UInt8) (he : al e = 0) (l : List Tok) (h : lexs e (q + 1 + 1 + 1) = .inl l) : lexs (97 :: 64 :: 98 :: e) q = .inl (bx q l) := by
  refine lex_word at97 _ ?_ q _ (lex_sign at64 sg64 _ _ _ (lex_word at98 _ he _ _ h))
  simp only [al, at64, cond_false]
theorem lex_tx (e : List UInt8) (he : al e = 0) (l : Nat → List Tok) (h : ∀ p, lexs e p = .inl (l p)) : ∀ n q, lexs (tx n e) q = .inl (bxs n q (l (q + 4 * n + 3)))
  | 0, q => lex_bx q e he _ (h _)
  | n + 1, q => by
    have ih := lex_tx e he l h n (q + 3 + 1)
    rw [show q + 3 + 1 + 4 * n + 3 = q + 4 * (n + 1) + 3 by omega] at ih
    exact lex_bx q _ (by simp only [al, at44, cond_false]) _ (lex_sign at44 sg44 _ _ _ ih)
theorem dwn_stop (a : List UInt8) (r : List Tok) (h : sgn [46] r = false) : dwn a r = (a, 0) := by
  match r with
  | [] => rfl
  | [t] => rfl
  | t :: u :: r =>
    have h' : (t.1 == 2 && t.2.1 == [46]) = false := h
    simp only [dwn, h', Bool.false_and, cond_false]
theorem mt_bx (q : Nat) (r : List Tok) (h1 : skn r = 0) (h2 : sgn [46] r = false) : mt (bx q r) = some ([97], [98], 3) := by
  have hd := dwn_stop [98] r h2
  have hw : dwn [97] ((2, [64], ((q + 1 : Nat) : Int)) :: (0, [98], ((q + 1 + 1 : Nat) : Int)) :: r) = ([97], 0) := dwn_stop _ _ rfl
  have e1 : loc (bx q r) = (true, [97], 1) := by
    simp only [bx, loc, show ((0 : Int) == 1) = false from rfl, cond_false, dot, show ((0 : Int) == 0) = true from rfl, cond_true, hw]
  have e2 : dom ((0, [98], ((q + 1 + 1 : Nat) : Int)) :: r) = (true, [98], 1) := by
    simp only [dom, show ((0 : Int) == 5) = false from rfl, cond_false, dot, show ((0 : Int) == 0) = true from rfl, cond_true, hd]
  have e0 : skn (bx q r) = 0 := rfl
  unfold mt
  simp only [e0, List.drop_zero, e1, Nat.zero_add, Nat.add_zero, Nat.reduceAdd]
  have e3 : skn ((bx q r).drop 1) = 0 := rfl
  have e4 : sgn [64] ((bx q r).drop 1) = true := rfl
  have e5 : skn ((bx q r).drop 2) = 0 := rfl
  have e6 : (bx q r).drop 2 = (0, [98], ((q + 1 + 1 : Nat) : Int)) :: r := rfl
  have e7 : (bx q r).drop 3 = r := rfl
  simp only [e3, e4, Nat.add_zero, Nat.reduceAdd, e5, Bool.not_true, cond_false]
  simp only [e6, e2, Nat.reduceAdd, e7, h1, Bool.not_true, cond_false]
theorem drop_le {α : Type} {l : List α} {p : Nat} {a : α} {r : List α} (h : l.drop p = a :: r) : p < l.length := by
  have := congrArg List.length h
  simp at this; omega
theorem drop_add {α : Type} {l r : List α} {p : Nat} (k : Nat) (h : l.drop p = r) : l.drop (p + k) = r.drop k := by rw [← List.drop_drop, h]
theorem isS_sgn (s : List UInt8) (l : List Tok) (p : Nat) : isS s l p = sgn s (l.drop p) := by
  unfold isS
  cases h : l.drop p with
  | nil => rw [List.getElem?_eq_none (by simpa using h)]; rfl
  | cons a r =>
    have : l[p]? = some a := by rw [← List.head?_drop, h]; rfl
    rw [this]; rfl
theorem c107b (l : List Tok) (p q : Nat) (r : List Tok) (h : l.drop p = bx q r) (h1 : skn r = 0) (h2 : sgn [46] r = false) (hb : szT l + l.length ≤ 3000) :
    C107 (l, (p : Int), ()) = some ([], false, [([97], [98])], true, l, ((p + 3 : Nat) : Int), ()) := by
  show F107 C143 C144 C145 C68 C107_c0 _ = _
  have hp := drop_le h
  have h143 := c143 l p (by omega) hb
  rw [h, mt_bx q r h1 h2] at h143
  simp only [F107, h143, Option.bind_some, cond_true]
theorem c69b (l : List Tok) (p q : Nat) (r : List Tok) (h : l.drop p = bx q r) (h1 : skn r = 0) (h2 : sgn [46] r = false) (hb : szT l + l.length ≤ 3000) :
    C69 (l, (p : Int), ()) = some ([], false, [([97], [98])], true, l, ((p + 3 : Nat) : Int), ()) := by
  show F69 C107 C108 _ = _
  simp only [F69, c107b l p q r h h1 h2 hb, Option.bind_some, cond_true]
abbrev Bx := List UInt8 × List UInt8
abbrev En := List UInt8 × Bool × List Bx
def b1 : Bx := ([97], [98])
theorem bxs_cases (n q : Nat) (e : List Tok) : ∃ r, bxs n q e = bx q r ∧ (n = 0 ∧ r = e ∨ ∃ m, n = m + 1 ∧ r = (2, [44], ((q + 3 : Nat) : Int)) :: bxs m (q + 3 + 1) e) := by
  cases n with
  | zero => exact ⟨_, rfl, .inl ⟨rfl, rfl⟩⟩
  | succ m => exact ⟨_, rfl, .inr ⟨m, rfl, rfl⟩⟩
theorem l30 (x0 : List Tok) (A) (B) (C) (l : List Tok) (hb : szT l + l.length ≤ 3000) : ∀ (n p q m : Nat) (acc : List En), l.drop p = bxs n q [] → n + 1 < m → acc.length + n ≤ 100000 →
    loopN (F30_l0 C31 C67 C68 C69 C70) m (x0, true, A, B, C, l, (p : Int), acc, ()) = some (.inl (x0, A, B, C, l, (l.length : Int), acc ++ List.replicate (n + 1) ([], false, [b1]), ()))
  | 0, p, q, m + 1 + 1, acc, h, hm, ha => by
    have h69 := c69b l p q [] h rfl rfl hb
    have hl : l.length = p + 3 := by have := congrArg List.length h; simp [bxs, bx] at this; omega
    have h68 := c68 [44] l (p + 3) (by omega)
    rw [isS_sgn, List.drop_of_length_le (by omega)] at h68
    rw [loopN_inl (v' := (x0, false, A, B, C, l, ((p + 3 : Nat) : Int), acc ++ [([], false, [b1])], ())) ?_]
    · refine loopN_inr ?_
      simp only [F30_l0, cond_false, hl, List.replicate]
    · simp only [F30_l0, cond_true, h69, Option.bind_some, Bool.not_true, cond_false]
      rw [decide_eq_true (by simp; omega)]
      simp only [cond_true, h68, Option.bind_some, sgn, cond_false, Nat.add_zero, b1]
  | n + 1, p, q, m + 1, acc, h, hm, ha => by
    have h69 := c69b l p q _ h rfl rfl hb
    have hd : l.drop (p + 3) = (2, [44], ((q + 3 : Nat) : Int)) :: bxs n (q + 3 + 1) [] := drop_add 3 h
    have hp := drop_le hd
    have h68 := c68 [44] l (p + 3) (by omega)
    have hs : sgn [44] ((2, [44], ((q + 3 : Nat) : Int)) :: bxs n (q + 3 + 1) [] : List Tok) = true := rfl
    rw [isS_sgn, hd, hs] at h68
    rw [loopN_inl (v' := (x0, true, A, B, C, l, ((p + 3 + 1 : Nat) : Int), acc ++ [([], false, [b1])], ())) ?_]
    · rw [l30 x0 A B C l hb n (p + 3 + 1) (q + 3 + 1) m (acc ++ [([], false, [b1])]) (drop_add 1 hd) (by omega) (by simp; omega)]
      rw [List.append_assoc]; rfl
    · simp only [F30_l0, cond_true, h69, Option.bind_some, Bool.not_true, cond_false]
      rw [decide_eq_true (by simp; omega)]
      simp only [cond_true, h68, Option.bind_some, b1]
theorem l108 (l : List Tok) (g : List UInt8) (hb : szT l + l.length ≤ 3000) (qe : Nat) : ∀ (n p q m : Nat) (acc : List Bx), l.drop p = (bif acc.length == 0 then bxs n q [(2, [59], (qe : Int))] else (2, [44], ((q - 1 : Nat) : Int)) :: bxs n q [(2, [59], (qe : Int))]) → n + 1 < m → acc.length + n ≤ 100000 →
    loopN (F108_l0 C107 C144 C145 C68) m (true, l, (p : Int), [], false, g, true, acc, ()) = some (.inl (l, (l.length : Int), [], false, g, true, acc ++ List.replicate (n + 1) b1, ()))
  | n, p, q, m + 1, acc, h, hm, ha => by
    obtain ⟨p', hp', hd, hstep⟩ : ∃ p', p' ≤ 3000 ∧ l.drop p' = bxs n q [(2, [59], (qe : Int))] ∧ F108_l0 C107 C144 C145 C68 (true, l, (p : Int), [], false, g, true, acc, ()) = (C107 (l, (p' : Int), ())).bind fun val => bif !val.snd.snd.snd.fst then
          some (Sum.inr (Sum.inr (false, val.snd.snd.snd.snd.fst, val.snd.snd.snd.snd.snd.fst, [], false, ())))
        else
          bif decide (acc.length + List.length val.snd.snd.fst ≤ 140737488355328 / 32) then
            (C68 ([59], val.snd.snd.snd.snd.fst, val.snd.snd.snd.snd.snd.fst, ())).bind fun val_1 =>
              some
                (Sum.inl
                  (bif val_1.fst then false else true, val_1.snd.fst, val_1.snd.snd.fst, [], false, g, true,
                    acc ++ val.snd.snd.fst, ()))
          else none := by
      cases acc with
      | nil =>
        have h' : l.drop p = bxs n q [(2, [59], (qe : Int))] := h
        have hp : p ≤ 3000 := by
          obtain ⟨r, hr, -⟩ := bxs_cases n q [(2, [59], (qe : Int))]
          rw [hr] at h'
          have := drop_le h'; omega
        refine ⟨p, hp, h', ?_⟩
        simp only [F108_l0, cond_true, List.length_nil]
        rw [decide_eq_false (by omega)]
        rfl
      | cons a acc =>
        have h' : l.drop p = (2, [44], ((q - 1 : Nat) : Int)) :: bxs n q [(2, [59], (qe : Int))] := h
        have hp := drop_le h'
        have h68 := c68 [44] l p (by omega)
        have hs : sgn [44] ((2, [44], ((q - 1 : Nat) : Int)) :: bxs n q [(2, [59], (qe : Int))] : List Tok) = true := rfl
        rw [isS_sgn, h', hs] at h68
        refine ⟨p + 1, by omega, drop_add 1 h', ?_⟩
        simp only [F108_l0, cond_true]
        rw [decide_eq_true (by simp only [List.length_cons]; omega)]
        simp only [cond_true, h68, Option.bind_some, Bool.not_true, cond_false]
    obtain ⟨r, hr, hc⟩ := bxs_cases n q [(2, [59], (qe : Int))]
    rw [hr] at hd
    have h1 : skn r = 0 := by rcases hc with ⟨-, rfl⟩ | ⟨k, -, rfl⟩ <;> rfl
    have h2 : sgn [46] r = false := by rcases hc with ⟨-, rfl⟩ | ⟨k, -, rfl⟩ <;> rfl
    have h107 := c107b l p' q r hd h1 h2 hb
    have hd3 : l.drop (p' + 3) = r := drop_add 3 hd
    have h68 := c68 [59] l (p' + 3) (by omega)
    rw [isS_sgn, hd3] at h68
    rcases hc with ⟨rfl, rfl⟩ | ⟨k, rfl, rfl⟩
    · have hl : l.length = p' + 3 + 1 := by have := congrArg List.length hd3; simp at this; omega
      have hs : sgn [59] ([(2, [59], (qe : Int))] : List Tok) = true := rfl
      rw [hs] at h68
      obtain ⟨m, rfl⟩ : ∃ k, m = k + 1 := ⟨m - 1, by omega⟩
      rw [loopN_inl (v' := (false, l, ((p' + 3 + 1 : Nat) : Int), [], false, g, true, acc ++ [b1], ())) ?_]
      · refine loopN_inr ?_
        simp only [F108_l0, cond_false, hl, List.replicate]
      · rw [hstep]
        simp only [h107, Option.bind_some, Bool.not_true, cond_false]
        rw [decide_eq_true (by simp; omega)]
        simp only [cond_true, h68, Option.bind_some, b1]
    · have hs : sgn [59] ((2, [44], ((q + 3 : Nat) : Int)) :: bxs k (q + 3 + 1) [(2, [59], (qe : Int))] : List Tok) = false := rfl
      rw [hs] at h68
      rw [loopN_inl (v' := (true, l, ((p' + 3 : Nat) : Int), [], false, g, true, acc ++ [b1], ())) ?_]
      · rw [l108 l g hb qe k (p' + 3) (q + 3 + 1) m (acc ++ [b1]) ?_ (by omega) (by simp; omega)]
        · rw [List.append_assoc]; rfl
        · cases acc <;> exact hd3
      · rw [hstep]
        simp only [h107, Option.bind_some, Bool.not_true, cond_false]
        rw [decide_eq_true (by simp; omega)]
        simp only [cond_true, h68, Option.bind_some, b1, cond_false, Nat.add_zero]
end Go.Proofs.YtiacnhhmkdkpmaaGreatDoorA.W
set_option linter.unusedVariables false
set_option linter.unusedSimpArgs false
set_option maxRecDepth 100000
namespace Go.Proofs.YtiacnhhmkdkpmaaGreatDoorA.W
open Go Go.Ae
theorem l31 : ∀ (r pre : List En) (p n N : Nat) (acc : List Bx), pre.length = p → N = p + r.length → r.length < n → N ≤ 100000 → acc.length + (r.flatMap fun x => x.2.2).length ≤ 100000 →
    loopN F31_l0 n (pre ++ r, (N : Int), (p : Int), acc, ()) = some (acc ++ r.flatMap (fun x => x.2.2), ())
  | [], pre, p, n + 1, N, acc, hp, hN, hn, hb, ha => by
    refine loopN_inr ?_
    simp only [F31_l0]
    rw [decide_eq_false (by simp at hN; omega)]
    simp only [cond_false, List.flatMap_nil, List.append_nil]
  | y :: r, pre, p, n + 1, N, acc, hp, hN, hn, hb, ha => by
    simp only [List.length_cons] at hN hn
    simp only [List.flatMap_cons, List.length_append] at ha
    have hlen : (pre ++ y :: r).length = N := by simp [hp]; omega
    rw [loopN_inl (v' := (pre ++ y :: r, (N : Int), ((p + 1 : Nat) : Int), acc ++ y.2.2, ())) (by
      simp only [F31_l0, hlen, Int.toNat_natCast, gd hp]
      rw [decide_eq_true (by omega), decide_eq_true (by omega), decide_eq_true (by omega), wrN p (by omega)]; rfl)]
    rw [shift, l31 r (pre ++ [y]) (p + 1) n N (acc ++ y.2.2) (by simp [hp]) (by omega) (by omega) hb (by simp only [List.length_append]; omega)]
    simp
theorem c31' (L : List En) (hl : L.length ≤ 100000) (h : (L.flatMap fun x => x.2.2).length ≤ 100000) : C31 (L, ()) = some (L.flatMap (fun x => x.2.2), ()) := by
  show F31 C31_l0 _ = _
  have h' : C31_l0 (L, (L.length : Int), 0, [], ()) = _ := l31 L [] 0 big L.length [] rfl (by omega) (by unfold big; omega) hl (by simpa using h)
  simp only [F31, h', Option.bind_some, List.nil_append]
theorem l70 (N : Nat) (A) (B) (C) (h44 : C44 (A, B, C, [97], [98], ()) = some (0, ())) (hN : N ≤ 100000) : ∀ (k p m : Nat), N = p + k → k < m →
    loopN (F70_l0 C44) m (List.replicate N b1, (N : Int), (p : Int), A, B, C, ()) = some (.inl ())
  | 0, p, m + 1, h, hm => by
    refine loopN_inr ?_
    simp only [F70_l0]
    rw [decide_eq_false (by omega)]; rfl
  | k + 1, p, m + 1, h, hm => by
    have hg : (List.replicate N b1).getD p ([], []) = b1 := by rw [getD_lt (by simp; omega)]; simp
    rw [loopN_inl (v' := (List.replicate N b1, (N : Int), ((p + 1 : Nat) : Int), A, B, C, ())) ?_]
    · exact l70 N A B C h44 hN k (p + 1) m (by omega) (by omega)
    · simp only [F70_l0, List.length_replicate, Int.toNat_natCast, hg]
      rw [decide_eq_true (by omega), decide_eq_true (by omega)]
      simp only [Bool.and_self, cond_true, b1, h44, Option.bind_some, inF (rfl : (0 : Int) = 0), cond_false, wrN p (by omega)]
theorem c70' (N : Nat) (A) (B) (C) (h44 : C44 (A, B, C, [97], [98], ()) = some (0, ())) (hN : N ≤ 100000) : C70 (A, B, C, List.replicate N b1, ()) = some (bif decide (100 < N) then 2 else 0, ()) := by
  show F70 C44 C70_l0 _ = _
  have h' : C70_l0 (List.replicate N b1, (N : Int), 0, A, B, C, ()) = _ := l70 N A B C h44 hN N 0 big (by omega) (by unfold big; omega)
  simp only [F70, List.length_replicate]
  by_cases h : 100 < N
  · rw [decide_eq_true (by omega), decide_eq_true h]; rfl
  · rw [decide_eq_false (by omega), decide_eq_false h]
    simp only [cond_false, h', Option.bind_some, Sum.elim_inl]
theorem tx_len (e : List UInt8) : ∀ n, (tx n e).length = 4 * n + 3 + e.length
  | 0 => by simp [tx]; omega
  | n + 1 => by have := tx_len e n; simp [tx, this]; omega
theorem tx_app (e : List UInt8) : ∀ n, tx n [] ++ e = tx n e
  | 0 => rfl
  | n + 1 => by have := tx_app e n; simp [tx, this]
theorem tx_snoc : ∀ n, tx n [44, 97, 64, 98] = tx (n + 1) []
  | 0 => rfl
  | n + 1 => by have := tx_snoc n; simp only [tx] at this ⊢; rw [this]
theorem tx_asc {e : List UInt8} (he : ∀ c ∈ e, c.toNat < 128) : ∀ n, ∀ c ∈ tx n e, c.toNat < 128
  | 0, c, h => by
    simp only [tx, List.mem_cons] at h
    rcases h with rfl | rfl | rfl | h
    · decide
    · decide
    · decide
    · exact he c h
  | n + 1, c, h => by
    simp only [tx, List.mem_cons] at h
    rcases h with rfl | rfl | rfl | rfl | h
    · decide
    · decide
    · decide
    · decide
    · exact tx_asc he n c h
theorem bxs_sz (e : List Tok) : ∀ n q, szT (bxs n q e) = 4 * n + 3 + szT e ∧ (bxs n q e).length = 4 * n + 3 + e.length
  | 0, q => by simp [bxs, bx, szT]; omega
  | n + 1, q => by have := bxs_sz e n (q + 3 + 1); simp [bxs, bx, szT, this]; omega
theorem lexR_of {s : List UInt8} {l : List Tok} (hl : s.length ≤ 2000) (ha : ∀ c ∈ s, c.toNat < 128) (h : lexs s 0 = .inl l) : ∃ o, lexR s = (l, o, 0) := by
  unfold lexR
  rw [if_neg (by omega), show utf s = none from ut_asc _ _ _ ha, h]
  exact ⟨_, rfl⟩
theorem c30p (A) (B) (C) (h44 : C44 (A, B, C, [97], [98], ()) = some (0, ())) (n : Nat) (hn : n < 200) :
    C30 (A, B, C, tx n [], ()) = some (bif decide (100 < n + 1) then ([], 2, ()) else (List.replicate (n + 1) ([], false, [b1]), 0, ())) := by
  have hx := lex_tx [] rfl (fun _ => []) (fun p => lexs_nil p) n 0
  obtain ⟨o, hR⟩ := lexR_of (by rw [tx_len]; simp; omega) (tx_asc (by simp) n) hx
  have h67 := c11 (tx n [])
  rw [hR] at h67
  have hz := bxs_sz [] n 0
  simp only [szT, List.length_nil] at hz
  have h30 : C30_l0 (bxs n 0 [], true, A, B, C, bxs n 0 [], 0, [], ()) = _ := l30 (bxs n 0 []) A B C (bxs n 0 []) (by omega) n 0 0 big [] rfl (by unfold big; omega) (by simp; omega)
  have hf : (List.replicate (n + 1) (([], false, [b1]) : En)).flatMap (fun x => x.2.2) = List.replicate (n + 1) b1 := by
    rw [List.flatMap_replicate]
    simp [List.flatten_replicate_singleton]
  have h31 := c31' (List.replicate (n + 1) ([], false, [b1])) (by simp; omega) (by rw [hf]; simp; omega)
  rw [hf] at h31
  have h70 := c70' (n + 1) A B C h44 (by omega)
  show F30 C31 C67 C68 C69 C70 C30_l0 _ = _
  simp only [F30, h67, Option.bind_some, inF (rfl : (0 : Int) = 0), cond_false, h30, List.nil_append, Sum.elim_inl, h31, h70]
  rw [decide_eq_false (by omega)]
  simp only [cond_false]
  cases decide (100 < n + 1) <;> rfl
theorem phw_g (a b : Int) (r : List Tok) : ∀ k, phw (k + 1) ((0, [103], a) :: (2, [58], b) :: r) = ([[103]], 1)
  | 0 => rfl
  | k + 1 => rfl
theorem mt_g (a b : Int) (r : List Tok) : mt ((0, [103], a) :: (2, [58], b) :: r) = none := by
  have hw : dwn [103] ((2, [58], b) :: r) = ([103], 0) := dwn_stop _ _ rfl
  have e1 : loc ((0, [103], a) :: (2, [58], b) :: r) = (true, [103], 1) := by
    simp only [loc, show ((0 : Int) == 1) = false from rfl, cond_false, dot, show ((0 : Int) == 0) = true from rfl, cond_true, hw]
  have e0 : skn ((0, [103], a) :: (2, [58], b) :: r) = 0 := rfl
  unfold mt
  simp only [e0, List.drop_zero, e1]
  rfl
theorem c69g (n qe : Nat) (hn : n < 200) (a b : Int) (l : List Tok) (hl : l = (0, [103], a) :: (2, [58], b) :: bxs n 2 [(2, [59], (qe : Int))]) :
    C69 (l, 0, ()) = some ([103], true, List.replicate (n + 1) b1, true, l, (l.length : Int), ()) := by
  have hz := bxs_sz [(2, [59], (qe : Int))] n 2
  simp only [szT, List.length_cons, List.length_nil] at hz
  have hb : szT l + l.length ≤ 3000 := by subst hl; simp only [szT, List.length_cons, List.length_nil]; omega
  have hlen : l.length = 4 * n + 6 := by subst hl; simp only [List.length_cons]; omega
  have h143 : C143 (l, ((0 : Nat) : Int), ()) = _ := c143 l 0 (by omega) hb
  rw [show mt (l.drop 0) = none by subst hl; exact mt_g _ _ _] at h143
  have hp : phr l 0 = ([103], true, 1) := by
    have e1 : skn (l.drop 0) = 0 := by subst hl; rfl
    have hpw : phw l.length (l.drop (0 + 0)) = ([[103]], 1) := by
      rw [hlen, show l.drop (0 + 0) = l from rfl, hl]
      exact phw_g _ _ _ _
    unfold phr
    simp only [e1, hpw]
    rfl
  have h144 : C144 (l, ((0 : Nat) : Int), ()) = _ := c144 l 0 (by omega) hb
  rw [hp] at h144
  have h60 : C68 ([60], l, ((1 : Nat) : Int), ()) = _ := c68 [60] l 1 (by omega)
  rw [isS_sgn, show sgn [60] (l.drop 1) = false by subst hl; rfl] at h60
  have h58 : C68 ([58], l, ((1 : Nat) : Int), ()) = _ := c68 [58] l 1 (by omega)
  rw [isS_sgn, show sgn [58] (l.drop 1) = true by subst hl; rfl] at h58
  obtain ⟨r, hr, hc⟩ := bxs_cases n 2 [(2, [59], (qe : Int))]
  have h145 : C145 (l, ((2 : Nat) : Int), ()) = _ := c145 l 2 (by omega) (by omega)
  rw [show skn (l.drop 2) = 0 by subst hl; show skn (bxs _ _ _) = 0; rw [hr]; rfl] at h145
  have h59 : C68 ([59], l, ((2 : Nat) : Int), ()) = _ := c68 [59] l 2 (by omega)
  rw [isS_sgn, show sgn [59] (l.drop 2) = false by subst hl; show sgn [59] (bxs _ _ _) = false; rw [hr]; rfl] at h59
  have h108 : C108_l0 (true, l, ((2 : Nat) : Int), [], false, [103], true, [], ()) = _ := l108 l [103] hb qe n 2 2 big [] (by subst hl; rfl) (by unfold big; omega) (by simp; omega)
  have h145e : C145 (l, (l.length : Int), ()) = _ := c145 l l.length (by omega) (by omega)
  rw [show skn (l.drop l.length) = 0 by rw [List.drop_length]; rfl] at h145e
  simp only [Int.natCast_zero, Int.natCast_one, cond_true, cond_false, Nat.add_zero] at h143 h144 h60 h58 h145 h59 h108 h145e
  have h107 : C107 (l, 0, ()) = some ([], false, [], false, l, 1, ()) := by
    show F107 C143 C144 C145 C68 C107_c0 _ = _
    simp only [F107, h143, Option.bind_some, cond_false, h144, h60, Bool.not_false, cond_true]
  have h108' : C108 (l, 0, ()) = some ([103], true, List.replicate (n + 1) b1, true, l, (l.length : Int), ()) := by
    show F108 C107 C144 C145 C68 C108_l0 _ = _
    simp only [F108, h144, Option.bind_some, show (([103] : List UInt8) == []) = false from rfl, cond_false, h58, Bool.not_true, h145, h59, Bool.not_false, h108, Sum.elim_inl, h145e, List.nil_append]
  show F69 C107 C108 _ = _
  simp only [F69, h107, Option.bind_some, cond_false, h108', cond_true]
theorem c30g (A) (B) (C) (h44 : C44 (A, B, C, [97], [98], ()) = some (0, ())) (n : Nat) (hn : n < 200) :
    C30 (A, B, C, 103 :: 58 :: tx n [59], ()) = some (bif decide (100 < n + 1) then ([], 2, ()) else ([([103], true, List.replicate (n + 1) b1)], 0, ())) := by
  have hx := lex_tx [59] rfl (fun p => [(2, [59], (p : Int))]) (fun p => lex_sign at59 sg59 _ _ _ (lexs_nil _)) n 2
  generalize hqe : 2 + 4 * n + 3 = qe at hx
  have hx' : lexs (103 :: 58 :: tx n [59]) 0 = .inl ((0, [103], ((0 : Nat) : Int)) :: (2, [58], ((1 : Nat) : Int)) :: bxs n 2 [(2, [59], (qe : Int))]) :=
    lex_word at103 _ (by simp only [al, at58, cond_false]) _ _ (lex_sign at58 sg58 _ _ _ hx)
  generalize hl : (0, [103], ((0 : Nat) : Int)) :: (2, [58], ((1 : Nat) : Int)) :: bxs n 2 [(2, [59], (qe : Int))] = l at hx'
  obtain ⟨o, hR⟩ := lexR_of (by simp only [List.length_cons, tx_len, List.length_nil]; omega) (by
    intro c hc
    simp only [List.mem_cons] at hc
    rcases hc with rfl | rfl | hc
    · decide
    · decide
    · exact tx_asc (by intro c h; simp only [List.mem_cons, List.not_mem_nil, or_false] at h; subst h; decide) n c hc) hx'
  have h67 := c11 (103 :: 58 :: tx n [59])
  rw [hR] at h67
  have h69 := c69g n qe hn _ _ l hl.symm
  have hz := bxs_sz [(2, [59], (qe : Int))] n 2
  simp only [List.length_cons, List.length_nil] at hz
  have hlen : l.length ≤ 3000 := by subst hl; simp only [List.length_cons]; omega
  have h68 : C68 ([44], l, (l.length : Int), ()) = _ := c68 [44] l l.length (by omega)
  rw [isS_sgn, List.drop_length, show sgn [44] ([] : List Tok) = false from rfl] at h68
  simp only [cond_false, Nat.add_zero] at h68
  have h30 : C30_l0 (l, true, A, B, C, l, 0, [], ()) = some (.inl (l, A, B, C, l, (l.length : Int), [([103], true, List.replicate (n + 1) b1)], ())) := by
    obtain ⟨m, hm⟩ : ∃ m, big = m + 1 + 1 := ⟨big - 2, by unfold big; omega⟩
    show loopN _ big _ = _
    rw [hm, loopN_inl (v' := (l, false, A, B, C, l, (l.length : Int), [([103], true, List.replicate (n + 1) b1)], ())) ?_]
    · refine loopN_inr ?_
      simp only [F30_l0, cond_false]
    · simp only [F30_l0, cond_true, h69, Option.bind_some, Bool.not_true, cond_false]
      rw [decide_eq_true (by simp)]
      simp only [cond_true, h68, Option.bind_some, List.nil_append]
  have hf : ([([103], true, List.replicate (n + 1) b1)] : List En).flatMap (fun x => x.2.2) = List.replicate (n + 1) b1 := by simp
  have h31 := c31' [([103], true, List.replicate (n + 1) b1)] (by simp) (by rw [hf]; simp; omega)
  rw [hf] at h31
  have h70 := c70' (n + 1) A B C h44 (by omega)
  show F30 C31 C67 C68 C69 C70 C30_l0 _ = _
  simp only [F30, h67, Option.bind_some, inF (rfl : (0 : Int) = 0), cond_false, h30, Sum.elim_inl, h31, h70]
  rw [decide_eq_false (by omega)]
  simp only [cond_false]
  cases decide (100 < n + 1) <;> rfl
theorem dom44 : ((C18 ()).bind fun v => C44 (v.1, v.2.1, v.2.2.1, [97], [98], ())) = some (0, ()) := by kernel_rfl
theorem tabs : ∃ A B C, C18 () = some (A, B, C, ()) ∧ C44 (A, B, C, [97], [98], ()) = some (0, ()) := by
  obtain ⟨v, hv, h⟩ := Option.bind_eq_some_iff.1 dom44
  exact ⟨v.1, v.2.1, v.2.2.1, hv, h⟩
theorem c8_0 (n : Nat) (hn : n < 200) (g : Bool) (t : List UInt8) (ht : t = bif g then 103 :: 58 :: tx n [59] else tx n []) : C8_c0 (((n + 1 : Nat) : Int), g, true, t, ()) = some (true, ()) := by
  obtain ⟨A, B, C, h18, h44⟩ := tabs
  show F8_c0 C18 C29 C30 C31 _ = _
  have hp := c30p A B C h44 n hn
  have hg := c30g A B C h44 n hn
  simp only [F8_c0, h18, Option.bind_some]
  have hf : (List.replicate (n + 1) (([], false, [b1]) : En)).flatMap (fun x => x.2.2) = List.replicate (n + 1) b1 := by
    rw [List.flatMap_replicate]
    simp [List.flatten_replicate_singleton]
  have h31p := c31' (List.replicate (n + 1) ([], false, [b1])) (by simp; omega) (by rw [hf]; simp; omega)
  rw [hf] at h31p
  have hf' : ([([103], true, List.replicate (n + 1) b1)] : List En).flatMap (fun x => x.2.2) = List.replicate (n + 1) b1 := by simp
  have h31g := c31' [([103], true, List.replicate (n + 1) b1)] (by simp) (by rw [hf']; simp; omega)
  rw [hf'] at h31g
  by_cases h : 100 < n + 1
  · rw [decide_eq_true h] at hp hg
    rw [decide_eq_true (by omega)]
    cases g <;> subst ht <;> simp only [cond_true, cond_false, hp, hg, Option.bind_some] <;> rfl
  · rw [decide_eq_false h] at hp hg
    rw [decide_eq_false (by omega)]
    cases g <;> subst ht <;> simp only [cond_true, cond_false, hp, hg, Option.bind_some, ibT (rfl : (0 : Int) = 0), h31p, h31g, List.length_replicate, beq_self_eq_true, List.length_cons, List.length_nil] <;> rfl
theorem l8 (g : Bool) (N : Nat) (hN : N ≤ 200) : ∀ (d k m : Nat), N = k + 1 + d → d < m →
    loopN (F8_l0 C18 C29 C30 C31) m ((N : Int), g, true, tx k [], ((k + 1 : Nat) : Int), ()) = some ((N : Int), g, true, tx (N - 1) [], ())
  | 0, k, m + 1, h, hm => by
    refine loopN_inr ?_
    simp only [F8_l0]
    rw [decide_eq_false (by omega), show N - 1 = k by omega]; rfl
  | d + 1, k, m + 1, h, hm => by
    have hl := tx_len [] k
    simp only [List.length_nil] at hl
    rw [loopN_inl (v' := ((N : Int), g, true, tx (k + 1) [], ((k + 1 + 1 : Nat) : Int), ())) ?_]
    · exact l8 g N hN d (k + 1) m (by omega) (by omega)
    · simp only [F8_l0]
      rw [decide_eq_true (by omega), decide_eq_true (by omega), decide_eq_true (by simp; omega), decide_eq_true (by simp; omega), wrN (k + 1) (by omega), ← tx_snoc, ← tx_app [44, 97, 64, 98]]
      simp
theorem c8 (x : Int) (g : Bool) : C8 (x, g, ()) = some (true, ()) := by
  show F8 C18 C29 C30 C31 C8_c0 C8_l0 _ = _
  have h29 : C29 () = some (true, ()) := rfl
  simp only [F8, h29, Option.bind_some]
  by_cases h1 : x < 1
  · rw [decide_eq_true h1]; rfl
  · by_cases h2 : x > 130
    · rw [decide_eq_false h1, decide_eq_true h2]; rfl
    · rw [decide_eq_false h1, decide_eq_false h2]
      simp only [cond_false]
      obtain ⟨n, rfl⟩ : ∃ n : Nat, x = ((n + 1 : Nat) : Int) := ⟨(x - 1).toNat, by omega⟩
      have hl : C8_l0 (((n + 1 : Nat) : Int), g, true, [], 0, ()) = some (((n + 1 : Nat) : Int), g, true, tx n [], ()) := by
        obtain ⟨m, hm⟩ : ∃ m, big = m + 1 ∧ 1000 < m := ⟨big - 1, by unfold big; omega, by unfold big; omega⟩
        show loopN _ big _ = _
        rw [hm.1, loopN_inl (v' := (((n + 1 : Nat) : Int), g, true, tx 0 [], ((0 + 1 : Nat) : Int), ())) ?_]
        · exact l8 g (n + 1) (by omega) n 0 _ (by omega) (by have := hm.2; omega)
        · simp only [F8_l0]
          rw [decide_eq_true (by omega), decide_eq_false (by omega), decide_eq_true (by simp)]
          rfl
      have ht := tx_len [] n
      simp only [List.length_nil] at ht
      simp only [hl, Option.bind_some]
      cases g with
      | true =>
        simp only [cond_true]
        rw [decide_eq_true (by simp; omega), decide_eq_true (by simp; omega)]
        simp only [cond_true]
        rw [c8_0 n (by omega) true _ (by rw [← tx_app [59]]; simp)]
        rfl
      | false =>
        simp only [cond_false]
        rw [c8_0 n (by omega) false (tx n []) rfl]
        rfl
end Go.Proofs.YtiacnhhmkdkpmaaGreatDoorA.W
namespace Go.Proofs.YtiacnhhmkdkpmaaGreatDoorA.PListFull
open Go Go.Ae Go.Proofs.YtiacnhhmkdkpmaaGreatDoorA.W
theorem pure (x0 : (Ty.int .i64).den) (b0 : Bd (Ty.int .i64) x0) (x1 : Ty.bool.den) (b1 : Bd Ty.bool x1) : C8 (x0, x1, ()) = some (true, ()) := c8 x0 x1
end Go.Proofs.YtiacnhhmkdkpmaaGreatDoorA.PListFull
set_option linter.unusedVariables false
set_option maxRecDepth 100000
namespace Go.Proofs.YtiacnhhmkdkpmaaGreatDoor
open Go Go.Ae Go.RowKit
theorem glob {W : World} {p : Prop} (hL : p) (hsh : W.ShapedOpen Tryz.prog) : GI W m0 := by
  obtain ⟨m, hm⟩ := Go.Proofs.cell_of_shapedOpen_int (g := 2) (k := .i64) (t := 3) (zero := #[.int .i64 0]) hsh (of_decide_eq_true (by kernel_rfl)) (by kernel_rfl) (by kernel_rfl) (by kernel_rfl) (by kernel_rfl) (by kernel_rfl)
  refine ⟨⟨m, hm⟩, fun b hb => ⟨?_, fun h => h⟩⟩
  simp only [GlobB, List.mem_cons, List.not_mem_nil, or_false] at hb
  subst hb
  exact lt_of_cell hm
end Go.Proofs.YtiacnhhmkdkpmaaGreatDoor
