/- The plain law: where tokens stand. -/
import Derived.Test.YtkmojkibclbmjaaDoorPL7
set_option linter.unusedVariables false
set_option linter.unusedSimpArgs false
set_option maxRecDepth 100000
namespace Go.Proofs.YtkmojkibclbmjaaDoor.W
open Go Go.Ae
theorem bnotF {a b : List UInt8} (h : a = b) : (!(a == b)) = false := by subst h; simp
theorem c5c (s T : List UInt8) (l : List Tok) (i p u : Nat) (k : Int) (t : List UInt8) (hi : i < l.length) (hg : l.getD i (0, ([], 0)) = (k, t, (p : Int))) (h0 : i = 0 → p = 0) (hu : 1 ≤ u) (hs : p + u ≤ s.length) (hb : s.length ≤ 2000)
    (hT : List.drop p (List.take (p + u) s) = T) (hl : T.length = u) (ht : t.length ≤ u) (h1 : k ≠ 1 → src k t = T) (h2 : k = 1 → T.getD 0 0 = 34 ∧ t.length + 2 ≤ u) :
    C5_c0 (s, true, l, (i : Int), ((p + u : Nat) : Int), ()) = some (.inr (s, true, l, (i : Int), ())) := by
  have h9 := c9 k t (p : Int) (by omega)
  have hw : IntKind.i64.wrap ((t.length : Int) + 2) = (t.length : Int) + 2 := W.wr (by omega) (by omega)
  show F5_c0 C9 (s, true, l, (i : Int), ((p + u : Nat) : Int), ()) = _
  by_cases hk : k = 1
  · obtain ⟨g1, g2⟩ := h2 hk
    have g1' : (((T.getD 0 0).toNat : Int) != 34) = false := by rw [g1]; rfl
    by_cases hi0 : i = 0
    · simp (disch := (first | omega | (simp only [List.length_append, List.length_cons, List.length_nil]; omega))) only [F5_c0, decide_eq_true, decide_eq_false, cond_true, cond_false, Bool.and_self, hg, Int.toNat_natCast, hT, hl, hw, g1', ibT, ibF, inT, inF, h9, Option.bind_some]
    · simp (disch := (first | omega | (simp only [List.length_append, List.length_cons, List.length_nil]; omega))) only [F5_c0, decide_eq_true, decide_eq_false, cond_true, cond_false, Bool.and_self, hg, Int.toNat_natCast, hT, hl, hw, g1', ibT, ibF, inT, inF, h9, Option.bind_some]
  · have g1 := bnotF (h1 hk)
    by_cases hi0 : i = 0
    · simp (disch := (first | omega | (simp only [List.length_append, List.length_cons, List.length_nil]; omega))) only [F5_c0, decide_eq_true, decide_eq_false, cond_true, cond_false, Bool.and_self, hg, Int.toNat_natCast, hT, hl, hw, g1, ibT, ibF, inT, inF, h9, Option.bind_some]
    · simp (disch := (first | omega | (simp only [List.length_append, List.length_cons, List.length_nil]; omega))) only [F5_c0, decide_eq_true, decide_eq_false, cond_true, cond_false, Bool.and_self, hg, Int.toNat_natCast, hT, hl, hw, g1, ibT, ibF, inT, inF, h9, Option.bind_some]
theorem gdl {α : Type} {pre r : List α} {c d : α} {l : List α} {p : Nat} (hl : l = pre ++ c :: r) (h : pre.length = p) : l.getD p d = c := by subst hl; exact gd h
theorem l5 (s : List UInt8) (l : List Tok) (hb : s.length ≤ 2000) (hll : l.length ≤ 100000) : ∀ (rest pre : List Tok) (r ps : List UInt8) (i p n : Nat), l = pre ++ rest → pre.length = i → s = ps ++ r → ps.length = p → lexs r p = .inl rest → (i = 0 → p = 0) → rest.length < n →
    loopN (F5_l0 C9 C5_c0) n (s, true, l, (i : Int), ()) = some (.inl (true, ()))
  | _, _, _, _, _, _, 0, _, _, _, _, _, _, hn => by omega
  | [], pre, r, ps, i, p, n + 1, hl, hi, hs, hp, hr, h0, hn => by
    refine loopN_inr ?_
    have : l.length = i := by rw [hl]; simp [hi]
    simp (disch := (first | omega | (simp only [List.length_append, List.length_cons, List.length_nil]; omega))) only [F5_l0, this, decide_eq_true, decide_eq_false, cond_true, cond_false, Bool.and_self, Bool.true_and, Bool.and_true, Bool.false_and, Bool.and_false, Bool.not_true, Bool.not_false, List.length_append, List.length_cons, List.length_nil, Int.toNat_natCast, ibT, ibF, inT, inF, wrN, gd, dr, Option.bind_some, Sum.elim_inl, Sum.elim_inr, byte_back, of_to]
  | x :: rest, pre, r, ps, i, p, n + 1, hl, hi, hs, hp, hr, h0, hn => by
    simp only [List.length_cons] at hn
    match r, hs, hr with
    | [], hs, hr => rw [lexs_nil] at hr; cases hr
    | c :: r', hs, hr =>
      obtain ⟨k, t, u, l', h1, h2, h3⟩ := lexs_inl hr
      cases h3
      have hu := one_used h1
      have hsl : s.length = p + (r'.length + 1) := by rw [hs]; simp [hp]
      have hll' : l.length = i + (rest.length + 1) := by rw [hl]; simp [hi]
      have hg : l.getD i (0, ([], 0)) = (k, t, (p : Int)) := gdl hl hi
      have hT : List.drop p (List.take (p + u) s) = (c :: r').take u := by rw [hs]; exact text_eq hp
      obtain ⟨f1, f2⟩ := one_src h1
      have hc := c5c s ((c :: r').take u) l i p u k t (by omega) hg h0 hu.1 (by omega) hb hT (by simp; omega) (one_text_len h1) f1 (fun hk => by
        obtain ⟨g1, g2⟩ := f2 hk
        obtain ⟨u', rfl⟩ : ∃ u', u = u' + 1 := ⟨u - 1, by omega⟩
        subst g1
        exact ⟨rfl, g2⟩)
      have next : F5_l0 C9 C5_c0 (s, true, l, (i : Int), ()) = some (.inl (s, true, l, ((i + 1 : Nat) : Int), ())) := by
        match rest, h2, hl, hll' with
        | [], h2, hl, hll' =>
          have hend : p + u = s.length := by
            rw [hsl]
            cases hd : (c :: r').drop u with
            | nil => have := congrArg List.length hd; simp at this; omega
            | cons d r'' =>
              rw [hd] at h2
              obtain ⟨_, _, _, _, _, _, h4⟩ := lexs_inl h2
              cases h4
          simp only [List.length_nil] at hll'
          rw [hend] at hc
          simp (disch := (first | omega | (simp only [List.length_append, List.length_cons, List.length_nil]; omega))) only [F5_l0, decide_eq_true, decide_eq_false, cond_true, cond_false, wrN, hc, Option.bind_some, Sum.elim_inr]
        | y :: l'', h2, hl, hll' =>
          have hy : l.getD (i + 1) (0, ([], 0)) = y := gdl (pre := pre ++ [(k, t, (p : Int))]) (r := l'') (by rw [hl]; simp) (by simp [hi])
          have hy2 : y.2.2 = ((p + u : Nat) : Int) := by
            cases hd : (c :: r').drop u with
            | nil => rw [hd, lexs_nil] at h2; cases h2
            | cons d r'' =>
              rw [hd] at h2
              obtain ⟨_, _, _, _, _, _, h4⟩ := lexs_inl h2
              cases h4; rfl
          simp only [List.length_cons] at hll'
          simp (disch := (first | omega | (simp only [List.length_append, List.length_cons, List.length_nil]; omega))) only [F5_l0, decide_eq_true, decide_eq_false, cond_true, cond_false, Bool.and_self, wrN, Int.toNat_natCast, hy, hy2, hc, Option.bind_some, Sum.elim_inr]
      rw [loopN_inl next]
      exact l5 s l hb hll rest (pre ++ [(k, t, (p : Int))]) ((c :: r').drop u) (ps ++ (c :: r').take u) (i + 1) (p + u) n (by rw [hl]; simp) (by simp [hi]) (by rw [hs, List.append_assoc, List.take_append_drop]) (by simp [hp]; omega) h2 (by omega) (by omega)
theorem lexs_len : ∀ (m : Nat) (s : List UInt8) (p : Nat) (l : List Tok), s.length ≤ m → lexs s p = .inl l → l.length ≤ s.length ∧ (l = [] ↔ s = [])
  | _, [], p, l, _, h => by rw [lexs_nil] at h; cases h; simp
  | 0, c :: r, p, l, hm, h => by simp at hm
  | m + 1, c :: r, p, l, hm, h => by
    obtain ⟨k, t, u, l', h1, h2, rfl⟩ := lexs_inl h
    have hu := one_used h1
    have := (lexs_len m _ _ _ (by simp at hm ⊢; omega) h2).1
    simp only [List.length_drop, List.length_cons] at this ⊢
    exact ⟨by omega, by simp⟩
end Go.Proofs.YtkmojkibclbmjaaDoor.W
namespace Go.Proofs.YtkmojkibclbmjaaDoor.PLexPlaces
open Go Go.Ae Go.Proofs.YtkmojkibclbmjaaDoor.W
theorem pure (x0 : Ty.str.den) (b0 : Bd Ty.str x0) : C5 (x0, ()) = some (true, ()) := by
  show F5 C8 C9 C11 C5_l0 ((x0 : List UInt8), ()) = _
  change List UInt8 at x0
  generalize x0 = s
  by_cases h : 2500 < s.length
  · simp (disch := (first | omega | (simp only [List.length_append, List.length_cons, List.length_nil]; omega))) only [F5, C8, decide_eq_true, decide_eq_false, cond_true, cond_false, Bool.and_self, Bool.true_and, Bool.and_true, Bool.false_and, Bool.and_false, Bool.not_true, Bool.not_false, List.length_append, List.length_cons, List.length_nil, Int.toNat_natCast, ibT, ibF, inT, inF, wrN, gd, dr, Option.bind_some, Sum.elim_inl, Sum.elim_inr, byte_back, of_to]
  · have h11 := c11 s
    have h8 : C8 () = some (true, ()) := rfl
    by_cases h2 : 2000 < s.length
    · have hR : lexR s = ([], 0, 5) := by unfold lexR; rw [if_pos h2]
      rw [hR] at h11
      simp (disch := (first | omega | (simp only [List.length_append, List.length_cons, List.length_nil]; omega))) only [F5, h8, h11, decide_eq_true, decide_eq_false, cond_true, cond_false, inT, ibT, Option.bind_some, beq_self_eq_true]
    · have hR : lexR s = end2 (utf s) (lexs s 0) := by unfold lexR; rw [if_neg h2]
      cases hu : utf s with
      | some b =>
        have hlt := utf_lt hu
        rw [hR, hu] at h11
        simp only [end2] at h11
        simp (disch := (first | omega | (simp only [List.length_append, List.length_cons, List.length_nil]; omega))) only [F5, h8, h11, decide_eq_true, decide_eq_false, cond_true, cond_false, inT, ibF, Option.bind_some, beq_self_eq_true]
      | none =>
        rw [hR, hu] at h11
        cases hl : lexs s 0 with
        | inr x =>
          obtain ⟨b, e⟩ := x
          obtain ⟨g1, g2⟩ := lexs_err _ s 0 b e (Nat.le_refl _) hl
          rw [hl] at h11
          simp only [end2, end1] at h11
          have he5 : (e == 5) = false := by rcases g2 with rfl | rfl <;> rfl
          have he0 : (e != 0) = true := by rcases g2 with rfl | rfl <;> rfl
          simp (disch := (first | omega | (simp only [List.length_append, List.length_cons, List.length_nil]; omega))) only [F5, h8, h11, decide_eq_true, decide_eq_false, cond_true, cond_false, he5, he0, Option.bind_some, beq_self_eq_true]
        | inl l =>
          obtain ⟨g1, g2⟩ := lexs_len _ s 0 l (Nat.le_refl _) hl
          rw [hl] at h11
          simp only [end2, end1] at h11
          have h5 := l5 s l (by omega) (by omega) l [] s [] 0 0 big rfl rfl rfl rfl hl (fun _ => rfl) (by unfold big; omega)
          have h5' : C5_l0 (s, true, l, 0, ()) = some (.inl (true, ())) := h5
          have hq : (!(((l.length : Nat) : Int) == 0) == (s == [])) = false := by
            by_cases hs : s = []
            · have := g2.2 hs; subst this; subst hs; rfl
            · have hl0 : l ≠ [] := fun h => hs (g2.1 h)
              have : l.length ≠ 0 := fun h => hl0 (List.eq_nil_of_length_eq_zero h)
              rw [ibF (by omega), show (s == []) = false by simpa using hs]; rfl
          simp (disch := (first | omega | (simp only [List.length_append, List.length_cons, List.length_nil]; omega))) only [F5, h8, h11, decide_eq_true, decide_eq_false, cond_true, cond_false, inF, hq, h5', Option.bind_some, Sum.elim_inl]
end Go.Proofs.YtkmojkibclbmjaaDoor.PLexPlaces
