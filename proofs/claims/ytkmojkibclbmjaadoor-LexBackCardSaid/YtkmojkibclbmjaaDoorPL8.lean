/- The tokens' texts, one behind the other, are cut into the same tokens. -/
import Derived.Test.YtkmojkibclbmjaaDoorPLexDeep
import Derived.Test.YtkmojkibclbmjaaDoorPLexQuotes
import Derived.Test.YtkmojkibclbmjaaDoorPL7
set_option linter.unusedVariables false
set_option linter.unusedSimpArgs false
set_option maxRecDepth 100000
namespace Go.Proofs.YtkmojkibclbmjaaDoor.W
open Go Go.Ae
def srcs (l : List Tok) : List UInt8 := l.flatMap fun x => src x.1 x.2.1
def sameL : List Tok → List Tok → Prop
  | [], [] => True
  | x :: xs, y :: ys => x.1 = y.1 ∧ x.2.1 = y.2.1 ∧ sameL xs ys
  | _, _ => False
/-- What may stand behind: nothing, or a byte that does not go on. -/
def stops (p : UInt8 → Bool) : List UInt8 → Prop
  | [] => True
  | b :: _ => p b = false
theorem al_all : ∀ s : List UInt8, (s.take (al s)).all atomB = true
  | [] => rfl
  | c :: s => by
    cases h : atomB c with
    | true => simp only [al, h, cond_true, List.take_succ_cons, List.all_cons, Bool.true_and]; exact al_all s
    | false => simp [al, h]
theorem al_stops : ∀ s : List UInt8, stops atomB (s.drop (al s))
  | [] => trivial
  | c :: s => by
    cases h : atomB c with
    | true => simp only [al, h, cond_true, List.drop_succ_cons]; exact al_stops s
    | false => simp [al, h, stops]
theorem al_app {X : List UInt8} (hX : stops atomB X) : ∀ y : List UInt8, y.all atomB = true → al (y ++ X) = y.length
  | [], _ => by
    cases X with
    | nil => rfl
    | cons b X => have : atomB b = false := hX; simp [al, this]
  | c :: y, h => by
    simp only [List.all_cons, Bool.and_eq_true] at h
    simp only [List.cons_append, al, h.1, cond_true, List.length_cons, al_app hX y h.2]
def goB (b : UInt8) : Bool := blankB b || b == 13
theorem wl_re {X : List UInt8} (hX : stops goB X) : ∀ (m : Nat) (s : List UInt8), s.length ≤ m → wl (s.take (wl s) ++ X) = wl s
  | m, [], _ => by
    cases X with
    | nil => rfl
    | cons b X =>
      have : goB b = false := hX
      simp only [goB, Bool.or_eq_false_iff] at this
      simp only [wl, List.take_nil, List.nil_append]
      match X with
      | [] => exact wl_stop this.1 (by simp)
      | [d] => exact wl_stop this.1 (by simp)
      | d :: e :: X => rw [wl, this.1, this.2]; rfl
  | 0, c :: s, h => by simp at h
  | m + 1, c :: s, h => by
    simp only [List.length_cons] at h
    cases hb : blankB c with
    | true =>
      rw [wl_t hb, List.take_succ_cons, List.cons_append, wl_t hb, wl_re hX m s (by omega)]
    | false =>
      have zero : wl (c :: s) = 0 → wl ((c :: s).take (wl (c :: s)) ++ X) = wl (c :: s) := by
        intro h0
        rw [h0, List.take_zero, List.nil_append]
        have := wl_re hX 0 [] (by simp)
        simpa [wl] using this
      match s, h with
      | [], h => exact zero (wl_stop hb (by simp))
      | [b], h => exact zero (wl_stop hb (by simp))
      | b :: d :: s', h =>
        cases hq : (c == 13 && b == 10) && blankB d with
        | false => exact zero (by rw [wl, hb, hq]; rfl)
        | true =>
          have hw : wl (c :: b :: d :: s') = wl s' + 3 := by rw [wl, hb, hq]; rfl
          rw [hw]
          simp only [List.take_succ_cons, List.cons_append]
          rw [wl, hb, hq]
          simp only [cond_false, cond_true]
          rw [wl_re hX m s' (by simp at h; omega)]
theorem wl_go : ∀ (m : Nat) (s : List UInt8), s.length ≤ m → ∀ b r, s.drop (wl s) = b :: r → blankB b = false ∧ wl (b :: r) = 0
  | m, [], _, b, r, h => by simp [wl] at h
  | 0, c :: s, hm, b, r, h => by simp at hm
  | m + 1, c :: s, hm, b, r, h => by
    simp only [List.length_cons] at hm
    cases hb : blankB c with
    | true =>
      rw [wl_t hb, List.drop_succ_cons] at h
      exact wl_go m s (by omega) b r h
    | false =>
      have zero : wl (c :: s) = 0 → blankB b = false ∧ wl (b :: r) = 0 := by
        intro h0
        rw [h0, List.drop_zero] at h
        cases h
        exact ⟨hb, h0⟩
      match s, hm with
      | [], hm => exact zero (wl_stop hb (by simp))
      | [x], hm => exact zero (wl_stop hb (by simp))
      | x :: d :: s', hm =>
        cases hq : (c == 13 && x == 10) && blankB d with
        | false => exact zero (by rw [wl, hb, hq]; rfl)
        | true =>
          have hw : wl (c :: x :: d :: s') = wl s' + 3 := by rw [wl, hb, hq]; rfl
          rw [hw] at h
          exact wl_go m s' (by simp at hm; omega) b r h
theorem qt_may : ∀ (m : Nat) {r t : List UInt8} {u : Nat}, r.length ≤ m → qt r = .ok t u → t.all mayB = true
  | _, [], t, u, _, h => by simp [qt] at h
  | 0, c :: r, t, u, hm, h => by simp at hm
  | m + 1, c :: r, t, u, hm, h => by
    simp only [List.length_cons] at hm
    by_cases e1 : c.toNat = 34
    · rw [qt_q e1] at h; cases h; rfl
    · by_cases e2 : c.toNat = 92
      · match r, hm, h with
        | [], hm, h => rw [qt_b0 e2] at h; cases h
        | d :: r', hm, h =>
          rw [qt_b1 e2] at h
          cases hd : mayB d <;> rw [hd] at h
          · cases h
          · obtain ⟨t', u', h1, rfl, rfl⟩ := push_ok h
            have := qt_may m (by simp at hm; omega) h1
            simp [hd, this]
      · rw [qt_c e1 e2] at h
        cases hd : mayB c <;> rw [hd] at h
        · cases h
        · obtain ⟨t', u', h1, rfl, rfl⟩ := push_ok h
          have := qt_may m (by omega) h1
          simp [hd, this]
theorem ltk_re (X : List UInt8) : ∀ {r t : List UInt8} {u : Nat}, ltk r = .ok t u → ltk (t ++ 93 :: X) = .ok t u
  | [], t, u, h => by simp [ltk] at h
  | c :: r, t, u, h => by
    unfold ltk at h
    split at h
    · cases h; simp [ltk]
    · rename_i e1
      split at h
      · cases h
      · rename_i e2
        split at h
        · cases h
        · rename_i e3
          cases h1 : blankB c <;> cases h2 : mayB c <;> rw [h1, h2] at h <;> simp only [cond_true, cond_false] at h <;> try (cases h; done)
          obtain ⟨t', u', h3, rfl, rfl⟩ := push_ok h
          have := ltk_re X h3
          simp only [List.cons_append, List.nil_append, ltk, if_neg e1, if_neg e2, if_neg e3, h1, h2, cond_true, cond_false, this, Tk.push]
theorem nt_re (X : List UInt8) : ∀ (m : Nat) {r t : List UInt8} {u deep : Nat}, r.length ≤ m → nt deep r = .ok t u → nt deep (t ++ 41 :: X) = .ok t u
  | _, [], t, u, deep, _, h => by simp [nt] at h
  | 0, c :: r, t, u, deep, hm, h => by simp at hm
  | m + 1, c :: r, t, u, deep, hm, h => by
    simp only [List.length_cons] at hm
    by_cases e1 : c.toNat = 40
    · rw [nt_o e1] at h
      split at h
      · cases h
      · rename_i hd
        obtain ⟨t', u', h1, rfl, rfl⟩ := push_ok h
        rw [List.cons_append, List.nil_append, List.cons_append, nt_o e1, if_neg hd, nt_re X m (by omega) h1]; rfl
    · by_cases e2 : c.toNat = 41
      · rw [nt_c e2] at h
        split at h
        · rename_i hd
          cases h
          rw [List.nil_append, nt_c rfl, if_pos hd]
        · rename_i hd
          obtain ⟨t', u', h1, rfl, rfl⟩ := push_ok h
          rw [List.cons_append, List.nil_append, List.cons_append, nt_c e2, if_neg hd, nt_re X m (by omega) h1]; rfl
      · by_cases e3 : c.toNat = 92
        · match r, hm, h with
          | [], hm, h => rw [nt_b0 e3] at h; cases h
          | d :: r', hm, h =>
            simp only [List.length_cons] at hm
            rw [nt_b1 e3] at h
            cases hd : mayB d <;> rw [hd] at h
            · cases h
            · obtain ⟨t', u', h1, rfl, rfl⟩ := push_ok h
              rw [show [c, d] ++ t' ++ 41 :: X = c :: d :: (t' ++ 41 :: X) by simp, nt_b1 e3, hd, cond_true, nt_re X m (by omega) h1]; rfl
        · rw [nt_m e1 e2 e3] at h
          cases hd : mayB c <;> rw [hd] at h
          · cases h
          · obtain ⟨t', u', h1, rfl, rfl⟩ := push_ok h
            rw [List.cons_append, List.nil_append, List.cons_append, nt_m e1 e2 e3, hd, cond_true, nt_re X m (by omega) h1]; rfl
theorem nl_k : (atomB 13 || signB 13) = false := by kernel_rfl
theorem one_nl {r : List UInt8} (h : wl (13 :: r) = 0) : one 13 r = (4, .start) := by
  have h' := nl_k
  simp only [Bool.or_eq_false_iff] at h'
  unfold one
  rw [if_neg (by rw [h'.1]; decide), if_neg (by rw [h'.2]; decide), if_neg (show ¬ UInt8.toNat 13 = 34 by decide), if_neg (show ¬ UInt8.toNat 13 = 91 by decide), if_neg (show ¬ UInt8.toNat 13 = 40 by decide), if_pos h]
/-- One token, its text told anew, with what may stand behind it. -/
theorem one_re {c : UInt8} {r t X : List UInt8} {k : Int} {u p : Nat} {l : List Tok} (h : one c r = (k, .ok t u)) (hl : lexs ((c :: r).drop u) p = .inl l) (hX : X = [] ↔ (c :: r).drop u = []) (hh : ∀ b x b' x', X = b :: x → (c :: r).drop u = b' :: x' → b = b') :
    ∃ y, src k t = c :: y ∧ one c (y ++ X) = (k, .ok t (y.length + 1)) := by
  have hst : ∀ p : UInt8 → Bool, (∀ b' x', (c :: r).drop u = b' :: x' → p b' = false) → stops p X := by
    intro p hp
    cases hx : X with
    | nil => trivial
    | cons b x =>
      cases hd : (c :: r).drop u with
      | nil => rw [hX.2 hd] at hx; cases hx
      | cons b' x' =>
        have := hh b x b' x' hx hd
        subst this
        exact hp b x' hd
  unfold one at h
  split at h
  · rename_i h1
    cases h
    have ha := al_pos (r := r) h1
    obtain ⟨n, hn⟩ : ∃ n, al (c :: r) = n + 1 := ⟨al (c :: r) - 1, by omega⟩
    have hs : stops atomB X := hst atomB fun b' x' hd => by
      have := al_stops (c :: r)
      rw [hd] at this; exact this
    have hall := al_all (c :: r)
    have hlen := al_le (c :: r)
    refine ⟨r.take n, by simp [src, hn], ?_⟩
    rw [hn, List.take_succ_cons] at hall
    have hre : al (c :: (r.take n ++ X)) = n + 1 := by
      have := al_app hs (c :: r.take n) hall
      rw [List.cons_append] at this
      rw [this]; simp at hlen ⊢; omega
    have hl2 : (r.take n).length = n := by simp at hlen ⊢; omega
    unfold one
    rw [if_pos h1, hre, hn, hl2]
    rw [show (c :: (r.take n ++ X)).take (n + 1) = (c :: r).take (n + 1) by
      rw [List.take_succ_cons, List.take_succ_cons, List.take_append, hl2, List.take_of_length_le (by omega)]; simp]
  · rename_i h1
    split at h
    · rename_i h2
      cases h
      exact ⟨[], by simp [src], by unfold one; rw [if_neg h1, if_pos h2]; rfl⟩
    · rename_i h2
      split at h
      · rename_i h3
        obtain ⟨u', h4, rfl⟩ := up_ok (Prod.mk.inj h).2
        have hk := (Prod.mk.inj h).1
        subst hk
        have hm := qt_may _ (Nat.le_refl _) h4
        refine ⟨esc t ++ [34], by rw [u8_eq h3]; simp [src], ?_⟩
        have := (qt_esc t X).1 hm
        unfold one
        rw [if_neg h1, if_neg h2, if_pos h3, show esc t ++ [34] ++ X = esc t ++ 34 :: X by simp, this]
        simp [Tk.up]; omega
      · rename_i h3
        split at h
        · rename_i h4
          obtain ⟨u', h5, rfl⟩ := up_ok (Prod.mk.inj h).2
          obtain ⟨i1, _⟩ := ltk_end h5
          have hk := (Prod.mk.inj h).1
          subst hk
          refine ⟨t ++ [93], by rw [u8_eq h4]; simp [src], ?_⟩
          unfold one
          rw [if_neg h1, if_neg h2, if_neg h3, if_pos h4, show t ++ [93] ++ X = t ++ 93 :: X by simp, ltk_re X h5]
          simp [Tk.up, i1]; omega
        · rename_i h4
          split at h
          · rename_i h5
            obtain ⟨u', h6, rfl⟩ := up_ok (Prod.mk.inj h).2
            obtain ⟨i1, _⟩ := nt_end _ (Nat.le_refl _) h6
            have hk := (Prod.mk.inj h).1
            subst hk
            refine ⟨t ++ [41], by rw [u8_eq h5]; simp [src], ?_⟩
            unfold one
            rw [if_neg h1, if_neg h2, if_neg h3, if_neg h4, if_pos h5, show t ++ [41] ++ X = t ++ 41 :: X by simp, nt_re X _ (Nat.le_refl _) h6]
            simp [Tk.up, i1]; omega
          · rename_i h5
            split at h
            · cases h
            · rename_i h6
              cases h
              obtain ⟨n, hn⟩ : ∃ n, wl (c :: r) = n + 1 := ⟨wl (c :: r) - 1, by omega⟩
              have hlen := wl_le (c :: r)
              have hs : stops goB X := hst goB fun b' x' hd => by
                obtain ⟨g1, g2⟩ := wl_go _ (c :: r) (Nat.le_refl _) b' x' hd
                simp only [goB, g1, Bool.false_or]
                rw [beq_eq_false_iff_ne]
                intro hb
                subst hb
                rw [hd, lexs_start (one_nl g2)] at hl
                cases hl
              have hre := wl_re hs _ (c :: r) (Nat.le_refl _)
              refine ⟨r.take n, by simp [src, hn], ?_⟩
              rw [hn, List.take_succ_cons, List.cons_append] at hre
              have hl2 : (r.take n).length = n := by simp at hlen ⊢; omega
              unfold one
              rw [if_neg h1, if_neg h2, if_neg h3, if_neg h4, if_neg h5, if_neg (by rw [hre]; omega), hre, hn, hl2]
              rw [show (c :: (r.take n ++ X)).take (n + 1) = (c :: r).take (n + 1) by
                rw [List.take_succ_cons, List.take_succ_cons, List.take_append, hl2, List.take_of_length_le (by omega)]; simp]
theorem relex : ∀ (m : Nat) (s : List UInt8) (p : Nat) (l : List Tok), s.length ≤ m → lexs s p = .inl l →
    (srcs l = [] ↔ s = []) ∧ (∀ b x b' x', srcs l = b :: x → s = b' :: x' → b = b') ∧ ∀ q, ∃ l', lexs (srcs l) q = .inl l' ∧ sameL l l'
  | _, [], p, l, _, h => by
    rw [lexs_nil] at h; cases h
    exact ⟨by simp [srcs], (fun b x b' x' h => by simp [srcs] at h), fun q => ⟨[], lexs_nil q, trivial⟩⟩
  | 0, c :: r, p, l, hm, h => by simp at hm
  | m + 1, c :: r, p, l, hm, h => by
    obtain ⟨k, t, u, l', h1, h2, rfl⟩ := lexs_inl h
    have hu := one_used h1
    obtain ⟨i1, i2, i3⟩ := relex m ((c :: r).drop u) (p + u) l' (by simp at hm ⊢; omega) h2
    obtain ⟨y, hy, ho⟩ := one_re (X := srcs l') h1 h2 i1 i2
    have hs : srcs ((k, t, (p : Int)) :: l') = c :: (y ++ srcs l') := by
      show src k t ++ srcs l' = _
      rw [hy]; rfl
    refine ⟨by simp [hs], fun b x b' x' h3 h4 => by rw [hs] at h3; cases h3; cases h4; rfl, fun q => ?_⟩
    obtain ⟨l'', g1, g2⟩ := i3 (q + (y.length + 1))
    refine ⟨(k, t, (q : Int)) :: l'', ?_, rfl, rfl, g2⟩
    rw [hs, lexs_ok ho, show (c :: (y ++ srcs l')).drop (y.length + 1) = srcs l' by simp, g1]; rfl
theorem srcs_len : ∀ (m : Nat) (s : List UInt8) (p : Nat) (l : List Tok), s.length ≤ m → lexs s p = .inl l → (srcs l).length ≤ 2 * s.length ∧ (∀ x ∈ l, x.2.1.length ≤ s.length) ∧ ((∀ x ∈ l, x.1 ≠ 1) → srcs l = s)
  | _, [], p, l, _, h => by rw [lexs_nil] at h; cases h; simp [srcs]
  | 0, c :: r, p, l, hm, h => by simp at hm
  | m + 1, c :: r, p, l, hm, h => by
    obtain ⟨k, t, u, l', h1, h2, rfl⟩ := lexs_inl h
    have hu := one_used h1
    obtain ⟨i1, i2, i3⟩ := srcs_len m ((c :: r).drop u) (p + u) l' (by simp at hm ⊢; omega) h2
    obtain ⟨f1, f2⟩ := one_src h1
    have ht := one_text_len h1
    have hs : srcs ((k, t, (p : Int)) :: l') = src k t ++ srcs l' := rfl
    simp only [List.length_drop, List.length_cons] at i1 i2 ⊢
    refine ⟨?_, fun x hx => ?_, fun hq => ?_⟩
    · rw [hs, List.length_append]
      by_cases hk : k = 1
      · have := (f2 hk).2
        have he := esc_len t
        have : (src k t).length = (esc t).length + 2 := by simp [src, hk]
        omega
      · rw [f1 hk, List.length_take, List.length_cons]; omega
    · rcases List.mem_cons.1 hx with rfl | hx
      · simp only; omega
      · have := i2 x hx; omega
    · rw [hs, f1 (hq (k, t, (p : Int)) (by simp)), i3 fun x hx => hq x (by simp [hx]), List.take_append_drop]
end Go.Proofs.YtkmojkibclbmjaaDoor.W
