/- Where tokens end. -/
import Derived.Test.YtkmojkibclbmjaaDoorPL6
set_option linter.unusedVariables false
set_option linter.unusedSimpArgs false
set_option maxRecDepth 100000
namespace Go.Proofs.YtkmojkibclbmjaaDoor.W
open Go Go.Ae
theorem ltk_end : ∀ {r t : List UInt8} {u : Nat}, ltk r = .ok t u → u = t.length + 1 ∧ ∃ x, r = t ++ 93 :: x
  | [], t, u, h => by simp [ltk] at h
  | c :: r, t, u, h => by
    unfold ltk at h
    split at h
    · rename_i hc
      cases h
      exact ⟨rfl, r, by rw [u8_eq hc]; rfl⟩
    · split at h
      · cases h
      · split at h
        · cases h
        · cases h1 : blankB c <;> cases h2 : mayB c <;> rw [h1, h2] at h <;> simp only [cond_true, cond_false] at h <;> try (cases h; done)
          obtain ⟨t', u', h3, rfl, rfl⟩ := push_ok h
          obtain ⟨i1, x, i2⟩ := ltk_end h3
          exact ⟨by simp; omega, x, by rw [i2]; simp⟩
theorem nt_end : ∀ (m : Nat) {r t : List UInt8} {u deep : Nat}, r.length ≤ m → nt deep r = .ok t u → u = t.length + 1 ∧ ∃ x, r = t ++ 41 :: x
  | _, [], t, u, deep, _, h => by simp [nt] at h
  | 0, c :: r, t, u, deep, hm, h => by simp at hm
  | m + 1, c :: r, t, u, deep, hm, h => by
    simp only [List.length_cons] at hm
    have one : ∀ (d' : Nat), (nt d' r).push [c] 1 = .ok t u → u = t.length + 1 ∧ ∃ x, c :: r = t ++ 41 :: x := by
      intro d' h
      obtain ⟨t', u', h1, rfl, rfl⟩ := push_ok h
      obtain ⟨i1, x, i2⟩ := nt_end m (by omega) h1
      exact ⟨by simp; omega, x, by rw [i2]; simp⟩
    by_cases e1 : c.toNat = 40
    · rw [nt_o e1] at h
      split at h
      · cases h
      · exact one _ h
    · by_cases e2 : c.toNat = 41
      · rw [nt_c e2] at h
        split at h
        · cases h; exact ⟨rfl, r, by rw [u8_eq e2]; rfl⟩
        · exact one _ h
      · by_cases e3 : c.toNat = 92
        · match r, hm, h with
          | [], hm, h => rw [nt_b0 e3] at h; cases h
          | d :: r', hm, h =>
            simp only [List.length_cons] at hm
            rw [nt_b1 e3] at h
            cases hd : mayB d <;> rw [hd] at h
            · cases h
            · obtain ⟨t', u', h1, rfl, rfl⟩ := push_ok h
              obtain ⟨i1, x, i2⟩ := nt_end m (by omega) h1
              exact ⟨by simp; omega, x, by rw [i2]; simp⟩
        · rw [nt_m e1 e2 e3] at h
          cases hd : mayB c <;> rw [hd] at h
          · cases h
          · exact one _ h
/-- What a token is of its text. -/
theorem one_src {c : UInt8} {r t : List UInt8} {k : Int} {u : Nat} (h : one c r = (k, .ok t u)) : (k ≠ 1 → src k t = (c :: r).take u) ∧ (k = 1 → c = 34 ∧ t.length + 2 ≤ u) := by
  unfold one at h
  split at h
  · cases h; exact ⟨fun _ => by simp [src], fun h => by cases h⟩
  · split at h
    · cases h; exact ⟨fun _ => by simp [src], fun h => by cases h⟩
    · split at h
      · rename_i hc
        obtain ⟨u', h1, rfl⟩ := up_ok (Prod.mk.inj h).2
        have hk := (Prod.mk.inj h).1
        have := qt_used _ (Nat.le_refl _) h1
        exact ⟨fun hk' => absurd hk.symm hk', fun _ => ⟨u8_eq hc, by omega⟩⟩
      · split at h
        · rename_i hc
          obtain ⟨u', h1, rfl⟩ := up_ok (Prod.mk.inj h).2
          obtain ⟨i1, x, i2⟩ := ltk_end h1
          have hk := (Prod.mk.inj h).1
          subst hk
          refine ⟨fun _ => ?_, fun h => by cases h⟩
          rw [i2, i1, u8_eq hc]
          simp [src, Nat.add_comm 1, List.take_append, List.take_of_length_le]
        · split at h
          · rename_i hc
            obtain ⟨u', h1, rfl⟩ := up_ok (Prod.mk.inj h).2
            obtain ⟨i1, x, i2⟩ := nt_end _ (Nat.le_refl _) h1
            have hk := (Prod.mk.inj h).1
            subst hk
            refine ⟨fun _ => ?_, fun h => by cases h⟩
            rw [i2, i1, u8_eq hc]
            simp [src, Nat.add_comm 1, List.take_append, List.take_of_length_le]
          · split at h
            · cases h
            · cases h; exact ⟨fun _ => by simp [src], fun h => by cases h⟩
theorem one_text_len {c : UInt8} {r t : List UInt8} {k : Int} {u : Nat} (h : one c r = (k, .ok t u)) : t.length ≤ u := by
  obtain ⟨h1, h2⟩ := one_src h
  have hu := one_used h
  by_cases hk : k = 1
  · have := (h2 hk).2; omega
  · have := h1 hk
    have hl : t.length ≤ (src k t).length := by
      unfold src; split
      · rename_i h; exact absurd h hk
      · split
        · simp; omega
        · split
          · simp; omega
          · omega
    rw [this] at hl
    simp only [List.length_take, List.length_cons] at hl
    omega
/-! ### Where a text is wrong -/
theorem push_bad {k : Tk} {l : List UInt8} {n off : Nat} {e : Int} (h : k.push l n = .bad off e) : ∃ off', k = .bad off' e ∧ off = n + off' := by
  cases k <;> simp [Tk.push] at h
  obtain ⟨rfl, rfl⟩ := h
  exact ⟨_, rfl, rfl⟩
theorem up_bad {k : Tk} {off : Nat} {e : Int} (h : k.up = .bad off e) : ∃ off', k = .bad off' e ∧ off = 1 + off' := by
  cases k <;> simp [Tk.up] at h
  obtain ⟨rfl, rfl⟩ := h
  exact ⟨_, rfl, rfl⟩
theorem qt_off : ∀ (m : Nat) {r : List UInt8} {off : Nat} {e : Int}, r.length ≤ m → qt r = .bad off e → off < r.length
  | _, [], off, e, _, h => by simp [qt] at h
  | 0, c :: r, off, e, hm, h => by simp at hm
  | m + 1, c :: r, off, e, hm, h => by
    simp only [List.length_cons] at hm ⊢
    by_cases e1 : c.toNat = 34
    · rw [qt_q e1] at h; cases h
    · by_cases e2 : c.toNat = 92
      · match r, hm, h with
        | [], hm, h => rw [qt_b0 e2] at h; cases h
        | d :: r', hm, h =>
          rw [qt_b1 e2] at h
          cases hd : mayB d <;> rw [hd] at h
          · cases h; simp
          · obtain ⟨o', h1, rfl⟩ := push_bad h
            have := qt_off m (by simp at hm; omega) h1
            simp; omega
      · rw [qt_c e1 e2] at h
        cases hd : mayB c <;> rw [hd] at h
        · cases h; omega
        · obtain ⟨o', h1, rfl⟩ := push_bad h
          have := qt_off m (by omega) h1
          omega
theorem ltk_off : ∀ {r : List UInt8} {off : Nat} {e : Int}, ltk r = .bad off e → off < r.length
  | [], off, e, h => by simp [ltk] at h
  | c :: r, off, e, h => by
    simp only [List.length_cons]
    unfold ltk at h
    split at h
    · cases h
    · split at h
      · cases h; omega
      · split at h
        · cases h; omega
        · cases h1 : blankB c <;> cases h2 : mayB c <;> rw [h1, h2] at h <;> simp only [cond_true, cond_false] at h <;> try (cases h; omega)
          obtain ⟨o', h3, rfl⟩ := push_bad h
          have := ltk_off h3
          omega
theorem nt_off : ∀ (m : Nat) {r : List UInt8} {off deep : Nat} {e : Int}, r.length ≤ m → nt deep r = .bad off e → off < r.length
  | _, [], off, deep, e, _, h => by simp [nt] at h
  | 0, c :: r, off, deep, e, hm, h => by simp at hm
  | m + 1, c :: r, off, deep, e, hm, h => by
    simp only [List.length_cons] at hm ⊢
    have one : ∀ (d' : Nat), (nt d' r).push [c] 1 = .bad off e → off < r.length + 1 := by
      intro d' h
      obtain ⟨o', h1, rfl⟩ := push_bad h
      have := nt_off m (by omega) h1
      omega
    by_cases e1 : c.toNat = 40
    · rw [nt_o e1] at h
      split at h
      · cases h; omega
      · exact one _ h
    · by_cases e2 : c.toNat = 41
      · rw [nt_c e2] at h
        split at h
        · cases h
        · exact one _ h
      · by_cases e3 : c.toNat = 92
        · match r, hm, h with
          | [], hm, h => rw [nt_b0 e3] at h; cases h
          | d :: r', hm, h =>
            simp only [List.length_cons] at hm
            rw [nt_b1 e3] at h
            cases hd : mayB d <;> rw [hd] at h
            · cases h; simp
            · obtain ⟨o', h1, rfl⟩ := push_bad h
              have := nt_off m (by omega) h1
              simp; omega
        · rw [nt_m e1 e2 e3] at h
          cases hd : mayB c <;> rw [hd] at h
          · cases h; omega
          · exact one _ h
theorem one_off {c : UInt8} {r : List UInt8} {k e : Int} {off : Nat} (h : one c r = (k, .bad off e)) : off < r.length + 1 := by
  unfold one at h
  split at h
  · cases h
  · split at h
    · cases h
    · split at h
      · obtain ⟨o', h1, rfl⟩ := up_bad (Prod.mk.inj h).2
        have := qt_off _ (Nat.le_refl _) h1
        omega
      · split at h
        · obtain ⟨o', h1, rfl⟩ := up_bad (Prod.mk.inj h).2
          have := ltk_off h1
          omega
        · split at h
          · obtain ⟨o', h1, rfl⟩ := up_bad (Prod.mk.inj h).2
            have := nt_off _ (Nat.le_refl _) h1
            omega
          · split at h <;> cases h
theorem cons1_inr {x : Tok} {y : List Tok ⊕ (Nat × Int)} {e : Nat × Int} (h : cons1 x y = .inr e) : y = .inr e := by cases y <;> simp [cons1] at h; rw [h]
theorem cons1_inl {x : Tok} {y : List Tok ⊕ (Nat × Int)} {l : List Tok} (h : cons1 x y = .inl l) : ∃ l', y = .inl l' ∧ l = x :: l' := by cases y <;> simp [cons1] at h; exact ⟨_, rfl, h.symm⟩
theorem lexs_err : ∀ (m : Nat) (s : List UInt8) (p b : Nat) (e : Int), s.length ≤ m → lexs s p = .inr (b, e) → b < p + s.length ∧ (e = 4 ∨ e = 6)
  | _, [], p, b, e, _, h => by rw [lexs_nil] at h; cases h
  | 0, c :: r, p, b, e, hm, h => by simp at hm
  | m + 1, c :: r, p, b, e, hm, h => by
    simp only [List.length_cons] at hm ⊢
    cases h1 : one c r with
    | mk k tk =>
      cases tk with
      | ok t u =>
        rw [lexs_ok h1] at h
        have hu := one_used h1
        have := lexs_err m _ _ b e (by simp; omega) (cons1_inr h)
        simp only [List.length_drop, List.length_cons] at this
        exact ⟨by omega, this.2⟩
      | bad off e' =>
        rw [lexs_bad h1] at h
        cases h
        have := one_off h1
        have he := one_e c r
        rw [h1] at he
        exact ⟨by omega, he⟩
      | start =>
        rw [lexs_start h1] at h
        cases h
        exact ⟨by omega, .inl rfl⟩
/-- A text that is cut: the first token, and the rest. -/
theorem lexs_inl {c : UInt8} {r : List UInt8} {p : Nat} {l : List Tok} (h : lexs (c :: r) p = .inl l) : ∃ k t u l', one c r = (k, .ok t u) ∧ lexs ((c :: r).drop u) (p + u) = .inl l' ∧ l = (k, t, (p : Int)) :: l' := by
  cases h1 : one c r with
  | mk k tk =>
    cases tk with
    | ok t u =>
      rw [lexs_ok h1] at h
      obtain ⟨l', h2, h3⟩ := cons1_inl h
      exact ⟨k, t, u, l', rfl, h2, h3⟩
    | bad off e => rw [lexs_bad h1] at h; cases h
    | start => rw [lexs_start h1] at h; cases h
end Go.Proofs.YtkmojkibclbmjaaDoor.W
