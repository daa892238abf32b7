/- Characters: what is cut and joined at ASCII stays characters. -/
import Derived.Test.YtkmojkibclbmjaaDoorPL8
set_option linter.unusedVariables false
set_option linter.unusedSimpArgs false
set_option maxRecDepth 100000
namespace Go.Proofs.YtkmojkibclbmjaaDoor.W
open Go Go.Ae
inductive Val : List UInt8 → Prop
  | nil : Val []
  | cons (s : List UInt8) (h : ch s ≠ 0) (h2 : Val (s.drop (ch s))) : Val s
theorem ut_val : ∀ (n : Nat) (s : List UInt8) (p : Nat), s.length < n → ut n s p = none → Val s
  | 0, _, _, h, _ => by omega
  | n + 1, s, p, h, hu => by
    unfold ut at hu
    split at hu
    · rename_i hs; subst hs; exact .nil
    · split at hu
      · cases hu
      · rename_i hs h0
        have := ch_le s
        exact .cons s h0 (ut_val n _ _ (by simp; omega) hu)
theorem val_ut {s : List UInt8} (h : Val s) : ∀ (n p : Nat), ut n s p = none := by
  induction h with
  | nil => intro n p; cases n <;> simp [ut]
  | cons s h h2 ih =>
    intro n p
    cases n with
    | zero => rfl
    | succ n =>
      unfold ut
      split
      · rfl
      · first | exact ih n _ | (rw [if_neg h]; exact ih n _)
theorem utf_val {s : List UInt8} (hl : s.length ≤ 1000000) : utf s = none ↔ Val s :=
  ⟨fun h => ut_val _ _ _ (by unfold big; omega) h, fun h => val_ut h _ _⟩
def contK (c : UInt8) : Bool := !contB c || decide (128 ≤ c.toNat)
theorem cont_k : ((List.range 256).all fun n => contK (UInt8.ofNat n)) = true := by kernel_rfl
theorem cont_hi {c : UInt8} (h : contB c = true) : 128 ≤ c.toNat := by
  have := all256 contK cont_k c
  simpa [contK, h] using this
theorem conts_hi : ∀ (n : Nat) (r : List UInt8) (v v' : Int), conts n r v = some v' → n ≤ r.length ∧ ∀ c ∈ r.take n, 128 ≤ c.toNat
  | 0, r, v, v', _ => ⟨by omega, by simp⟩
  | n + 1, [], v, v', h => by simp [conts] at h
  | n + 1, c :: r, v, v', h => by
    cases hc : contB c with
    | true =>
      simp only [conts, hc, cond_true] at h
      obtain ⟨h1, h2⟩ := conts_hi n r _ _ h
      refine ⟨by simp; omega, fun x hx => ?_⟩
      rw [List.take_succ_cons] at hx
      rcases List.mem_cons.1 hx with rfl | hx
      · exact cont_hi hc
      · exact h2 x hx
    | false => simp [conts, hc] at h
theorem conts_app : ∀ (n : Nat) (r x : List UInt8) (v : Int), n ≤ r.length → conts n (r ++ x) v = conts n r v
  | 0, r, x, v, _ => by cases r <;> rfl
  | n + 1, [], x, v, h => by simp at h
  | n + 1, c :: r, x, v, h => by
    simp only [List.cons_append, conts]
    cases contB c
    · rfl
    · exact conts_app n r x _ (by simpa using h)
theorem ch_some {c : UInt8} {r : List UInt8} (h : ch (c :: r) ≠ 0) : ∃ v, ¬ leadN c < 0 ∧ ¬ r.length < (leadN c).toNat ∧ conts (leadN c).toNat r (leadV c) = some v ∧ lenR v = leadN c + 1 ∧ ch (c :: r) = (leadN c).toNat + 1 := by
  simp only [ch] at h
  split at h
  · exact absurd rfl h
  · rename_i h1
    split at h
    · exact absurd rfl h
    · rename_i h2
      split at h
      · exact absurd rfl h
      · rename_i v hv
        split at h
        · rename_i h3
          exact ⟨v, h1, h2, hv, h3, by simp [ch, h1, h2, hv, h3]⟩
        · exact absurd rfl h
theorem ch_app {s x : List UInt8} (h : ch s ≠ 0) : ch (s ++ x) = ch s := by
  cases s with
  | nil => exact absurd rfl h
  | cons c r =>
    obtain ⟨v, h1, h2, h3, h4, h5⟩ := ch_some h
    have : conts (leadN c).toNat (r ++ x) (leadV c) = some v := by rw [conts_app _ _ _ _ (by omega), h3]
    rw [h5, List.cons_append]
    simp only [ch, if_neg h1, if_neg (show ¬ (r ++ x).length < (leadN c).toNat by simp; omega), this, if_pos h4]
theorem ch_unapp {s x : List UInt8} (h : ch (s ++ x) ≠ 0) (hl : ch (s ++ x) ≤ s.length) : ch s = ch (s ++ x) := by
  cases s with
  | nil => simp at hl; exact absurd hl h
  | cons c r =>
    obtain ⟨v, h1, h2, h3, h4, h5⟩ := ch_some (r := r ++ x) h
    have h5' : ch (c :: r ++ x) = (leadN c).toNat + 1 := h5
    rw [h5'] at hl ⊢
    simp only [List.length_cons] at hl
    rw [conts_app _ _ _ _ (by omega)] at h3
    simp only [ch, if_neg h1, if_neg (show ¬ r.length < (leadN c).toNat by omega), h3, if_pos h4]
theorem Val.app {a b : List UInt8} (ha : Val a) (hb : Val b) : Val (a ++ b) := by
  induction ha with
  | nil => exact hb
  | cons s h h2 ih =>
    have := ch_le s
    refine .cons _ (by rw [ch_app h]; exact h) ?_
    rw [ch_app h, List.drop_append, show ch s - s.length = 0 by omega, List.drop_zero]; exact ih
theorem Val.one {c : UInt8} (h : c.toNat < 128) : Val [c] := .cons _ (by rw [ch_asc h]; simp) (by rw [ch_asc h]; exact .nil)
theorem Val.split : ∀ (m : Nat) (a : List UInt8) (c : UInt8) (b : List UInt8), a.length ≤ m → c.toNat < 128 → Val (a ++ c :: b) → Val a ∧ Val b
  | m, [], c, b, _, hc, h => by
    refine ⟨.nil, ?_⟩
    cases h with
    | cons _ h h2 => simpa [ch_asc hc] using h2
  | 0, d :: a, c, b, hm, hc, h => by simp at hm
  | m + 1, d :: a, c, b, hm, hc, h => by
    cases h with
    | cons _ h0 h2 =>
      have hk : ch (d :: a ++ c :: b) ≤ (d :: a).length := by
        by_cases hd : d.toNat < 128
        · have : ch (d :: a ++ c :: b) = 1 := ch_asc hd _
          rw [this]; simp
        · obtain ⟨v, g1, g2, g3, g4, g5⟩ := ch_some (r := a ++ c :: b) h0
          have g5' : ch (d :: a ++ c :: b) = (leadN d).toNat + 1 := g5
          rw [g5', List.length_cons]
          obtain ⟨e1, e2⟩ := conts_hi _ _ _ _ g3
          rcases Nat.lt_or_ge a.length (leadN d).toNat with hlt | hge
          · exfalso
            have : c ∈ (a ++ c :: b).take (leadN d).toNat := by
              rw [List.take_append]
              obtain ⟨j, hj⟩ : ∃ j, (leadN d).toNat - a.length = j + 1 := ⟨(leadN d).toNat - a.length - 1, by omega⟩
              rw [hj, List.take_succ_cons]; simp
            have := e2 c this
            omega
          · omega
      have hsame := ch_unapp (s := d :: a) (x := c :: b) h0 hk
      have h0' : ch (d :: a) ≠ 0 := by rw [hsame]; exact h0
      rw [List.drop_append, show ch (d :: a ++ c :: b) - (d :: a).length = 0 by omega, List.drop_zero, ← hsame] at h2
      obtain ⟨i1, i2⟩ := Val.split m ((d :: a).drop (ch (d :: a))) c b (by simp at hm ⊢; omega) hc h2
      exact ⟨.cons _ h0' i1, i2⟩
theorem Val.cut {a b : List UInt8} {c : UInt8} (hc : c.toNat < 128) (h : Val (a ++ c :: b)) : Val a ∧ Val b := Val.split _ a c b (Nat.le_refl _) hc h
theorem Val.glue {a b : List UInt8} {c : UInt8} (hc : c.toNat < 128) (ha : Val a) (hb : Val b) : Val (a ++ c :: b) := ha.app ((Val.one hc).app hb)
theorem val_esc : ∀ (t a : List UInt8), Val (a ++ t) → Val (a ++ esc t)
  | [], a, h => h
  | c :: t, a, h => by
    have he : a ++ esc (c :: t) = (a ++ esc1 c) ++ esc t := by simp [esc]
    rw [he]
    refine val_esc t _ ?_
    by_cases e1 : c.toNat = 34 ∨ c.toNat = 92
    · have hc : c.toNat < 128 := by omega
      obtain ⟨i1, i2⟩ := Val.cut hc h
      have h1 : esc1 c = [92, c] := by simp [esc1, e1]
      rw [h1, show a ++ [92, c] ++ t = a ++ 92 :: ([] ++ c :: t) by simp]
      exact Val.glue (by decide) i1 (Val.glue hc .nil i2)
    · have h1 : esc1 c = [c] := by simp [esc1, e1]
      rw [h1]; simpa using h
theorem val_qt : ∀ (m : Nat) {r t a : List UInt8} {u : Nat}, r.length ≤ m → qt r = .ok t u → Val (a ++ r.take (u - 1)) → Val (a ++ t)
  | _, [], t, a, u, _, h, _ => by simp [qt] at h
  | 0, c :: r, t, a, u, hm, h, _ => by simp at hm
  | m + 1, c :: r, t, a, u, hm, h, hv => by
    simp only [List.length_cons] at hm
    by_cases e1 : c.toNat = 34
    · rw [qt_q e1] at h; cases h
      simpa using hv
    · by_cases e2 : c.toNat = 92
      · match r, hm, h, hv with
        | [], hm, h, hv => rw [qt_b0 e2] at h; cases h
        | d :: r', hm, h, hv =>
          rw [qt_b1 e2] at h
          cases hd : mayB d <;> rw [hd] at h
          · cases h
          · obtain ⟨t', u', h1, rfl, rfl⟩ := push_ok h
            have hu' := qt_used _ (Nat.le_refl _) h1
            rw [show 2 + u' - 1 = (u' - 1) + 2 by omega] at hv
            simp only [List.take_succ_cons] at hv
            obtain ⟨g1, g2⟩ := Val.cut (by omega) hv
            have hv2 : Val ((a ++ [d]) ++ r'.take (u' - 1)) := by
              have := g1.app g2
              simpa using this
            have i1 := val_qt m (a := a ++ [d]) (by simp at hm; omega) h1 hv2
            simpa using i1
      · rw [qt_c e1 e2] at h
        cases hd : mayB c <;> rw [hd] at h
        · cases h
        · obtain ⟨t', u', h1, rfl, rfl⟩ := push_ok h
          have hu' := qt_used _ (Nat.le_refl _) h1
          rw [show 1 + u' - 1 = (u' - 1) + 1 by omega] at hv
          simp only [List.take_succ_cons] at hv
          have i1 := val_qt m (a := a ++ [c]) (by omega) h1 (by simpa using hv)
          simpa using i1
theorem val_qt' : ∀ (m : Nat) {r t : List UInt8} {u : Nat}, r.length ≤ m → qt r = .ok t u → True ∧ 1 ≤ u ∧ ∃ x, r = r.take (u - 1) ++ 34 :: x ∧ r.drop u = x
  | _, [], t, u, _, h => by simp [qt] at h
  | 0, c :: r, t, u, hm, h => by simp at hm
  | m + 1, c :: r, t, u, hm, h => by
    simp only [List.length_cons] at hm
    by_cases e1 : c.toNat = 34
    · rw [qt_q e1] at h; cases h
      exact ⟨trivial, by omega, r, by rw [u8_eq e1]; rfl, rfl⟩
    · by_cases e2 : c.toNat = 92
      · match r, hm, h with
        | [], hm, h => rw [qt_b0 e2] at h; cases h
        | d :: r', hm, h =>
          rw [qt_b1 e2] at h
          cases hd : mayB d <;> rw [hd] at h
          · cases h
          · obtain ⟨t', u', h1, rfl, rfl⟩ := push_ok h
            obtain ⟨i1, i2, x, i3, i4⟩ := val_qt' m (by simp at hm; omega) h1
            rw [show 2 + u' - 1 = (u' - 1) + 2 by omega, show 2 + u' = u' + 2 by omega]
            refine ⟨trivial, by omega, x, ?_, by simpa using i4⟩
            simp only [List.take_succ_cons, List.cons_append, List.cons.injEq, true_and]
            exact i3
      · rw [qt_c e1 e2] at h
        cases hd : mayB c <;> rw [hd] at h
        · cases h
        · obtain ⟨t', u', h1, rfl, rfl⟩ := push_ok h
          obtain ⟨i1, i2, x, i3, i4⟩ := val_qt' m (by omega) h1
          rw [show 1 + u' - 1 = (u' - 1) + 1 by omega, show 1 + u' = u' + 1 by omega]
          refine ⟨trivial, by omega, x, ?_, by simpa using i4⟩
          simp only [List.take_succ_cons, List.cons_append, List.cons.injEq, true_and]
          exact i3
/-! ### Where a token ends -/
def hiK (c : UInt8) : Bool := decide (c.toNat < 128) || atomB c
theorem hi_k : ((List.range 256).all fun n => hiK (UInt8.ofNat n)) = true := by kernel_rfl
theorem hi_atom {c : UInt8} (h : atomB c = false) : c.toNat < 128 := by
  have := all256 hiK hi_k c
  simpa [hiK, h] using this
def blankK (c : UInt8) : Bool := !blankB c || decide (c.toNat < 128)
theorem blank_k : ((List.range 256).all fun n => blankK (UInt8.ofNat n)) = true := by kernel_rfl
theorem blank_lo {c : UInt8} (h : blankB c = true) : c.toNat < 128 := by
  have := all256 blankK blank_k c
  simpa [blankK, h] using this
theorem wl_last : ∀ (m : Nat) (s : List UInt8), s.length ≤ m → wl s ≠ 0 → ∃ y z, s.take (wl s) = y ++ [z] ∧ z.toNat < 128
  | m, [], _, h => absurd rfl h
  | 0, c :: s, hm, h => by simp at hm
  | m + 1, c :: s, hm, h => by
    simp only [List.length_cons] at hm
    cases hb : blankB c with
    | true =>
      rw [wl_t hb, List.take_succ_cons]
      by_cases h0 : wl s = 0
      · exact ⟨[], c, by simp [h0], blank_lo hb⟩
      · obtain ⟨y, z, h1, h2⟩ := wl_last m s (by omega) h0
        exact ⟨c :: y, z, by rw [h1]; rfl, h2⟩
    | false =>
      match s, hm, h with
      | [], hm, h => exact absurd (wl_stop hb (by simp)) h
      | [x], hm, h => exact absurd (wl_stop hb (by simp)) h
      | x :: d :: s', hm, h =>
        cases hq : (c == 13 && x == 10) && blankB d with
        | false => exact absurd (show wl (c :: x :: d :: s') = 0 by rw [wl, hb, hq]; rfl) h
        | true =>
          have hw : wl (c :: x :: d :: s') = wl s' + 3 := by rw [wl, hb, hq]; rfl
          simp only [Bool.and_eq_true] at hq
          rw [hw]
          simp only [List.take_succ_cons]
          by_cases h0 : wl s' = 0
          · exact ⟨[c, x], d, by simp [h0], blank_lo hq.2⟩
          · obtain ⟨y, z, h1, h2⟩ := wl_last m s' (by simp at hm; omega) h0
            exact ⟨c :: x :: d :: y, z, by rw [h1]; rfl, h2⟩
/-- A token ends where characters end; and what it says is characters. -/
theorem val_one {c : UInt8} {r t : List UInt8} {k : Int} {u : Nat} (h : one c r = (k, .ok t u)) (hv : Val (c :: r)) : Val (src k t) ∧ Val ((c :: r).drop u) := by
  have base : (k ≠ 1) → Val ((c :: r).take u) ∧ Val ((c :: r).drop u) → Val (src k t) ∧ Val ((c :: r).drop u) := fun hk h' => ⟨by rw [(one_src h).1 hk]; exact h'.1, h'.2⟩
  have last : ∀ y z, (c :: r).take u = y ++ [z] → z.toNat < 128 → Val ((c :: r).take u) ∧ Val ((c :: r).drop u) := by
    intro y z h1 h2
    have : c :: r = y ++ z :: (c :: r).drop u := by
      have := List.take_append_drop u (c :: r)
      rw [h1] at this
      simpa using this.symm
    rw [this] at hv
    obtain ⟨i1, i2⟩ := Val.cut h2 hv
    rw [h1]
    exact ⟨i1.app (Val.one h2), i2⟩
  have h0 := h
  unfold one at h
  split at h
  · cases h
    refine base (by decide) ?_
    cases hd : (c :: r).drop (al (c :: r)) with
    | nil =>
      have := List.take_append_drop (al (c :: r)) (c :: r)
      rw [hd, List.append_nil] at this
      rw [this]; exact ⟨hv, .nil⟩
    | cons b x =>
      have hs := al_stops (c :: r)
      rw [hd] at hs
      have hb := hi_atom hs
      have := List.take_append_drop (al (c :: r)) (c :: r)
      rw [hd] at this
      rw [← this] at hv
      obtain ⟨i1, i2⟩ := Val.cut hb hv
      exact ⟨i1, Val.glue hb .nil i2⟩
  · rename_i h1
    have hc : c.toNat < 128 := hi_atom (by simpa using h1)
    split at h
    · cases h
      exact base (by decide) (last [] c rfl hc)
    · split at h
      · rename_i h3
        obtain ⟨u', h4, rfl⟩ := up_ok (Prod.mk.inj h).2
        have hk := (Prod.mk.inj h).1
        subst hk
        have hu' := qt_used _ (Nat.le_refl _) h4
        have hvr : Val r := (Val.cut (a := []) hc hv).2
        have hx : ∃ x, r = r.take (u' - 1) ++ 34 :: x ∧ r.drop u' = x := by
          obtain ⟨_, _, x, h5, h6⟩ := val_qt' _ (Nat.le_refl _) h4
          exact ⟨x, h5, h6⟩
        obtain ⟨x, h5, h6⟩ := hx
        rw [h5] at hvr
        obtain ⟨i1, i2⟩ := Val.cut (by decide) hvr
        have j1 := val_qt _ (a := []) (Nat.le_refl _) h4 (by simpa using i1)
        refine ⟨?_, by rw [Nat.add_comm 1, List.drop_succ_cons, h6]; exact i2⟩
        have := val_esc t [] (by simpa using j1)
        have h7 : src 1 t = [] ++ 34 :: (esc t ++ 34 :: []) := by simp [src]
        rw [h7]
        exact Val.glue (by decide) .nil (Val.glue (by decide) (by simpa using this) .nil)
      · split at h
        · obtain ⟨u', h5, rfl⟩ := up_ok (Prod.mk.inj h).2
          obtain ⟨i1, x, i2⟩ := ltk_end h5
          have hk := (Prod.mk.inj h).1
          subst hk
          refine base (by decide) (last (c :: t) 93 ?_ (by decide))
          rw [i2, i1]; simp [Nat.add_comm 1, List.take_append, List.take_of_length_le]
        · split at h
          · obtain ⟨u', h6, rfl⟩ := up_ok (Prod.mk.inj h).2
            obtain ⟨i1, x, i2⟩ := nt_end _ (Nat.le_refl _) h6
            have hk := (Prod.mk.inj h).1
            subst hk
            refine base (by decide) (last (c :: t) 41 ?_ (by decide))
            rw [i2, i1]; simp [Nat.add_comm 1, List.take_append, List.take_of_length_le]
          · split at h
            · cases h
            · rename_i h6
              cases h
              obtain ⟨y, z, g1, g2⟩ := wl_last _ (c :: r) (Nat.le_refl _) h6
              exact base (by decide) (last y z g1 g2)
theorem val_srcs : ∀ (m : Nat) (s : List UInt8) (p : Nat) (l : List Tok), s.length ≤ m → lexs s p = .inl l → Val s → Val (srcs l)
  | _, [], p, l, _, h, _ => by rw [lexs_nil] at h; cases h; exact .nil
  | 0, c :: r, p, l, hm, h, _ => by simp at hm
  | m + 1, c :: r, p, l, hm, h, hv => by
    obtain ⟨k, t, u, l', h1, h2, rfl⟩ := lexs_inl h
    have hu := one_used h1
    obtain ⟨i1, i2⟩ := val_one h1 hv
    exact i1.app (val_srcs m _ _ l' (by simp at hm ⊢; omega) h2 i2)
end Go.Proofs.YtkmojkibclbmjaaDoor.W
