/- The texts of the proof, one behind the other: PUnesc3, PEscBack, PPrint, PPrint2, PMsg, PBuild, PRead, PFew, PBounceBuilds, PGlob. -/
import Derived.Test.YtmfcepdbpdihgaaGreatDoorMs5
import Derived.Test.YtmfcepdbpdihgaaGreatDoorMs2
import Derived.Test.YtmfcepdbpdihgaaGreatDoorRows
import Derived.Test.YtmfcepdbpdihgaaGreatDoorProg
import Derived.MakeChecks
set_option linter.unusedVariables false
set_option linter.unusedSimpArgs false
set_option maxRecDepth 100000
namespace Go.Proofs.YtmfcepdbpdihgaaGreatDoor.W
open Go Go.Ae Go.Pl
theorem krun (x1 : Int) (x3 : List Int) : ∀ (t pre : List UInt8) (m : Nat), pre.length + t.length ≤ 1000000000 → t.length < m →
    loopN F10_l0 m (pre ++ t, x1, (pre.length : Int), x3, ()) = some (pre ++ t, x1, ((pre.length + fp e125 t : Nat) : Int), x3, ())
  | _, _, 0, _, hm => by omega
  | [], pre, m + 1, hl, hm => by
    refine loopN_inr ?_
    have hi : decide ((pre.length : Int) < (pre.length : Int)) = false := by simp
    simp only [F10_l0, List.append_nil, hi, cond_false, fp, Nat.add_zero]
  | c :: t, pre, m + 1, hl, hm => by
    simp only [List.length_cons] at hl hm
    have hi : decide ((pre.length : Int) < ((pre ++ c :: t).length : Int)) = true := by simp; omega
    have hi0 : decide (0 ≤ (pre.length : Int)) = true := by simp
    have hw : IntKind.i64.wrap ((pre.length : Int) + 1) = ((pre.length + 1 : Nat) : Int) := wrN _ (by omega)
    have hg : (pre ++ c :: t).getD ((pre.length : Int)).toNat 0 = c := by rw [Int.toNat_natCast]; exact gd rfl
    have hb : (((c.toNat : Nat) : Int) != 125) = !(e125 c) := by
      unfold e125
      by_cases hc : c = 125
      · subst hc; rfl
      · have h1 : (c == 125) = false := by simpa using hc
        rw [h1, inT]; rfl
        intro e
        exact hc (u8_eq (n := 125) (by omega))
    cases he : e125 c with
    | true =>
      rw [loopN_inr (y := (pre ++ c :: t, x1, (pre.length : Int), x3, ())) (by simp only [F10_l0, hi, hi0, hg, hb, he, cond_true, cond_false, Bool.and_self, Bool.not_true])]
      simp [fp, he]
    | false =>
      rw [loopN_inl (v' := (pre ++ c :: t, x1, ((pre.length + 1 : Nat) : Int), x3, ())) (by simp only [F10_l0, hi, hi0, hg, hw, hb, he, cond_true, cond_false, Bool.and_self, Bool.not_false])]
      rw [shift, show ((pre.length + 1 : Nat) : Int) = ((pre ++ [c]).length : Int) by simp, krun x1 x3 t (pre ++ [c]) m (by simp; omega) (by omega)]
      simp only [fp, he, cond_false, List.length_append, List.length_cons, List.length_nil]
      congr 4
      omega
def escAtR (s : List UInt8) : Option (Int × List UInt8) := match escAt s with
  | some (v, t) => if 1114111 < v then none else some (v, t)
  | none => none
theorem rc0_ (pre rest : List UInt8) (out : List Int) (hl : pre.length + rest.length ≤ 1000000) (ho : out.length ≤ 1000000) :
    C10_c0 (pre ++ 92 :: 120 :: 123 :: rest, (pre.length : Int), out, ()) = some (match escAtR (92 :: 120 :: 123 :: rest) with
      | some (v, t) => .inr (pre ++ 92 :: 120 :: 123 :: rest, ((pre.length + 3 + fp e125 rest : Nat) : Int), out ++ [v], ())
      | none => .inl ([], false, ())) := by
  have hsp : pre ++ 92 :: 120 :: 123 :: rest = (pre ++ [92, 120, 123]) ++ rest := by simp
  have hpl : (pre ++ [92, 120, 123]).length = pre.length + 3 := by simp
  have hw3 : IntKind.i64.wrap ((pre.length : Int) + 3) = ((pre.length + 3 : Nat) : Int) := by rw [w64] <;> omega
  have hk := krun (pre.length : Int) out rest (pre ++ [92, 120, 123]) big (by rw [hpl]; omega) (by unfold big; omega)
  rw [hpl] at hk
  have hk' : C10_l0 ((pre ++ [92, 120, 123]) ++ rest, (pre.length : Int), ((pre.length + 3 : Nat) : Int), out, ()) = _ := hk
  have hle := fp_le e125 rest
  have hhp : hasP [92, 120, 123] (92 :: 120 :: 123 :: rest) = true := by simp [hasP]
  have hd3 : (92 :: 120 :: 123 :: rest).drop 3 = rest := rfl
  unfold escAtR escAt
  rw [if_pos hhp, hd3, hsp]
  simp only [C10_c0, F10_c0, hw3, hk', Option.bind_some]
  have hlen : ((pre ++ [92, 120, 123]) ++ rest).length = pre.length + 3 + rest.length := by rw [List.length_append, hpl]
  by_cases hf : fp e125 rest < rest.length
  · have e1 : (((pre.length + 3 + fp e125 rest : Nat) : Int) == ((((pre ++ [92, 120, 123]) ++ rest).length : Nat) : Int)) = false := by rw [hlen, ibF]; omega
    have e2 : decide (0 ≤ ((pre.length + 3 + fp e125 rest : Nat) : Int)) = true := by simp; omega
    have e3 : decide (((pre.length + 3 + fp e125 rest : Nat) : Int) ≤ ((((pre ++ [92, 120, 123]) ++ rest).length : Nat) : Int)) = true := by rw [hlen]; simp; omega
    have e4 : decide (0 ≤ ((pre.length + 3 : Nat) : Int)) = true := by simp; omega
    have e5 : decide (((pre.length + 3 : Nat) : Int) ≤ ((pre.length + 3 + fp e125 rest : Nat) : Int)) = true := by simp; omega
    have htd : List.drop (pre.length + 3) (List.take (pre.length + 3 + fp e125 rest) ((pre ++ [92, 120, 123]) ++ rest)) = rest.take (fp e125 rest) := by
      rw [List.take_append, hpl, List.take_of_length_le (by rw [hpl]; omega), Nat.add_sub_cancel_left]
      exact dr hpl
    rw [if_pos hf]
    simp only [e1, e2, e3, e4, e5, Int.toNat_natCast, htd, c30, cond_true, cond_false, Bool.and_self, Option.bind_some]
    cases hv : hexV (rest.take (fp e125 rest)) with
    | none =>
      have d : decide ((-1 : Int) < 0) = true := by decide
      simp only [d, cond_true]
    | some n =>
      have hn := (hexV_back hv).2.2
      have d : decide ((n : Int) < 0) = false := by simp
      have hw : IntKind.i32.wrap (n : Int) = n := w32 (by omega) (by omega)
      simp only [d, cond_false, hw, c29, Option.bind_some]
      have eo : decide (out.length + 1 ≤ 140737488355328 / 4) = true := by simp; omega
      by_cases hp : plainB (n : Int) = true
      · rw [if_pos hp, hp]
        have h2 : decide ((n : Int) > 1114111) = false := by have := plainB_iff.1 hp; simp; omega
        simp only [h2, cond_false, cond_true]
      · rw [if_neg hp]
        simp only [Bool.not_eq_true] at hp
        rw [hp]
        by_cases hb : 1114111 < (n : Int)
        · have h2 : decide ((n : Int) > 1114111) = true := by simp; omega
          simp only [h2, cond_true, if_pos hb]
        · have h2 : decide ((n : Int) > 1114111) = false := by simp; omega
          simp only [h2, cond_false, if_neg hb, List.length_cons, List.length_nil, Nat.zero_add, eo, cond_true]
  · have hfe : fp e125 rest = rest.length := by omega
    have e1 : (((pre.length + 3 + fp e125 rest : Nat) : Int) == ((((pre ++ [92, 120, 123]) ++ rest).length : Nat) : Int)) = true := by rw [hlen, hfe, ibT]; rfl
    rw [if_neg hf]
    simp only [e1, cond_true]
theorem escAt_no {s : List UInt8} (h : hasP [92, 120, 123] s = false) : escAtR s = none := by
  unfold escAtR escAt
  rw [if_neg (by rw [h]; simp)]
theorem ne_byte {c : UInt8} {n : Nat} (hn : n < 256) (h : c ≠ UInt8.ofNat n) : (((c.toNat : Nat) : Int) != (n : Int)) = true := by
  rw [inT]
  intro e
  exact h (u8_eq (by omega))
theorem rstep (c : UInt8) (r pre : List UInt8) (out : List Int) (hl : pre.length + r.length ≤ 900000) (ho : out.length ≤ 1000000) :
    F10_l1 C29 C10_c0 (pre ++ c :: r, (pre.length : Int), out, ()) = some (bif plainB (cv c) then .inl (pre ++ c :: r, ((pre.length + 1 : Nat) : Int), out ++ [cv c], ()) else match escAtR (c :: r) with
      | some (v, t) => .inl (pre ++ c :: r, ((pre.length + (r.length + 1 - t.length) : Nat) : Int), out ++ [v], ())
      | none => .inr (.inr ([], false, ()))) := by
  have hlen : (pre ++ c :: r).length = pre.length + (r.length + 1) := by simp
  have hi : decide ((pre.length : Int) < ((pre ++ c :: r).length : Int)) = true := by simp; omega
  have hi0 : decide (0 ≤ (pre.length : Int)) = true := by simp
  have hw : IntKind.i64.wrap ((pre.length : Int) + 1) = ((pre.length + 1 : Nat) : Int) := wrN _ (by omega)
  have hw2 : IntKind.i64.wrap ((pre.length : Int) + 2) = ((pre.length + 2 : Nat) : Int) := by rw [w64] <;> omega
  have hg : (pre ++ c :: r).getD ((pre.length : Int)).toNat 0 = c := by rw [Int.toNat_natCast]; exact gd rfl
  have eo : decide (out.length + 1 ≤ 140737488355328 / 4) = true := by simp; omega
  have hwl : IntKind.i64.wrap (((pre ++ c :: r).length : Int) - (pre.length : Int)) = ((r.length + 1 : Nat) : Int) := by rw [hlen, w64] <;> omega
  cases hp : plainB (cv c) with
  | true =>
    simp only [F10_l1, hi, hi0, hg, hw, cv32, c29, hp, List.length_cons, List.length_nil, Nat.zero_add, eo, Option.bind_some, cond_true, Bool.and_self]
  | false =>
    by_cases h4 : r.length + 1 < 4
    · have e4 : decide (((r.length + 1 : Nat) : Int) < 4) = true := by simp; omega
      have hnone : escAtR (c :: r) = none := by
        cases hh : hasP [92, 120, 123] (c :: r) with
        | false => exact escAt_no hh
        | true =>
          have hx := (hasP_len hh).2
          have h3 := (hasP_len hh).1
          simp only [List.length_cons, List.length_nil] at h3
          unfold escAtR escAt
          rw [if_pos hh, if_neg]
          simp only [List.length_drop, List.length_cons]
          omega
      simp only [F10_l1, hi, hi0, hg, cv32, c29, hp, hwl, e4, hnone, Option.bind_some, cond_true, cond_false, Bool.and_self]
    · have e4 : decide (((r.length + 1 : Nat) : Int) < 4) = false := by simp; omega
      match r, h4 with
      | [], h4 => simp at h4
      | [_], h4 => simp at h4
      | a :: b :: t, h4 =>
        simp only [List.length_cons] at hl h4
        have hg0 : (pre ++ c :: a :: b :: t).getD pre.length 0 = c := gd rfl
        have hg1 : (pre ++ c :: a :: b :: t).getD (pre.length + 1) 0 = a := by
          rw [shift]; exact gd (by simp)
        have hg2 : (pre ++ c :: a :: b :: t).getD (pre.length + 2) 0 = b := by
          rw [shift, shift]; exact gd (by simp)
        have j1 : decide (0 ≤ ((pre.length + 1 : Nat) : Int)) = true := by simp; omega
        have j2 : decide (((pre.length + 1 : Nat) : Int) < ((pre ++ c :: a :: b :: t).length : Int)) = true := by rw [hlen]; simp; omega
        have j3 : decide (0 ≤ ((pre.length + 2 : Nat) : Int)) = true := by simp; omega
        have j4 : decide (((pre.length + 2 : Nat) : Int) < ((pre ++ c :: a :: b :: t).length : Int)) = true := by rw [hlen]; simp; omega
        by_cases hc : c = 92
        · have b1 : (((c.toNat : Nat) : Int) != 92) = false := by rw [hc]; rfl
          by_cases ha : a = 120
          · have b2 : (((a.toNat : Nat) : Int) != 120) = false := by rw [ha]; rfl
            by_cases hb : b = 123
            · have b3 : (((b.toNat : Nat) : Int) != 123) = false := by rw [hb]; rfl
              have hr0 := rc0_ pre t out (by omega) ho
              rw [← hc, ← ha, ← hb] at hr0
              simp only [F10_l1, hi, hi0, hg, hg0, hw, hw2, hg1, hg2, j1, j2, j3, j4, b1, b2, b3, cv32, c29, hp, hwl, e4, Int.toNat_natCast, hr0, Option.bind_some, cond_true, cond_false, Bool.and_self]
              cases he : escAtR (c :: a :: b :: t) with
              | none => simp only [Sum.elim_inl]
              | some x =>
                obtain ⟨v, t'⟩ := x
                have hle := fp_le e125 t
                have ht' : t'.length + (fp e125 t + 1) = t.length := by
                  rw [hc, ha, hb] at he
                  have hhp : hasP [92, 120, 123] (92 :: 120 :: 123 :: t) = true := by simp [hasP]
                  have hd3 : (92 :: 120 :: 123 :: t).drop 3 = t := rfl
                  unfold escAtR escAt at he
                  rw [if_pos hhp, hd3] at he
                  by_cases hf : fp e125 t < t.length
                  · rw [if_pos hf] at he
                    cases hv : hexV (t.take (fp e125 t)) with
                    | none => rw [hv] at he; cases he
                    | some n =>
                      rw [hv] at he
                      simp only at he
                      by_cases hpl : plainB (n : Int) = true
                      · rw [if_pos hpl] at he; cases he
                      · rw [if_neg hpl] at he
                        simp only at he
                        by_cases hbig : 1114111 < (n : Int)
                        · rw [if_pos hbig] at he; cases he
                        · rw [if_neg hbig] at he
                          simp only [Option.some.injEq, Prod.mk.injEq] at he
                          rw [← he.2, List.length_drop]; omega
                  · rw [if_neg hf] at he; cases he
                have hwk : IntKind.i64.wrap (((pre.length + 3 + fp e125 t : Nat) : Int) + 1) = ((pre.length + ((t.length + 1 + 1) + 1 - t'.length) : Nat) : Int) := by rw [w64] <;> omega
                simp only [Sum.elim_inr, hwk, List.length_cons]
            · have b3 : (((b.toNat : Nat) : Int) != 123) = true := ne_byte (n := 123) (by omega) hb
              have hnone : escAtR (c :: a :: b :: t) = none := escAt_no (by
                rw [hc, ha]
                cases hh : hasP [92, 120, 123] (92 :: 120 :: b :: t) with
                | false => rfl
                | true => exact absurd (by simpa [hasP] using hh) hb)
              simp only [F10_l1, hi, hi0, hg, hg0, hw, hw2, hg1, hg2, j1, j2, j3, j4, b1, b2, b3, cv32, c29, hp, hwl, e4, Int.toNat_natCast, hnone, Option.bind_some, cond_true, cond_false, Bool.and_self]
          · have b2 : (((a.toNat : Nat) : Int) != 120) = true := ne_byte (n := 120) (by omega) ha
            have hnone : escAtR (c :: a :: b :: t) = none := escAt_no (by
              rw [hc]
              cases hh : hasP [92, 120, 123] (92 :: a :: b :: t) with
              | false => rfl
              | true =>
                have : a = 120 ∧ b = 123 := by simpa [hasP] using hh
                exact absurd this.1 ha)
            simp only [F10_l1, hi, hi0, hg, hg0, hw, hw2, hg1, hg2, j1, j2, j3, j4, b1, b2, cv32, c29, hp, hwl, e4, Int.toNat_natCast, hnone, Option.bind_some, cond_true, cond_false, Bool.and_self]
        · have b1 : (((c.toNat : Nat) : Int) != 92) = true := ne_byte (n := 92) (by omega) hc
          have hnone : escAtR (c :: a :: b :: t) = none := escAt_no (by
            cases hh : hasP [92, 120, 123] (c :: a :: b :: t) with
            | false => rfl
            | true =>
              have : c = 92 ∧ a = 120 ∧ b = 123 := by simpa [hasP] using hh
              exact absurd this.1 hc)
          simp only [F10_l1, hi, hi0, hg, b1, cv32, c29, hp, hwl, e4, hnone, Option.bind_some, cond_true, cond_false, Bool.and_self]
def unescR : Nat → List UInt8 → Option (List Int)
  | 0, _ => none
  | _ + 1, [] => some []
  | n + 1, c :: r => bif plainB (cv c) then (unescR n r).map (cv c :: ·) else match escAtR (c :: r) with
    | some (v, t) => (unescR n t).map (v :: ·)
    | none => none
theorem escAtR_some {s : List UInt8} {v : Int} {t : List UInt8} (h : escAtR s = some (v, t)) : escAt s = some (v, t) := by
  unfold escAtR at h
  split at h
  · rename_i v' t' he
    split at h
    · cases h
    · rw [he, ← h]
  · cases h
theorem escAt_suf {s : List UInt8} {v : Int} {t : List UInt8} (h : escAt s = some (v, t)) : s.drop (s.length - t.length) = t := by
  unfold escAt at h
  split at h
  · rename_i hp
    split at h
    · rename_i hf
      split at h
      · split at h
        · cases h
        · simp only [Option.some.injEq, Prod.mk.injEq] at h
          have hl := (hasP_len hp).1
          simp only [List.length_cons, List.length_nil] at hl
          simp only [List.length_drop] at hf
          rw [← h.2, List.drop_drop, List.length_drop]
          congr 1; omega
      · cases h
    · cases h
  · cases h
theorem rrun25 : ∀ (n : Nat) (s pre : List UInt8) (out : List Int) (m : Nat), s.length < n → s.length < m → pre.length + s.length ≤ 800000 → out.length + s.length ≤ 1000000 →
    loopN (F10_l1 C29 C10_c0) m (pre ++ s, (pre.length : Int), out, ()) = some (match unescR n s with | some l => .inl (out ++ l, ()) | none => .inr ([], false, ()))
  | 0, _, _, _, _, hn, _, _, _ => by omega
  | _, _, _, _, 0, _, hm, _, _ => by omega
  | n + 1, [], pre, out, m + 1, hn, hm, hl, ho => by
    refine loopN_inr ?_
    have hi : decide ((pre.length : Int) < (pre.length : Int)) = false := by simp
    simp only [F10_l1, List.append_nil, hi, cond_false, unescR]
  | n + 1, c :: r, pre, out, m + 1, hn, hm, hl, ho => by
    simp only [List.length_cons] at hn hm hl ho
    have hs := rstep c r pre out (by omega) (by omega)
    unfold unescR
    cases hp : plainB (cv c) with
    | true =>
      rw [hp, cond_true] at hs
      rw [loopN_inl hs, shift, show ((pre.length + 1 : Nat) : Int) = ((pre ++ [c]).length : Int) by simp, rrun25 n r (pre ++ [c]) (out ++ [cv c]) m (by omega) (by omega) (by simp; omega) (by simp; omega), cond_true]
      cases unescR n r <;> simp
    | false =>
      rw [hp, cond_false] at hs
      rw [cond_false]
      cases he : escAtR (c :: r) with
      | none => rw [he] at hs; rw [loopN_inr hs]
      | some x =>
        obtain ⟨v, t⟩ := x
        have he' := escAtR_some he
        have ht := escAt_len he'
        have hsf := escAt_suf he'
        simp only [List.length_cons] at ht hsf
        rw [he] at hs
        have hsplit : pre ++ c :: r = (pre ++ (c :: r).take (r.length + 1 - t.length)) ++ t := by
          rw [List.append_assoc]
          conv => lhs; rw [← List.take_append_drop (r.length + 1 - t.length) (c :: r), hsf]
        have hpl : (pre ++ (c :: r).take (r.length + 1 - t.length)).length = pre.length + (r.length + 1 - t.length) := by rw [List.length_append, List.length_take, List.length_cons]; omega
        have ih := rrun25 n t (pre ++ (c :: r).take (r.length + 1 - t.length)) (out ++ [v]) m (by omega) (by omega) (by rw [hpl]; omega) (by simp; omega)
        rw [← hsplit, hpl] at ih
        rw [loopN_inl hs, ih]
        simp only
        cases unescR n t <;> simp
theorem unesc_R : ∀ (n : Nat) (s : List UInt8), unescR n s = unesc n s ∨ (unescR n s = none ∧ ∃ l, unesc n s = some l ∧ strE l = none) ∨ (unescR n s = none ∧ unesc n s = none)
  | 0, _ => .inl rfl
  | n + 1, [] => .inl rfl
  | n + 1, c :: r => by
    have hcons : ∀ (v : Int) (l : List Int), strE l = none → strE (v :: l) = none := by
      intro v l h; rw [strE, h]; split <;> rfl
    unfold unescR unesc
    cases hp : plainB (cv c) with
    | true =>
      simp only [cond_true]
      rcases unesc_R n r with h | ⟨h1, l, h2, h3⟩ | ⟨h1, h2⟩
      · left; rw [h]
      · right; left; exact ⟨by rw [h1]; rfl, cv c :: l, by rw [h2]; rfl, hcons _ _ h3⟩
      · right; right; exact ⟨by rw [h1]; rfl, by rw [h2]; rfl⟩
    | false =>
      simp only [cond_false]
      unfold escAtR
      cases he : escAt (c :: r) with
      | none => left; rfl
      | some x =>
        obtain ⟨v, t⟩ := x
        simp only
        by_cases hb : 1114111 < v
        · rw [if_pos hb]
          cases hu : unesc n t with
          | none => right; right; exact ⟨rfl, rfl⟩
          | some l =>
            right; left
            refine ⟨rfl, v :: l, rfl, ?_⟩
            have hr : rightB v = false := by
              cases hr : rightB v with
              | false => rfl
              | true => have := rightB_iff.1 hr; omega
            rw [strE, hr, if_neg (by simp)]
        · rw [if_neg hb]
          simp only
          rcases unesc_R n t with h | ⟨h1, l, h2, h3⟩ | ⟨h1, h2⟩
          · left; rw [h]
          · right; left; exact ⟨by rw [h1]; rfl, v :: l, by rw [h2]; rfl, hcons _ _ h3⟩
          · right; right; exact ⟨by rw [h1]; rfl, by rw [h2]; rfl⟩
theorem fin_R (n : Nat) (s : List UInt8) : fin2 (unescR n s) = fin2 (unesc n s) := by
  rcases unesc_R n s with h | ⟨h1, l, h2, h3⟩ | ⟨h1, h2⟩
  · rw [h]
  · rw [h1, h2]; simp [fin2, h3]
  · rw [h1, h2]
theorem c10 (s : List UInt8) (hl : s.length ≤ 800000) : C10 (s, ()) = some (fin2 (unE s)) := by
  have h := rrun25 (s.length + 1) s [] [] big (by omega) (by unfold big; omega) (by simp; omega) (by simp; omega)
  have h' : C10_l1 (s, 0, [], ()) = _ := h
  unfold unE
  rw [← fin_R]
  simp only [C10, F10, h', Option.bind_some]
  cases hu : unescR (s.length + 1) s with
  | none => rfl
  | some l =>
    have hll : l.length ≤ s.length := by
      rcases unesc_R (s.length + 1) s with h | ⟨h1, _⟩ | ⟨h1, _⟩
      · exact unesc_len _ _ _ (h.symm.trans hu)
      · rw [h1] at hu; cases hu
      · rw [h1] at hu; cases hu
    simp only [Sum.elim_inl, List.nil_append, c31 l (by omega), Option.bind_some, fin2]
    all_goals (cases strE l <;> rfl)
end Go.Proofs.YtmfcepdbpdihgaaGreatDoor.W
set_option linter.unusedVariables false
set_option linter.unusedSimpArgs false
set_option maxRecDepth 100000
namespace Go.Proofs.YtmfcepdbpdihgaaGreatDoor.W
open Go Go.Ae Go.Pl
def hxB (c : UInt8) : Bool := (Nat.ble 32 c.toNat && Nat.ble c.toNat 126) && !e125 c
theorem dgu_hx : ∀ n, n < 16 → hxB (dgu n) = true := fin16 (p := fun n => hxB (dgu n)) (by decide)
theorem hexU_hx (n : Nat) : (hexU n).all hxB = true := hexF_all hxB dgu dgu_hx 16 n
theorem fin_cases (o : Option (List Int)) : (∃ y, fin2 o = (y, true, ())) ∨ fin2 o = ([], false, ()) := by
  unfold fin2
  split
  · split
    · exact .inl ⟨_, rfl⟩
    · exact .inr rfl
  · exact .inr rfl
def ascB (c : UInt8) : Bool := Nat.ble 32 c.toNat && Nat.ble c.toNat 126
theorem esc_asc (s : List UInt8) : (esc s).all ascB = true := by
  have hx : ∀ n, (hexU n).all ascB = true := fun n => by
    rw [List.all_eq_true]
    intro c hc
    have h := List.all_eq_true.1 (hexU_hx n) c hc
    simp only [hxB, Bool.and_eq_true] at h
    simp only [ascB, Bool.and_eq_true]; exact h.1
  have hR : ∀ v, (escR v).all ascB = true := fun v => by
    unfold escR
    split
    · rename_i hp
      have hp' := plainB_iff.1 hp
      have e := b8_cv (n := v) (by omega) (by omega)
      unfold cv at e
      simp only [List.all_cons, List.all_nil, Bool.and_true, ascB, Bool.and_eq_true]
      exact ⟨Nat.ble_eq_true_of_le (by omega), Nat.ble_eq_true_of_le (by omega)⟩
    · rw [List.all_append, List.all_append, hx]; rfl
  have hB : ∀ c, (escB c).all ascB = true := fun c => by
    unfold escB
    rw [List.all_append, List.all_append, hx]; rfl
  unfold esc
  rw [List.all_append, List.all_flatMap, List.all_flatMap, Bool.and_eq_true]
  exact ⟨List.all_eq_true.2 fun v _ => hR v, List.all_eq_true.2 fun c _ => hB c⟩
end Go.Proofs.YtmfcepdbpdihgaaGreatDoor.W
set_option linter.unusedVariables false
set_option linter.unusedSimpArgs false
set_option maxRecDepth 100000
namespace Go.Proofs.YtmfcepdbpdihgaaGreatDoor.W
open Go Go.Ae Go.Pl
theorem at4 {α : Type} (pre r : List α) (c d : α) (hl : pre.length + r.length ≤ 1000000000) : decide ((pre.length : Int) < ((pre ++ c :: r).length : Int)) = true ∧ decide (0 ≤ (pre.length : Int)) = true ∧
    IntKind.i64.wrap ((pre.length : Int) + 1) = ((pre.length + 1 : Nat) : Int) ∧ (pre ++ c :: r).getD ((pre.length : Int)).toNat d = c :=
  ⟨by simp; omega, by simp, wrN _ (by omega), by rw [Int.toNat_natCast]; exact gd rfl⟩
theorem at0 (n : Nat) : decide ((n : Int) < (n : Int)) = false := by simp
theorem pl1 {α : Type} (pre : List α) (c : α) : ((pre.length + 1 : Nat) : Int) = ((pre ++ [c]).length : Int) := by simp
def fdB (c : UInt8) : Bool := match C111 ((c.toNat : Int), ()) with | some (x, _) => decide (x = ((lowB c).toNat : Int)) | none => false
theorem fdB_k : ((List.range 256).all fun n => fdB (UInt8.ofNat n)) = true := by kernel_rfl
theorem c111 (c : UInt8) : C111 ((c.toNat : Int), ()) = some (((lowB c).toNat : Int), ()) := by
  have k := all256 fdB fdB_k c
  unfold fdB at k
  cases h : C111 ((c.toNat : Int), ()) with
  | none => rw [h] at k; cases k
  | some x =>
    obtain ⟨x, u⟩ := x
    rw [h] at k
    have : x = ((lowB c).toNat : Int) := by simpa using k
    rw [this]
theorem frun : ∀ (r pre out : List UInt8) (N : Int) (n : Nat), N = ((pre ++ r).length : Int) → pre.length + r.length ≤ 1000000000 → out.length + r.length ≤ 1000000000000 → r.length < n →
    loopN (F110_l0 C111) n (pre ++ r, N, (pre.length : Int), out, ()) = some (out ++ r.map lowB, ())
  | _, _, _, _, 0, _, _, _, hn => by omega
  | [], pre, out, N, n + 1, hN, hl, ho, hn => by
    subst hN
    refine loopN_inr ?_
    simp only [F110_l0, List.append_nil, at0, cond_false, List.map_nil]
  | c :: r, pre, out, N, n + 1, hN, hl, ho, hn => by
    subst hN
    simp only [List.length_cons] at hl ho hn
    obtain ⟨hi, hi0, hw, hg⟩ := at4 pre r c 0 (by omega)
    have eo : decide (out.length + 1 ≤ 140737488355328 / 1) = true := by simp; omega
    rw [loopN_inl (v' := (pre ++ c :: r, ((pre ++ c :: r).length : Int), ((pre.length + 1 : Nat) : Int), out ++ [lowB c], ())) (by
      simp only [F110_l0, hi, hi0, hg, hw, c111, List.length_cons, List.length_nil, Nat.zero_add, Option.bind_some, cond_true, Bool.and_self, byte_back]
      simp only [eo, cond_true])]
    rw [shift, pl1 pre c, frun r (pre ++ [c]) (out ++ [lowB c]) _ n (by simp) (by simp; omega) (by simp; omega) (by omega)]
    simp
theorem c86 (s : List UInt8) (hl : s.length ≤ 1000000) : C86 (s, ()) = some (s.map lowB, ()) := by
  have h := frun s [] [] (s.length : Int) big (by simp) (by simp; omega) (by simp; omega) (by unfold big; omega)
  have h' : C110_l0 (s, (s.length : Int), 0, [], ()) = _ := h
  have e : decide (s.length ≤ 9223372036854775807) = true := by simp; omega
  simp only [C86, F86, C110, F110, h', e, cond_true, Option.bind_some, List.nil_append]
theorem c102 (s : List UInt8) (hl : s.length ≤ 1000000) : C102 (s, ()) = some (s.map lowB, ()) := by
  rw [C102, if_pos (show s.length ≤ 140737488355328 by omega)]
def postm : List UInt8 := [112, 111, 115, 116, 109, 97, 115, 116, 101, 114]
def mastB (null : Bool) (lo dom : List UInt8) : Bool := !null && (dom == [] && lo.map lowB == postm)
theorem c59 (null : Bool) (lo dom : List UInt8) (hl : lo.length ≤ 1000000) : C59 (null, lo, dom, ()) = some (mastB null lo dom, ()) := by
  simp only [C59, F59, c86 lo hl, Option.bind_some, mastB, postm]
  cases null <;> cases dom == [] <;> rfl
theorem c76 (null : Bool) (lo dom : List UInt8) (hl : lo.length ≤ 1000000) : C76 (null, lo, dom, ()) = some (mastB null lo dom, ()) := by
  simp only [C76, F76, c102 lo hl, Option.bind_some, mastB, postm]
  cases null <;> cases dom == [] <;> rfl
def atomB (c : UInt8) : Bool := gB (C147 ((c.toNat : Int), ()))
theorem c147 (c : UInt8) : C147 ((c.toNat : Int), ()) = some (atomB c, ()) := okB_some (all256 (fun c => okB (C147 ((c.toNat : Int), ()))) (by kernel_rfl) c)
def ratB (c : UInt8) : Bool := match C167 ((c.toNat : Int), ()) with | some (b, _) => bif atomB c then b else !b | none => false
theorem ratB_k : ((List.range 256).all fun n => ratB (UInt8.ofNat n)) = true := by kernel_rfl
theorem c167 (c : UInt8) : C167 ((c.toNat : Int), ()) = some (atomB c, ()) := by
  have k := all256 ratB ratB_k c
  unfold ratB at k
  cases h : C167 ((c.toNat : Int), ()) with
  | none => rw [h] at k; cases k
  | some x =>
    obtain ⟨b, u⟩ := x
    rw [h] at k
    simp only at k
    cases ha : atomB c <;> cases b <;> simp_all
def plainS (s : List UInt8) : Bool := s.all atomB && !(s == [])
theorem prunA : ∀ (r pre : List UInt8) (N : Int) (n : Nat), N = ((pre ++ r).length : Int) → pre.length + r.length ≤ 1000000000 → r.length < n →
    loopN (F113_l0 C147) n (pre ++ r, N, (pre.length : Int), ()) = some (if r.all atomB = true then .inl (pre ++ r, ()) else .inr (false, ()))
  | _, _, _, 0, _, _, hn => by omega
  | [], pre, N, n + 1, hN, hl, hn => by
    subst hN
    refine loopN_inr ?_
    simp only [F113_l0, List.append_nil, at0, cond_false]
    rfl
  | c :: r, pre, N, n + 1, hN, hl, hn => by
    subst hN
    simp only [List.length_cons] at hl hn
    obtain ⟨hi, hi0, hw, hg⟩ := at4 pre r c 0 (by omega)
    cases ha : atomB c with
    | false =>
      rw [loopN_inr (y := .inr (false, ())) (by simp only [F113_l0, hi, hi0, hg, hw, c147, ha, Option.bind_some, cond_true, cond_false, Bool.and_self, Bool.not_false])]
      simp [ha]
    | true =>
      rw [loopN_inl (v' := (pre ++ c :: r, ((pre ++ c :: r).length : Int), ((pre.length + 1 : Nat) : Int), ())) (by simp only [F113_l0, hi, hi0, hg, hw, c147, ha, Option.bind_some, cond_true, cond_false, Bool.and_self, Bool.not_true])]
      rw [shift, pl1 pre c, prunA r (pre ++ [c]) _ n (by simp) (by simp; omega) (by omega)]
      simp [ha]
theorem c113 (s : List UInt8) (hl : s.length ≤ 1000000) : C113 (s, ()) = some (plainS s, ()) := by
  have h := prunA s [] (s.length : Int) big (by simp) (by simp; omega) (by unfold big; omega)
  have h' : C113_l0 (s, (s.length : Int), 0, ()) = _ := h
  simp only [C113, F113, h', Option.bind_some, plainS, List.nil_append]
  cases ha : s.all atomB with
  | true => simp only [if_true, Sum.elim_inl]; cases s == [] <;> rfl
  | false => rw [if_neg (by simp)]; rfl
theorem prunR : ∀ (r pre : List UInt8) (n : Nat), pre.length + r.length ≤ 1000000000 → r.length < n →
    loopN (F143_l0 C167) n (pre ++ r, (pre.length : Int), ()) = some (if r.all atomB = true then .inl (pre ++ r, ()) else .inr (false, ()))
  | _, _, 0, _, hn => by omega
  | [], pre, n + 1, hl, hn => by
    refine loopN_inr ?_
    simp only [F143_l0, List.append_nil, at0, cond_false]
    rfl
  | c :: r, pre, n + 1, hl, hn => by
    simp only [List.length_cons] at hl hn
    obtain ⟨hi, hi0, hw, hg⟩ := at4 pre r c 0 (by omega)
    cases ha : atomB c with
    | false =>
      rw [loopN_inr (y := .inr (false, ())) (by simp only [F143_l0, hi, hi0, hg, hw, c167, ha, Option.bind_some, cond_true, cond_false, Bool.and_self, Bool.not_false])]
      simp [ha]
    | true =>
      rw [loopN_inl (v' := (pre ++ c :: r, ((pre.length + 1 : Nat) : Int), ())) (by simp only [F143_l0, hi, hi0, hg, hw, c167, ha, Option.bind_some, cond_true, cond_false, Bool.and_self, Bool.not_true])]
      rw [shift, pl1 pre c, prunR r (pre ++ [c]) n (by simp; omega) (by omega)]
      simp [ha]
theorem c143 (s : List UInt8) (hl : s.length ≤ 1000000) : C143 (s, ()) = some (plainS s, ()) := by
  have h := prunR s [] big (by simp; omega) (by unfold big; omega)
  have h' : C143_l0 (s, 0, ()) = _ := h
  simp only [C143, F143, h', Option.bind_some, plainS, List.nil_append]
  cases ha : s.all atomB with
  | true => simp only [if_true, Sum.elim_inl]; cases s == [] <;> rfl
  | false => rw [if_neg (by simp)]; rfl
def sp (c : UInt8) : List UInt8 → List (List UInt8)
  | [] => [[]]
  | x :: r => bif x == c then [] :: sp c r else match sp c r with
    | h :: t => (x :: h) :: t
    | [] => [[x]]
theorem sp_ne (c : UInt8) : ∀ s, sp c s ≠ []
  | [] => by simp [sp]
  | x :: r => by
    unfold sp
    cases x == c with
    | true => simp
    | false =>
      simp only [cond_false]
      split <;> simp
theorem sp_count (c : UInt8) : ∀ s, (sp c s).length = s.count c + 1
  | [] => rfl
  | x :: r => by
    have ih := sp_count c r
    unfold sp
    rw [List.count_cons]
    cases h : x == c with
    | true => simp only [cond_true, List.length_cons, ih, if_true]
    | false =>
      simp only [cond_false]
      cases hs : sp c r with
      | nil => exact absurd hs (sp_ne c r)
      | cons a t => rw [hs] at ih; simpa using ih
theorem sp_cons (c x : UInt8) (r : List UInt8) : sp c (x :: r) = bif x == c then [] :: sp c r else match sp c r with
    | h :: t => (x :: h) :: t
    | [] => [[x]] := rfl
theorem sp_cut (c : UInt8) : ∀ s, (fp (fun x => x == c) s < s.length → sp c s = s.take (fp (fun x => x == c) s) :: sp c (s.drop (fp (fun x => x == c) s + 1))) ∧ (¬ fp (fun x => x == c) s < s.length → sp c s = [s])
  | [] => ⟨fun h => by simp at h, fun _ => rfl⟩
  | x :: r => by
    have ih := sp_cut c r
    rw [sp_cons]
    cases h : x == c with
    | true =>
      simp only [fp, h, cond_true]
      exact ⟨fun _ => rfl, fun h => by simp at h⟩
    | false =>
      simp only [fp, h, cond_false, List.length_cons]
      refine ⟨fun hl => ?_, fun hl => ?_⟩
      · rw [ih.1 (by omega)]
        rfl
      · rw [ih.2 (by omega)]
theorem splrun (c : UInt8) : ∀ (k : Nat) (s : List UInt8) (done : List (List UInt8)) (n : Nat), (sp c s).length = k + 1 → s.length ≤ 1000000 → done.length + k ≤ 1000000 → k < n →
    loopN (F146_l0 C145) n (s, [c], 0, ((done.length + k : Nat) : Int), (done.length : Int), done ++ List.replicate (k + 1) [], ()) =
      some ((sp c s).getLast (sp_ne c s), ((done.length + k : Nat) : Int), (done ++ (sp c s).dropLast) ++ [[]], ())
  | _, _, _, 0, _, _, _, hn => by omega
  | 0, s, done, n + 1, hk, hl, hd, hn => by
    have h1 := sp_cut c s
    have hnf : ¬ fp (fun x => x == c) s < s.length := fun h => by
      rw [h1.1 h] at hk
      have := sp_count c (s.drop (fp (fun x => x == c) s + 1))
      simp only [List.length_cons] at hk; omega
    have hs := h1.2 hnf
    refine loopN_inr ?_
    simp only [F146_l0, Nat.add_zero, at0, cond_false]
    have e1 : (sp c s).getLast (sp_ne c s) = s := by simp only [hs]; rfl
    rw [e1, hs]
    simp
  | k + 1, s, done, n + 1, hk, hl, hd, hn => by
    have h1 := sp_cut c s
    have hf : fp (fun x => x == c) s < s.length := by
      rcases Nat.lt_or_ge (fp (fun x => x == c) s) s.length with h | h
      · exact h
      · rw [h1.2 (by omega)] at hk; simp at hk
    have hs := h1.1 hf
    have hk' : (sp c (s.drop (fp (fun x => x == c) s + 1))).length = k + 1 := by rw [hs] at hk; simpa using hk
    have hx : C145 (s, [c], ()) = some (((fp (fun x => x == c) s : Nat) : Int), ()) := by
      simp only [C145, F145, c89_1, Option.bind_some, fnd]
      rw [if_pos hf]
    have d0 : decide ((done.length : Int) < ((done.length + (k + 1) : Nat) : Int)) = true := by simp; omega
    have d1 : decide (((fp (fun x => x == c) s : Nat) : Int) < 0) = false := by simp
    have w0 : IntKind.i64.wrap (((fp (fun x => x == c) s : Nat) : Int) + 0) = ((fp (fun x => x == c) s : Nat) : Int) := by rw [w64] <;> omega
    have w1 : IntKind.i64.wrap (((fp (fun x => x == c) s : Nat) : Int) + (([c].length : Nat) : Int)) = ((fp (fun x => x == c) s + 1 : Nat) : Int) := wrN _ (by omega)
    have w2 : IntKind.i64.wrap ((done.length : Int) + 1) = ((done.length + 1 : Nat) : Int) := wrN _ (by omega)
    have d2 : decide (0 ≤ ((fp (fun x => x == c) s : Nat) : Int)) = true := by simp
    have d3 : decide (((fp (fun x => x == c) s : Nat) : Int) ≤ (s.length : Int)) = true := by simp; omega
    have d4 : decide (0 ≤ (done.length : Int)) = true := by simp
    have d5 : decide ((done.length : Int) < ((done ++ List.replicate (k + 1 + 1) ([] : List UInt8)).length : Int)) = true := by simp; omega
    have d6 : decide (0 ≤ ((fp (fun x => x == c) s + 1 : Nat) : Int)) = true := by simp; omega
    have d7 : decide (((fp (fun x => x == c) s + 1 : Nat) : Int) ≤ (s.length : Int)) = true := by simp; omega
    have hset : (done ++ List.replicate (k + 1 + 1) ([] : List UInt8)).set done.length (s.take (fp (fun x => x == c) s)) = (done ++ [s.take (fp (fun x => x == c) s)]) ++ List.replicate (k + 1) [] := by
      rw [List.replicate_succ, set_mid]; simp
    have ih := splrun c k (s.drop (fp (fun x => x == c) s + 1)) (done ++ [s.take (fp (fun x => x == c) s)]) n hk' (by simp; omega) (by simp; omega) (by omega)
    rw [loopN_inl (v' := (s.drop (fp (fun x => x == c) s + 1), [c], 0, ((done.length + (k + 1) : Nat) : Int), ((done.length + 1 : Nat) : Int), (done ++ [s.take (fp (fun x => x == c) s)]) ++ List.replicate (k + 1) [], ())) (by
      simp only [F146_l0, hx, Option.bind_some, d0, d1, w0, w1, w2, d2, d3, d4, d5, d6, d7, cond_true, cond_false, Bool.and_self, Int.toNat_natCast, hset])]
    have el : ((done.length + (k + 1) : Nat) : Int) = (((done ++ [s.take (fp (fun x => x == c) s)]).length + k : Nat) : Int) := by simp; omega
    have el2 : ((done.length + 1 : Nat) : Int) = ((done ++ [s.take (fp (fun x => x == c) s)]).length : Int) := by simp
    rw [el, el2, ih]
    have hne := sp_ne c (s.drop (fp (fun x => x == c) s + 1))
    have e1 : (sp c s).getLast (sp_ne c s) = (sp c (s.drop (fp (fun x => x == c) s + 1))).getLast hne := by
      simp only [hs]; exact List.getLast_cons hne
    have e2 : (sp c s).dropLast = s.take (fp (fun x => x == c) s) :: (sp c (s.drop (fp (fun x => x == c) s + 1))).dropLast := by
      rw [hs]; exact List.dropLast_cons_of_ne_nil hne
    rw [e1, e2]
    simp
theorem c112_1 (c : UInt8) (s : List UInt8) (hl : s.length ≤ 900000) : C112 (s, [c], ()) = some (sp c s, ()) := by
  have hcnt := sp_count c s
  have hcl : s.count c ≤ s.length := List.count_le_length
  have hc : C144 (s, [c], ()) = some (((s.count c : Nat) : Int), ()) := by
    have e0 : (((1 : Nat) : Int) == 0) = false := rfl
    have e1 : (((1 : Nat) : Int) == 1) = true := rfl
    have e2 : decide (0 < ((1 : Nat) : Int)) = true := rfl
    have hg : [c].getD 0 0 = c := rfl
    simp only [C144, F144, List.length_cons, List.length_nil, Nat.zero_add, e0, e1, e2, hg, C169, Lib.countByte, cond_true, cond_false, Option.bind_some]
    congr 3
    simp
  have h := splrun c (s.count c) s [] big hcnt (by omega) (by simp; omega) (by unfold big; omega)
  simp only [List.length_nil, Nat.zero_add, List.nil_append] at h
  have h' : C146_l0 (s, [c], 0, ((s.count c : Nat) : Int), 0, List.replicate (s.count c + 1) [], ()) = _ := h
  have n0 : ((-1 : Int) == 0) = false := rfl
  have n1 : decide ((-1 : Int) < 0) = true := rfl
  have ne : (([c] : List UInt8) == []) = false := rfl
  have w1 : IntKind.i64.wrap (((s.count c : Nat) : Int) + 1) = ((s.count c + 1 : Nat) : Int) := wrN _ (by omega)
  have w2 : IntKind.i64.wrap ((s.length : Int) + 1) = ((s.length + 1 : Nat) : Int) := wrN _ (by omega)
  have hmin : (if ((s.length + 1 : Nat) : Int) < ((s.count c + 1 : Nat) : Int) then ((s.length + 1 : Nat) : Int) else ((s.count c + 1 : Nat) : Int)) = ((s.count c + 1 : Nat) : Int) := if_neg (by omega)
  have w3 : IntKind.i64.wrap (((s.count c + 1 : Nat) : Int) - 1) = ((s.count c : Nat) : Int) := by rw [w64] <;> omega
  have d1 : decide (0 ≤ ((s.count c + 1 : Nat) : Int)) = true := by simp; omega
  have d2 : decide (16 * ((s.count c + 1 : Nat) : Int) ≤ 281474976710656) = true := by simp; omega
  have d3 : decide (((s.count c + 1 : Nat) : Int) ≤ 140737488355328) = true := by simp; omega
  have d4 : decide (0 ≤ ((s.count c : Nat) : Int)) = true := by simp
  have hdl : (sp c s).dropLast.length = s.count c := by rw [List.length_dropLast, hcnt]; rfl
  have d5 : decide (((s.count c : Nat) : Int) < (((sp c s).dropLast ++ [[]]).length : Int)) = true := by simp [hdl, hcnt]; omega
  have hset : ((sp c s).dropLast ++ [[]]).set (s.count c) ((sp c s).getLast (sp_ne c s)) = sp c s := by
    have := set_mid (sp c s).dropLast [] ([] : List UInt8) ((sp c s).getLast (sp_ne c s))
    rw [hdl] at this
    rw [this]
    exact List.dropLast_concat_getLast (sp_ne c s)
  have d6 : decide (((s.count c + 1 : Nat) : Int) ≤ ((sp c s).length : Int)) = true := by simp [hcnt]
  have htk : (sp c s).take (s.count c + 1) = sp c s := List.take_of_length_le (by omega)
  simp only [C112, F112, C146, F146, C146_c0, F146_c0, n0, n1, ne, hc, w1, w2, hmin, w3, d1, d2, d3, decide_true, cond_true, cond_false, Bool.and_self, Bool.true_and, Int.toNat_natCast, h', Option.bind_some, d4, d5, hset, d6, htk]
def wordsS (s : List UInt8) : Bool := (sp 46 s).all plainS
theorem wrun : ∀ (r pre : List (List UInt8)) (N : Int) (n : Nat), N = ((pre ++ r).length : Int) → (∀ s ∈ r, s.length ≤ 1000000) → pre.length + r.length ≤ 1000000000 → r.length < n →
    loopN (F87_l0 C113) n (pre ++ r, N, (pre.length : Int), ()) = some (if r.all plainS = true then .inl () else .inr (false, ()))
  | _, _, _, 0, _, _, _, hn => by omega
  | [], pre, N, n + 1, hN, hs, hl, hn => by
    subst hN
    refine loopN_inr ?_
    simp only [F87_l0, List.append_nil, at0, cond_false]
    rfl
  | c :: r, pre, N, n + 1, hN, hs, hl, hn => by
    subst hN
    simp only [List.length_cons] at hl hn
    obtain ⟨hi, hi0, hw, hg⟩ := at4 pre r c [] (by omega)
    have hc := c113 c (hs c List.mem_cons_self)
    cases ha : plainS c with
    | false =>
      rw [loopN_inr (y := .inr (false, ())) (by simp only [F87_l0, hi, hi0, hg, hw, hc, ha, Option.bind_some, cond_true, cond_false, Bool.and_self, Bool.not_false])]
      simp [ha]
    | true =>
      rw [loopN_inl (v' := (pre ++ c :: r, ((pre ++ c :: r).length : Int), ((pre.length + 1 : Nat) : Int), ())) (by simp only [F87_l0, hi, hi0, hg, hw, hc, ha, Option.bind_some, cond_true, cond_false, Bool.and_self, Bool.not_true])]
      rw [shift, pl1 pre c, wrun r (pre ++ [c]) _ n (by simp) (fun s h => hs s (List.mem_cons_of_mem _ h)) (by simp; omega) (by omega)]
      simp [ha]
theorem sp_len (c : UInt8) : ∀ (s t : List UInt8), t ∈ sp c s → t.length ≤ s.length
  | [], t, h => by simp [sp] at h; subst h; simp
  | x :: r, t, h => by
    unfold sp at h
    cases hx : x == c with
    | true =>
      rw [hx, cond_true] at h
      rcases List.mem_cons.1 h with rfl | h
      · simp
      · have := sp_len c r t h; simp; omega
    | false =>
      rw [hx, cond_false] at h
      cases hs : sp c r with
      | nil => exact absurd hs (sp_ne c r)
      | cons a u =>
        rw [hs] at h
        rcases List.mem_cons.1 h with rfl | h
        · have := sp_len c r a (by rw [hs]; exact List.mem_cons_self); simp; omega
        · have := sp_len c r t (by rw [hs]; exact List.mem_cons_of_mem _ h); simp; omega
theorem c87 (s : List UInt8) (hl : s.length ≤ 900000) : C87 (s, ()) = some (wordsS s, ()) := by
  have hc := sp_count 46 s
  have hcl : s.count 46 ≤ s.length := List.count_le_length
  have h := wrun (sp 46 s) [] ((sp 46 s).length : Int) big (by simp) (fun t ht => by have := sp_len 46 s t ht; omega) (by simp; omega) (by unfold big; omega)
  have h' : C87_l0 (sp 46 s, ((sp 46 s).length : Int), 0, ()) = _ := h
  simp only [C87, F87, c112_1 46 s hl, h', Option.bind_some, wordsS]
  cases (sp 46 s).all plainS <;> rfl
theorem sp_app (c : UInt8) : ∀ (cur rem : List UInt8), (∀ x ∈ cur, (x == c) = false) → sp c (cur ++ rem) = match sp c rem with | h :: t => (cur ++ h) :: t | [] => [cur]
  | [], rem, _ => by
    cases hs : sp c rem with
    | nil => exact absurd hs (sp_ne c rem)
    | cons h t => simp [hs]
  | x :: cur, rem, h => by
    have ih := sp_app c cur rem fun y hy => h y (List.mem_cons_of_mem _ hy)
    rw [List.cons_append, sp, h x List.mem_cons_self, cond_false, ih]
    cases hs : sp c rem with
    | nil => exact absurd hs (sp_ne c rem)
    | cons a t => rfl
theorem wrunR : ∀ (rem pre cur : List UInt8) (n : Nat), (∀ x ∈ cur, (x == (46 : UInt8)) = false) → pre.length + cur.length + rem.length ≤ 1000000 → rem.length + 1 < n →
    loopN (F103_l0 C103_c0) n (pre ++ (cur ++ rem), (pre.length : Int), ((pre.length + cur.length : Nat) : Int), ()) = some (if (sp 46 (cur ++ rem)).all plainS = true then .inl () else .inr (false, ()))
  | _, _, _, 0, _, _, hn => by omega
  | [], pre, cur, n + 1, hc, hl, hn => by
    simp only [List.append_nil]
    have hsp : sp 46 cur = [cur] := by have := sp_app 46 cur [] hc; simpa [sp] using this
    have hlen : (pre ++ cur).length = pre.length + cur.length := by simp
    have e1 : decide (((pre.length + cur.length : Nat) : Int) ≤ ((pre ++ cur).length : Int)) = true := by rw [hlen]; simp
    have e2 : (((pre.length + cur.length : Nat) : Int) == ((pre ++ cur).length : Int)) = true := by rw [hlen]; simp
    have e3 : decide (0 ≤ ((pre.length + cur.length : Nat) : Int)) = true := by simp; omega
    have e4 : decide (0 ≤ (pre.length : Int)) = true := by simp
    have e5 : decide ((pre.length : Int) ≤ ((pre.length + cur.length : Nat) : Int)) = true := by simp; omega
    have htd : List.drop pre.length (List.take (pre.length + cur.length) (pre ++ cur)) = cur := by
      rw [List.take_of_length_le (by simp)]; exact dr rfl
    have hw : IntKind.i64.wrap (((pre.length + cur.length : Nat) : Int) + 1) = ((pre.length + cur.length + 1 : Nat) : Int) := wrN _ (by omega)
    rw [hsp]
    cases ha : plainS cur with
    | false =>
      rw [loopN_inr (y := .inr (false, ())) (by
        simp only [F103_l0, C103_c0, F103_c0, e1, e2, e3, e4, e5, Int.toNat_natCast, htd, c143 cur (by omega), ha, Option.bind_some, cond_true, Bool.and_self, Bool.not_false, Sum.elim_inl])]
      simp [ha]
    | true =>
      match n, hn with
      | n + 1, hn =>
        rw [loopN_inl (v' := (pre ++ cur, ((pre.length + cur.length + 1 : Nat) : Int), ((pre.length + cur.length + 1 : Nat) : Int), ())) (by
          simp only [F103_l0, C103_c0, F103_c0, e1, e2, e3, e4, e5, Int.toNat_natCast, htd, c143 cur (by omega), ha, hw, Option.bind_some, cond_true, cond_false, Bool.and_self, Bool.not_true, Sum.elim_inr])]
        have e6 : decide (((pre.length + cur.length + 1 : Nat) : Int) ≤ ((pre ++ cur).length : Int)) = false := by rw [hlen]; simp; omega
        rw [loopN_inr (y := .inl ()) (by simp only [F103_l0, e6, cond_false])]
        simp [ha]
  | c :: rem, pre, cur, n + 1, hc, hl, hn => by
    simp only [List.length_cons] at hl hn
    have hlen : (pre ++ (cur ++ c :: rem)).length = pre.length + cur.length + (rem.length + 1) := by simp; omega
    have e1 : decide (((pre.length + cur.length : Nat) : Int) ≤ ((pre ++ (cur ++ c :: rem)).length : Int)) = true := by rw [hlen]; simp; omega
    have e2 : (((pre.length + cur.length : Nat) : Int) == ((pre ++ (cur ++ c :: rem)).length : Int)) = false := by rw [hlen, ibF]; omega
    have e3 : decide (0 ≤ ((pre.length + cur.length : Nat) : Int)) = true := by simp; omega
    have e3' : decide (((pre.length + cur.length : Nat) : Int) < ((pre ++ (cur ++ c :: rem)).length : Int)) = true := by rw [hlen]; simp; omega
    have e4 : decide (0 ≤ (pre.length : Int)) = true := by simp
    have e5 : decide ((pre.length : Int) ≤ ((pre.length + cur.length : Nat) : Int)) = true := by simp; omega
    have hg : (pre ++ (cur ++ c :: rem)).getD (pre.length + cur.length) 0 = c := by rw [← List.append_assoc]; exact gd (by simp)
    have hw : IntKind.i64.wrap (((pre.length + cur.length : Nat) : Int) + 1) = ((pre.length + cur.length + 1 : Nat) : Int) := wrN _ (by omega)
    have hb : (((c.toNat : Nat) : Int) == 46) = (c == 46) := by
      by_cases h : c = 46
      · subst h; rfl
      · have h1 : (c == 46) = false := by simpa using h
        rw [h1, ibF]; intro e; exact h (u8_eq (n := 46) (by omega))
    cases hcc : c == 46 with
    | true =>
      have hc46 : c = 46 := by simpa using hcc
      have htd : List.drop pre.length (List.take (pre.length + cur.length) (pre ++ (cur ++ c :: rem))) = cur := by
        rw [← List.append_assoc, List.take_left' (by simp)]; exact dr rfl
      have hsp : sp 46 (cur ++ c :: rem) = cur :: sp 46 rem := by
        rw [sp_app 46 cur (c :: rem) hc, sp, hcc, cond_true]; simp
      rw [hsp]
      cases ha : plainS cur with
      | false =>
        rw [loopN_inr (y := .inr (false, ())) (by
          simp only [F103_l0, C103_c0, F103_c0, e1, e2, e3, e3', e4, e5, Int.toNat_natCast, hg, hb, hcc, htd, c143 cur (by omega), ha, Option.bind_some, cond_true, cond_false, Bool.and_self, Bool.not_false, Sum.elim_inl])]
        simp [ha]
      | true =>
        rw [loopN_inl (v' := (pre ++ (cur ++ c :: rem), ((pre.length + cur.length + 1 : Nat) : Int), ((pre.length + cur.length + 1 : Nat) : Int), ())) (by
          simp only [F103_l0, C103_c0, F103_c0, e1, e2, e3, e3', e4, e5, Int.toNat_natCast, hg, hb, hcc, htd, c143 cur (by omega), ha, hw, Option.bind_some, cond_true, cond_false, Bool.and_self, Bool.not_true, Sum.elim_inr])]
        have hs : pre ++ (cur ++ c :: rem) = (pre ++ cur ++ [c]) ++ ([] ++ rem) := by simp
        have hp : ((pre.length + cur.length + 1 : Nat) : Int) = ((pre ++ cur ++ [c]).length : Int) := by simp; omega
        have hp2 : (((pre ++ cur ++ [c]).length : Nat) : Int) = (((pre ++ cur ++ [c]).length + ([] : List UInt8).length : Nat) : Int) := by simp
        rw [hs, hp]
        conv => lhs; arg 3; arg 2; arg 2; arg 1; rw [hp2]
        rw [wrunR rem (pre ++ cur ++ [c]) [] n (fun x hx => by cases hx) (by simp; omega) (by omega)]
        simp [ha]
    | false =>
      rw [loopN_inl (v' := (pre ++ (cur ++ c :: rem), (pre.length : Int), ((pre.length + cur.length + 1 : Nat) : Int), ())) (by
        simp only [F103_l0, C103_c0, F103_c0, e1, e2, e3, e3', Int.toNat_natCast, hg, hb, hcc, hw, Option.bind_some, cond_true, cond_false, Bool.and_self, Sum.elim_inr])]
      have hs : cur ++ c :: rem = (cur ++ [c]) ++ rem := by simp
      have hp : ((pre.length + cur.length + 1 : Nat) : Int) = ((pre.length + (cur ++ [c]).length : Nat) : Int) := by simp; omega
      rw [hs, hp]
      exact wrunR rem pre (cur ++ [c]) n (fun x hx => by
        rcases List.mem_append.1 hx with hx | hx
        · exact hc x hx
        · rw [List.mem_singleton.1 hx]; exact hcc) (by simp; omega) (by omega)
theorem c103 (s : List UInt8) (hl : s.length ≤ 900000) : C103 (s, ()) = some (wordsS s, ()) := by
  have h := wrunR s [] [] big (fun x hx => by cases hx) (by simp; omega) (by unfold big; omega)
  have h' : C103_l0 (s, 0, 0, ()) = some (if (sp 46 s).all plainS = true then .inl () else .inr (false, ())) := h
  simp only [C103, F103, h', Option.bind_some, wordsS]
  cases (sp 46 s).all plainS <;> rfl
end Go.Proofs.YtmfcepdbpdihgaaGreatDoor.W
set_option linter.unusedVariables false
set_option linter.unusedSimpArgs false
set_option maxRecDepth 100000
namespace Go.Proofs.YtmfcepdbpdihgaaGreatDoor.W
open Go Go.Ae Go.Pl
def qd1 (c : UInt8) : List UInt8 := bif c == 34 || c == 92 then [92, c] else [c]
def qd (s : List UInt8) : List UInt8 := s.flatMap qd1
theorem qd1_len (c : UInt8) : (qd1 c).length ≤ 2 := by unfold qd1; cases c == 34 || c == 92 <;> simp
theorem qd_len (s : List UInt8) : (qd s).length ≤ 2 * s.length := flat_len qd1 2 qd1_len s
theorem eq_byte (c : UInt8) (n : Nat) (hn : n < 256) : (((c.toNat : Nat) : Int) == (n : Int)) = (c == UInt8.ofNat n) := by
  by_cases h : c = UInt8.ofNat n
  · subst h
    rw [ibT, beq_self_eq_true]
    simp; omega
  · have h1 : (c == UInt8.ofNat n) = false := by simpa using h
    rw [h1, ibF]; intro e; exact h (u8_eq (by omega))
theorem e34 (c : UInt8) : (((c.toNat : Nat) : Int) == 34) = (c == 34) := eq_byte c 34 (by omega)
theorem e92 (c : UInt8) : (((c.toNat : Nat) : Int) == 92) = (c == 92) := eq_byte c 92 (by omega)
theorem qrun : ∀ (r pre out : List UInt8) (N : Int) (n : Nat), N = ((pre ++ r).length : Int) → pre.length + r.length ≤ 1000000000 → out.length + 2 * r.length ≤ 1000000000000 → r.length < n →
    loopN F114_l0 n (pre ++ r, N, (pre.length : Int), out, ()) = some (out ++ qd r, ())
  | _, _, _, _, 0, _, _, _, hn => by omega
  | [], pre, out, N, n + 1, hN, hl, ho, hn => by
    subst hN
    refine loopN_inr ?_
    simp only [F114_l0, List.append_nil, at0, cond_false, qd, List.flatMap_nil]
  | c :: r, pre, out, N, n + 1, hN, hl, ho, hn => by
    subst hN
    simp only [List.length_cons] at hl ho hn
    obtain ⟨hi, hi0, hw, hg⟩ := at4 pre r c 0 (by omega)
    have hc1 := qd1_len c
    have eo : decide (out.length + (0 + 1) ≤ 140737488355328 / 1) = true := by simp; omega
    have eo2 : decide (out.length + (0 + 1) + (0 + 1) ≤ 140737488355328 / 1) = true := by simp; omega
    have step : F114_l0 (pre ++ c :: r, ((pre ++ c :: r).length : Int), (pre.length : Int), out, ()) = some (.inl (pre ++ c :: r, ((pre ++ c :: r).length : Int), ((pre.length + 1 : Nat) : Int), out ++ qd1 c, ())) := by
      unfold qd1
      cases h1 : c == 34 with
      | true => simp only [F114_l0, hi, hi0, hg, hw, e34, e92, h1, List.length_append, List.length_cons, List.length_nil, at4, eo, eo2, cond_true, cond_false, Bool.and_self, Bool.true_or, byte_back, List.append_assoc, List.cons_append, List.nil_append]
                have hi' : decide ((pre.length : Int) < ((pre.length + (r.length + 1) : Nat) : Int)) = true := by simp; omega
                simp only [hi', cond_true, Bool.and_self]
      | false =>
        cases h2 : c == 92 with
        | true => simp only [F114_l0, hi, hi0, hg, hw, e34, e92, h1, h2, List.length_append, List.length_cons, List.length_nil, eo, eo2, cond_true, cond_false, Bool.and_self, Bool.false_or, byte_back, List.append_assoc, List.cons_append, List.nil_append]
                  have hi' : decide ((pre.length : Int) < ((pre.length + (r.length + 1) : Nat) : Int)) = true := by simp; omega
                  simp only [hi', cond_true, Bool.and_self]
        | false => simp only [F114_l0, hi, hi0, hg, hw, e34, e92, h1, h2, List.length_append, List.length_cons, List.length_nil, eo, eo2, cond_true, cond_false, Bool.and_self, Bool.false_or, byte_back, List.append_assoc, List.cons_append, List.nil_append]
                   have hi' : decide ((pre.length : Int) < ((pre.length + (r.length + 1) : Nat) : Int)) = true := by simp; omega
                   simp only [hi', cond_true, Bool.and_self]
    rw [loopN_inl step, shift, pl1 pre c, qrun r (pre ++ [c]) (out ++ qd1 c) _ n (by simp) (by simp; omega) (by rw [List.length_append]; omega) (by omega)]
    simp [qd]
def quoS (s : List UInt8) : List UInt8 := [34] ++ qd s ++ [34]
theorem c88_1 (s : List UInt8) (at_ : Int) (hl : s.length ≤ 1000000) : C88 (1, s, 0, ()) = some (quoS s, ()) := by
  have h := qrun s [] [] (s.length : Int) big (by simp) (by simp; omega) (by simp; omega) (by unfold big; omega)
  have h' : C114_l0 (s, (s.length : Int), 0, [], ()) = _ := h
  have hq := qd_len s
  have e0 : ((1 : Int) == 1) = true := rfl
  have e1 : decide (0 + 1 + (qd s).length ≤ 9223372036854775807) = true := by simp; omega
  have e2 : decide (0 + 1 + (qd s).length + (0 + 1) ≤ 9223372036854775807) = true := by simp; omega
  simp only [C88, F88, C114, F114, h', e0, cond_true, Option.bind_some, List.nil_append, List.length_append, List.length_cons, List.length_nil, e1, e2, quoS]
theorem qrunR (k a : Int) (s : List UInt8) : ∀ (r pre out : List UInt8) (n : Nat), pre.length + r.length ≤ 1000000000 → out.length + 2 * r.length ≤ 1000000000000 → r.length < n →
    loopN (F104_l0 C104_c0) n ((pre.length : Int), k, pre ++ r, a, out, ()) = some (out ++ qd r, ())
  | _, _, _, 0, _, _, hn => by omega
  | [], pre, out, n + 1, hl, ho, hn => by
    refine loopN_inr ?_
    simp only [F104_l0, List.append_nil, at0, cond_false, qd, List.flatMap_nil]
  | c :: r, pre, out, n + 1, hl, ho, hn => by
    simp only [List.length_cons] at hl ho hn
    obtain ⟨hi, hi0, hw, hg⟩ := at4 pre r c 0 (by omega)
    have hc1 := qd1_len c
    have eo : decide (out.length + (0 + 1) ≤ 140737488355328 / 1) = true := by simp; omega
    have eo2 : decide (out.length + (0 + 1) + (0 + 1) ≤ 140737488355328 / 1) = true := by simp; omega
    have hi' : decide ((pre.length : Int) < ((pre.length + (r.length + 1) : Nat) : Int)) = true := by simp; omega
    have step : F104_l0 C104_c0 ((pre.length : Int), k, pre ++ c :: r, a, out, ()) = some (.inl (((pre.length + 1 : Nat) : Int), k, pre ++ c :: r, a, out ++ qd1 c, ())) := by
      unfold qd1
      cases h1 : c == 34 with
      | true =>
        simp only [F104_l0, C104_c0, F104_c0, hi, hi0, hg, e34, e92, h1, List.length_append, List.length_cons, List.length_nil, eo, eo2, cond_true, cond_false, Bool.and_self, Bool.true_or, byte_back, List.append_assoc, List.cons_append, List.nil_append]
        simp only [hi', hw, cond_true, Bool.and_self, Option.bind_some]
      | false =>
        cases h2 : c == 92 with
        | true =>
          simp only [F104_l0, C104_c0, F104_c0, hi, hi0, hg, e34, e92, h1, h2, List.length_append, List.length_cons, List.length_nil, eo, eo2, cond_true, cond_false, Bool.and_self, Bool.false_or, byte_back, List.append_assoc, List.cons_append, List.nil_append]
          simp only [hi', hw, cond_true, Bool.and_self, Option.bind_some]
        | false =>
          simp only [F104_l0, C104_c0, F104_c0, hi, hi0, hg, e34, e92, h1, h2, List.length_append, List.length_cons, List.length_nil, eo, eo2, cond_true, cond_false, Bool.and_self, Bool.false_or, byte_back, List.append_assoc, List.cons_append, List.nil_append]
          simp only [hi', hw, cond_true, Bool.and_self, Option.bind_some]
    rw [loopN_inl step, shift, pl1 pre c, qrunR k a s r (pre ++ [c]) (out ++ qd1 c) n (by simp; omega) (by rw [List.length_append]; omega) (by omega)]
    simp [qd]
theorem c104_1 (s : List UInt8) (hl : s.length ≤ 1000000) : C104 (1, s, 0, ()) = some (quoS s, ()) := by
  have h := qrunR 1 0 s s [] [34] big (by simp; omega) (by simp; omega) (by unfold big; omega)
  have h' : C104_l0 (0, 1, s, 0, [34], ()) = _ := h
  have hq := qd_len s
  have e3 : ((1 : Int) == 3) = false := rfl
  have e5 : ((1 : Int) == 5) = false := rfl
  have e0 : ((1 : Int) == 1) = true := rfl
  have e2 : decide (0 + 1 + (qd s).length + (0 + 1) ≤ 140737488355328 / 1) = true := by simp; omega
  simp only [C104, F104, h', e0, e3, e5, cond_true, cond_false, Option.bind_some, List.length_append, List.length_cons, List.length_nil, e2, quoS]
def boxS (lo dom : List UInt8) : List UInt8 := (bif wordsS lo then lo else quoS lo) ++ [64] ++ dom
theorem quoS_len (s : List UInt8) : (quoS s).length ≤ 2 * s.length + 2 := by have := qd_len s; simp [quoS]; omega
theorem c60 (lo dom : List UInt8) (h1 : lo.length ≤ 100000) (h2 : dom.length ≤ 100000) : C60 (lo, dom, ()) = some (boxS lo dom, ()) := by
  have hq := quoS_len lo
  have a1 : decide (lo.length + (0 + 1) ≤ 9223372036854775807) = true := by simp; omega
  have a2 : decide (lo.length + (0 + 1) + dom.length ≤ 9223372036854775807) = true := by simp; omega
  have b1 : decide ((quoS lo).length + (0 + 1) ≤ 9223372036854775807) = true := by simp; omega
  have b2 : decide ((quoS lo).length + (0 + 1) + dom.length ≤ 9223372036854775807) = true := by simp; omega
  simp only [C60, F60, c87 lo (by omega), c88_1 lo 0 (by omega), Option.bind_some, boxS]
  cases wordsS lo with
  | true => simp only [Bool.not_true, cond_true, cond_false, List.length_append, List.length_cons, List.length_nil, a1, a2]
  | false => simp only [Bool.not_false, cond_true, cond_false, List.length_append, List.length_cons, List.length_nil, b1, b2]
theorem c77 (lo dom : List UInt8) (h1 : lo.length ≤ 100000) (h2 : dom.length ≤ 100000) : C77 (lo, dom, ()) = some (boxS lo dom, ()) := by
  have hq := quoS_len lo
  have a1 : decide (lo.length + (0 + 1) ≤ 9223372036854775807) = true := by simp; omega
  have a2 : decide (lo.length + (0 + 1) + dom.length ≤ 9223372036854775807) = true := by simp; omega
  have b1 : decide ((quoS lo).length + (0 + 1) ≤ 9223372036854775807) = true := by simp; omega
  have b2 : decide ((quoS lo).length + (0 + 1) + dom.length ≤ 9223372036854775807) = true := by simp; omega
  simp only [C77, F77, c103 lo (by omega), c104_1 lo (by omega), Option.bind_some, boxS]
  cases wordsS lo with
  | true => simp only [cond_true, cond_false, List.length_append, List.length_cons, List.length_nil, a1, a2]
  | false => simp only [cond_true, cond_false, List.length_append, List.length_cons, List.length_nil, b1, b2]
def pathS (null : Bool) (lo dom : List UInt8) : List UInt8 := bif null then [60, 62] else bif mastB null lo dom then [60] ++ lo ++ [62] else [60] ++ boxS lo dom ++ [62]
theorem boxS_len (lo dom : List UInt8) : (boxS lo dom).length ≤ 2 * lo.length + dom.length + 3 := by
  have hq := quoS_len lo
  unfold boxS
  cases wordsS lo <;> simp <;> omega
theorem pathS_len (null : Bool) (lo dom : List UInt8) : (pathS null lo dom).length ≤ 2 * lo.length + dom.length + 5 := by
  have hq := boxS_len lo dom
  unfold pathS
  cases null
  · cases mastB false lo dom
    · simp; omega
    · simp; omega
  · simp <;> omega
theorem c23 (null : Bool) (lo dom : List UInt8) (h1 : lo.length ≤ 100000) (h2 : dom.length ≤ 100000) : C23 (null, lo, dom, ()) = some (pathS null lo dom, ()) := by
  have hb := boxS_len lo dom
  have a1 : decide (0 + 1 + lo.length ≤ 9223372036854775807) = true := by simp; omega
  have a2 : decide (0 + 1 + lo.length + (0 + 1) ≤ 9223372036854775807) = true := by simp; omega
  have b1 : decide (0 + 1 + (boxS lo dom).length ≤ 9223372036854775807) = true := by simp; omega
  have b2 : decide (0 + 1 + (boxS lo dom).length + (0 + 1) ≤ 9223372036854775807) = true := by simp; omega
  simp only [C23, F23, c59 null lo dom (by omega), c60 lo dom h1 h2, Option.bind_some, pathS]
  cases null with
  | true => rfl
  | false =>
    simp only [cond_false]
    cases mastB false lo dom with
    | true => simp only [cond_true, List.length_append, List.length_cons, List.length_nil, a1, a2]
    | false => simp only [cond_true, cond_false, List.length_append, List.length_cons, List.length_nil, b1, b2]
theorem c44 (null : Bool) (lo dom : List UInt8) (h1 : lo.length ≤ 100000) (h2 : dom.length ≤ 100000) : C44 (null, lo, dom, ()) = some (pathS null lo dom, ()) := by
  have hb := boxS_len lo dom
  have a1 : decide (0 + 1 + lo.length ≤ 9223372036854775807) = true := by simp; omega
  have a2 : decide (0 + 1 + lo.length + (0 + 1) ≤ 9223372036854775807) = true := by simp; omega
  have b1 : decide (0 + 1 + (boxS lo dom).length ≤ 9223372036854775807) = true := by simp; omega
  have b2 : decide (0 + 1 + (boxS lo dom).length + (0 + 1) ≤ 9223372036854775807) = true := by simp; omega
  simp only [C44, F44, c76 null lo dom (by omega), c77 lo dom h1 h2, Option.bind_some, pathS]
  cases null with
  | true => rfl
  | false =>
    simp only [cond_false]
    cases mastB false lo dom with
    | true => simp only [cond_true, List.length_append, List.length_cons, List.length_nil, a1, a2]
    | false => simp only [cond_true, cond_false, List.length_append, List.length_cons, List.length_nil, b1, b2]
end Go.Proofs.YtmfcepdbpdihgaaGreatDoor.W
set_option linter.unusedVariables false
set_option linter.unusedSimpArgs false
set_option maxRecDepth 100000
namespace Go.Proofs.YtmfcepdbpdihgaaGreatDoor.W
open Go Go.Ae Go.Pl
def mtaS : List UInt8 := [82, 101, 112, 111, 114, 116, 105, 110, 103, 45, 77, 84, 65, 58, 32, 100, 110, 115, 59, 32]
def oriS : List UInt8 := [79, 114, 105, 103, 105, 110, 97, 108, 45, 73, 68, 58, 32]
def finS : List UInt8 := [70, 105, 110, 97, 108, 45, 82, 101, 99, 105, 112, 105, 101, 110, 116, 58, 32, 117, 116, 102, 45, 56, 59, 32]
def staS : List UInt8 := [83, 116, 97, 116, 117, 115, 58, 32]
def subS : List UInt8 := [83, 117, 98, 106, 101, 99, 116, 58, 32, 110, 111, 116, 32, 100, 101, 108, 105, 118, 101, 114, 101, 100]
def mimS : List UInt8 := [77, 73, 77, 69, 45, 86, 101, 114, 115, 105, 111, 110, 58, 32, 49, 46, 48]
def conS : List UInt8 := [67, 111, 110, 116, 101, 110, 116, 45, 84, 121, 112, 101, 58, 32, 109, 101, 115, 115, 97, 103, 101, 47, 103, 108, 111, 98, 97, 108, 45, 100, 101, 108, 105, 118, 101, 114, 121, 45, 115, 116, 97, 116, 117, 115]
def actS : List UInt8 := [65, 99, 116, 105, 111, 110, 58, 32, 102, 97, 105, 108, 101, 100]
def linesS (a b c d : List UInt8) : List (List UInt8) := [subS, mimS, conS, [], mtaS ++ a, [], oriS ++ b, finS ++ c, actS, staS ++ d]
theorem c42 (a b c d : List UInt8) (h : a.length + b.length + c.length + d.length ≤ 1000000000) : C42 (a, b, c, d, ()) = some (linesS a b c d, ()) := by
  have e1 : decide ((82 :: 101 :: 112 :: 111 :: 114 :: 116 :: 105 :: 110 :: 103 :: 45 :: 77 :: 84 :: 65 :: 58 :: 32 :: 100 :: 110 :: 115 :: 59 :: [32] : List Nat).length + a.length ≤ 9223372036854775807) = true := by simp; omega
  have e2 : decide ((79 :: 114 :: 105 :: 103 :: 105 :: 110 :: 97 :: 108 :: 45 :: 73 :: 68 :: 58 :: [32] : List Nat).length + b.length ≤ 9223372036854775807) = true := by simp; omega
  have e3 : decide ((70 :: 105 :: 110 :: 97 :: 108 :: 45 :: 82 :: 101 :: 99 :: 105 :: 112 :: 105 :: 101 :: 110 :: 116 :: 58 :: 32 :: 117 :: 116 :: 102 :: 45 :: 56 :: 59 :: [32] : List Nat).length + c.length ≤ 9223372036854775807) = true := by simp; omega
  have e4 : decide ((83 :: 116 :: 97 :: 116 :: 117 :: 115 :: 58 :: [32] : List Nat).length + d.length ≤ 9223372036854775807) = true := by simp; omega
  simp only [C42, F42, e1, e2, e3, e4, cond_true]
  rfl
def lowS (s : List UInt8) : Bool := s.all fun c => Nat.blt c.toNat 128
theorem asc_low {s : List UInt8} (h : s.all ascB = true) : lowS s = true := by
  unfold lowS
  rw [List.all_eq_true] at *
  intro c hc
  have := h c hc
  simp only [ascB, Bool.and_eq_true] at this
  have := Nat.le_of_ble_eq_true this.2
  rw [Nat.blt_eq]; omega
theorem low_rr : ∀ s : List UInt8, lowS s = true → rr s = []
  | [], _ => (runes_none (s := []) rfl).2
  | c :: r, h => by
    unfold lowS at h
    rw [List.all_cons, Bool.and_eq_true] at h
    have hc : c.toNat < 128 := by have := h.1; rwa [Nat.blt_eq] at this
    have hd : dec (c :: r) = some (cv c) := by
      rw [dec_cons, decC]
      have : decide (cv c < 128) = true := decide_eq_true (by unfold cv; omega)
      rw [this, cond_true]
    have hl := lenE1 (v := cv c) (by have := cv_rng c; omega) (by unfold cv; omega)
    rw [(runes_some hd).2, hl, List.drop_one, List.tail_cons]
    exact low_rr r h.2
theorem eightrun : ∀ (r pre : List UInt8) (N : Int) (n : Nat), N = ((pre ++ r).length : Int) → lowS r = true → pre.length + r.length ≤ 1000000000 → r.length < n →
    loopN F22_l0 n (pre ++ r, N, (pre.length : Int), ()) = some (.inl ())
  | _, _, _, 0, _, _, _, hn => by omega
  | [], pre, N, n + 1, hN, ha, hl, hn => by
    subst hN
    refine loopN_inr ?_
    simp only [F22_l0, List.append_nil, at0, cond_false]
  | c :: r, pre, N, n + 1, hN, ha, hl, hn => by
    subst hN
    simp only [List.length_cons] at hl hn
    obtain ⟨hi, hi0, hw, hg⟩ := at4 pre r c 0 (by omega)
    unfold lowS at ha
    rw [List.all_cons, Bool.and_eq_true] at ha
    have hc : c.toNat < 128 := by have := ha.1; rwa [Nat.blt_eq] at this
    have d : decide (((c.toNat : Nat) : Int) ≥ 128) = false := by simp; omega
    rw [loopN_inl (v' := (pre ++ c :: r, ((pre ++ c :: r).length : Int), ((pre.length + 1 : Nat) : Int), ())) (by simp only [F22_l0, hi, hi0, hg, hw, d, cond_true, cond_false, Bool.and_self])]
    rw [shift, pl1 pre c]
    exact eightrun r (pre ++ [c]) _ n (by simp) ha.2 (by simp; omega) (by omega)
theorem c22_low (s : List UInt8) (h : lowS s = true) (hl : s.length ≤ 1000000) : C22 (s, ()) = some (-1, ()) := by
  have h1 := eightrun s [] (s.length : Int) big (by simp) h (by simp; omega) (by unfold big; omega)
  have h1' : C22_l0 (s, (s.length : Int), 0, ()) = _ := h1
  simp only [C22, F22, h1', Option.bind_some]
  rfl
theorem reightrun : ∀ (r pre : List UInt8) (n : Nat), lowS r = true → pre.length + r.length ≤ 1000000000 → r.length < n →
    loopN F79_l0 n (pre ++ r, (pre.length : Int), ()) = some (.inl ())
  | _, _, 0, _, _, hn => by omega
  | [], pre, n + 1, ha, hl, hn => by
    refine loopN_inr ?_
    simp only [F79_l0, List.append_nil, at0, cond_false]
  | c :: r, pre, n + 1, ha, hl, hn => by
    simp only [List.length_cons] at hl hn
    obtain ⟨hi, hi0, hw, hg⟩ := at4 pre r c 0 (by omega)
    unfold lowS at ha
    rw [List.all_cons, Bool.and_eq_true] at ha
    have hc : c.toNat < 128 := by have := ha.1; rwa [Nat.blt_eq] at this
    have d : decide (((c.toNat : Nat) : Int) > 127) = false := by simp; omega
    rw [loopN_inl (v' := (pre ++ c :: r, ((pre.length + 1 : Nat) : Int), ())) (by simp only [F79_l0, hi, hi0, hg, hw, d, cond_true, cond_false, Bool.and_self])]
    rw [shift, pl1 pre c]
    exact reightrun r (pre ++ [c]) n ha.2 (by simp; omega) (by omega)
theorem c79_low (s : List UInt8) (h : lowS s = true) (hl : s.length ≤ 1000000) : C79 (s, ()) = some (-1, ()) := by
  have h1 := reightrun s [] big h (by simp; omega) (by unfold big; omega)
  have h1' : C79_l0 (s, 0, ()) = _ := h1
  simp only [C79, F79, h1', Option.bind_some]
  rfl
def okL (l : List (List UInt8)) : Prop := ∀ s ∈ l, lowS s = true ∧ s.length ≤ 1000000
theorem c73_low {s : List UInt8} (h : lowS s = true ∧ s.length ≤ 1000000) : C73 (s, ()) = some (false, ()) := by
  simp only [C73, F73, c22_low s h.1 h.2, Option.bind_some]
  rfl
theorem c74_low {s : List UInt8} (h : lowS s = true ∧ s.length ≤ 1000000) : C74 (s, ()) = some (false, ()) := by
  simp only [C74, F74, d21 s h.2, badAt_nil (low_rr s h.1), Option.bind_some]
  rfl
theorem cfrun (f : List UInt8 × Unit → Option (Bool × Unit)) : ∀ (r pre : List (List UInt8)) (N : Int) (n : Nat), N = ((pre ++ r).length : Int) → (∀ s ∈ r, f (s, ()) = some (false, ())) → pre.length + r.length ≤ 1000000000 → r.length < n →
    loopN (F98_l0 f) n (pre ++ r, N, (pre.length : Int), ()) = some (.inl ()) ∧ loopN (F98v1_l0 f) n (pre ++ r, N, (pre.length : Int), ()) = some (.inl ())
  | _, _, _, 0, _, _, _, hn => by omega
  | [], pre, N, n + 1, hN, ha, hl, hn => by
    subst hN
    refine ⟨loopN_inr ?_, loopN_inr ?_⟩
    · simp only [F98_l0, List.append_nil, at0, cond_false]
    · simp only [F98v1_l0, List.append_nil, at0, cond_false]
  | c :: r, pre, N, n + 1, hN, ha, hl, hn => by
    subst hN
    simp only [List.length_cons] at hl hn
    obtain ⟨hi, hi0, hw, hg⟩ := at4 pre r c [] (by omega)
    have hf := ha c List.mem_cons_self
    have ih := cfrun f r (pre ++ [c]) ((pre ++ c :: r).length : Int) n (by simp) (fun s h => ha s (List.mem_cons_of_mem _ h)) (by simp; omega) (by omega)
    rw [← shift, ← pl1 pre c] at ih
    constructor
    · rw [loopN_inl (v' := (pre ++ c :: r, ((pre ++ c :: r).length : Int), ((pre.length + 1 : Nat) : Int), ())) (by simp only [F98_l0, hi, hi0, hg, hw, hf, Option.bind_some, cond_true, cond_false, Bool.and_self])]
      exact ih.1
    · rw [loopN_inl (v' := (pre ++ c :: r, ((pre ++ c :: r).length : Int), ((pre.length + 1 : Nat) : Int), ())) (by simp only [F98v1_l0, hi, hi0, hg, hw, hf, Option.bind_some, cond_true, cond_false, Bool.and_self])]
      exact ih.2
theorem cf0 (l : List (List UInt8)) (h : okL l) (hl : l.length ≤ 1000000) : C72 (l, ()) = some (false, ()) ∧ C72v1 (l, ()) = some (false, ()) := by
  have h1 := (cfrun C73 l [] (l.length : Int) big (by simp) (fun s hs => c73_low (h s hs)) (by simp; omega) (by unfold big; omega)).1
  have h2 := (cfrun C74 l [] (l.length : Int) big (by simp) (fun s hs => c74_low (h s hs)) (by simp; omega) (by unfold big; omega)).2
  have h1' : C98_l0 (l, (l.length : Int), 0, ()) = _ := h1
  have h2' : C98v1_l0 (l, (l.length : Int), 0, ()) = _ := h2
  constructor
  · simp only [C72, F72, C98, F98, h1', Option.bind_some]
    rfl
  · simp only [C72v1, F72v1, C98v1, F98v1, h2', Option.bind_some]
    rfl
theorem hd71 (a b c d : List UInt8) : C71 (linesS a b c d, ()) = some (3, ()) := by kernel_rfl
theorem hd78 (a b c d : List UInt8) : C78 (linesS a b c d, ()) = some (3, ()) := by kernel_rfl
def fldP : List (List UInt8 × List UInt8) := match C75 (linesS [] [] [] [], ()) with | some (x, _) => x | none => []
theorem fl75 (a b c d : List UInt8) : C75 (linesS a b c d, ()) = some (fldP, ()) := by kernel_rfl
theorem fl80 (a b c d : List UInt8) : C80 (linesS a b c d, ()) = some (fldP, ()) := by kernel_rfl
theorem c41_m (a b c d : List UInt8) (h : okL (linesS a b c d)) : C41 (linesS a b c d, ()) = some (false, false, false, 3, 0, ()) := by
  have hT : okL (List.take (Int.toNat 3) (linesS a b c d)) := fun s hs => h s (List.mem_of_mem_take hs)
  have hD : okL (List.drop (Int.toNat 3) (linesS a b c d)) := fun s hs => h s (List.mem_of_mem_drop hs)
  have hlen : (linesS a b c d).length = 10 := rfl
  have e1 : decide (0 ≤ (3 : Int)) = true := by decide
  have e2 : decide ((3 : Int) ≤ ((linesS a b c d).length : Int)) = true := by rw [hlen]; decide
  have c1 := cf0 _ hT (by rw [List.length_take]; omega)
  have c2 := cf0 _ hD (by rw [List.length_drop]; omega)
  simp only [C41, F41, hd71, e1, e2, c1.1, c1.2, c2.1, fl75, Option.bind_some, cond_true, Bool.and_self]
  show @Eq (Option (Bool × Bool × Bool × Int × Int × Unit)) _ _
  kernel_rfl
theorem c45_m (a b c d : List UInt8) (h : okL (linesS a b c d)) : C45 (linesS a b c d, ()) = some (false, false, false, 3, 0, ()) := by
  have hlen : (linesS a b c d).length = 10 := rfl
  have hget : ∀ j : Nat, j < 10 → (linesS a b c d).getD j [] ∈ linesS a b c d := fun j hj => by
    rw [List.getD_eq_getElem?_getD, List.getElem?_eq_getElem (by rw [hlen]; exact hj)]
    exact List.getElem_mem _
  have hl0 := loopN_to (F := F45_l0 C36 C79 C45_c0) (fun j => (linesS a b c d, 3, (j : Int), false, false, false, 0, 0, false, false, false, 3, 0, ())) 10 (fun j hj => by
      have hg := h _ (hget j hj)
      have e1 : decide ((j : Int) < ((linesS a b c d).length : Int)) = true := by rw [hlen]; simp; omega
      have e2 : decide (0 ≤ (j : Int)) = true := by simp
      have hw : IntKind.i64.wrap ((j : Int) + 1) = ((j + 1 : Nat) : Int) := wrN _ (by omega)
      have ce := c79_low _ hg.1 hg.2
      have cr := c36 _ hg.2
      rw [badAt_nil (low_rr _ hg.1)] at cr
      have em : decide ((-1 : Int) ≥ 0) = false := by decide
      by_cases h3 : j < 3
      · have e3 : decide ((j : Int) < 3) = true := by simp; omega
        simp only [F45_l0, C45_c0, F45_c0, e1, e2, e3, Int.toNat_natCast, ce, cr, em, hw, Option.bind_some, cond_true, cond_false, Bool.and_self]
      · have e3 : decide ((j : Int) < 3) = false := by simp; omega
        simp only [F45_l0, C45_c0, F45_c0, e1, e2, e3, Int.toNat_natCast, ce, cr, em, hw, Option.bind_some, cond_true, cond_false, Bool.and_self]) (by
      have e1 : decide (((10 : Nat) : Int) < ((linesS a b c d).length : Int)) = false := by rw [hlen]; decide
      simp only [F45_l0, e1, cond_false]
      rfl) (by unfold big; omega)
  have hl0' : C45_l0 (linesS a b c d, 3, 0, false, false, false, 0, 0, false, false, false, 3, 0, ()) = _ := hl0
  simp only [C45, F45, hd78, hl0', fl80, Option.bind_some]
  show @Eq (Option (Bool × Bool × Bool × Int × Int × Unit)) _ _
  kernel_rfl
end Go.Proofs.YtmfcepdbpdihgaaGreatDoor.W
set_option linter.unusedVariables false
set_option linter.unusedSimpArgs false
set_option maxRecDepth 100000
namespace Go.Proofs.YtmfcepdbpdihgaaGreatDoor.W
open Go Go.Ae Go.Pl
abbrev Rc := (Bool × (List UInt8 × List UInt8)) × (Int × (Int × (Int × Int)))
abbrev MailT := Bool × List UInt8 × List UInt8 × List (Bool × (List UInt8 × List UInt8)) × List (List UInt8) × Bool × Bool × Bool × Int × Int × Int × Bool × Unit
def rcD : Rc := ((false, ([], [])), (0, (0, (0, 0))))
def noMail : MailT := (false, [], [], [], [], false, false, false, 0, 0, 0, false, ())
def sumB : List (List UInt8) → Int
  | [] => 0
  | s :: r => ((s.length : Int) + 2) + sumB r
def mLines (name : List UInt8) (id : Int) (r : Rc) : List (List UInt8) := linesS (esc name) (itoaF id) (esc (pathS r.1.1 r.1.2.1 r.1.2.2)) (stS r.2.2.2.2)
def asksB (nl : Bool) (to : List Rc) (k : Int) : Bool := !nl && (decide (0 ≤ k) && (decide (k < (to.length : Int)) && (to.getD k.toNat rcD).2.1 == 3))
def buildS (name : List UInt8) (id : Int) (nl : Bool) (lo dm : List UInt8) (to : List Rc) (k : Int) : MailT :=
  bif asksB nl to k then (true, [], [], [(nl, lo, dm)], mLines name id (to.getD k.toNat rcD), false, false, false, 3, 0, sumB (mLines name id (to.getD k.toNat rcD)), true, ()) else noMail
theorem bind_eq {α β : Type} {o : Option α} {v : α} {f : α → Option β} {r : Option β} (h : o = some v) (h2 : f v = r) : o.bind f = r := by rw [h]; exact h2
theorem digF_asc : ∀ f n, (digF f n).all ascB = true
  | 0, n => rfl
  | f + 1, n => by
    have hd : ∀ m, m < 10 → ascB (UInt8.ofNat (48 + m)) = true := fun m hm => by
      have := List.all_eq_true.1 (show ((List.range 10).all fun m => ascB (UInt8.ofNat (48 + m))) = true by decide) m (List.mem_range.2 hm)
      exact this
    rw [digF]
    split
    · rename_i h; rw [List.all_cons, hd n h]; rfl
    · rw [List.all_append, digF_asc f, Bool.true_and, List.all_cons, hd (n % 10) (Nat.mod_lt _ (by omega))]; rfl
theorem itoaF_asc (n : Int) : (itoaF n).all ascB = true := by
  unfold itoaF
  split
  · rw [List.all_cons, digF_asc]; rfl
  · exact digF_asc _ _
theorem digF_len : ∀ f n, (digF f n).length ≤ f
  | 0, n => Nat.le_refl _
  | f + 1, n => by
    rw [digF]
    split
    · simp
    · have := digF_len f (n / 10); simp; omega
theorem itoaF_len (n : Int) : (itoaF n).length ≤ 21 := by
  unfold itoaF
  have h1 := digF_len 20 n.natAbs
  have h2 := digF_len 20 n.toNat
  split
  · simp; omega
  · omega
theorem stS_asc (n : Int) : (stS n).all ascB = true := by
  unfold stS
  split
  · rfl
  · rename_i h
    have hb : ∀ m : Int, 0 ≤ m → m < 10 → ascB (b8 (48 + m)) = true := fun m h0 h1 => by
      have e := b8_cv (n := 48 + m) (by omega) (by omega)
      unfold cv at e
      simp only [ascB, Bool.and_eq_true]
      exact ⟨Nat.ble_eq_true_of_le (by omega), Nat.ble_eq_true_of_le (by omega)⟩
    simp only [List.all_cons, List.all_nil, Bool.and_true, hb (n / 100) (by omega) (by omega), hb (n / 10 % 10) (by omega) (by omega), hb (n % 10) (by omega) (by omega)]
    rfl
theorem stS_len (n : Int) : (stS n).length = 5 := by unfold stS; split <;> rfl
theorem okL_m {a b c d : List UInt8} (ha : a.all ascB = true) (hb : b.all ascB = true) (hc : c.all ascB = true) (hd : d.all ascB = true) (hl : a.length + b.length + c.length + d.length ≤ 900000) : okL (linesS a b c d) := by
  have key : ∀ (p s : List UInt8), p.all ascB = true → s.all ascB = true → p.length + s.length ≤ 1000000 → lowS (p ++ s) = true ∧ (p ++ s).length ≤ 1000000 := fun p s hp hs h =>
    ⟨asc_low (by rw [List.all_append, hp, hs]; rfl), by rw [List.length_append]; exact h⟩
  have l1 : mtaS.length = 20 := rfl
  have l2 : oriS.length = 13 := rfl
  have l3 : finS.length = 24 := rfl
  have l4 : staS.length = 8 := rfl
  intro s hs
  simp only [linesS, List.mem_cons, List.not_mem_nil, or_false] at hs
  rcases hs with rfl | rfl | rfl | rfl | rfl | rfl | rfl | rfl | rfl | rfl
  · exact ⟨by decide, by decide⟩
  · exact ⟨by decide, by decide⟩
  · exact ⟨by decide, by decide⟩
  · exact ⟨rfl, by decide⟩
  · exact key mtaS a (by decide) ha (by omega)
  · exact ⟨rfl, by decide⟩
  · exact key oriS b (by decide) hb (by omega)
  · exact key finS c (by decide) hc (by omega)
  · exact ⟨by decide, by decide⟩
  · exact key staS d (by decide) hd (by omega)
theorem mL_len (name : List UInt8) (id : Int) (r : Rc) (h1 : name.length ≤ 1000) (h2 : r.1.2.1.length ≤ 1000) (h3 : r.1.2.2.length ≤ 1000) :
    (esc name).length + (itoaF id).length + (esc (pathS r.1.1 r.1.2.1 r.1.2.2)).length + (stS r.2.2.2.2).length ≤ 400000 := by
  have a1 := esc_len name
  have a2 := itoaF_len id
  have a3 := esc_len (pathS r.1.1 r.1.2.1 r.1.2.2)
  have a4 := pathS_len r.1.1 r.1.2.1 r.1.2.2
  have a5 := stS_len r.2.2.2.2
  omega
theorem mL_ok (name : List UInt8) (id : Int) (r : Rc) (h1 : name.length ≤ 1000) (h2 : r.1.2.1.length ≤ 1000) (h3 : r.1.2.2.length ≤ 1000) : okL (mLines name id r) :=
  okL_m (esc_asc _) (itoaF_asc _) (esc_asc _) (stS_asc _) (by have := mL_len name id r h1 h2 h3; omega)
theorem brun (N : Int) (y2 : Bool) (y3 y4 : List UInt8) (y5 y6 y7 : Bool) (y8 y9 y10 : Int) (y11 : Bool) (y12 y13 : List UInt8) (y14 y15 y16 : Bool) (y17 y18 : Int) (y21 : List (Bool × (List UInt8 × List UInt8))) :
    ∀ (r pre : List (List UInt8)) (b : Int) (n : Nat), N = ((pre ++ r).length : Int) → (∀ s ∈ r, s.length ≤ 1000000) → pre.length + r.length ≤ 1000 → 0 ≤ b → b + 1000002 * r.length ≤ 1000000000000 → r.length < n →
    loopN F16_l0 n (N, (pre.length : Int), y2, y3, y4, y5, y6, y7, y8, y9, y10, y11, y12, y13, y14, y15, y16, y17, y18, b, pre ++ r, y21, ()) = some (y2, y3, y4, y5, y6, y7, y8, y9, y10, y11, y12, y13, y14, y15, y16, y17, y18, b + sumB r, y21, pre ++ r, ())
  | _, _, _, 0, _, _, _, _, _, hn => by omega
  | [], pre, b, n + 1, hN, hs, hl, h0, hb, hn => by
    subst hN
    refine loopN_inr ?_
    simp only [F16_l0, List.append_nil, at0, cond_false, sumB, Int.add_zero]
  | c :: r, pre, b, n + 1, hN, hs, hl, h0, hb, hn => by
    subst hN
    simp only [List.length_cons] at hl hb hn
    obtain ⟨hi, hi0, hw, hg⟩ := at4 pre r c [] (by omega)
    have hc := hs c List.mem_cons_self
    have w1 : IntKind.i64.wrap ((c.length : Int) + 2) = (c.length : Int) + 2 := w64 (by omega) (by omega)
    have w2 : IntKind.i64.wrap (b + ((c.length : Int) + 2)) = b + ((c.length : Int) + 2) := w64 (by omega) (by omega)
    rw [loopN_inl (v' := (((pre ++ c :: r).length : Int), ((pre.length + 1 : Nat) : Int), y2, y3, y4, y5, y6, y7, y8, y9, y10, y11, y12, y13, y14, y15, y16, y17, y18, b + ((c.length : Int) + 2), pre ++ c :: r, y21, ())) (by simp only [F16_l0, hi, hi0, hg, hw, w1, w2, cond_true, Bool.and_self])]
    rw [shift, pl1 pre c, brun _ y2 y3 y4 y5 y6 y7 y8 y9 y10 y11 y12 y13 y14 y15 y16 y17 y18 y21 r (pre ++ [c]) (b + ((c.length : Int) + 2)) n (by simp) (fun s h => hs s (List.mem_cons_of_mem _ h)) (by simp; omega) (by omega) (by omega) (by omega)]
    simp only [sumB, Int.add_assoc]
theorem c16 (name : List UInt8) (id : Int) (nl : Bool) (lo dm : List UInt8) (to : List Rc) (z6 : List (List UInt8)) (z7 z8 z9 : Bool) (z10 z11 z12 k : Int) (hn : name.length ≤ 1000) (hid : -9223372036854775808 ≤ id ∧ id ≤ 9223372036854775807)
    (hto : ∀ r ∈ to, r.1.2.1.length ≤ 1000 ∧ r.1.2.2.length ≤ 1000 ∧ -9223372036854775808 ≤ r.2.2.2.2 ∧ r.2.2.2.2 ≤ 9223372036854775807) :
    C16 (name, id, nl, lo, dm, to, z6, z7, z8, z9, z10, z11, z12, k, ()) = some (buildS name id nl lo dm to k) := by
  have hz : ((false, ([], [])), (0, (0, (0, 0)))) = rcD := rfl
  unfold buildS asksB
  simp only [C16, F16]
  cases nl with
  | true => rfl
  | false =>
    simp only [cond_false, Bool.not_false, Bool.true_and]
    by_cases hk : k < 0
    · have d1 : decide (k < 0) = true := by simp [hk]
      have d2 : decide (0 ≤ k) = false := by simp; omega
      rw [d1, d2]; rfl
    · have d1 : decide (k < 0) = false := by simp; omega
      have d2 : decide (0 ≤ k) = true := by simp; omega
      rw [d1, d2]
      simp only [cond_false, Bool.true_and]
      by_cases hk2 : k < (to.length : Int)
      · have d3 : decide (k ≥ (to.length : Int)) = false := by simp; omega
        have d4 : decide (k < (to.length : Int)) = true := by simp [hk2]
        rw [d3, d4]
        simp only [cond_false, cond_true, Bool.true_and]
        have hmem : to.getD k.toNat rcD ∈ to := by
          rw [List.getD_eq_getElem?_getD, List.getElem?_eq_getElem (show k.toNat < to.length by omega)]
          exact List.getElem_mem _
        have hr := hto _ hmem
        obtain ⟨r, hrr⟩ : ∃ r, to.getD k.toNat rcD = r := ⟨_, rfl⟩
        rw [hrr] at hr
        change (bif (to.getD k.toNat rcD).2.1 != 3 then _ else _) = _
        rw [hrr]
        cases h3 : r.2.1 == 3 with
        | false =>
          have : (r.2.1 != 3) = true := by simp only [bne, h3]; rfl
          rw [this]; rfl
        | true =>
          have : (r.2.1 != 3) = false := by simp only [bne, h3]; rfl
          rw [this]
          simp only [cond_false, cond_true]
          have hml := mL_len name id r hn hr.1 hr.2.1
          have hok := mL_ok name id r hn hr.1 hr.2.1
          have hpl := pathS_len r.1.1 r.1.2.1 r.1.2.2
          have hI : C38 (id, ()) = some (itoaF id, ()) := by rw [C38, if_pos hid]
          have hfl := c41_m (esc name) (itoaF id) (esc (pathS r.1.1 r.1.2.1 r.1.2.2)) (stS r.2.2.2.2) hok
          have hP := c23 r.1.1 r.1.2.1 r.1.2.2 (by omega) (by omega)
          have hE := c11 (pathS r.1.1 r.1.2.1 r.1.2.2) (by omega)
          have hS := c13 r.2.2.2.2 hr.2.2.1 hr.2.2.2
          have hl0 := brun ((mLines name id r).length : Int) false [] [] false false false 0 0 0 true [] [] false false false 3 0 [(false, lo, dm)] (mLines name id r) [] 0 big (by simp) (fun s hs => (hok s hs).2) (by show 0 + 10 ≤ 1000; omega) (by omega) (by show (0 : Int) + 1000002 * 10 ≤ _; omega) (by show 10 < big; unfold big; omega)
          have e1 : decide ((82 :: 101 :: 112 :: 111 :: 114 :: 116 :: 105 :: 110 :: 103 :: 45 :: 77 :: 84 :: 65 :: 58 :: 32 :: 100 :: 110 :: 115 :: 59 :: [32] : List Nat).length + (esc name).length ≤ 9223372036854775807) = true := by simp; omega
          have e2 : decide ((79 :: 114 :: 105 :: 103 :: 105 :: 110 :: 97 :: 108 :: 45 :: 73 :: 68 :: 58 :: [32] : List Nat).length + (itoaF id).length ≤ 9223372036854775807) = true := by simp; omega
          have e3 : decide ((70 :: 105 :: 110 :: 97 :: 108 :: 45 :: 82 :: 101 :: 99 :: 105 :: 112 :: 105 :: 101 :: 110 :: 116 :: 58 :: 32 :: 117 :: 116 :: 102 :: 45 :: 56 :: 59 :: [32] : List Nat).length + (esc (pathS r.1.1 r.1.2.1 r.1.2.2)).length ≤ 9223372036854775807) = true := by simp; omega
          have e4 : decide ((83 :: 116 :: 97 :: 116 :: 117 :: 115 :: 58 :: [32] : List Nat).length + (stS r.2.2.2.2).length ≤ 9223372036854775807) = true := by simp; omega
          simp only [C16_c1, F16_c1, hz, hrr, d2, d4, c11 name (by omega), e1, hI, e2, hP, hE, e3, hS, e4, cond_true, Bool.and_self, Option.bind_some, C16_c0, F16_c0]
          rw [Int.zero_add] at hl0
          rw [Option.bind_assoc, Option.bind_assoc]
          refine bind_eq hfl ?_
          simp only [Option.bind_assoc]
          refine bind_eq hl0 ?_
          rfl
      · have d3 : decide (k ≥ (to.length : Int)) = true := by simp; omega
        have d4 : decide (k < (to.length : Int)) = false := by simp; omega
        rw [d3, d4]; rfl
theorem num43d (m : Nat) (n : Nat) (h : n < 10) (hm : 0 < m) : recN (fun G => F43 G) m ((n : Int), ()) = some ([UInt8.ofNat (48 + n)], ()) := by
  match m with
  | m + 1 =>
    show F43 _ ((n : Int), ()) = _
    rcases (show n = 0 ∨ n = 1 ∨ n = 2 ∨ n = 3 ∨ n = 4 ∨ n = 5 ∨ n = 6 ∨ n = 7 ∨ n = 8 ∨ n = 9 by omega) with rfl | rfl | rfl | rfl | rfl | rfl | rfl | rfl | rfl | rfl <;> rfl
theorem num43 : ∀ (f n m : Nat), n < 10 ^ (f + 1) → n < 18446744073709551616 → f < m → f ≤ 1000 → recN (fun G => F43 G) m ((n : Int), ()) = some (digF (f + 1) n, ())
  | f, n, m + 1, h, h64, hm, hf => by
    by_cases h10 : n < 10
    · rw [num43d (m + 1) n h10 (by omega), digF, if_pos h10]
    · rw [digF, if_neg h10]
      show F43 (recN (fun G => F43 G) m) ((n : Int), ()) = _
      have d : decide ((n : Int) < 10) = false := by simp; omega
      have ed : IntKind.u64.wrap (Int.tdiv (n : Int) 10) = ((n / 10 : Nat) : Int) := by
        rw [Int.tdiv_eq_ediv_of_nonneg (by omega), IntKind.wrap_u64]; omega
      have em : Int.tmod (n : Int) 10 = ((n % 10 : Nat) : Int) := by
        rw [Int.tmod_eq_emod_of_nonneg (by omega)]; omega
      match f, h with
      | 0, h => simp at h; omega
      | f + 1, h =>
      have hp : n / 10 < 10 ^ (f + 1) := by
        rw [Nat.pow_succ 10 (f + 1)] at h
        omega
      have ih := num43 f (n / 10) m hp (by omega) (by omega) (by omega)
      have hd := num43d m (n % 10) (Nat.mod_lt _ (by omega)) (by omega)
      have hl := digF_len (f + 1) (n / 10)
      have e1 : decide ((digF (f + 1) (n / 10)).length + ([UInt8.ofNat (48 + n % 10)] : List UInt8).length ≤ 9223372036854775807) = true := by simp; omega
      simp only [F43, d, cond_false, ed, em, ih, hd, e1, cond_true, Option.bind_some]
theorem c43 (n : Nat) (h : n < 18446744073709551616) : C43 ((n : Int), ()) = some (digF 20 n, ()) := by
  rw [C43]
  exact num43 19 n big (by omega) h (by unfold big; omega) (by omega)
theorem rbrun (y2 : Bool) (y3 y4 : List UInt8) (y5 y6 y7 : Bool) (y8 y9 y10 : Int) (y11 : Bool) (y12 y13 : List UInt8) (y14 : List (List UInt8)) (y15 y16 y17 : Bool) (y18 y19 : Int) (y21 : List (Bool × (List UInt8 × List UInt8))) :
    ∀ (r pre : List (List UInt8)) (b : Int) (n : Nat), (∀ s ∈ r, s.length ≤ 1000000) → pre.length + r.length ≤ 1000 → 0 ≤ b → b + 1000002 * r.length ≤ 1000000000000 → r.length < n →
    loopN F17_l0 n (pre ++ r, (pre.length : Int), y2, y3, y4, y5, y6, y7, y8, y9, y10, y11, y12, y13, y14, y15, y16, y17, y18, y19, b, y21, ()) = some (y2, y3, y4, y5, y6, y7, y8, y9, y10, y11, y12, y13, y14, y15, y16, y17, y18, y19, b + sumB r, y21, ())
  | _, _, _, 0, _, _, _, _, hn => by omega
  | [], pre, b, n + 1, hs, hl, h0, hb, hn => by
    refine loopN_inr ?_
    simp only [F17_l0, List.append_nil, at0, cond_false, sumB, Int.add_zero]
  | c :: r, pre, b, n + 1, hs, hl, h0, hb, hn => by
    simp only [List.length_cons] at hl hb hn
    obtain ⟨hi, hi0, hw, hg⟩ := at4 pre r c [] (by omega)
    have hc := hs c List.mem_cons_self
    have w1 : IntKind.i64.wrap (b + (c.length : Int)) = b + (c.length : Int) := w64 (by omega) (by omega)
    have w2 : IntKind.i64.wrap (b + (c.length : Int) + 2) = b + ((c.length : Int) + 2) := by rw [w64 (by omega) (by omega)]; omega
    rw [loopN_inl (v' := (pre ++ c :: r, ((pre.length + 1 : Nat) : Int), y2, y3, y4, y5, y6, y7, y8, y9, y10, y11, y12, y13, y14, y15, y16, y17, y18, y19, b + ((c.length : Int) + 2), y21, ())) (by simp only [F17_l0, hi, hi0, hg, hw, w1, w2, cond_true, Bool.and_self])]
    rw [shift, pl1 pre c, rbrun y2 y3 y4 y5 y6 y7 y8 y9 y10 y11 y12 y13 y14 y15 y16 y17 y18 y19 y21 r (pre ++ [c]) (b + ((c.length : Int) + 2)) n (fun s h => hs s (List.mem_cons_of_mem _ h)) (by simp; omega) (by omega) (by omega) (by omega)]
    simp only [sumB, Int.add_assoc]
theorem c17 (name : List UInt8) (id : Int) (nl : Bool) (lo dm : List UInt8) (to : List Rc) (z6 : List (List UInt8)) (z7 z8 z9 : Bool) (z10 z11 z12 k : Int) (hn : name.length ≤ 1000) (hid : -9223372036854775808 ≤ id ∧ id ≤ 9223372036854775807)
    (hto : ∀ r ∈ to, r.1.2.1.length ≤ 1000 ∧ r.1.2.2.length ≤ 1000 ∧ -9223372036854775808 ≤ r.2.2.2.2 ∧ r.2.2.2.2 ≤ 9223372036854775807) :
    C17 (name, id, nl, lo, dm, to, z6, z7, z8, z9, z10, z11, z12, k, ()) = some (buildS name id nl lo dm to k) := by
  have hz : ((false, ([], [])), (0, (0, (0, 0)))) = rcD := rfl
  unfold buildS asksB
  simp only [C17, F17]
  cases nl with
  | true => rfl
  | false =>
    simp only [cond_false, Bool.not_false, Bool.true_and]
    by_cases hk : k < 0
    · have d1 : decide (k < 0) = true := by simp [hk]
      have d2 : decide (0 ≤ k) = false := by simp; omega
      rw [d1, d2]; rfl
    · have d1 : decide (k < 0) = false := by simp; omega
      have d2 : decide (0 ≤ k) = true := by simp; omega
      rw [d1, d2]
      simp only [cond_false, Bool.true_and]
      by_cases hk2 : k < (to.length : Int)
      · have d3 : decide (k ≥ (to.length : Int)) = false := by simp; omega
        have d4 : decide (k < (to.length : Int)) = true := by simp [hk2]
        rw [d3, d4]
        simp only [cond_false, cond_true, Bool.true_and]
        have hmem : to.getD k.toNat rcD ∈ to := by
          rw [List.getD_eq_getElem?_getD, List.getElem?_eq_getElem (show k.toNat < to.length by omega)]
          exact List.getElem_mem _
        have hr := hto _ hmem
        obtain ⟨r, hrr⟩ : ∃ r, to.getD k.toNat rcD = r := ⟨_, rfl⟩
        rw [hrr] at hr
        change (bif (to.getD k.toNat rcD).2.1 != 3 then _ else _) = _
        rw [hrr]
        cases h3 : r.2.1 == 3 with
        | false =>
          have : (r.2.1 != 3) = true := by simp only [bne, h3]; rfl
          rw [this]; rfl
        | true =>
          have : (r.2.1 != 3) = false := by simp only [bne, h3]; rfl
          rw [this]
          simp only [cond_false, cond_true]
          have hml := mL_len name id r hn hr.1 hr.2.1
          have hok := mL_ok name id r hn hr.1 hr.2.1
          have hpl := pathS_len r.1.1 r.1.2.1 r.1.2.2
          have hfl := c45_m (esc name) (itoaF id) (esc (pathS r.1.1 r.1.2.1 r.1.2.2)) (stS r.2.2.2.2) hok
          have hP := c44 r.1.1 r.1.2.1 r.1.2.2 (by omega) (by omega)
          have hE := c12 (pathS r.1.1 r.1.2.1 r.1.2.2) (by omega)
          have hS := c14 r.2.2.2.2
          have hl0 := rbrun false [] [] false false false 0 0 0 true [] [] (mLines name id r) false false false 3 0 [(false, lo, dm)] (mLines name id r) [] 0 big (fun s hs => (hok s hs).2) (by show 0 + 10 ≤ 1000; omega) (by omega) (by show (0 : Int) + 1000002 * 10 ≤ _; omega) (by show 10 < big; unfold big; omega)
          rw [Int.zero_add] at hl0
          have hli := c42 (esc name) (itoaF id) (esc (pathS r.1.1 r.1.2.1 r.1.2.2)) (stS r.2.2.2.2) (by omega)
          have hc1 : ∀ (sg : List UInt8) (m : Nat), sg.length ≤ 1 → m < 18446744073709551616 → sg ++ digF 20 m = itoaF id → C17_c1 (name, k, sg, (m : Int), id, false, lo, dm, to, z6, z7, z8, z9, z10, z11, z12, false, [], [], false, false, false, 0, 0, 0, ()) = some (true, true, [], [], mLines name id r, false, false, false, 3, 0, sumB (mLines name id r), [(false, lo, dm)], ()) := by
            intro sg m hsg hm hit
            have e2 : decide (sg.length + (digF 20 m).length ≤ 9223372036854775807) = true := by have := digF_len 20 m; simp; omega
            simp only [C17_c1, F17_c1, hz, hrr, d2, d4, c12 name (by omega), c43 m hm, e2, hP, hE, hS, hit, cond_true, Bool.and_self, Option.bind_some, hli, C17_c0, F17_c0]
            rw [Option.bind_assoc]
            refine bind_eq hfl ?_
            simp only [Option.bind_assoc]
            refine bind_eq hl0 ?_
            rfl
          by_cases hneg : id < 0
          · have d5 : decide (id < 0) = true := by simp [hneg]
            have hw : IntKind.u64.wrap (0 - IntKind.u64.wrap id) = ((id.natAbs : Nat) : Int) := by rw [IntKind.wrap_u64, IntKind.wrap_u64]; omega
            have := hc1 [45] id.natAbs (by simp) (by omega) (by unfold itoaF; rw [if_pos hneg]; rfl)
            simp only [C17_c3, F17_c3, C17_c2, F17_c2, d5, hw, this, cond_true, Option.bind_some]
          · have d5 : decide (id < 0) = false := by simp; omega
            have hw : IntKind.u64.wrap id = ((id.toNat : Nat) : Int) := by rw [IntKind.wrap_u64]; omega
            have := hc1 [] id.toNat (by simp) (by omega) (by unfold itoaF; rw [if_neg hneg]; rfl)
            simp only [C17_c3, F17_c3, C17_c2, F17_c2, d5, hw, this, cond_false, Option.bind_some]
      · have d3 : decide (k ≥ (to.length : Int)) = true := by simp; omega
        have d4 : decide (k < (to.length : Int)) = false := by simp; omega
        rw [d3, d4]; rfl
end Go.Proofs.YtmfcepdbpdihgaaGreatDoor.W
set_option linter.unusedVariables false
set_option linter.unusedSimpArgs false
set_option maxRecDepth 100000
namespace Go.Proofs.YtmfcepdbpdihgaaGreatDoor.W
open Go Go.Ae Go.Pl
def numS (s : List UInt8) : Int := match Lib.atoiAll (s.filter fun b => b != 46) with
  | .ok n => if stS n = s then (if n < 100 then -1 else n) else -1
  | _ => -1
theorem atoi_rng {l : List UInt8} {n : Int} (h : Lib.atoiAll l = .ok n) : -9223372036854775808 ≤ n ∧ n ≤ 9223372036854775807 := by
  unfold Lib.atoiAll at h
  split at h
  · cases h
  · dsimp only at h
    split at h
    · cases h
    · cases h
    · split at h
      · cases h
      · split at h
        · cases h
        · rename_i u hu h1 h2
          cases h
          split
          · rename_i hn
            have : ¬ (9223372036854775808 < u) := fun hc => h2 ⟨hn, hc⟩
            omega
          · rename_i hn
            have : ¬ (9223372036854775808 ≤ u) := fun hc => h1 ⟨hn, hc⟩
            omega
theorem c55 (s : List UInt8) (hl : s.length ≤ 1000000) : C55 (s, ()) = some (numS s, ()) := by
  have h84 : C84 (s, [46], [], ()) = some (s.filter (fun b => b != 46), ()) := by
    simp only [C84]
    rw [if_pos (by omega)]
  have hf : (s.filter (fun b => b != 46)).length ≤ 281474976710656 := by
    have := List.length_filter_le (fun b => b != 46) s
    omega
  simp only [C55, F55, h84, Option.bind_some, C83]
  rw [if_pos hf]
  unfold numS
  cases hx : Lib.atoiAll (s.filter fun b => b != 46) with
  | ok n =>
    have hr := atoi_rng hx
    simp only [Option.bind_some, Sum.elim_inl, c13 n hr.1 hr.2]
    by_cases hs : stS n = s
    · rw [if_pos hs]
      have : (stS n == s) = true := by simp [hs]
      simp only [this, Bool.not_true, cond_false]
      by_cases h1 : n < 100
      · rw [if_pos h1, decide_eq_true h1]; rfl
      · rw [if_neg h1, decide_eq_false h1]; rfl
    · rw [if_neg hs]
      have : (stS n == s) = false := by simp [hs]
      simp only [this, Bool.not_false, cond_true]
  | _ => rfl
theorem atoi900 : ((List.range 900).all fun m => match Lib.atoiAll ((stS ((100 + m : Nat) : Int)).filter fun b => b != 46) with | .ok n => n == ((100 + m : Nat) : Int) | _ => false) = true := by kernel_rfl
theorem atoi_st {n : Int} (h0 : 100 ≤ n) (h1 : n ≤ 999) : Lib.atoiAll ((stS n).filter fun b => b != 46) = .ok n := by
  have := List.all_eq_true.1 atoi900 (n.toNat - 100) (List.mem_range.2 (by omega))
  rw [show ((100 + (n.toNat - 100) : Nat) : Int) = n by omega] at this
  split at this
  · rename_i m hm; rw [hm]; simp at this; rw [this]
  · cases this
theorem num_st {n : Int} (h0 : 100 ≤ n) (h1 : n ≤ 999) : numS (stS n) = n := by
  unfold numS
  rw [atoi_st h0 h1]
  dsimp only
  rw [if_pos rfl, if_neg (by omega)]
theorem num_spec (s : List UInt8) : (∃ n, 100 ≤ n ∧ n ≤ 999 ∧ stS n = s ∧ numS s = n) ∨ (numS s = -1 ∧ ∀ n, 100 ≤ n → n ≤ 999 → stS n ≠ s) := by
  by_cases h : ∃ n, 100 ≤ n ∧ n ≤ 999 ∧ stS n = s
  · obtain ⟨n, h0, h1, rfl⟩ := h
    exact .inl ⟨n, h0, h1, rfl, num_st h0 h1⟩
  · refine .inr ⟨?_, fun n h0 h1 hs => h ⟨n, h0, h1, hs⟩⟩
    unfold numS
    split
    · rename_i n hn
      split
      · rename_i hs
        split
        · rfl
        · rename_i h1
          exfalso
          by_cases h9 : n ≤ 999
          · exact h ⟨n, by omega, h9, hs⟩
          · have h5 : stS n = [53, 46, 48, 46, 48] := by unfold stS; rw [if_pos (by omega)]
            have h6 : stS 500 = [53, 46, 48, 46, 48] := by decide
            exact h ⟨500, by omega, by omega, by rw [h6, ← h5, hs]⟩
      · rfl
    · rfl
theorem c52 (s p : List UInt8) : C52 (s, p, ()) = some (hasP p s, ()) := by
  simp only [C52, F52, c82, Option.bind_some]
theorem c56 (s p : List UInt8) : C56 (s, p, ()) = some (if hasP p s = true then (s.drop p.length, true, ()) else ([], false, ())) := by
  by_cases hl : s.length < p.length
  · have d : decide ((s.length : Int) < (p.length : Int)) = true := by simp; omega
    have : hasP p s = false := by
      cases hh : hasP p s with
      | false => rfl
      | true => have := (hasP_len hh).1; omega
    simp only [C56, F56, d, cond_true, this]
    rfl
  · have d : decide ((s.length : Int) < (p.length : Int)) = false := by simp; omega
    have d2 : decide (0 ≤ (p.length : Int)) = true := by simp
    have d3 : decide ((p.length : Int) ≤ (s.length : Int)) = true := by simp; omega
    simp only [C56, F56, d, d2, d3, cond_true, cond_false, Bool.and_self, Int.toNat_natCast]
    change (bif !hasP p s then _ else _) = _
    cases hasP p s <;> rfl
theorem rowrun (x1 x3 : Int) : ∀ (r t pre : List (List UInt8)) (n : Nat), r.length = t.length → pre.length + r.length ≤ 1000000000 → r.length < n → ∀ pre2 : List (List UInt8), pre2.length = pre.length →
    loopN F81_l0 n ((pre.length : Int), x1, pre ++ r, x3, pre2 ++ t, ()) = some (bif r == t then .inl () else .inr (false, ()))
  | _, _, _, 0, _, _, hn, _, _ => by omega
  | [], [], pre, n + 1, _, hl, hn, pre2, hp => by
    refine loopN_inr ?_
    simp only [F81_l0, List.append_nil, at0, cond_false]
    rfl
  | [], _ :: _, _, _, h, _, _, _, _ => by simp at h
  | _ :: _, [], _, _, h, _, _, _, _ => by simp at h
  | c :: r, d :: t, pre, n + 1, h, hl, hn, pre2, hp => by
    simp only [List.length_cons] at h hl hn
    obtain ⟨hi, hi0, hw, hg⟩ := at4 pre r c [] (by omega)
    obtain ⟨hi2, _, _, hg2⟩ := at4 pre2 t d [] (by omega)
    rw [hp] at hi2 hg2
    cases hcd : c == d with
    | false =>
      have : ((c :: r) == (d :: t)) = false := by
        rw [List.cons_beq_cons, hcd]; rfl
      rw [this]
      refine loopN_inr ?_
      simp only [F81_l0, hi, hi0, hi2, hg, hg2, hcd, cond_true, Bool.and_self, Bool.not_false]
      rfl
    | true =>
      have : ((c :: r) == (d :: t)) = (r == t) := by
        rw [List.cons_beq_cons, hcd]; rfl
      rw [this]
      rw [loopN_inl (v' := (((pre.length + 1 : Nat) : Int), x1, pre ++ c :: r, x3, pre2 ++ d :: t, ())) (by simp only [F81_l0, hi, hi0, hi2, hg, hg2, hw, hcd, cond_true, cond_false, Bool.and_self, Bool.not_true])]
      rw [shift pre, shift pre2, pl1 pre c]
      exact rowrun x1 x3 r t (pre ++ [c]) n (by omega) (by simp; omega) (by omega) (pre2 ++ [d]) (by simp [hp])
theorem c46 (l m : List (List UInt8)) (hl : l.length ≤ 1000000) : C46 (l, m, ()) = some (l == m, ()) := by
  simp only [C46, F46, C81, F81]
  by_cases h : l.length = m.length
  · have d : ((l.length : Int) != (m.length : Int)) = false := by simp [h]
    have h1 := rowrun 0 0 l m [] big h (by simp; omega) (by unfold big; omega) [] rfl
    have h1' : C81_l0 (0, 0, l, 0, m, ()) = _ := h1
    have d0 : ((0 : Int) != 0) = false := rfl
    simp only [d, d0, cond_false, h1', Option.bind_some]
    cases l == m <;> rfl
  · have d : ((l.length : Int) != (m.length : Int)) = true := by simp; omega
    have d0 : ((0 : Int) != 0) = false := rfl
    have : (l == m) = false := by
      rw [beq_eq_false_iff_ne]
      intro he; exact h (by rw [he])
    simp only [d, d0, cond_true, cond_false, Option.bind_some, this]
def none3 : List UInt8 × Int × Bool × Unit := ([], 0, false, ())
def tenOk (a0 a1 a2 a3 a4 a5 a6 a7 a8 a9 : List UInt8) : Bool :=
  (a0 == subS && a1 == mimS) && ((a2 == conS && (a3 == [] && a5 == [])) && ((hasP mtaS a4 && hasP oriS a6) && ((hasP finS a7 && (fin2 (unE (a7.drop 24))).2.1) && (hasP staS a9 && (decide (numS (a9.drop 8) > 0) && a8 == actS)))))
def readS : List (List UInt8) → List UInt8 × Int × Bool × Unit
  | [a0, a1, a2, a3, a4, a5, a6, a7, a8, a9] => bif tenOk a0 a1 a2 a3 a4 a5 a6 a7 a8 a9 then ((fin2 (unE (a7.drop 24))).1, numS (a9.drop 8), true, ()) else none3
  | _ => none3
theorem ten (l : List (List UInt8)) : (∃ a0 a1 a2 a3 a4 a5 a6 a7 a8 a9, l = [a0, a1, a2, a3, a4, a5, a6, a7, a8, a9]) ∨ (l.length ≠ 10 ∧ readS l = none3) := by
  match l with
  | [] => exact .inr ⟨by simp, rfl⟩
  | [_] => exact .inr ⟨by simp, rfl⟩
  | [_, _] => exact .inr ⟨by simp, rfl⟩
  | [_, _, _] => exact .inr ⟨by simp, rfl⟩
  | [_, _, _, _] => exact .inr ⟨by simp, rfl⟩
  | [_, _, _, _, _] => exact .inr ⟨by simp, rfl⟩
  | [_, _, _, _, _, _] => exact .inr ⟨by simp, rfl⟩
  | [_, _, _, _, _, _, _] => exact .inr ⟨by simp, rfl⟩
  | [_, _, _, _, _, _, _, _] => exact .inr ⟨by simp, rfl⟩
  | [_, _, _, _, _, _, _, _, _] => exact .inr ⟨by simp, rfl⟩
  | [a0, a1, a2, a3, a4, a5, a6, a7, a8, a9] => exact .inl ⟨a0, a1, a2, a3, a4, a5, a6, a7, a8, a9, rfl⟩
  | _ :: _ :: _ :: _ :: _ :: _ :: _ :: _ :: _ :: _ :: _ :: _ => exact .inr ⟨by simp, rfl⟩
section
variable (a0 a1 a2 a3 a4 a5 a6 a7 a8 a9 : List UInt8)
theorem r2 : C49 ([a0, a1, a2, a3, a4, a5, a6, a7, a8, a9], ()) = some (a0 == subS && a1 == mimS, [a0, a1, a2, a3, a4, a5, a6, a7, a8, a9], ()) := by
  show (bif a0 == subS then some (a1 == mimS, [a0, a1, a2, a3, a4, a5, a6, a7, a8, a9], ()) else some (false, [a0, a1, a2, a3, a4, a5, a6, a7, a8, a9], ())) = _
  cases a0 == subS <;> rfl
theorem r3 : C50 ([a0, a1, a2, a3, a4, a5, a6, a7, a8, a9], ()) = some (a2 == conS && (a3 == [] && a5 == []), [a0, a1, a2, a3, a4, a5, a6, a7, a8, a9], ()) := by
  show (bif a2 == conS then (bif a3 == [] then some (a5 == [], [a0, a1, a2, a3, a4, a5, a6, a7, a8, a9], ()) else some (false, [a0, a1, a2, a3, a4, a5, a6, a7, a8, a9], ())) else some (false, [a0, a1, a2, a3, a4, a5, a6, a7, a8, a9], ())) = _
  cases a2 == conS <;> cases a3 == [] <;> rfl
theorem r4 : C51 ([a0, a1, a2, a3, a4, a5, a6, a7, a8, a9], ()) = some (hasP mtaS a4 && hasP oriS a6, [a0, a1, a2, a3, a4, a5, a6, a7, a8, a9], ()) := by
  have h1 := c52 a4 mtaS
  have h2 := c52 a6 oriS
  show ((C52 (a4, mtaS, ())).bind fun val => bif val.1 then ((C52 (a6, oriS, ())).bind fun val => some (val.1, [a0, a1, a2, a3, a4, a5, a6, a7, a8, a9], ())) else some (false, [a0, a1, a2, a3, a4, a5, a6, a7, a8, a9], ())) = _
  rw [h1, h2]
  cases hasP mtaS a4 <;> rfl
theorem r5 (x : List UInt8) (h7 : a7.length ≤ 800000) : ∃ y, C53 ([a0, a1, a2, a3, a4, a5, a6, a7, a8, a9], x, ()) = some (hasP finS a7 && (fin2 (unE (a7.drop 24))).2.1, [a0, a1, a2, a3, a4, a5, a6, a7, a8, a9], y, ()) ∧ (hasP finS a7 = true → y = (fin2 (unE (a7.drop 24))).1) := by
  have h1 := c25 a7 finS
  have e : C53 ([a0, a1, a2, a3, a4, a5, a6, a7, a8, a9], x, ()) = ((C25 (a7, finS, ())).bind fun val => (C9 (val.1, ())).bind fun val_1 => bif val.2.1 then some (val_1.2.1, [a0, a1, a2, a3, a4, a5, a6, a7, a8, a9], val_1.1, ()) else some (false, [a0, a1, a2, a3, a4, a5, a6, a7, a8, a9], val_1.1, ())) := rfl
  rw [e, h1]
  cases hasP finS a7 with
  | true =>
    have hd : (a7.drop finS.length).length ≤ 800000 := by rw [List.length_drop]; omega
    rw [if_pos rfl]
    simp only [Option.bind_some, c9 _ hd, cond_true]
    exact ⟨_, rfl, fun _ => rfl⟩
  | false =>
    rw [if_neg (by simp)]
    simp only [Option.bind_some, c9 _ h7, cond_false]
    exact ⟨_, rfl, fun h => by cases h⟩
theorem r6 (x : Int) (h9 : a9.length ≤ 800000) : ∃ y, C54 ([a0, a1, a2, a3, a4, a5, a6, a7, a8, a9], x, ()) = some (hasP staS a9 && (decide (numS (a9.drop 8) > 0) && a8 == actS), [a0, a1, a2, a3, a4, a5, a6, a7, a8, a9], y, ()) ∧ (hasP staS a9 = true → y = numS (a9.drop 8)) := by
  have h1 := c25 a9 staS
  have e : C54 ([a0, a1, a2, a3, a4, a5, a6, a7, a8, a9], x, ()) = ((C25 (a9, staS, ())).bind fun val => (C55 (val.1, ())).bind fun val_1 => bif val.2.1 then (bif decide (val_1.1 > 0) then some (a8 == actS, [a0, a1, a2, a3, a4, a5, a6, a7, a8, a9], val_1.1, ()) else some (false, [a0, a1, a2, a3, a4, a5, a6, a7, a8, a9], val_1.1, ())) else some (false, [a0, a1, a2, a3, a4, a5, a6, a7, a8, a9], val_1.1, ())) := rfl
  rw [e, h1]
  cases hasP staS a9 with
  | true =>
    have hd : (a9.drop staS.length).length ≤ 1000000 := by rw [List.length_drop]; omega
    rw [if_pos rfl]
    simp only [Option.bind_some, c55 _ hd, cond_true]
    refine ⟨numS (a9.drop staS.length), ?_, fun _ => rfl⟩
    show (bif decide (numS (a9.drop 8) > 0) then _ else _) = _
    cases decide (numS (a9.drop 8) > 0) <;> rfl
  | false =>
    rw [if_neg (by simp)]
    simp only [Option.bind_some, c55 _ (show a9.length ≤ 1000000 by omega), cond_false]
    exact ⟨_, rfl, fun h => by cases h⟩
end
theorem c19 (l : List (List UInt8)) (hl : ∀ s ∈ l, s.length ≤ 800000) : C19 (l, ()) = some (readS l) := by
  rcases ten l with ⟨a0, a1, a2, a3, a4, a5, a6, a7, a8, a9, rfl⟩ | ⟨h, hr⟩
  · have h1 : C48 ([a0, a1, a2, a3, a4, a5, a6, a7, a8, a9], ()) = some (true, [a0, a1, a2, a3, a4, a5, a6, a7, a8, a9], ()) := rfl
    obtain ⟨y5, h5, hy5⟩ := r5 a0 a1 a2 a3 a4 a5 a6 a7 a8 a9 [] (hl _ (by simp))
    obtain ⟨y6, h6, hy6⟩ := r6 a0 a1 a2 a3 a4 a5 a6 a7 a8 a9 0 (hl _ (by simp))
    simp only [C19, F19, C47, F47, h1, r2, r3, r4, h5, h6, Option.bind_some, Bool.not_true, cond_false, readS, tenOk]
    cases a0 == subS && a1 == mimS <;> simp only [Bool.not_true, Bool.not_false, cond_true, cond_false, Option.bind_some, Bool.true_and, Bool.false_and, none3]
    cases a2 == conS && (a3 == [] && a5 == []) <;> simp only [Bool.not_true, Bool.not_false, cond_true, cond_false, Option.bind_some, Bool.true_and, Bool.false_and]
    cases hasP mtaS a4 && hasP oriS a6 <;> simp only [Bool.not_true, Bool.not_false, cond_true, cond_false, Option.bind_some, Bool.true_and, Bool.false_and]
    cases hf : hasP finS a7 <;> simp only [Bool.not_true, Bool.not_false, cond_true, cond_false, Option.bind_some, Bool.true_and, Bool.false_and]
    rw [hy5 hf]
    cases (fin2 (unE (a7.drop 24))).2.1 <;> simp only [Bool.not_true, Bool.not_false, cond_true, cond_false, Option.bind_some, Bool.true_and, Bool.false_and]
    cases hg : hasP staS a9 <;> simp only [Bool.not_true, Bool.not_false, cond_true, cond_false, Option.bind_some, Bool.true_and, Bool.false_and]
    rw [hy6 hg]
    cases decide (numS (a9.drop 8) > 0) && a8 == actS <;> simp only [Bool.not_true, Bool.not_false, cond_true, cond_false, Option.bind_some, Bool.true_and, Bool.false_and]
  · have d : ((l.length : Int) == 10) = false := by
      rw [beq_eq_false_iff_ne]; omega
    rw [hr]
    simp only [C19, F19, C47, F47, C48, F48, d, Option.bind_some, Bool.not_false, cond_true, none3]
theorem nrun (s y : List UInt8) : C20_l0 (s, y, true, 100, ()) = some (if numS s > 0 then .inr (y, numS s, true, ()) else .inl ()) := by
  show loopN (F20_l0 C14) big (s, y, true, 100, ()) = _
  have dt : ∀ j : Nat, j < 900 → decide (100 + (j : Int) < 1000) = true := fun j h => by simp; omega
  have hw : ∀ j : Nat, j < 900 → IntKind.i64.wrap (100 + (j : Int) + 1) = 100 + ((j + 1 : Nat) : Int) := fun j h => by rw [w64 (by omega) (by omega)]; omega
  rcases num_spec s with ⟨n, h0, h1, hs, hn⟩ | ⟨hn, hno⟩
  · rw [hn, if_pos (by omega)]
    refine loopN_to (fun j => (s, y, true, 100 + (j : Int), ())) (n.toNat - 100) (fun j hj => ?_) ?_ (by unfold big; omega)
    · have hne : (stS (100 + (j : Int)) == s) = false := by
        rw [← hs, stS_inj (by omega) (by omega)]
        simp; omega
      simp only [F20_l0, dt j (by omega), c14, hne, hw j (by omega), cond_true, cond_false, Option.bind_some]
    · have e : 100 + ((n.toNat - 100 : Nat) : Int) = n := by omega
      have d := dt (n.toNat - 100) (by omega)
      rw [e] at d
      simp only [e, F20_l0, d, c14, hs, beq_self_eq_true, cond_true, Option.bind_some]
  · rw [hn, if_neg (by omega)]
    refine loopN_to (fun j => (s, y, true, 100 + (j : Int), ())) 900 (fun j hj => ?_) ?_ (by unfold big; omega)
    · have hne : (stS (100 + (j : Int)) == s) = false := by
        rw [beq_eq_false_iff_ne]
        exact hno _ (by omega) (by omega)
      simp only [F20_l0, dt j (by omega), c14, hne, hw j (by omega), cond_true, cond_false, Option.bind_some]
    · rfl
theorem c20 (l : List (List UInt8)) (hl : ∀ s ∈ l, s.length ≤ 800000) : C20 (l, ()) = some (readS l) := by
  rcases ten l with ⟨a0, a1, a2, a3, a4, a5, a6, a7, a8, a9, rfl⟩ | ⟨h, hr⟩
  · have b4 := c56 a4 mtaS
    have b6 := c56 a6 oriS
    have b7 := c56 a7 finS
    have b9 := c56 a9 staS
    have e4 := hl a4 (by simp)
    have e6 := hl a6 (by simp)
    have e7 := hl a7 (by simp)
    have e9 := hl a9 (by simp)
    have key : C20 ([a0, a1, a2, a3, a4, a5, a6, a7, a8, a9], ()) = ((C56 (a4, mtaS, ())).bind fun val => (C56 (a6, oriS, ())).bind fun val_1 => (C56 (a7, finS, ())).bind fun val_2 => (C56 (a9, staS, ())).bind fun val_3 =>
        (C42 (val.1, val_1.1, val_2.1, val_3.1, ())).bind fun val_4 =>
          bif !val.2.1 then some ([], 0, false, ()) else bif !val_1.2.1 then some ([], 0, false, ()) else bif !val_2.2.1 then some ([], 0, false, ()) else bif !val_3.2.1 then some ([], 0, false, ()) else
            (C46 ([a0, a1, a2, a3, a4, a5, a6, a7, a8, a9], val_4.1, ())).bind fun val =>
              bif !val.1 then some ([], 0, false, ()) else
                (C10 (val_2.1, ())).bind fun val => (C20_l0 (val_3.1, val.1, val.2.1, 100, ())).bind fun val =>
                  Sum.elim (fun val => some ([], 0, false, ())) (fun val => some (val.1, val.2.1, val.2.2.1, ())) val) := rfl
    rw [key, b4, b6, b7, b9]
    have hd : ∀ (p s : List UInt8), s.length ≤ 800000 → (if hasP p s = true then (s.drop p.length, true, ()) else (([] : List UInt8), false, ())).1.length ≤ 800000 := fun p s h => by
      split
      · show (s.drop p.length).length ≤ _; rw [List.length_drop]; omega
      · exact Nat.zero_le _
    have hli := c42 _ _ _ _ (Nat.le_trans (Nat.add_le_add (Nat.add_le_add (Nat.add_le_add (hd mtaS a4 e4) (hd oriS a6 e6)) (hd finS a7 e7)) (hd staS a9 e9)) (by omega))
    simp only [Option.bind_some, hli, readS, tenOk]
    cases h4 : hasP mtaS a4
    · simp only [Bool.false_and, Bool.and_false]; rfl
    cases h6 : hasP oriS a6
    · simp only [Bool.false_and, Bool.and_false, Bool.true_and]; rfl
    cases h7 : hasP finS a7
    · simp only [Bool.false_and, Bool.and_false, Bool.true_and]; rfl
    cases h9 : hasP staS a9
    · simp only [Bool.false_and, Bool.and_false, Bool.true_and]; rfl
    simp only [if_true, Bool.not_true, cond_false, c46 [a0, a1, a2, a3, a4, a5, a6, a7, a8, a9] _ (by show 10 ≤ 1000000; omega), Option.bind_some, Bool.true_and, Bool.and_true]
    have hrow : ([a0, a1, a2, a3, a4, a5, a6, a7, a8, a9] == linesS (a4.drop mtaS.length) (a6.drop oriS.length) (a7.drop finS.length) (a9.drop staS.length)) = ((a0 == subS && a1 == mimS) && ((a2 == conS && (a3 == [] && a5 == [])) && a8 == actS)) := by
      have s4 := (hasP_len h4).2
      have s6 := (hasP_len h6).2
      have s7 := (hasP_len h7).2
      have s9 := (hasP_len h9).2
      unfold linesS
      rw [← s4, ← s6, ← s7, ← s9]
      simp only [List.cons_beq_cons, beq_self_eq_true, Bool.true_and]
      cases a0 == subS <;> cases a1 == mimS <;> cases a2 == conS <;> cases a3 == [] <;> cases a5 == [] <;> cases a8 == actS <;> rfl
    rw [hrow]
    have hu : C10 (a7.drop finS.length, ()) = some (fin2 (unE (a7.drop finS.length))) := c10 _ (by rw [List.length_drop]; omega)
    rw [hu]
    simp only [Option.bind_some]
    have f24 : finS.length = 24 := rfl
    have s8 : staS.length = 8 := rfl
    rw [f24, s8]
    cases a0 == subS && a1 == mimS
    · rfl
    cases a2 == conS && (a3 == [] && a5 == [])
    · rfl
    cases a8 == actS
    · simp only [Bool.and_false, Bool.true_and]; rfl
    rcases fin_cases (unE (a7.drop 24)) with ⟨y, hy⟩ | hy
    · rw [hy]
      simp only [Bool.true_and, Bool.not_true, cond_false, nrun, Option.bind_some, Bool.and_true]
      by_cases hp : numS (a9.drop 8) > 0
      · rw [if_pos hp, decide_eq_true hp]; rfl
      · rw [if_neg hp, decide_eq_false hp]; rfl
    · rw [hy]; rfl
  · have d : ((l.length : Int) != 10) = true := by simp; omega
    rw [hr]
    simp only [C20, F20, d, cond_true, none3]
end Go.Proofs.YtmfcepdbpdihgaaGreatDoor.W
set_option linter.unusedVariables false
set_option linter.unusedSimpArgs false
set_option maxRecDepth 100000
namespace Go.Proofs.YtmfcepdbpdihgaaGreatDoor.W
open Go Go.Ae Go.Pl
theorem at6 {α : Type} (pre r : List α) (c d : α) (hl : pre.length + r.length ≤ 1000000000000000000) : decide ((pre.length : Int) < ((pre ++ c :: r).length : Int)) = true ∧ decide (0 ≤ (pre.length : Int)) = true ∧
    IntKind.i64.wrap ((pre.length : Int) + 1) = ((pre.length + 1 : Nat) : Int) ∧ (pre ++ c :: r).getD ((pre.length : Int)).toNat d = c :=
  ⟨by simp; omega, by simp, wrN _ (by omega), by rw [Int.toNat_natCast]; exact gd rfl⟩
def boxF (lo dm : List UInt8) : Bool := Nat.ble lo.length 150 && Nat.ble dm.length 200
theorem boxF_iff {lo dm : List UInt8} : boxF lo dm = true ↔ lo.length ≤ 150 ∧ dm.length ≤ 200 := by
  simp [boxF]
theorem c40 (lo dm : List UInt8) : C40 (lo, dm, ()) = some (boxF lo dm, ()) := by
  have e1 : decide ((lo.length : Int) ≤ 150) = Nat.ble lo.length 150 := by
    rw [Bool.eq_iff_iff]; simp; omega
  have e2 : decide ((dm.length : Int) ≤ 200) = Nat.ble dm.length 200 := by
    rw [Bool.eq_iff_iff]; simp; omega
  simp only [C40, F40, e1, e2, boxF]
  cases Nat.ble lo.length 150 <;> rfl
theorem fewrun (x1 : Int) (x2 : Bool) (x3 x4 : List UInt8) (x6 : List (List UInt8)) (x7 x8 x9 : Bool) (x10 x11 x12 : Int) : ∀ (r pre : List Rc) (n : Nat), pre.length + r.length ≤ 1000000000000000000 → r.length < n →
    loopN (F15_l0 C40) n ((pre.length : Int), x1, x2, x3, x4, pre ++ r, x6, x7, x8, x9, x10, x11, x12, ()) = some (if (∀ x ∈ r, boxF x.1.2.1 x.1.2.2 = true) then .inl (x1, x2, x3, x4, pre ++ r, x6, x7, x8, x9, x10, x11, x12, ()) else .inr (false, ()))
  | _, _, 0, _, hn => by omega
  | [], pre, n + 1, hl, hn => by
    refine loopN_inr ?_
    rw [if_pos (fun x hx => by cases hx)]
    simp only [F15_l0, List.append_nil, at0, cond_false]
  | c :: r, pre, n + 1, hl, hn => by
    simp only [List.length_cons] at hl hn
    obtain ⟨hi, hi0, hw, hg⟩ := at6 pre r c rcD (by omega)
    have hz : ((false, ([], [])), (0, (0, (0, 0)))) = rcD := rfl
    cases hb : boxF c.1.2.1 c.1.2.2 with
    | false =>
      rw [if_neg (fun h => by have := h c List.mem_cons_self; rw [hb] at this; cases this)]
      refine loopN_inr ?_
      simp only [F15_l0, hz, hi, hi0, hg, c40, hb, cond_true, Bool.and_self, Option.bind_some, Bool.not_false]
    | true =>
      rw [loopN_inl (v' := (((pre.length + 1 : Nat) : Int), x1, x2, x3, x4, pre ++ c :: r, x6, x7, x8, x9, x10, x11, x12, ())) (by simp only [F15_l0, hz, hi, hi0, hg, hw, c40, hb, cond_true, cond_false, Bool.and_self, Option.bind_some, Bool.not_true])]
      rw [shift, pl1 pre c, fewrun x1 x2 x3 x4 x6 x7 x8 x9 x10 x11 x12 r (pre ++ [c]) n (by simp; omega) (by omega)]
      congr 1
      by_cases h : ∀ x ∈ r, boxF x.1.2.1 x.1.2.2 = true
      · rw [if_pos h, if_pos (fun x hx => by rcases List.mem_cons.1 hx with rfl | hx; exact hb; exact h x hx)]
      · rw [if_neg h, if_neg (fun h2 => h fun x hx => h2 x (List.mem_cons_of_mem _ hx))]
theorem c15 (id : Int) (nl : Bool) (lo dm : List UInt8) (to : List Rc) (z6 : List (List UInt8)) (z7 z8 z9 : Bool) (z10 z11 z12 : Int) (hl : to.length ≤ 1000000000000000) :
    ∃ b, C15 (id, nl, lo, dm, to, z6, z7, z8, z9, z10, z11, z12, ()) = some (b, ()) ∧ (b = true → (∀ x ∈ to, x.1.2.1.length ≤ 150 ∧ x.1.2.2.length ≤ 200) ∧ lo.length ≤ 150 ∧ dm.length ≤ 200 ∧ to.length ≤ 120) := by
  have h1 := fewrun id nl lo dm z6 z7 z8 z9 z10 z11 z12 to [] big (by simp; omega) (by unfold big; omega)
  have h1' : C15_l0 (0, id, nl, lo, dm, to, z6, z7, z8, z9, z10, z11, z12, ()) = _ := h1
  simp only [C15, F15, h1', Option.bind_some, List.nil_append]
  by_cases h : ∀ x ∈ to, boxF x.1.2.1 x.1.2.2 = true
  · rw [if_pos h]
    simp only [Sum.elim_inl, c40, Option.bind_some]
    cases hb : boxF lo dm with
    | false => exact ⟨false, rfl, fun h => by cases h⟩
    | true =>
      refine ⟨_, rfl, fun hd => ⟨fun x hx => boxF_iff.1 (h x hx), (boxF_iff.1 hb).1, (boxF_iff.1 hb).2, ?_⟩⟩
      have := of_decide_eq_true hd
      omega
  · rw [if_neg h]
    exact ⟨false, rfl, fun h => by cases h⟩
theorem samerun (x1 : Bool) (x2 x3 : List UInt8) (x5 : List (List UInt8)) (x6 x7 x8 : Bool) (x9 x10 x11 : Int) (x12 : Bool) (x13 x14 : List UInt8) (x16 : List (List UInt8)) (x17 x18 x19 : Bool) (x20 x21 x22 : Int) : ∀ (r pre : List (Bool × (List UInt8 × List UInt8))) (n : Nat), pre.length + r.length ≤ 1000000000 → r.length < n →
    loopN F18_l0 n ((pre.length : Int), x1, x2, x3, pre ++ r, x5, x6, x7, x8, x9, x10, x11, x12, x13, x14, pre ++ r, x16, x17, x18, x19, x20, x21, x22, ()) = some (.inl ())
  | _, _, 0, _, hn => by omega
  | [], pre, n + 1, hl, hn => by
    refine loopN_inr ?_
    simp only [F18_l0, List.append_nil, at0, cond_false]
  | c :: r, pre, n + 1, hl, hn => by
    simp only [List.length_cons] at hl hn
    obtain ⟨hi, hi0, hw, hg⟩ := at4 pre r c (false, ([], [])) (by omega)
    rw [loopN_inl (v' := (((pre.length + 1 : Nat) : Int), x1, x2, x3, pre ++ c :: r, x5, x6, x7, x8, x9, x10, x11, x12, x13, x14, pre ++ c :: r, x16, x17, x18, x19, x20, x21, x22, ())) (by simp only [F18_l0, hi, hi0, hg, hw, beq_self_eq_true, cond_true, cond_false, Bool.and_self, Bool.not_true])]
    rw [shift, pl1 pre c]
    exact samerun x1 x2 x3 x5 x6 x7 x8 x9 x10 x11 x12 x13 x14 x16 x17 x18 x19 x20 x21 x22 r (pre ++ [c]) n (by simp; omega) (by omega)
theorem c18_self (nl : Bool) (lo dm : List UInt8) (to : List (Bool × (List UInt8 × List UInt8))) (li : List (List UInt8)) (b1 b2 b3 : Bool) (n1 n2 n3 : Int) (h1 : to.length ≤ 1000000) (h2 : li.length ≤ 1000000) :
    C18 (nl, lo, dm, to, li, b1, b2, b3, n1, n2, n3, nl, lo, dm, to, li, b1, b2, b3, n1, n2, n3, ()) = some (true, ()) := by
  have hr := samerun nl lo dm li b1 b2 b3 n1 n2 n3 nl lo dm li b1 b2 b3 n1 n2 n3 to [] big (by simp; omega) (by unfold big; omega)
  have hr' : C18_l0 (0, nl, lo, dm, to, li, b1, b2, b3, n1, n2, n3, nl, lo, dm, to, li, b1, b2, b3, n1, n2, n3, ()) = _ := hr
  have e1 : ((to.length : Int) != (to.length : Int)) = false := by simp
  have e2 : (n3 != n3) = false := by simp
  simp only [C18, F18, beq_self_eq_true, Bool.and_self, Bool.not_true, e1, e2, cond_false, c46 li li h2, hr', Option.bind_some, Sum.elim_inl]
end Go.Proofs.YtmfcepdbpdihgaaGreatDoor.W
set_option linter.unusedVariables false
set_option linter.unusedSimpArgs false
set_option maxRecDepth 100000
namespace Go.Proofs.YtmfcepdbpdihgaaGreatDoor.PBounceBuilds
open Go Go.Ae Go.Pl Go.Proofs.YtmfcepdbpdihgaaGreatDoor.W
theorem grun (b : Bool) : ∀ (r pre : List (List UInt8)) (n : Nat), pre.length + r.length ≤ 1000000000 → r.length < n →
    loopN F4_l0 n (pre ++ r, b, (pre.length : Int), ()) = some (if (∀ s ∈ r, s.length ≤ 500) then .inl (pre ++ r, b, ()) else .inr (b, ()))
  | _, _, 0, _, hn => by omega
  | [], pre, n + 1, hl, hn => by
    refine loopN_inr ?_
    rw [if_pos (fun x hx => by cases hx)]
    simp only [F4_l0, List.append_nil, at0, cond_false]
  | c :: r, pre, n + 1, hl, hn => by
    simp only [List.length_cons] at hl hn
    obtain ⟨hi, hi0, hw, hg⟩ := at4 pre r c [] (by omega)
    by_cases hb : c.length ≤ 500
    · have d : decide ((c.length : Int) > 500) = false := by simp; omega
      rw [loopN_inl (v' := (pre ++ c :: r, b, ((pre.length + 1 : Nat) : Int), ())) (by simp only [F4_l0, hi, hi0, hg, hw, d, cond_true, cond_false, Bool.and_self])]
      rw [shift, pl1 pre c, grun b r (pre ++ [c]) n (by simp; omega) (by omega)]
      congr 1
      by_cases h : ∀ s ∈ r, s.length ≤ 500
      · rw [if_pos h, if_pos (fun x hx => by rcases List.mem_cons.1 hx with rfl | hx; exact hb; exact h x hx)]
      · rw [if_neg h, if_neg (fun h2 => h fun x hx => h2 x (List.mem_cons_of_mem _ hx))]
    · have d : decide ((c.length : Int) > 500) = true := by simp; omega
      rw [if_neg (fun h => by have := h c List.mem_cons_self; omega)]
      refine loopN_inr ?_
      simp only [F4_l0, hi, hi0, hg, d, cond_true, Bool.and_self]
theorem main (name : List UInt8) (id : Int) (nl : Bool) (lo dm : List UInt8) (to : List Rc) (z6 : List (List UInt8)) (z7 z8 z9 : Bool) (z10 z11 z12 k : Int) (l : List (List UInt8)) (hid : -9223372036854775808 ≤ id ∧ id ≤ 9223372036854775807) (htl : to.length ≤ 1000000000000000)
    (hto : ∀ r ∈ to, -9223372036854775808 ≤ r.2.2.2.2 ∧ r.2.2.2.2 ≤ 9223372036854775807) :
    C4 (name, id, nl, lo, dm, to, z6, z7, z8, z9, z10, z11, z12, k, l, ()) = some (true, ()) := by
  have c8 : C8 () = some (true, ()) := rfl
  obtain ⟨b, hb, hbt⟩ := c15 id nl lo dm to z6 z7 z8 z9 z10 z11 z12 htl
  simp only [C4, F4, c8, hb, Option.bind_some]
  cases b with
  | false => rfl
  | true =>
    obtain ⟨hx, hlo, hdm, h120⟩ := hbt rfl
    simp only [Bool.not_true, cond_false]
    by_cases hn : name.length > 200
    · have d : decide ((name.length : Int) > 200) = true := by simp; omega
      simp only [d, cond_true]
    have d : decide ((name.length : Int) > 200) = false := by simp; omega
    simp only [d, cond_false]
    by_cases hl : l.length > 20
    · have d : decide ((l.length : Int) > 20) = true := by simp; omega
      simp only [d, cond_true]
    have d : decide ((l.length : Int) > 20) = false := by simp; omega
    simp only [d, cond_false]
    have hto' : ∀ r ∈ to, r.1.2.1.length ≤ 1000 ∧ r.1.2.2.length ≤ 1000 ∧ -9223372036854775808 ≤ r.2.2.2.2 ∧ r.2.2.2.2 ≤ 9223372036854775807 := fun r hr => by
      have h1 := hx r hr
      have h2 := hto r hr
      exact ⟨by omega, by omega, h2⟩
    have hB := c16 name id nl lo dm to z6 z7 z8 z9 z10 z11 z12 k (by omega) hid hto'
    have hR := c17 name id nl lo dm to z6 z7 z8 z9 z10 z11 z12 k (by omega) hid hto'
    simp only [hB, hR, Option.bind_some]
    have hg := grun true l [] big (by simp; omega) (by unfold big; omega)
    have hg' : C4_l0 (l, true, 0, ()) = _ := hg
    have hsm : ∀ m : MailT, m.2.2.2.1.length ≤ 1000000 → m.2.2.2.2.1.length ≤ 1000000 → C18 (m.1, m.2.1, m.2.2.1, m.2.2.2.1, m.2.2.2.2.1, m.2.2.2.2.2.1, m.2.2.2.2.2.2.1, m.2.2.2.2.2.2.2.1, m.2.2.2.2.2.2.2.2.1, m.2.2.2.2.2.2.2.2.2.1, m.2.2.2.2.2.2.2.2.2.2.1, m.1, m.2.1, m.2.2.1, m.2.2.2.1, m.2.2.2.2.1, m.2.2.2.2.2.1, m.2.2.2.2.2.2.1, m.2.2.2.2.2.2.2.1, m.2.2.2.2.2.2.2.2.1, m.2.2.2.2.2.2.2.2.2.1, m.2.2.2.2.2.2.2.2.2.2.1, ()) = some (true, ()) := fun m h1 h2 => c18_self _ _ _ _ _ _ _ _ _ _ _ h1 h2
    have hm1 : (buildS name id nl lo dm to k).2.2.2.1.length ≤ 1000000 ∧ (buildS name id nl lo dm to k).2.2.2.2.1.length ≤ 1000000 := by
      unfold buildS
      cases asksB nl to k
      · exact ⟨Nat.zero_le _, Nat.zero_le _⟩
      · exact ⟨by show 1 ≤ 1000000; omega, by show 10 ≤ 1000000; omega⟩
    simp only [hsm _ hm1.1 hm1.2, Option.bind_some, Bool.not_true, cond_false, beq_self_eq_true, hg', List.nil_append]
    by_cases hls : ∀ s ∈ l, s.length ≤ 500
    · rw [if_pos hls]
      have h8 : ∀ s ∈ l, s.length ≤ 800000 := fun s hs => by have := hls s hs; omega
      simp only [Sum.elim_inl, c19 l h8, c20 l h8, Option.bind_some, beq_self_eq_true, cond_true]
    · rw [if_neg hls]
      rfl
theorem pure (x0 : Ty.str.den) (b0 : Bd Ty.str x0) (x1 : (Ty.pair (.int .i64) (.pair (.pair .bool (.pair .str .str)) (.pair (.lst (.pair (.pair .bool (.pair .str .str)) (.pair (.int .i64) (.pair (.int .i64) (.pair (.int .i64) (.int .i64)))))) (.pair (.lst .str) (.pair (.pair .bool (.pair .bool (.pair .bool (.pair (.int .i64) (.int .i64))))) (.int .i64)))))).den) (b1 : Bd (Ty.pair (.int .i64) (.pair (.pair .bool (.pair .str .str)) (.pair (.lst (.pair (.pair .bool (.pair .str .str)) (.pair (.int .i64) (.pair (.int .i64) (.pair (.int .i64) (.int .i64)))))) (.pair (.lst .str) (.pair (.pair .bool (.pair .bool (.pair .bool (.pair (.int .i64) (.int .i64))))) (.int .i64)))))) x1) (x2 : (Ty.int .i64).den) (b2 : Bd (Ty.int .i64) x2) (x3 : (Ty.lst .str).den) (b3 : Bd (Ty.lst .str) x3) : C4 (x0, x1.1, x1.2.1.1, x1.2.1.2.1, x1.2.1.2.2, x1.2.2.1, x1.2.2.2.1, x1.2.2.2.2.1.1, x1.2.2.2.2.1.2.1, x1.2.2.2.2.1.2.2.1, x1.2.2.2.2.1.2.2.2.1, x1.2.2.2.2.1.2.2.2.2, x1.2.2.2.2.2, x2, x3, ()) = some (true, ()) :=
  main x0 x1.1 x1.2.1.1 x1.2.1.2.1 x1.2.1.2.2 x1.2.2.1 x1.2.2.2.1 x1.2.2.2.2.1.1 x1.2.2.2.2.1.2.1 x1.2.2.2.2.1.2.2.1 x1.2.2.2.2.1.2.2.2.1 x1.2.2.2.2.1.2.2.2.2 x1.2.2.2.2.2 x2 x3 (bd64 b1.1) (Nat.le_trans b1.2.2.1.1 (by omega)) (fun r hr => bd64 (b1.2.2.1.2 r hr).2.2.2.2)
end Go.Proofs.YtmfcepdbpdihgaaGreatDoor.PBounceBuilds
set_option linter.unusedVariables false
set_option maxRecDepth 100000
namespace Go.Proofs.YtmfcepdbpdihgaaGreatDoor
open Go Go.Ae Go.RowKit
theorem glob {W : World} (hL : laidMetH Tryz.prog Rows.bounceStatusRow.laid W) (hsh : W.ShapedOpen Tryz.prog) : GI W m0 := by
  rw [MakeChecks.laidMetH_plain _ _ _ (by kernel_rfl)] at hL
  obtain ⟨m, hm⟩ := Go.Proofs.cell_of_shapedOpen_int (g := 0) (k := .i64) (t := 3) (zero := #[.int .i64 0]) hsh (of_decide_eq_true (by kernel_rfl)) (by kernel_rfl) (by kernel_rfl) (by kernel_rfl) (by kernel_rfl) (by kernel_rfl)
  have g8 : Tryz.prog.globalNamed "math/bits.deBruijn64tab" = some 8 := by kernel_rfl
  have g4 : Tryz.prog.globalNamed "internal/strconv.uint64pow10" = some 4 := by kernel_rfl
  have g2 : Tryz.prog.globalNamed "strconv.ErrRange" = some 2 := by kernel_rfl
  have g1 : Tryz.prog.globalNamed "strconv.ErrSyntax" = some 1 := by kernel_rfl
  have h8 : Lib.TabIs Tryz.prog W "math/bits.deBruijn64tab" .u8 deBruijn64 := Lib.tabIs_of_head (zs := deBruijn64) (t := 186) (e := 5) (n := 64) g8 (by kernel_rfl) (by kernel_rfl) (by kernel_rfl) (by kernel_rfl) (by kernel_rfl) hL.tail
  have h4 : Lib.TabIs Tryz.prog W "internal/strconv.uint64pow10" .u64 tens := Lib.tabIs_of_head (zs := tens) (t := 161) (e := 126) (n := 20) g4 (by kernel_rfl) (by kernel_rfl) (by kernel_rfl) (by kernel_rfl) (by kernel_rfl) hL.tail.tail
  obtain ⟨t2, p2, h2⟩ := laid_iface (ti := 69) (ms := #[("Error", 73)]) hL.tail.tail.tail.tail g2 (by kernel_rfl) (by kernel_rfl)
  obtain ⟨t1, p1, h1⟩ := laid_iface (ti := 69) (ms := #[("Error", 73)]) hL.tail.tail.tail.tail.tail g1 (by kernel_rfl) (by kernel_rfl)
  obtain ⟨ty8, fz8, k8⟩ := var_heap g8 h8
  obtain ⟨ty4, fz4, k4⟩ := var_heap g4 h4
  obtain ⟨ty2, fz2, k2⟩ := var_heap g2 h2
  obtain ⟨ty1, fz1, k1⟩ := var_heap g1 h1
  refine ⟨⟨⟨m, hm⟩, ⟨t1, p1, cell_of_heap0 k1⟩, ⟨t2, p2, cell_of_heap0 k2⟩, ⟨ty4, fz4, k4⟩, ⟨ty8, fz8, k8⟩⟩, fun b hb => ⟨?_, fun h => h⟩⟩
  simp only [GlobB, List.mem_cons, List.not_mem_nil, or_false] at hb
  rcases hb with rfl | rfl | rfl | rfl | rfl
  · exact lt_of_cell hm
  · exact lt_of_heap k1
  · exact lt_of_heap k2
  · exact lt_of_heap k4
  · exact lt_of_heap k8
end Go.Proofs.YtmfcepdbpdihgaaGreatDoor
